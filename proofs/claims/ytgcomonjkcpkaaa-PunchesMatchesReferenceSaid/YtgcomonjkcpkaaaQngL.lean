/- One operation, a list of operations, code: the calculus. -/
import Derived.Test.YtgcomonjkcpkaaaQngK
import Derived.Scope
namespace Go.Eng
open Go.RowKit

/-- Whether all the guards of a value hold. -/
def AV.cnd : AV → Bool
  | .g b x => b && x.cnd
  | _ => true

theorem Conc.cnd_inv {B : Nat} {I : Nat → Prop} {w : World} {ρ : Nat → Option Value} {x : AV} {u : Value} {y : Value} (h : Conc B I w ρ x u) (hx : x.strip = .v y) : u = bif x.cnd then y else undef := by
  induction h with
  | g b x u h h0 ih =>
    cases b with
    | false => simp [AV.cnd, h0 rfl]
    | true => simpa [AV.cnd] using ih rfl hx
  | v x => simp only [AV.strip, AV.v.injEq] at hx; simp [AV.cnd, hx]
  | _ => simp [AV.strip] at hx

def guardB (st : St) (ops : Array Oper) : Option (Nat × Bool) → Option (Option Bool)
  | none => some none
  | some (j, want) => match (ops[j]?).bind (·.dst) with
    | some d => match (lk st.env d).strip with
      | .v (.bool y) => some (some ((lk st.env d).cnd && (bif want then y else !y)))
      | _ => none
    | none => none

def dstOk (n : Nat) : Option Nat → Prop
  | some d => d < n
  | none => True

/-- One operation. -/
def AStep (P : Program) (T : Tab) (n : Nat) (ops : Array Oper) (o : Oper) (K : St → Prop) (st : St) : Prop :=
  dstOk n o.dst ∧
  match guardB st ops o.guard with
  | none => False
  | some none =>
    match pv T st.heap st.ev o.op with
    | some (φ, r) => φ ∧ K (st.put o.dst r)
    | none =>
      match qb T st.ev o.op with
      | some (φ, r) => φ ∧ K (st.put o.dst r)
      | none =>
        match callee? st.ev o.op with
        | some (ψ, k, args) => (ψ ∧ condL args) ∧ ∃ r, (Pure P k (pubL st.heap args) r ∧ okR args r) ∧ K (st.put o.dst r)
        | none => al T st o K
  | some (some b) =>
    match pv T st.heap st.ev o.op with
    | some (φ, r) => (b = true → φ) ∧ K (st.put o.dst (.g b r))
    | none =>
      match qb T st.ev o.op with
      | some (φ, r) => (b = true → φ) ∧ K (st.put o.dst (.g b r))
      | none =>
        match callee? st.ev o.op with
        | some (ψ, k, args) => ∃ r, (b = true → (ψ ∧ condL args) ∧ Pure P k (pubL st.heap args) r ∧ okR args r) ∧ K (st.put o.dst (.g b r))
        | none => False

def AOps (P : Program) (T : Tab) (n : Nat) (ops : Array Oper) (K : St → Prop) : List Oper → St → Prop
  | [], st => K st
  | o :: rest, st => AStep P T n ops o (fun st' => AOps P T n ops K rest st') st

section
variable {P : Program} {T : Tab} (hT : T.ok P) {n B : Nat} {w0 : Orig} {st : St} {a : Act} {w : World} {ρ : Nat → Option Value} {I : Nat → Prop}

theorem dst_ok {o : Oper} (h : dstOk n o.dst) : ∀ k, o.dst = some k → k < n := fun k hk => by rw [hk] at h; exact h

include hT in
theorem append_ok (hG : Gam n B w0 st a w ρ I) {o : Oper} {c : Call} (ho : o.op = .call c) (hd : ∀ d, o.dst = some d → d < n) {K : St → Prop} (h : al T st o K) : StepOk P n B w0 o a w K := by
  intro next Q hn
  unfold al at h
  simp only [ho] at h
  split at h
  · rename_i x y t t' hcal hargs hats
    have hargs' : c.args = #[x, y] := Array.toList_inj.1 (by simpa using hargs)
    split at h
    · rename_i d e _ _ _ hdst ht
      split at h
      · rename_i te bs hte hbs
        split at h
        · rename_i ψ m src hsrc
          split at h
          · rename_i k k' l hk hc0
            obtain ⟨ys, ⟨cx, cy, hψ, rfl, hsz, hzs, hb, hyl, hys, hby, hmax⟩, hK⟩ := h
            have hop : o.op = .call ⟨.builtin .append, #[x, y], #[t', t']⟩ := by
              have hats' : c.argTypes = #[t', t'] := Array.toList_inj.1 (by simpa using hats)
              rw [ho, ← hcal, ← hargs', ← hats']
            have hrow1 : te.sz = 1 := hsz
            have hbb : ∀ id e' sz' c', bs = some (id, e', sz', c') → e' = e ∧ sz' = te.sz ∧ c' = Cont.ints k l := fun id e' sz' c' hh => by
              subst hh
              simp only at hb hc0
              exact ⟨hb.1, by rw [hb.2.1, hsz], by rw [hc0, hb.2.2]⟩
            have hnn : bs = none → (Cont.ints k l).len = 0 := fun hh => by
              subst hh
              simp only [Cont.ints.injEq] at hc0
              rw [← hc0.2]; rfl
            refine append_core hT hG hop hdst (hd d hdst) ht hte hbs hsrc hψ cx cy (by omega) (by rw [hzs, hsz]) (.ints k l) (.ints k (l ++ ys)) hbb hnn ?_ ?_ ?_ ?_ ?_ next Q (fun a' w' hg => hn _ a' w' hK (by rw [hrow1] at hg; exact hg))
            · simp [Cont.len, hyl, hsz]
            · intro j hj
              simp only [Cont.len] at hj
              simp [Cont.at, List.getD_eq_getElem?_getD, List.getElem?_append_left hj]
            · intro el j he hj
              have hj0 : j = 0 := by omega
              subst hj0
              rw [hsz, hys el he]
              refine ⟨?_, rfl⟩
              simp only [Cont.at, Cont.len, Nat.mul_one, Nat.add_zero]
              rw [List.getD_eq_getElem?_getD, List.getElem?_append_right (by omega), Nat.add_sub_cancel_left, List.getD_eq_getElem?_getD]
            · simpa [Cont.len, hsz] using hby
            · simpa [Cont.len, hsz] using hmax
          · rename_i c0 hno
            split at h
            · rename_i l hc0
              obtain ⟨ys, ⟨cx, cy, hψ, rfl, hpos, hzs, hb, hyl, hys, h1, hby, hmax⟩, hK⟩ := h
              have hop : o.op = .call ⟨.builtin .append, #[x, y], #[t', t']⟩ := by
                have hats' : c.argTypes = #[t', t'] := Array.toList_inj.1 (by simpa using hats)
                rw [ho, ← hcal, ← hargs', ← hats']
              have hbb : ∀ id e' sz' c', bs = some (id, e', sz', c') → e' = e ∧ sz' = te.sz ∧ c' = Cont.avs l := fun id e' sz' c' hh => by
                subst hh
                simp only at hb hc0
                exact ⟨hb.1, hb.2, hc0⟩
              have hnn : bs = none → (Cont.avs l).len = 0 := fun hh => by
                subst hh
                simp only [Cont.avs.injEq] at hc0
                rw [← hc0]; rfl
              refine append_core hT hG hop hdst (hd d hdst) ht hte hbs hsrc hψ cx cy hpos hzs (.avs l) (.avs (l ++ ys)) hbb hnn ?_ ?_ ?_ ?_ ?_ next Q (fun a' w' hg => hn _ a' w' hK hg)
              · simp [Cont.len, hyl]
              · intro j hj
                simp only [Cont.len] at hj
                simp [Cont.at, List.getD_eq_getElem?_getD, List.getElem?_append_left hj]
              · intro el j he hj
                have hlt : el * te.sz + j < ys.length := by rw [hyl]; exact row_elem he hj
                rw [hys el j he hj]
                refine ⟨?_, oneL_getD h1 _ hlt⟩
                simp only [Cont.at, Cont.len]
                rw [List.getD_eq_getElem?_getD, List.getElem?_append_right (by omega), Nat.add_sub_cancel_left, List.getD_eq_getElem?_getD]
              · simpa [Cont.len] using hby
              · simpa [Cont.len] using hmax
            · exact h.elim
        · exact h.elim
      · exact h.elim
    · exact h.elim
  · exact h.elim

include hT in
theorem al_ok (hG : Gam n B w0 st a w ρ I) {o : Oper} (hd : dstOk n o.dst) {K : St → Prop} (h : al T st o K) : StepOk P n B w0 o a w K := by
  cases ho : o.op <;> first
    | exact store_ok hT hG ho h
    | exact box_ok hG ho (dst_ok hd) h
    | exact alloc_ok hT hG ho (dst_ok hd) h
    | exact make_ok hT hG ho (dst_ok hd) h
    | exact append_ok hT hG ho (dst_ok hd) h
    | (unfold al at h; simp only [ho] at h)

/-- The guard's word, as the run has it. -/
theorem guard_ok (hG : Gam n B w0 st a w ρ I) {ops : Array Oper} {o : Oper} {g : Option Bool} (h : guardB st ops o.guard = some g) : Region.wanted o (yielded ops a.tmps) = g.getD true := by
  unfold guardB at h
  split at h
  · rename_i hg
    injection h with h; subst h
    simp [Region.wanted, hg]
  · rename_i j want hg
    split at h
    · rename_i d hd
      split at h
      · rename_i y hy
        injection h with h; subst h
        have hu := (hG.env d).cnd_inv hy
        rw [Array.getD_eq_getD_getElem?] at hu
        cases hb : (lk st.env d).cnd with
        | false =>
          rw [hb] at hu
          have : yielded ops a.tmps j = none := by
            simp only [yielded, hd, Option.bind_some]
            cases hx : a.tmps[d]? with
            | none => rfl
            | some z => rw [hx] at hu; simp at hu; subst hu; rfl
          simp [Region.wanted, hg, this]
        | true =>
          rw [hb] at hu
          have hd' : a.tmps[d]? = some (.bool y) := by
            cases hx : a.tmps[d]? with
            | none => rw [hx] at hu; simp [undef] at hu
            | some z => rw [hx] at hu; simp at hu; rw [hu]
          simp only [Region.wanted, hg, yielded, hd, Option.bind_some, hd', Option.getD_some]
          cases want <;> cases y <;> rfl
      · cases h
    · cases h

include hT in
/-- One operation of a list. -/
theorem astep_ok (hG : Gam n B w0 st a w ρ I) {ops : Array Oper} {o : Oper} {K : St → Prop} (h : AStep P T n ops o K st) (next : Act → World → Prop) (Q : Exit → Act → World → Prop) (hn : ∀ st' a' w', K st' → G n B w0 st' a' w' → next a' w') :
    if Region.wanted o (yielded ops a.tmps) then o.wp P a w next Q else next (a.put o.dst undef) w := by
  obtain ⟨hd, h⟩ := h
  have putq : ∀ (r : AV) (v : Value) (w' : World) (I' : Nat → Prop), Quiet I w I' w' → Conc B I' w' ρ r v → G n B w0 (st.put o.dst r) (a.put o.dst v) w' := fun r v w' I' hq hc => ⟨ρ, I', (hG.quiet hq).put (dst_ok hd) hc⟩
  have qrefl := Quiet.refl (I := I) (w := w) hG.hw.lt
  split at h
  · exact h.elim
  · rename_i hg
    rw [guard_ok hG hg]
    simp only [Option.getD_none, if_true]
    split at h
    · rename_i φ r hp
      obtain ⟨z, h1, h2⟩ := pv_ok hT hG.hw (fun x => hG.ev x) hp h.1
      unfold Oper.wp
      rw [h1, Oper.upon_value]
      exact hn _ _ _ h.2 (putq r z w I qrefl h2)
    · split at h
      · rename_i φ r hp
        exact qb_ok hT hG hp h.1 next Q (fun v w' I' hq hc => hn _ _ _ h.2 (putq r v w' I' hq hc))
      · split at h
        · rename_i ψ k args hc
          obtain ⟨⟨hψ, hcl⟩, r, ⟨hp, hf⟩, hK⟩ := h
          exact call_ok hG hc hψ hcl hp hf next Q (fun v w' I' hq hc => hn _ _ _ hK (putq r v w' I' hq hc))
        · exact al_ok hT hG hd h next Q hn
  · rename_i b hg
    rw [guard_ok hG hg]
    simp only [Option.getD_some]
    have skip : ∀ (r : AV), b ≠ true → G n B w0 (st.put o.dst (.g b r)) (a.put o.dst undef) w := fun r hb => putq _ _ w I qrefl (.g b r _ (fun h => absurd h hb) (fun _ => rfl))
    split at h
    · rename_i φ r hp
      split
      · rename_i hb
        obtain ⟨z, h1, h2⟩ := pv_ok hT hG.hw (fun x => hG.ev x) hp (h.1 hb)
        unfold Oper.wp
        rw [h1, Oper.upon_value]
        exact hn _ _ _ h.2 (putq _ z w I qrefl (.g b r _ (fun _ => h2) (fun hf => by rw [hb] at hf; cases hf)))
      · rename_i hb; exact hn _ _ _ h.2 (skip r hb)
    · split at h
      · rename_i φ r hp
        split
        · rename_i hb
          exact qb_ok hT hG hp (h.1 hb) next Q (fun v w' I' hq hc => hn _ _ _ h.2 (putq _ v w' I' hq (.g b r _ (fun _ => hc) (fun hf => by rw [hb] at hf; cases hf))))
        · rename_i hb; exact hn _ _ _ h.2 (skip r hb)
      · split at h
        · rename_i ψ k args hc
          obtain ⟨r, hp, hK⟩ := h
          split
          · rename_i hb
            obtain ⟨⟨hψ, hcl⟩, hp, hf⟩ := hp hb
            exact call_ok hG hc hψ hcl hp hf next Q (fun v w' I' hq hc => hn _ _ _ hK (putq _ v w' I' hq (.g b r _ (fun _ => hc) (fun hf => by rw [hb] at hf; cases hf))))
          · rename_i hb; exact hn _ _ _ hK (skip r hb)
        · exact h.elim

include hT in
theorem aops_ok {ops : Array Oper} {K : St → Prop} {Q : Exit → Act → World → Prop} (hQ : ∀ st' a' w', K st' → G n B w0 st' a' w' → Q .normal a' w') : ∀ (l : List Oper) (st : St) (a : Act) (w : World), G n B w0 st a w → AOps P T n ops K l st → wpList P ops Q l a w
  | [], st, a, w, hG, h => hQ st a w h hG
  | o :: rest, st, a, w, ⟨ρ, I, hG⟩, h => by
    have := astep_ok hT hG h (wpList P ops Q rest) Q (fun st' a' w' hK hG' => aops_ok hQ rest st' a' w' hG' hK)
    unfold wpList
    split
    · rename_i hw; rw [if_pos hw] at this; exact .inl this
    · rename_i hw; rw [if_neg hw] at this; exact this
end

/-- What holds of a code from all that an abstract state stands for. -/
def AWP (P : Program) (n B : Nat) (w0 : Orig) (c : Code) (Q : Exit → St → Prop) (st : St) : Prop :=
  ∀ a w, G n B w0 st a w → c.wp P (fun e a' w' => ∃ st', Q e st' ∧ G n B w0 st' a' w') a w

def Ex.then (next : St → Prop) (Q : Exit → St → Prop) : Exit → St → Prop
  | .normal, st => next st
  | e, st => Q e st
def Ex.inBlock (id : Nat) (Q : Exit → St → Prop) : Exit → St → Prop
  | .exit id', st => if id' = id then Q .normal st else Q (.exit id') st
  | e, st => Q e st

section
variable {P : Program} {T : Tab} {n B : Nat} {w0 : Orig} {Q : Exit → St → Prop} {st : St}

theorem awp_mono {c : Code} {Q' : Exit → St → Prop} (h : AWP P n B w0 c Q st) (hq : ∀ e st, Q e st → Q' e st) : AWP P n B w0 c Q' st :=
  fun a w hG => wp_mono (h a w hG) fun _ _ _ ⟨st', h1, h2⟩ => ⟨st', hq _ _ h1, h2⟩
theorem awp_skip (h : Q .normal st) : AWP P n B w0 .skip Q st := fun _ _ hG => wp_skip ⟨st, h, hG⟩
theorem awp_exit {id : Nat} (h : Q (.exit id) st) : AWP P n B w0 (.exit id) Q st := fun _ _ hG => wp_exit ⟨st, h, hG⟩
theorem awp_ret (h : Q .ret st) : AWP P n B w0 .ret Q st := fun _ _ hG => wp_ret ⟨st, h, hG⟩
theorem awp_seq {x y : Code} (h : AWP P n B w0 x (Ex.then (AWP P n B w0 y Q) Q) st) : AWP P n B w0 (.seq x y) Q st := fun a w hG =>
  wp_seq (wp_mono (h a w hG) fun e a' w' ⟨st', h1, h2⟩ => by
    cases e with
    | normal => exact h1 a' w' h2
    | _ => exact ⟨st', h1, h2⟩)
theorem awp_block {id : Nat} {c : Code} (h : AWP P n B w0 c (Ex.inBlock id Q) st) : AWP P n B w0 (.block id c) Q st := fun a w hG =>
  wp_block (wp_mono (h a w hG) fun e a' w' ⟨st', h1, h2⟩ => by
    cases e with
    | exit id' =>
      simp only [Ex.inBlock] at h1
      simp only [Exit.inBlock]
      split
      · rename_i e; rw [if_pos e] at h1; exact ⟨st', h1, h2⟩
      · rename_i e; rw [if_neg e] at h1; exact ⟨st', h1, h2⟩
    | _ => exact ⟨st', h1, h2⟩)
theorem awp_cond {c : Operand} {x y : Code} (b : Bool) (hc : st.ev c = .v (.bool b)) (ht : b = true → AWP P n B w0 x Q st) (hf : b = false → AWP P n B w0 y Q st) : AWP P n B w0 (.cond c x y) Q st := fun a w hG => by
  obtain ⟨ρ, I, hg⟩ := hG
  have := hg.ev c
  rw [hc] at this
  exact wp_cond_split this.v_inv (fun h => ht h a w ⟨ρ, I, hg⟩) (fun h => hf h a w ⟨ρ, I, hg⟩)
theorem awp_region (hT : T.ok P) {id : Nat} {l : List Oper} (h : AOps P T n l.toArray (fun st' => Q .normal st') l st) : AWP P n B w0 (.region id l.toArray false) Q st := fun a w hG =>
  wp_region_lit (aops_ok hT (fun st' _ _ hK hG' => ⟨st', hK, hG'⟩) l st a w hG h)

def Ex.noGoto (Q : Exit → St → Prop) : Exit → St → Prop
  | .goto _, _ => False
  | e, st => Q e st
theorem awp_scope {c : Code} (h : AWP P n B w0 c (Ex.noGoto Q) st) : AWP P n B w0 (.scope c) Q st := fun a w hG =>
  wp_scope_straight (wp_mono (h a w hG) fun e a' w' ⟨st', h1, h2⟩ => by
    cases e with
    | goto l => exact h1.elim
    | _ => exact ⟨st', h1, h2⟩)
theorem awp_label {l : Nat} (h : Q .normal st) : AWP P n B w0 (.label l) Q st := fun _ _ hG => wp_label ⟨st, h, hG⟩
theorem and_rev {p q : Prop} (hq : q) (hp : p) : p ∧ q := ⟨hp, hq⟩
/-- What follows, behind a name. -/
theorem awp_seqk {x y : Code} (h : ∀ K : St → Prop, (∀ s, AWP P n B w0 y Q s → K s) → AWP P n B w0 x (Ex.then K Q) st) : AWP P n B w0 (.seq x y) Q st := awp_seq (h _ fun _ h => h)
theorem awp_rseq (hT : T.ok P) {id : Nat} {l : List Oper} {y : Code} (h : ∀ K : St → Prop, (∀ s, AWP P n B w0 y Q s → K s) → AOps P T n l.toArray K l st) : AWP P n B w0 (.seq (.region id l.toArray false) y) Q st :=
  awp_seq (awp_region hT (h _ fun _ h => h))
theorem awp_r (hT : T.ok P) {id : Nat} {l : List Oper} (h : ∀ K : St → Prop, (∀ s, Q .normal s → K s) → AOps P T n l.toArray K l st) : AWP P n B w0 (.region id l.toArray false) Q st := awp_region hT (h _ fun _ h => h)
/-- A loop: a family of states, each round to one of smaller measure. -/
theorem awp_loop {α : Type} {c : Code} (S : α → St) (φ : α → Prop) (μ : α → Nat) (x0 : α) (h0 : φ x0) (hS : ∀ a w, G n B w0 st a w → G n B w0 (S x0) a w)
    (round : ∀ x, φ x → AWP P n B w0 c (Ex.then (fun st' => ∃ y, (φ y ∧ μ y < μ x) ∧ ∀ a w, G n B w0 st' a w → G n B w0 (S y) a w) Q) (S x)) : AWP P n B w0 (.loop c) Q st := fun a w hG => by
  refine wp_loop_ghost (fun k a w => ∃ x, φ x ∧ μ x = k ∧ G n B w0 (S x) a w) (μ x0) ⟨x0, h0, rfl, hS a w hG⟩ ?_
  rintro k a w ⟨x, hφ, rfl, hG⟩
  refine wp_mono (round x hφ a w hG) fun e a' w' ⟨st', h1, h2⟩ => ?_
  cases e with
  | normal => obtain ⟨y, ⟨hy, hlt⟩, hw⟩ := h1; exact ⟨μ y, hlt, y, hy, rfl, hw a' w' h2⟩
  | _ => exact ⟨st', h1, h2⟩

/-- A cut: whatever comes out is one of a family of states. -/
theorem awp_cut {α : Type} {x y : Code} (S : α → St) (φ : α → Prop) (h : AWP P n B w0 x (Ex.then (fun st' => ∃ z, φ z ∧ ∀ a w, G n B w0 st' a w → G n B w0 (S z) a w) Q) st) (h2 : ∀ z, φ z → AWP P n B w0 y Q (S z)) : AWP P n B w0 (.seq x y) Q st :=
  awp_seq (fun a w hG => wp_mono (h a w hG) fun e a' w' ⟨st', h1, h3⟩ => by
    cases e with
    | normal => obtain ⟨z, hz, hw⟩ := h1; exact ⟨S z, h2 z hz, hw a' w' h3⟩
    | _ => exact ⟨st', h1, h3⟩)
end

/-- A weaker state: fewer slots, fewer blocks are spoken of. -/
def wkE (env : List (Nat × AV)) : List (Nat × AV) → Prop
  | [] => True
  | (k, x) :: r => lk env k = x ∧ wkE env r
def wkH (H : List (Nat × Blk)) : List (Nat × Blk) → Prop
  | [] => True
  | (k, x) :: r => lkH H k = some x ∧ wkH H r
theorem lk_wk {env : List (Nat × AV)} : ∀ {l : List (Nat × AV)}, wkE env l → ∀ s, lk l s = .top ∨ lk l s = lk env s
  | [], _, s => .inl rfl
  | (k, x) :: r, h, s => by
    simp only [lk]
    split
    · rename_i e; subst e; exact .inr h.1.symm
    · exact lk_wk h.2 s
theorem lkH_wk {H : List (Nat × Blk)} : ∀ {l : List (Nat × Blk)}, wkH H l → ∀ s b, lkH l s = some b → lkH H s = some b
  | [], _, s, b, h => by cases h
  | (k, x) :: r, h, s, b, hb => by
    simp only [lkH] at hb
    split at hb
    · rename_i e; subst e; injection hb with hb; subst hb; exact h.1
    · exact lkH_wk h.2 s b hb
theorem G.wk {n B : Nat} {w0 : Orig} {st st' : St} (hE : wkE st.env st'.env) (hH : wkH st.heap st'.heap) : ∀ a w, G n B w0 st a w → G n B w0 st' a w := fun a w ⟨ρ, I, h⟩ =>
  ⟨ρ, I, h.defers, h.size, fun s => by
      rcases lk_wk hE s with e | e
      · rw [e]; exact .top _
      · rw [e]; exact h.env s,
    ⟨fun id blk hk => h.hw.ok id blk (lkH_wk hH _ _ hk), fun id id' b b' x x' c hne h1 h2 => h.hw.apart id id' b b' x x' c hne (lkH_wk hH _ _ h1) (lkH_wk hH _ _ h2), fun id b x c h1 => h.hw.imm id b x c (lkH_wk hH _ _ h1), h.hw.lt⟩,
    h.below, h.base, h.old⟩

end Go.Eng
