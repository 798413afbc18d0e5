/- Part of a proof about the given program: contracts of its functions (see the comment of the last text). -/
import Derived.Test.YthgjjhddbigfcaaEng2
import Derived.Scope
import Derived.OrdersIn
import Derived.TacticsIn
import Derived.Sort.LoopGhostIn
import Derived.RangeFuncCalls
import Derived.RangeFuncOwn
import Derived.OpenShut
import Derived.ChangeOld
set_option linter.unusedSimpArgs false
set_option linter.unusedVariables false
namespace Go.Eng
open Go.RowKit

def AV.cnd : AV → Bool
  | .g b x => b && x.cnd
  | _ => true

theorem Conc.cnd_inv {B : Nat} {I : Nat → Prop} {w : World} {ρ : Nat → Option Value} {x : AV} {u : Value} {y : Value} (h : Conc B I w ρ x u) (hx : x.strip = .v y) : u = bif x.cnd then y else undef := by
  induction h with
  | g b x u h h0 ih =>
    cases b with
    | false => simp [AV.cnd, h0 rfl]
    | true => simpa [AV.cnd] using ih rfl hx
  | v x => simp only [AV.strip, AV.v.injEq] at hx; simp [AV.cnd, hx]
  | _ => simp [AV.strip] at hx

def guardB (st : St) (ops : Array Oper) : Option (Nat × Bool) → Option (Option Bool)
  | none => some none
  | some (j, want) => match (ops[j]?).bind (·.dst) with
    | some d => match (lk st.env d).strip with
      | .v (.bool y) => some (some ((lk st.env d).cnd && (bif want then y else !y)))
      | _ => none
    | none => none

def dstOk (n : Nat) : Option Nat → Prop
  | some d => d < n
  | none => True

def AStep (P : Program) (T : Tab) (n : Nat) (ops : Array Oper) (o : Oper) (K : St → Prop) (st : St) : Prop :=
  dstOk n o.dst ∧
  match guardB st ops o.guard with
  | none => False
  | some none =>
    match pv T st.heap st.ev o.op with
    | some (φ, r) => φ ∧ K (st.put o.dst r)
    | none =>
      match qb T st.ev o.op with
      | some (φ, r) => φ ∧ K (st.put o.dst r)
      | none =>
        match callee? st.ev o.op with
        | some (ψ, k, args) => (ψ ∧ condL args) ∧ ∃ r, (Pure P k (pubL st.heap args) r ∧ okR args r) ∧ K (st.put o.dst r)
        | none => al T st o K
  | some (some b) =>
    match pv T st.heap st.ev o.op with
    | some (φ, r) => (b = true → φ) ∧ K (st.put o.dst (.g b r))
    | none =>
      match qb T st.ev o.op with
      | some (φ, r) => (b = true → φ) ∧ K (st.put o.dst (.g b r))
      | none =>
        match callee? st.ev o.op with
        | some (ψ, k, args) => ∃ r, (b = true → (ψ ∧ condL args) ∧ Pure P k (pubL st.heap args) r ∧ okR args r) ∧ K (st.put o.dst (.g b r))
        | none => False

def AOps (P : Program) (T : Tab) (n : Nat) (ops : Array Oper) (K : St → Prop) : List Oper → St → Prop
  | [], st => K st
  | o :: rest, st => AStep P T n ops o (fun st' => AOps P T n ops K rest st') st

section
variable {P : Program} {T : Tab} (hT : T.ok P) {n B : Nat} {w0 : Orig} {st : St} {a : Act} {w : World} {ρ : Nat → Option Value} {I : Nat → Prop}

theorem ZCL {o : Oper} (h : dstOk n o.dst) : ∀ k, o.dst = some k → k < n := fun k hk => by rw [hk] at h; exact h

include hT in
theorem ZHc (hG : Gam n B w0 st a w ρ I) {o : Oper} {c : Call} (ho : o.op = .call c) (hd : ∀ d, o.dst = some d → d < n) {K : St → Prop} (h : al T st o K) : StepOk P n B w0 o a w K := by
  intro next Q hn
  unfold al at h
  simp only [ho] at h
  split at h
  · rename_i x y t t' hcal hargs hats
    have hargs' : c.args = #[x, y] := Array.toList_inj.1 (by simpa using hargs)
    split at h
    · rename_i d e _ _ _ hdst ht
      split at h
      · rename_i te bs hte hbs
        split at h
        · rename_i ψ m src hsrc
          split at h
          · rename_i k k' l hk hc0
            obtain ⟨ys, ⟨cx, cy, hψ, rfl, hsz, hzs, hb, hyl, hys, hby, hmax⟩, hK⟩ := h
            have hop : o.op = .call ⟨.builtin .append, #[x, y], #[t', t']⟩ := by
              have hats' : c.argTypes = #[t', t'] := Array.toList_inj.1 (by simpa using hats)
              rw [ho, ← hcal, ← hargs', ← hats']
            have hrow1 : te.sz = 1 := hsz
            have hbb : ∀ id e' sz' c', bs = some (id, e', sz', c') → e' = e ∧ sz' = te.sz ∧ c' = Cont.ints k l := fun id e' sz' c' hh => by
              subst hh
              simp only at hb hc0
              exact ⟨hb.1, by rw [hb.2.1, hsz], by rw [hc0, hb.2.2]⟩
            have hnn : bs = none → (Cont.ints k l).len = 0 := fun hh => by
              subst hh
              simp only [Cont.ints.injEq] at hc0
              rw [← hc0.2]; rfl
            refine ZDq hT hG hop hdst (hd d hdst) ht hte hbs hsrc hψ cx cy (by omega) (by rw [hzs, hsz]) (.ints k l) (.ints k (l ++ ys)) hbb hnn ?_ ?_ ?_ ?_ ?_ next Q (fun a' w' hg => hn _ a' w' hK (by rw [hrow1] at hg; exact hg))
            · simp [Cont.len, hyl, hsz]
            · intro j hj
              simp only [Cont.len] at hj
              simp [Cont.at, List.getD_eq_getElem?_getD, List.getElem?_append_left hj]
            · intro el j he hj
              have hj0 : j = 0 := by omega
              subst hj0
              rw [hsz, hys el he]
              refine ⟨?_, rfl⟩
              simp only [Cont.at, Cont.len, Nat.mul_one, Nat.add_zero]
              rw [List.getD_eq_getElem?_getD, List.getElem?_append_right (by omega), Nat.add_sub_cancel_left, List.getD_eq_getElem?_getD]
            · simpa [Cont.len, hsz] using hby
            · simpa [Cont.len, hsz] using hmax
          · rename_i c0 hno
            split at h
            · rename_i l hc0
              obtain ⟨ys, ⟨cx, cy, hψ, rfl, hpos, hzs, hb, hyl, hys, h1, hby, hmax⟩, hK⟩ := h
              have hop : o.op = .call ⟨.builtin .append, #[x, y], #[t', t']⟩ := by
                have hats' : c.argTypes = #[t', t'] := Array.toList_inj.1 (by simpa using hats)
                rw [ho, ← hcal, ← hargs', ← hats']
              have hbb : ∀ id e' sz' c', bs = some (id, e', sz', c') → e' = e ∧ sz' = te.sz ∧ c' = Cont.avs l := fun id e' sz' c' hh => by
                subst hh
                simp only at hb hc0
                exact ⟨hb.1, hb.2, hc0⟩
              have hnn : bs = none → (Cont.avs l).len = 0 := fun hh => by
                subst hh
                simp only [Cont.avs.injEq] at hc0
                rw [← hc0]; rfl
              refine ZDq hT hG hop hdst (hd d hdst) ht hte hbs hsrc hψ cx cy hpos hzs (.avs l) (.avs (l ++ ys)) hbb hnn ?_ ?_ ?_ ?_ ?_ next Q (fun a' w' hg => hn _ a' w' hK hg)
              · simp [Cont.len, hyl]
              · intro j hj
                simp only [Cont.len] at hj
                simp [Cont.at, List.getD_eq_getElem?_getD, List.getElem?_append_left hj]
              · intro el j he hj
                have hlt : el * te.sz + j < ys.length := by rw [hyl]; exact ZA9 he hj
                rw [hys el j he hj]
                refine ⟨?_, ZCz h1 _ hlt⟩
                simp only [Cont.at, Cont.len]
                rw [List.getD_eq_getElem?_getD, List.getElem?_append_right (by omega), Nat.add_sub_cancel_left, List.getD_eq_getElem?_getD]
              · simpa [Cont.len] using hby
              · simpa [Cont.len] using hmax
            · exact h.elim
        · exact h.elim
      · exact h.elim
    · exact h.elim
  · exact h.elim

include hT in
theorem al_ok (hG : Gam n B w0 st a w ρ I) {o : Oper} (hd : dstOk n o.dst) {K : St → Prop} (h : al T st o K) : StepOk P n B w0 o a w K := by
  cases ho : o.op <;> first
    | exact ZI7 hT hG ho h
    | exact box_ok hG ho (ZCL hd) h
    | exact ZI8 hT hG ho (ZCL hd) h
    | exact ZJq hT hG ho (ZCL hd) h
    | exact ZHc hT hG ho (ZCL hd) h
    | (unfold al at h; simp only [ho] at h)

theorem ZBC (hG : Gam n B w0 st a w ρ I) {ops : Array Oper} {o : Oper} {g : Option Bool} (h : guardB st ops o.guard = some g) : Region.wanted o (yielded ops a.tmps) = g.getD true := by
  unfold guardB at h
  split at h
  · rename_i hg
    injection h with h; subst h
    simp [Region.wanted, hg]
  · rename_i j want hg
    split at h
    · rename_i d hd
      split at h
      · rename_i y hy
        injection h with h; subst h
        have hu := (hG.env d).cnd_inv hy
        rw [Array.getD_eq_getD_getElem?] at hu
        cases hb : (lk st.env d).cnd with
        | false =>
          rw [hb] at hu
          have : yielded ops a.tmps j = none := by
            simp only [yielded, hd, Option.bind_some]
            cases hx : a.tmps[d]? with
            | none => rfl
            | some z => rw [hx] at hu; simp at hu; subst hu; rfl
          simp [Region.wanted, hg, this]
        | true =>
          rw [hb] at hu
          have hd' : a.tmps[d]? = some (.bool y) := by
            cases hx : a.tmps[d]? with
            | none => rw [hx] at hu; simp [undef] at hu
            | some z => rw [hx] at hu; simp at hu; rw [hu]
          simp only [Region.wanted, hg, yielded, hd, Option.bind_some, hd', Option.getD_some]
          cases want <;> cases y <;> rfl
      · cases h
    · cases h

include hT in
theorem ZE0 (hG : Gam n B w0 st a w ρ I) {ops : Array Oper} {o : Oper} {K : St → Prop} (h : AStep P T n ops o K st) (next : Act → World → Prop) (Q : Exit → Act → World → Prop) (hn : ∀ st' a' w', K st' → G n B w0 st' a' w' → next a' w') :
    if Region.wanted o (yielded ops a.tmps) then o.wp P a w next Q else next (a.put o.dst undef) w := by
  obtain ⟨hd, h⟩ := h
  have putq : ∀ (r : AV) (v : Value) (w' : World) (I' : Nat → Prop), Quiet I w I' w' → Conc B I' w' ρ r v → G n B w0 (st.put o.dst r) (a.put o.dst v) w' := fun r v w' I' hq hc => ⟨ρ, I', (hG.quiet hq).put (ZCL hd) hc⟩
  have qrefl := Quiet.refl (I := I) (w := w) hG.hw.lt
  split at h
  · exact h.elim
  · rename_i hg
    rw [ZBC hG hg]
    simp only [Option.getD_none, if_true]
    split at h
    · rename_i φ r hp
      obtain ⟨z, h1, h2⟩ := pv_ok hT hG.hw (fun x => hG.ev x) hp h.1
      unfold Oper.wp
      rw [h1, Oper.upon_value]
      exact hn _ _ _ h.2 (putq r z w I qrefl h2)
    · split at h
      · rename_i φ r hp
        exact qb_ok hT hG hp h.1 next Q (fun v w' I' hq hc => hn _ _ _ h.2 (putq r v w' I' hq hc))
      · split at h
        · rename_i ψ k args hc
          obtain ⟨⟨hψ, hcl⟩, r, ⟨hp, hf⟩, hK⟩ := h
          exact ZHa hG hc hψ hcl hp hf next Q (fun v w' I' hq hc => hn _ _ _ hK (putq r v w' I' hq hc))
        · exact al_ok hT hG hd h next Q hn
  · rename_i b hg
    rw [ZBC hG hg]
    simp only [Option.getD_some]
    have skip : ∀ (r : AV), b ≠ true → G n B w0 (st.put o.dst (.g b r)) (a.put o.dst undef) w := fun r hb => putq _ _ w I qrefl (.g b r _ (fun h => absurd h hb) (fun _ => rfl))
    split at h
    · rename_i φ r hp
      split
      · rename_i hb
        obtain ⟨z, h1, h2⟩ := pv_ok hT hG.hw (fun x => hG.ev x) hp (h.1 hb)
        unfold Oper.wp
        rw [h1, Oper.upon_value]
        exact hn _ _ _ h.2 (putq _ z w I qrefl (.g b r _ (fun _ => h2) (fun hf => by rw [hb] at hf; cases hf)))
      · rename_i hb; exact hn _ _ _ h.2 (skip r hb)
    · split at h
      · rename_i φ r hp
        split
        · rename_i hb
          exact qb_ok hT hG hp (h.1 hb) next Q (fun v w' I' hq hc => hn _ _ _ h.2 (putq _ v w' I' hq (.g b r _ (fun _ => hc) (fun hf => by rw [hb] at hf; cases hf))))
        · rename_i hb; exact hn _ _ _ h.2 (skip r hb)
      · split at h
        · rename_i ψ k args hc
          obtain ⟨r, hp, hK⟩ := h
          split
          · rename_i hb
            obtain ⟨⟨hψ, hcl⟩, hp, hf⟩ := hp hb
            exact ZHa hG hc hψ hcl hp hf next Q (fun v w' I' hq hc => hn _ _ _ hK (putq _ v w' I' hq (.g b r _ (fun _ => hc) (fun hf => by rw [hb] at hf; cases hf))))
          · rename_i hb; exact hn _ _ _ hK (skip r hb)
        · exact h.elim

theorem ZE1 {ops : Array Oper} {o : Oper} {K : St → Prop} (h : AStep P T n ops o K st) : ∀ c, o.op ≠ .defer c := fun c hc => by
  unfold AStep al at h
  simp only [hc, pv, qb, callee?] at h
  obtain ⟨_, h⟩ := h
  split at h <;> exact h
end

def fo (w0 : Orig) : Fence := { Fence.wide with round := w0.rd }
theorem ZHC {P : Program} {w0 : Orig} {m : Nat} {f : FuncId} {args : Array Value} {w : World} {R : Ending → World → Prop} (h : Calls P f args w R) : CallsIn (fo w0) m P f args w R :=
  (callsIn_wide (n := m)).2 h
theorem ZHd {P : Program} {w0 : Orig} {m : Nat} {row : String} {args : Array Value} {w : World} {R : Value → World → Prop} (h : Rows P row args w R) : RowsIn (fo w0) m P row args w R := fun c cs _ => by
  obtain ⟨v, w', r, s⟩ := h c cs
  exact ⟨v, w', r, stepsIn_wide.2 s⟩
theorem toIn {P : Program} {w0 : Orig} {m : Nat} {o : Oper} (hnd : ∀ c, o.op ≠ .defer c) {a : Act} {w : World} {next : Act → World → Prop} {Q : Exit → Act → World → Prop} (h : o.wp P a w next Q) : o.wpIn (fo w0) m P a w next Q := by
  refine ⟨fun _ _ => trivial, ?_⟩
  rw [Oper.semAt_eq _ _ _ hnd]
  unfold Oper.wp at h
  revert h
  generalize (execOp a.eval o).run P w = r
  intro h
  unfold Oper.upon at h
  split at h
  · exact h
  · exact h
  · exact h
  · rw [Oper.uponIn_enter]
    refine ⟨(fun hd => by cases hd), ZHC (Calls.mono h fun e w' he => ?_)⟩
    cases e <;> exact he
  · rw [Oper.uponIn_row]
    exact ⟨(fun hd => by cases hd), ZHd h⟩
  · exact h
  · exact h.elim
theorem toIf {P : Program} {w0 : Orig} {m : Nat} {o : Oper} {b : Bool} (hnd : b = true → ∀ c, o.op ≠ .defer c) {a a' : Act} {w : World} {next : Act → World → Prop} {Q : Exit → Act → World → Prop} (h : if b then o.wp P a w next Q else next a' w) :
    if b then o.wpIn (fo w0) m P a w next Q else (∀ f, o.about P w a.eval = some f → (fo w0).fn f) ∧ next a' w := by
  cases b with
  | true => exact toIn (hnd rfl) h
  | false => exact ⟨fun _ _ => trivial, h⟩

section
variable {P : Program} {T : Tab} (hT : T.ok P) {n B : Nat} {w0 : Orig} {st : St} {a : Act} {w : World} {ρ : Nat → Option Value} {I : Nat → Prop}
include hT in
theorem ZHe {ops : Array Oper} {K : St → Prop} {Q : Exit → Act → World → Prop} (hQ : ∀ st' a' w', K st' → G n B w0 st' a' w' → Q .normal a' w') : ∀ (l : List Oper) (st : St) (a : Act) (w : World), G n B w0 st a w → AOps P T n ops K l st → wpListIn (fo w0) 0 P ops Q l a w
  | [], st, a, w, hG, h => hQ st a w h hG
  | o :: rest, st, a, w, ⟨ρ, I, hG⟩, h => by
    have := ZE0 hT hG h (wpListIn (fo w0) 0 P ops Q rest) Q (fun st' a' w' hK hG' => ZHe hQ rest st' a' w' hG' hK)
    unfold wpListIn
    exact toIf (fun _ => ZE1 h) this
end

theorem ZBN {P : Program} {b : Frame} {a : Act} {k : List Item} {cs : List Frame} {w : World} {c : Code} : step P (lone (b.atR a (.code (.scope c) :: k)) cs w) = .next (lone (b.atR a (.code c :: .inScope c :: k)) cs w) :=
  step_lone_go (by simp [stepG, stepG.exec, Frame.atR])
theorem ZE2 {P : Program} {b : Frame} {a : Act} {k : List Item} {cs : List Frame} {w : World} {c : Code} : step P (lone (b.atR a (.inScope c :: k)) cs w) = .next (lone (b.atR a k) cs w) :=
  step_lone_go (by simp [stepG, stepG.exec, Frame.atR])
theorem ZCl {F : Fence} {m : Nat} {P : Program} {c : Code} {Q : Exit → Act → World → Prop} {a : Act} {w : World} (h : c.wpIn F m P (Exit.noGoto Q) a w) : (Code.scope c).wpIn F m P Q a w := by
  intro b k cs hro hb hr
  have h0 : (lone (b.atR a (.code (.scope c) :: k)) cs w).fenced P F := fenced_calm hb hr rfl
  obtain ⟨e, a₁, w₁, hq, harr⟩ := h b (.inScope c :: k) cs hro hb hr
  have hx : ∀ id, exitTo id (.inScope c :: k) = exitTo id k := fun id => by simp [exitTo]
  cases e with
  | normal => exact ⟨.normal, a₁, w₁, hq, .head h0 ZBN (StepsIn.trans harr (.one (fenced_calm hb hr rfl) ZE2))⟩
  | exit id => exact ⟨.exit id, a₁, w₁, hq, fun k' hk => .head h0 ZBN (harr.1 k' (by rw [hx]; exact hk)), fun hr' hk => let ⟨k₁, h1, h2⟩ := harr.2 hr' (by rw [hx]; exact hk); ⟨k₁, h1, .head h0 ZBN h2⟩⟩
  | goto l => exact hq.elim
  | ret => exact ⟨_, a₁, w₁, hq, .of_steps (.one h0 ZBN) harr⟩
  | panic ch => exact ⟨_, a₁, w₁, hq, .of_steps (.one h0 ZBN) harr⟩
  | outgrown => exact ⟨_, a₁, w₁, hq, .of_steps (.one h0 ZBN) harr⟩

def AWP (P : Program) (n B : Nat) (w0 : Orig) (c : Code) (Q : Exit → St → Prop) (st : St) : Prop :=
  ∀ a w, G n B w0 st a w → c.wpIn (fo w0) 0 P (fun e a' w' => ∃ st', Q e st' ∧ G n B w0 st' a' w') a w

def Ex.then (next : St → Prop) (Q : Exit → St → Prop) : Exit → St → Prop
  | .normal, st => next st
  | e, st => Q e st
def Ex.inBlock (id : Nat) (Q : Exit → St → Prop) : Exit → St → Prop
  | .exit id', st => if id' = id then Q .normal st else Q (.exit id') st
  | e, st => Q e st

section
variable {P : Program} {T : Tab} {n B : Nat} {w0 : Orig} {Q : Exit → St → Prop} {st : St}

theorem ZAF (h : Q .normal st) : AWP P n B w0 .skip Q st := fun _ _ hG => wpIn_skip ⟨st, h, hG⟩
theorem ZAG {id : Nat} (h : Q (.exit id) st) : AWP P n B w0 (.exit id) Q st := fun _ _ hG => wpIn_exit ⟨st, h, hG⟩
theorem ZAM (h : Q .ret st) : AWP P n B w0 .ret Q st := fun _ _ hG => wpIn_ret ⟨st, h, hG⟩
theorem ZAL {x y : Code} (h : AWP P n B w0 x (Ex.then (AWP P n B w0 y Q) Q) st) : AWP P n B w0 (.seq x y) Q st := fun a w hG =>
  wpIn_seq (wpIn_mono (h a w hG) fun e a' w' ⟨st', h1, h2⟩ => by
    cases e with
    | normal => exact h1 a' w' h2
    | _ => exact ⟨st', h1, h2⟩)
theorem ZAA {id : Nat} {c : Code} (h : AWP P n B w0 c (Ex.inBlock id Q) st) : AWP P n B w0 (.block id c) Q st := fun a w hG =>
  wpIn_block (wpIn_mono (h a w hG) fun e a' w' ⟨st', h1, h2⟩ => by
    cases e with
    | exit id' =>
      simp only [Ex.inBlock] at h1
      simp only [Exit.inBlock]
      split
      · rename_i e; rw [if_pos e] at h1; exact ⟨st', h1, h2⟩
      · rename_i e; rw [if_neg e] at h1; exact ⟨st', h1, h2⟩
    | _ => exact ⟨st', h1, h2⟩)
theorem ZAH {c : Operand} {x y : Code} (b : Bool) (hc : st.ev c = .v (.bool b)) (ht : b = true → AWP P n B w0 x Q st) (hf : b = false → AWP P n B w0 y Q st) : AWP P n B w0 (.cond c x y) Q st := fun a w hG => by
  obtain ⟨ρ, I, hg⟩ := hG
  have := hg.ev c
  rw [hc] at this
  exact wpIn_cond_split this.v_inv (fun h => ht h a w ⟨ρ, I, hg⟩) (fun h => hf h a w ⟨ρ, I, hg⟩)
theorem ZER (hT : T.ok P) {id : Nat} {l : List Oper} (h : AOps P T n l.toArray (fun st' => Q .normal st') l st) : AWP P n B w0 (.region id l.toArray false) Q st := fun a w hG =>
  wpIn_region_lit (ZHe hT (fun st' _ _ hK hG' => ⟨st', hK, hG'⟩) l st a w hG h)

def Ex.noGoto (Q : Exit → St → Prop) : Exit → St → Prop
  | .goto _, _ => False
  | e, st => Q e st
theorem ZAB {c : Code} (h : AWP P n B w0 c (Ex.noGoto Q) st) : AWP P n B w0 (.scope c) Q st := fun a w hG =>
  ZCl (wpIn_mono (h a w hG) fun e a' w' ⟨st', h1, h2⟩ => by
    cases e with
    | goto l => exact h1.elim
    | _ => exact ⟨st', h1, h2⟩)
theorem ZAC {l : Nat} (h : Q .normal st) : AWP P n B w0 (.label l) Q st := fun _ _ hG => wpIn_label ⟨st, h, hG⟩
theorem ZAD {p q : Prop} (hq : q) (hp : p) : p ∧ q := ⟨hp, hq⟩
theorem ZAQ (hT : T.ok P) {id : Nat} {l : List Oper} {y : Code} (h : ∀ K : St → Prop, (∀ s, AWP P n B w0 y Q s → K s) → AOps P T n l.toArray K l st) : AWP P n B w0 (.seq (.region id l.toArray false) y) Q st :=
  ZAL (ZER hT (h _ fun _ h => h))
theorem ZAg (hT : T.ok P) {id : Nat} {l : List Oper} (h : ∀ K : St → Prop, (∀ s, Q .normal s → K s) → AOps P T n l.toArray K l st) : AWP P n B w0 (.region id l.toArray false) Q st := ZER hT (h _ fun _ h => h)
theorem ZAO {α : Type} {c : Code} (S : α → St) (φ : α → Prop) (μ : α → Nat) (x0 : α) (h0 : φ x0) (hS : ∀ a w, G n B w0 st a w → G n B w0 (S x0) a w)
    (round : ∀ x, φ x → AWP P n B w0 c (Ex.then (fun st' => ∃ y, (φ y ∧ μ y < μ x) ∧ ∀ a w, G n B w0 st' a w → G n B w0 (S y) a w) Q) (S x)) : AWP P n B w0 (.loop c) Q st := fun a w hG => by
  refine wpIn_loop_ghost (fun k a w => ∃ x, φ x ∧ μ x = k ∧ G n B w0 (S x) a w) (μ x0) ⟨x0, h0, rfl, hS a w hG⟩ ?_
  rintro k a w ⟨x, hφ, rfl, hG⟩
  refine wpIn_mono (round x hφ a w hG) fun e a' w' ⟨st', h1, h2⟩ => ?_
  cases e with
  | normal => obtain ⟨y, ⟨hy, hlt⟩, hw⟩ := h1; exact ⟨μ y, hlt, y, hy, rfl, hw a' w' h2⟩
  | _ => exact ⟨st', h1, h2⟩

theorem ZE3 {α : Type} {x y : Code} (S : α → St) (φ : α → Prop) (h : AWP P n B w0 x (Ex.then (fun st' => ∃ z, φ z ∧ ∀ a w, G n B w0 st' a w → G n B w0 (S z) a w) Q) st) (h2 : ∀ z, φ z → AWP P n B w0 y Q (S z)) : AWP P n B w0 (.seq x y) Q st :=
  ZAL (fun a w hG => wpIn_mono (h a w hG) fun e a' w' ⟨st', h1, h3⟩ => by
    cases e with
    | normal => obtain ⟨z, hz, hw⟩ := h1; exact ⟨S z, h2 z hz, hw a' w' h3⟩
    | _ => exact ⟨st', h1, h3⟩)
end

def wkE (env : List (Nat × AV)) : List (Nat × AV) → Prop
  | [] => True
  | (k, x) :: r => lk env k = x ∧ wkE env r
def wkH (H : List (Nat × Blk)) : List (Nat × Blk) → Prop
  | [] => True
  | (k, x) :: r => lkH H k = some x ∧ wkH H r
theorem lk_wk {env : List (Nat × AV)} : ∀ {l : List (Nat × AV)}, wkE env l → ∀ s, lk l s = .top ∨ lk l s = lk env s
  | [], _, s => .inl rfl
  | (k, x) :: r, h, s => by
    simp only [lk]
    split
    · rename_i e; subst e; exact .inr h.1.symm
    · exact lk_wk h.2 s
theorem ZFk {H : List (Nat × Blk)} : ∀ {l : List (Nat × Blk)}, wkH H l → ∀ s b, lkH l s = some b → lkH H s = some b
  | [], _, s, b, h => by cases h
  | (k, x) :: r, h, s, b, hb => by
    simp only [lkH] at hb
    split at hb
    · rename_i e; subst e; injection hb with hb; subst hb; exact h.1
    · exact ZFk h.2 s b hb
theorem G.wk {n B : Nat} {w0 : Orig} {st st' : St} (hE : wkE st.env st'.env) (hH : wkH st.heap st'.heap) : ∀ a w, G n B w0 st a w → G n B w0 st' a w := fun a w ⟨ρ, I, h⟩ =>
  ⟨ρ, I, h.defers, h.size, fun s => by
      rcases lk_wk hE s with e | e
      · rw [e]; exact .top _
      · rw [e]; exact h.env s,
    ⟨fun id blk hk => h.hw.ok id blk (ZFk hH _ _ hk), fun id id' b b' x x' c hne h1 h2 => h.hw.apart id id' b b' x x' c hne (ZFk hH _ _ h1) (ZFk hH _ _ h2), fun id b x c h1 => h.hw.imm id b x c (ZFk hH _ _ h1), h.hw.lt⟩,
    h.below, h.base, h.old⟩

end Go.Eng
namespace Go.Eng
open Go.RowKit

def resOf (T : Tab) (st : St) : List ResultVar → Option (Prop × List AV)
  | [] => some (True, [])
  | .tmp t :: r => match resOf T st r with
    | some (φ, l) => some ((lk st.env t).cond ∧ φ, (lk st.env t).strip :: l)
    | none => none
  | .cell t ty :: r => match pvLoad T st.heap ty (lk st.env t), resOf T st r with
    | some (ψ, x), some (φ, l) => some (ψ ∧ φ, x :: l)
    | _, _ => none
def retOf : List AV → AV
  | [x] => x
  | l => .t l
def fin (T : Tab) (res : List ResultVar) (r : AV) (st : St) : Prop :=
  match resOf T st res with
  | some (φ, l) => φ ∧ AV.pub true st.heap 6 (retOf l) = r
  | none => False
def EndsA (T : Tab) (res : List ResultVar) (r : AV) : Exit → St → Prop
  | .ret, st => fin T res r st
  | .normal, st => fin T res r st
  | _, _ => False
def argEnv (k : Nat) : List AV → List (Nat × AV)
  | [] => []
  | x :: r => (k, x) :: argEnv (k + 1) r

theorem ZFl : ∀ (args : List AV) (k s : Nat), lk (argEnv k args) s = if k ≤ s then args.getD (s - k) .top else .top
  | [], k, s => by simp [argEnv, lk]
  | x :: r, k, s => by
    simp only [argEnv, lk]
    rw [ZFl r (k + 1) s]
    by_cases h : k = s
    · subst h; simp
    · rw [if_neg h]
      by_cases h2 : k ≤ s
      · rw [if_pos (by omega), if_pos h2, show s - k = (s - (k + 1)) + 1 from by omega]; simp
      · rw [if_neg (by omega), if_neg h2]

theorem ZCM {P : Program} {t : TypeId} {k : TK} {sz b : Nat} {z : Value} (h : (P.info? t).map (fun i => (i.zero, i.size, i.bytes)) = some (some z, sz, b)) (hk : k.ok P t) : TI.ok P t ⟨k, sz, b, z⟩ := by
  cases hi : P.info? t with
  | none => rw [hi] at h; cases h
  | some i => rw [hi] at h; simp at h; exact ⟨⟨i, hi, h.2.1, h.2.2, h.1⟩, hk⟩

section
variable {P : Program} {T : Tab} (hT : T.ok P) {n B : Nat} {w0 : Orig} {st : St} {a : Act} {w : World} {ρ : Nat → Option Value} {I : Nat → Prop}

include hT in
theorem ZCa (hG : Gam n B w0 st a w ρ I) : ∀ (res : List ResultVar) {φ : Prop} {l : List AV}, resOf T st res = some (φ, l) → φ →
    ∃ vs : List Value, (res.mapM (fun r => match r with | .tmp t => pure (a.tmps.getD t undef) | .cell x t => do loadVar t (← asAddr (a.tmps.getD x undef))) : Sem (List Value)).run P w = .ok vs w ∧ ConcL B I w ρ l vs
  | [], φ, l, h, hφ => by
    simp only [resOf, Option.some.injEq, Prod.mk.injEq] at h
    obtain ⟨_, rfl⟩ := h
    exact ⟨[], by simp, rfl, fun j hj => by simp at hj⟩
  | .tmp t :: r, φ, l, h, hφ => by
    simp only [resOf] at h
    split at h
    · rename_i ψ l' hr
      simp only [Option.some.injEq, Prod.mk.injEq] at h
      obtain ⟨rfl, rfl⟩ := h
      obtain ⟨vs, h1, h2⟩ := ZCa hG r hr hφ.2
      refine ⟨a.tmps.getD t undef :: vs, by simp only [List.mapM_cons, Sem.run_bind, Sem.run_pure, Result.andThen_ok, h1], by simp [h2.1], fun j hj => ?_⟩
      cases j with
      | zero => simpa using (hG.env t).strip hφ.1
      | succ j => simpa using h2.2 j (by simpa using hj)
    · cases h
  | .cell t ty :: r, φ, l, h, hφ => by
    simp only [resOf] at h
    split at h
    · rename_i ψ x φ' l' hx hr
      simp only [Option.some.injEq, Prod.mk.injEq] at h
      obtain ⟨rfl, rfl⟩ := h
      obtain ⟨vs, h1, h2⟩ := ZCa hG r hr hφ.2
      obtain ⟨v, h3, h4⟩ := ZFe hT hG.hw hx hφ.1 (hG.env t)
      have haddr : ∃ ad, a.tmps.getD t undef = .pointer (some ad) ∧ (loadVar ty ad).run P w = .ok v w := by
        generalize a.tmps.getD t undef = u at h3
        unfold Instr.loadAt at h3
        cases u with
        | pointer p =>
          cases p with
          | none => simp [Instr.sureAddr, stuck, Sem.run] at h3
          | some ad => exact ⟨ad, rfl, by simpa [Instr.sureAddr] using h3⟩
        | _ => simp [Instr.sureAddr, stuck, Sem.run] at h3
      obtain ⟨ad, h5, h6⟩ := haddr
      have h7 : (asAddr (a.tmps.getD t undef)).run P w = .ok ad w := by rw [h5]; simp [asAddr]
      refine ⟨v :: vs, by simp only [List.mapM_cons, Sem.run_bind, h7, Sem.run_pure, Result.andThen_ok, h6, h1], by simp [h2.1], fun j hj => ?_⟩
      cases j with
      | zero => simpa using h4
      | succ j => simpa using h2.2 j (by simpa using hj)
    · cases h

include hT in
theorem fin_ok {fn : Func} {res : List ResultVar} (hres : fn.results.toList = res) {r : AV} (hG : Gam n B w0 st a w ρ I) (h : fin T res r st) :
    ∃ v, (results fn a.tmps).run P w = .ok v w ∧ Conc B (fun b => w0.I b ∨ (B ≤ b ∧ b < w.heap.size)) w noId r v := by
  unfold fin at h
  split at h
  · rename_i φ l hl
    obtain ⟨hφ, rfl⟩ := h
    obtain ⟨vs, h1, h2⟩ := ZCa hT hG res hl hφ
    refine ⟨if h : vs.toArray.size = 1 then vs.toArray[0] else .tuple vs.toArray, ?_, ?_⟩
    · unfold results
      have : (fn.results.mapM fun r => match r with | .tmp t => pure (a.tmps.getD t undef) | .cell x t => do loadVar t (← asAddr (a.tmps.getD x undef)) : Sem (Array Value)).run P w = .ok vs.toArray w := by
        rw [Array.mapM_eq_mapM_toList, hres, ← bind_pure_comp]
        simp only [Sem.run_bind, h1, Result.andThen_ok, Sem.run_pure]
      simp only [Sem.run_bind, Sem.run_pure]
      exact congrArg (fun q : Result (Array Value) => q.andThen fun vs w' => Result.ok (if h : vs.size = 1 then vs[0] else Value.tuple vs) w') this
    · refine ZFi true hG.hw (fun _ => Nat.le_refl _) (fun b hb => ?_) (fun b h3 h4 => .inr ⟨h3, h4⟩) 6 (.inl rfl) ?_
      · rcases hG.old.up b hb with h3 | h3
        · exact .inl h3
        · exact .inr ⟨h3, hG.hw.lt b hb⟩
      · match l, vs, h2 with
        | [x], [v], h2 => simpa [retOf] using h2.2 0 (by simp)
        | [], [], h2 => exact .t _ _ (by simp) (fun j hj => by simp at hj)
        | x :: y :: l, v :: u :: vs, h2 =>
          rw [dif_neg (by simp)]
          exact .t _ _ (by simpa using h2.1) (fun j hj => by have := h2.2 j hj; simpa [List.getD_eq_getElem?_getD, Array.getD_eq_getD_getElem?] using this)
        | [], _ :: _, h2 => exact absurd h2.1 (by simp)
        | [_], [], h2 => exact absurd h2.1 (by simp)
        | [_], _ :: _ :: _, h2 => exact absurd h2.1 (by simp)
        | _ :: _ :: _, [], h2 => exact absurd h2.1 (by simp)
        | _ :: _ :: _, [_], h2 => exact absurd h2.1 (by simp)
  · exact h.elim

end

def shut (w : World) : List Nat → World
  | [] => w
  | D :: r => shut (w.putObj D (.deferred none)) r
theorem ZDr : ∀ (Ds : List Nat) (w : World), (shut w Ds).heap.size = w.heap.size
  | [], w => rfl
  | D :: r, w => by rw [shut, ZDr r]; simp
theorem ZE4 : ∀ (Ds : List Nat) (w : World) (b : Nat), b ∉ Ds → (shut w Ds).heap[b]? = w.heap[b]?
  | [], w, b, _ => rfl
  | D :: r, w, b, h => by
    rw [shut, ZE4 r _ b (fun hh => h (by simp [hh]))]
    exact World.putObj_heap_other (fun e => h (by simp [e]))
theorem ZES : ∀ (Ds : List Nat) (w : World) (B : Nat), (∀ D ∈ Ds, B ≤ D) → Below B w (shut w Ds)
  | [], w, B, _ => Below.refl _ _
  | D :: r, w, B, h => by
    rw [shut]
    refine Below.trans ?_ (ZES r _ B (fun D' hD' => h D' (by simp [hD'])))
    exact ⟨rfl, rfl, rfl, by simp [World.putObj], fun k hk => World.putObj_heap_other (fun e => by have := h D (by simp); omega)⟩
theorem ZHf {Ds : List Nat} {w : World} (hD : ∀ D ∈ Ds, w.heap[D]? = some (.deferred (some []))) {ad : Addr} {v : Value} (h : w.cell? ad = some v) : (shut w Ds).cell? ad = some v := by
  have hn : ad.block ∉ Ds := fun hm => by
    have := hD _ hm
    unfold World.cell? at h
    simp [this] at h
  rw [World.cell?_of_block (w := w) (a := ad) (ZE4 Ds w _ hn)]; exact h
theorem ZCN {F : Fence} {m : Nat} {P : Program} {fn : Func} {tmps : Array Value} {R : Ending → World → Prop} : ∀ (Ds : List Nat) (w : World), Ds.Nodup → (∀ D ∈ Ds, w.heap[D]? = some (.deferred (some []))) → (∃ v, (results fn tmps).run P (shut w Ds) = .ok v (shut w Ds) ∧ R (.returned v) (shut w Ds)) →
    LeavesInM F m P fn tmps R (Ds.map (fun D => { target := .collected D, args := #[] })) .returning w
  | [], w, _, _, h => h
  | D :: r, w, hn, hD, h => by
    refine ⟨by simp, .inl ⟨D, _, rfl, run_takeDeferred (hD D (by simp)), ?_⟩⟩
    refine ZCN r _ (List.nodup_cons.1 hn).2 (fun D' hD' => ?_) h
    rw [World.putObj_heap_other (fun e => (List.nodup_cons.1 hn).1 (by rw [← e]; exact hD'))]
    exact hD D' (by simp [hD'])

theorem Gam.shut {n B : Nat} {w0 : Orig} {st : St} {a : Act} {w : World} {ρ : Nat → Option Value} {I : Nat → Prop} (h : Gam n B w0 st a w ρ I) : ∃ Ds : List Nat, a.defers = Ds.map (fun D => { target := .collected D, args := #[] }) ++ w0.ds ∧ Ds.Nodup ∧ (∀ D ∈ Ds, w.heap[D]? = some (.deferred (some []))) ∧
    Gam n B w0 st { a with defers := w0.ds } (shut w Ds) ρ I := by
  obtain ⟨Ds, h1, h2, h3⟩ := h.defers
  have hD : ∀ D ∈ Ds, w.heap[D]? = some (.deferred (some [])) := fun D hD => (h3 D hD).2.2.2
  have hc : ∀ {ρ' : Nat → Option Value} {x : AV} {u : Value}, Conc B I w ρ' x u → Conc B I (Eng.shut w Ds) ρ' x u := fun h => h.monoC (Nat.le_refl _) (fun _ h => h) (fun ad v _ hv => ZHf hD hv) _ (fun _ _ h => h)
  refine ⟨Ds, h1, h2, hD, Marks.nil, h.size, fun s => hc (h.env s), ⟨fun id blk hk => ?_, h.hw.apart, h.hw.imm, fun b hb => by rw [ZDr]; exact h.hw.lt b hb⟩, h.below.trans (ZES Ds w B fun D hD' => (h3 D hD').1), by rw [ZDr]; exact h.base, ⟨h.old.up, h.old.gh, h.old.ghn, fun b hb => ⟨(h.old.keep b hb).1, by rw [ZE4 Ds w b (fun hm => (h3 b hm).2.1 hb)]; exact (h.old.keep b hb).2⟩⟩⟩
  obtain ⟨x, hx, hok⟩ := h.hw.ok id blk hk
  have hr : ∀ b, rootBlk x = some b → (Eng.shut w Ds).heap[b]? = w.heap[b]? := fun b hb => ZE4 Ds w b (fun hm => h.hw.imm id blk x b hk hx hb (h3 b hm).2.2.1)
  refine ⟨x, hx, ?_⟩
  cases blk with
  | box t c =>
    obtain ⟨b, us, rfl, hB, hh, hl, hcc⟩ := hok
    exact ⟨b, us, rfl, hB, by rw [hr b rfl]; exact hh, hl, fun j u hu => hc (hcc j u hu)⟩
  | row e sz c =>
    obtain ⟨m, xs, ho, hl, hcc⟩ := hok
    exact ⟨m, xs, ZBY ho hr, hl, fun j u hu => hc (hcc j u hu)⟩
  | mp c =>
    obtain ⟨b', rfl, hB, es, clock, hh, r⟩ := hok
    exact ⟨b', rfl, hB, es, clock, by rw [hr b' rfl]; exact hh, r⟩
  | mpa kd ks c =>
    obtain ⟨b', vals, rfl, hB, ⟨es, clock, hh, r⟩, hl, hl2, hcc⟩ := hok
    exact ⟨b', vals, rfl, hB, ⟨es, clock, by rw [hr b' rfl]; exact hh, r⟩, hl, hl2, fun j u hu => hc (hcc j u hu)⟩
  | nst e c =>
    obtain ⟨m, xs, ho, hl, hcc⟩ := hok
    exact ⟨m, xs, ZBY ho hr, hl, fun j u hu => hc (hcc j u hu)⟩

theorem ZBo {P : Program} {f : FuncId} {fn : Func} {c : Code} {n B : Nat} {w0 : Orig} {Q : Exit → St → Prop} {st : St} {vs : Array Value} {w : World} {R : Ending → World → Prop} (hf : P.funcs[f]? = some fn) (hb : fn.body = some c) (hrd : w0.rd = none) (hds : w0.ds = [])
    (h : AWP P n B w0 c Q st) (hG : G n B w0 st { tmps := vs ++ Array.replicate (fn.ntmps - vs.size) undef, defers := [] } w)
    (hend : ∀ e st' a' w' ρ I, Q e st' → Gam n B w0 st' a' w' ρ I → (e = .ret ∨ e = .normal) ∧ ∃ v, (results fn a'.tmps).run P w' = .ok v w' ∧ R (.returned v) w') : Calls P f vs w R := by
  have hfo : fo w0 = Fence.wide := by unfold fo; rw [hrd]; rfl
  have hw := h _ w hG
  rw [hfo] at hw
  refine (callsIn_wide (n := 0)).1 (callsIn_of_wp_marks hf hb trivial (wpIn_mono hw fun e a' w' ⟨st', h1, ρ, I, hG'⟩ => ?_) rfl)
  obtain ⟨Ds, d1, d2, d3, hG2⟩ := hG'.shut
  obtain ⟨he, v, hv, hR⟩ := hend e st' _ _ ρ I h1 hG2
  rw [hds, List.append_nil] at d1
  rcases he with rfl | rfl
  · show LeavesInM _ _ _ _ _ _ _ _ _
    rw [d1]
    exact ZCN Ds w' d2 d3 ⟨v, hv, hR⟩
  · show LeavesInM _ _ _ _ _ _ _ _ _
    rw [d1]
    exact ZCN Ds w' d2 d3 ⟨v, hv, hR⟩

section
variable {P : Program} {T : Tab} (hT : T.ok P) {n B : Nat} {w0 : Orig} {st : St} {a : Act} {w : World} {ρ : Nat → Option Value} {I : Nat → Prop}
theorem ZC0 {args : List AV} {vs : Array Value} {m : Nat} {B : Nat} {I : Nat → Prop} {w : World} {ρ : Nat → Option Value} (hargs : ConcL B I w ρ args vs.toList) (s : Nat) : Conc B I w ρ (lk (argEnv 0 args) s) ((vs ++ Array.replicate m undef).getD s undef) := by
  have hsz : vs.size = args.length := by rw [← Array.length_toList, hargs.1]
  rw [ZFl, if_pos (Nat.zero_le _), Nat.sub_zero]
  by_cases hs : s < args.length
  · have h2 := hargs.2 s hs
    have e : (vs ++ Array.replicate m undef).getD s undef = vs.toList.getD s undef := by
      have : s < vs.size := by omega
      rw [Array.getD_eq_getD_getElem?, Array.getElem?_append_left this]
      simp [List.getD_eq_getElem?_getD]
    rw [e]; exact h2
  · have e : args.getD s .top = .top := by simp [List.getD_eq_getElem?_getD]; rw [List.getElem?_eq_none (by omega)]; rfl
    rw [e]; exact .top _
include hT in
theorem ZB6 {f : FuncId} {fn : Func} {c : Code} {res : List ResultVar} {args : List AV} {r : AV} (hf : P.funcs[f]? = some fn) (hb : fn.body = some c) (hname : (fn.name == "runtime.NumGoroutine") = false) (hres : fn.results.toList = res) (hn : fn.ntmps = n) (hle : args.length ≤ n)
    (h : ∀ B w0, (∀ id, w0.gh id = none) → w0.rd = none → AWP P n B w0 c (EndsA T res r) ⟨argEnv 0 args, []⟩) : Pure P f args r := by
  refine ⟨⟨fn, hf, hname, by rw [hb]; rfl⟩, fun w I vs hI hargs => ?_⟩
  refine ZBo hf hb rfl rfl (h w.heap.size ⟨w, I, fun _ => none, [], none⟩ (fun _ => rfl) rfl) ⟨noId, I, ?_⟩ fun e st' a' w' ρ I' h1 hG => ?_
  · have hsz : vs.size = args.length := by rw [← Array.length_toList, hargs.1]
    exact ⟨Marks.nil, by simp [hn]; omega, fun s => ZC0 hargs s, ⟨fun id blk hk => (by cases hk), fun _ _ _ _ _ _ _ _ hk => (by cases hk), fun _ _ _ _ hk => (by cases hk), hI⟩, Below.refl _ _, Nat.le_refl _, ⟨fun b hb => .inl hb, (fun _ _ h => nomatch h), fun _ _ => rfl, fun b hb => ⟨hb, rfl⟩⟩⟩
  · have key : fin T res r st' → ∃ v, (results fn a'.tmps).run P w' = .ok v w' ∧ ∃ v_1, Ending.returned v = .returned v_1 ∧ Below w.heap.size w w' ∧ Conc w.heap.size (fun b => I b ∨ (w.heap.size ≤ b ∧ b < w'.heap.size)) w' noId r v_1 := fun hfin => by
      obtain ⟨v, h2, h3⟩ := fin_ok hT hres hG hfin
      exact ⟨v, h2, v, rfl, hG.below, h3⟩
    cases e with
    | ret => exact ⟨.inl rfl, key h1⟩
    | normal => exact ⟨.inr rfl, key h1⟩
    | _ => exact h1.elim
include hT in
theorem ZAV {f : FuncId} {fn : Func} {c : Code} {res : List ResultVar} {args : List AV} {r : AV} (hf : P.funcs[f]? = some fn) (hb : fn.body = some c) (hname : (fn.name == "runtime.NumGoroutine") = false) (hres : fn.results.toList = res) (hn : fn.ntmps = n) (hle : args.length ≤ n)
    (h : ∀ B w0, AWP P n B w0 c (EndsA T res r) ⟨argEnv 0 args, []⟩) : Pure P f args r := ZB6 hT hf hb hname hres hn hle fun B w0 _ _ => h B w0
end
end Go.Eng
namespace Go.Eng
open Go.RowKit

def quietOp : Op → Bool
  | .move _ => true
  | .assign _ => true
  | .pick _ _ _ => true
  | .load _ _ => true
  | .nilCheck _ => true
  | .binOp _ _ _ _ _ => true
  | .unOp _ _ _ => true
  | .convert _ _ _ => true
  | .makeFunc _ _ _ => true
  | .slice _ _ _ _ _ => true
  | .fieldAddr _ _ _ => true
  | .field _ _ _ => true
  | .indexAddr _ _ _ => true
  | .index _ _ _ => true
  | .extract _ _ => true
  | .build _ _ => true
  | .buildSlice _ _ _ => true
  | .lookup _ _ _ _ => true
  | .call c => match c.callee with
    | .value _ => true
    | .builtin .len => true
    | .builtin .min => true
    | .builtin .max => true
    | _ => false
  | _ => false

theorem ZGb {T : Tab} {H : List (Nat × Blk)} {ev ev' : Operand → AV} {op : Op} (h : ∀ x ∈ op.operands, ev x = ev' x) : pv T H ev op = pv T H ev' op := by
  have hl : ∀ (a : Array Operand), (∀ x ∈ a, ev x = ev' x) → a.toList.map ev = a.toList.map ev' := fun a ha => List.map_congr_left fun x hx => ha x (by simpa using hx)
  cases op <;> simp only [Op.operands] at h <;> simp only [pv] <;> try (simp [h]; done)
  case makeFunc fn first caps => split <;> simp only [Option.some.injEq, Prod.mk.injEq, true_and, AV.f.injEq] ; exact hl caps fun x hx => h x (by simp [hx])
  case slice t x lo hi mx =>
    split
    · have h1 : ev x = ev' x := h x (by simp)
      have h2 : lo.map ev = lo.map ev' := by cases lo with | none => rfl | some y => simp [h y (by simp)]
      have h3 : hi.map ev = hi.map ev' := by cases hi with | none => rfl | some y => simp [h y (by simp)]
      rw [h1, h2, h3]
    · rfl
  case build t ps =>
    have : (ps.toList.map fun p => (p.1, ev p.2)) = ps.toList.map fun p => (p.1, ev' p.2) := List.map_congr_left fun p hp => by
      rw [h p.2 (by simp; exact ⟨p.1, by simpa using hp⟩)]
    rw [this]
  case call c =>
    obtain ⟨callee, args, ats⟩ := c
    have ha : args.toList.map ev = args.toList.map ev' := hl args fun x hx => h x (by simp [Call.operands, hx])
    simp only [ha]
    cases callee with
    | builtin b =>
      cases b <;> try rfl
      simp only
      split
      · rename_i x t h1 h2
        rw [h x (by have : x ∈ args.toList := by rw [h1]; simp
                    simp [Call.operands]; simpa using this)]
      · rfl
    | _ => rfl

theorem ZGc {T : Tab} {ev ev' : Operand → AV} {op : Op} (h : ∀ x ∈ op.operands, ev x = ev' x) : qb T ev op = qb T ev' op := by
  cases op <;> simp only [Op.operands] at h <;> simp only [qb]
  case buildSlice t n ps =>
    have : (ps.toList.map fun p => (p.1, ev p.2)) = ps.toList.map fun p => (p.1, ev' p.2) := List.map_congr_left fun p hp => by
      rw [h p.2 (by simp; exact ⟨p.1, by simpa using hp⟩)]
    rw [this]

theorem ZCO {ev ev' : Operand → AV} {op : Op} (h : ∀ x ∈ op.operands, ev x = ev' x) : callee? ev op = callee? ev' op := by
  cases op <;> simp only [Op.operands] at h <;> simp only [callee?]
  case call c =>
    obtain ⟨callee, args, ats⟩ := c
    have ha : args.toList.map ev = args.toList.map ev' := List.map_congr_left fun x hx => h x (by simp [Call.operands]; right; simpa using hx)
    simp only [ha]
    cases callee with
    | value f => simp only [h f (by simp [Call.operands])]
    | _ => rfl

section
variable {P : Program} {T : Tab} {n : Nat} {ops : Array Oper}

theorem ZBS {st st' : St} {o : Oper} (h : ∀ t ∈ o.looksAt ops, lk st.env t = lk st'.env t) : ∀ x ∈ o.op.operands, st.ev x = st'.ev x := by
  intro x hx
  cases x with
  | tmp t => exact h t (by simp only [Oper.looksAt, List.mem_append, List.mem_filterMap]; exact .inl ⟨.tmp t, by simpa using hx, rfl⟩)
  | _ => rfl
theorem ZCm {st st' : St} {o : Oper} (h : ∀ t ∈ o.looksAt ops, lk st.env t = lk st'.env t) : guardB st ops o.guard = guardB st' ops o.guard := by
  cases hg : o.guard with
  | none => rfl
  | some p =>
    obtain ⟨j, want⟩ := p
    simp only [guardB]
    cases hd : (ops[j]?).bind (·.dst) with
    | none => rfl
    | some d =>
      have : lk st.env d = lk st'.env d := h d (by simp only [Oper.looksAt, List.mem_append]; right; simp [hg, hd])
      simp only [this]

theorem ZGd {st : St} {o : Oper} {K : St → Prop} (hq : quietOp o.op = true) (h : al T st o K) : False := by
  unfold al at h
  cases ho : o.op <;> rw [ho] at hq <;> simp only [ho] at h <;> simp [quietOp] at hq
  case call c =>
    obtain ⟨callee, args, ats⟩ := c
    cases callee with
    | builtin b => cases b <;> simp at hq <;> simp at h
    | _ => simp at h

theorem ZCb {st : St} {o : Oper} {K : St → Prop} (hq : quietOp o.op = true) (h : AStep P T n ops o K st) :
    ∃ r, K (st.put o.dst r) ∧ ∀ st' : St, st'.heap = st.heap → (∀ t ∈ o.looksAt ops, lk st'.env t = lk st.env t) → AStep P T n ops o (fun s => s = st'.put o.dst r) st' := by
  obtain ⟨hd, h⟩ := h
  have key : ∀ (st' : St), st'.heap = st.heap → (∀ t ∈ o.looksAt ops, lk st'.env t = lk st.env t) → guardB st' ops o.guard = guardB st ops o.guard ∧ pv T st'.heap st'.ev o.op = pv T st.heap st.ev o.op ∧ qb T st'.ev o.op = qb T st.ev o.op ∧ callee? st'.ev o.op = callee? st.ev o.op := fun st' hh hl =>
    ⟨ZCm hl, by rw [hh]; exact ZGb (ZBS hl), ZGc (ZBS hl), ZCO (ZBS hl)⟩
  cases hg : guardB st ops o.guard with
  | none => rw [hg] at h; exact h.elim
  | some g =>
    rw [hg] at h
    cases g with
    | none =>
      simp only at h
      cases hp : pv T st.heap st.ev o.op with
      | some pr =>
        obtain ⟨φ, r⟩ := pr
        rw [hp] at h
        refine ⟨r, h.2, fun st' hh hl => ?_⟩
        obtain ⟨k1, k2, k3, k4⟩ := key st' hh hl
        unfold AStep; rw [k1, hg]; simp only [k2, hp]
        exact ⟨hd, h.1, trivial⟩
      | none =>
        rw [hp] at h; simp only at h
        cases hb : qb T st.ev o.op with
        | some pr =>
          obtain ⟨φ, r⟩ := pr
          rw [hb] at h
          refine ⟨r, h.2, fun st' hh hl => ?_⟩
          obtain ⟨k1, k2, k3, k4⟩ := key st' hh hl
          unfold AStep; rw [k1, hg]; simp only [k2, hp, k3, hb]
          exact ⟨hd, h.1, trivial⟩
        | none =>
          rw [hb] at h; simp only at h
          cases hc : callee? st.ev o.op with
          | some pr =>
            obtain ⟨ψ, k, args⟩ := pr
            rw [hc] at h; simp only at h
            obtain ⟨h1, r, h2, h3⟩ := h
            refine ⟨r, h3, fun st' hh hl => ?_⟩
            obtain ⟨k1, k2, k3, k4⟩ := key st' hh hl
            unfold AStep; rw [k1, hg]; simp only [k2, hp, k3, hb, k4, hc]
            exact ⟨hd, h1, r, by rw [hh]; exact h2, rfl⟩
          | none => rw [hc] at h; exact (ZGd hq h).elim
    | some b =>
      simp only at h
      cases hp : pv T st.heap st.ev o.op with
      | some pr =>
        obtain ⟨φ, r⟩ := pr
        rw [hp] at h
        refine ⟨.g b r, h.2, fun st' hh hl => ?_⟩
        obtain ⟨k1, k2, k3, k4⟩ := key st' hh hl
        unfold AStep; rw [k1, hg]; simp only [k2, hp]
        exact ⟨hd, h.1, trivial⟩
      | none =>
        rw [hp] at h; simp only at h
        cases hb : qb T st.ev o.op with
        | some pr =>
          obtain ⟨φ, r⟩ := pr
          rw [hb] at h
          refine ⟨.g b r, h.2, fun st' hh hl => ?_⟩
          obtain ⟨k1, k2, k3, k4⟩ := key st' hh hl
          unfold AStep; rw [k1, hg]; simp only [k2, hp, k3, hb]
          exact ⟨hd, h.1, trivial⟩
        | none =>
          rw [hb] at h; simp only at h
          cases hc : callee? st.ev o.op with
          | some pr =>
            obtain ⟨ψ, k, args⟩ := pr
            rw [hc] at h; simp only at h
            obtain ⟨r, h2, h3⟩ := h
            refine ⟨.g b r, h3, fun st' hh hl => ?_⟩
            obtain ⟨k1, k2, k3, k4⟩ := key st' hh hl
            unfold AStep; rw [k1, hg]; simp only [k2, hp, k3, hb, k4, hc]
            exact ⟨hd, r, by rw [hh]; exact h2, rfl⟩
          | none => rw [hc] at h; exact h.elim

theorem al_ex {st : St} {o : Oper} {K : St → Prop} (h : al T st o K) : ∃ st', al T st o (fun s => s = st') ∧ K st' := by
  cases ho : o.op <;> simp only [al, ho] at h ⊢ <;> first | exact h.elim | skip
  case alloc t => split at h <;> first | exact h.elim | skip
                  exact ⟨_, rfl, h⟩
  case box t x => split at h <;> first | exact h.elim | skip
                  exact ⟨_, ⟨h.1, rfl⟩, h.2⟩
  case store t x y =>
    split at h <;> first | exact h.elim | skip
    split at h <;> first | exact h.elim | skip
    · split at h <;> first | exact h.elim | skip
      exact ⟨_, ⟨h.1, rfl⟩, h.2⟩
    · split at h <;> first | exact h.elim | skip
      exact ⟨_, ⟨h.1, rfl⟩, h.2⟩
    · split at h <;> first | exact h.elim | skip
      exact ⟨_, ⟨h.1, rfl⟩, h.2⟩
  case makeSlice t l c =>
    split at h <;> first | exact h.elim | skip
    split at h <;> first | exact h.elim | skip
    exact ⟨_, ⟨h.1, rfl⟩, h.2⟩
  case call c =>
    split at h <;> first | exact h.elim | skip
    split at h <;> first | exact h.elim | skip
    split at h <;> first | exact h.elim | skip
    split at h <;> first | exact h.elim | skip
    split at h
    · obtain ⟨ys, h1, h2⟩ := h
      exact ⟨_, ⟨ys, h1, rfl⟩, h2⟩
    · split at h <;> first | exact h.elim | skip
      obtain ⟨ys, h1, h2⟩ := h
      exact ⟨_, ⟨ys, h1, rfl⟩, h2⟩

theorem ZJr {st : St} {o : Oper} {K : St → Prop} (h : AStep P T n ops o K st) : ∃ st', AStep P T n ops o (fun s => s = st') st ∧ K st' := by
  by_cases hq : quietOp o.op = true
  · obtain ⟨r, h1, h2⟩ := ZCb hq h
    exact ⟨_, h2 st rfl (fun _ _ => rfl), h1⟩
  · obtain ⟨hd, h⟩ := h
    unfold AStep
    split at h
    · exact h.elim
    · split at h
      · exact ⟨_, ⟨hd, h.1, rfl⟩, h.2⟩
      · split at h
        · exact ⟨_, ⟨hd, h.1, rfl⟩, h.2⟩
        · split at h
          · obtain ⟨h1, r, h2, h3⟩ := h; exact ⟨_, ⟨hd, h1, r, h2, rfl⟩, h3⟩
          · obtain ⟨st', h1, h2⟩ := al_ex h; exact ⟨st', ⟨hd, h1⟩, h2⟩
    · split at h
      · exact ⟨_, ⟨hd, h.1, rfl⟩, h.2⟩
      · split at h
        · exact ⟨_, ⟨hd, h.1, rfl⟩, h.2⟩
        · split at h
          · obtain ⟨r, h2, h3⟩ := h; exact ⟨_, ⟨hd, r, h2, rfl⟩, h3⟩
          · exact h.elim

theorem ZGe {K : St → Prop} : ∀ (l : List Oper) (st : St), AOps P T n ops K l st → ∃ σ : Nat → St, σ 0 = st ∧ K (σ l.length) ∧ ∀ i o, l[i]? = some o → AStep P T n ops o (fun s => s = σ (i + 1)) (σ i)
  | [], st, h => ⟨fun _ => st, rfl, h, fun i o hi => by simp at hi⟩
  | o :: l, st, h => by
    obtain ⟨st1, h1, h2⟩ := ZJr h
    obtain ⟨σ, s0, sN, sS⟩ := ZGe l st1 h2
    refine ⟨fun i => match i with | 0 => st | i + 1 => σ i, rfl, sN, fun i o' hi => ?_⟩
    cases i with
    | zero => simp at hi; subst hi; simp only [s0]; exact h1
    | succ i => simp at hi; exact sS i o' hi
end

def uni (ms : List Nat) : List Edge → Nat
  | [] => 0
  | e :: r => if Region.binds .any e then (2 ^ e.on ||| ms.getD e.on 0) ||| uni ms r else uni ms r
def conf (ops : Array Oper) (x y : Oper) : Bool :=
  (match x.dst with | some d => (y.looksAt ops).contains d || y.dst == some d | none => false) ||
  (match y.dst with | some d => (x.looksAt ops).contains d | none => false) || !quietOp x.op || !quietOp y.op
def drawOk (l : List Oper) (ms : List Nat) : Bool :=
  (List.range l.length).all fun j => match l[j]? with
    | none => true
    | some oj => oj.after.toList.all (fun e => !Region.binds .any e || decide (e.on < j)) && ((ms.getD j 0 &&& uni ms oj.after.toList) == ms.getD j 0) &&
      (List.range j).all fun i => match l[i]? with
        | none => true
        | some oi => !conf l.toArray oi oj || (ms.getD j 0).testBit i

theorem ZDf {ms : List Nat} {i : Nat} : ∀ {l : List Edge}, (uni ms l).testBit i = true → ∃ e ∈ l, Region.binds .any e = true ∧ (e.on = i ∨ (ms.getD e.on 0).testBit i = true)
  | [], h => by simp [uni] at h
  | e :: r, h => by
    simp only [uni] at h
    split at h
    · rename_i hb
      rw [Nat.testBit_or, Nat.testBit_or, Nat.testBit_two_pow] at h
      simp only [Bool.or_eq_true, decide_eq_true_eq] at h
      rcases h with (h | h) | h
      · exact ⟨e, by simp, hb, .inl h⟩
      · exact ⟨e, by simp, hb, .inr h⟩
      · obtain ⟨e', h1, h2⟩ := ZDf h; exact ⟨e', by simp [h1], h2⟩
    · obtain ⟨e', h1, h2⟩ := ZDf h; exact ⟨e', by simp [h1], h2⟩

structure DrawOk (l : List Oper) (ms : List Nat) : Prop where
  lt : ∀ j o, l[j]? = some o → ∀ e ∈ o.after, Region.binds .any e = true → e.on < j
  sub : ∀ j o, l[j]? = some o → ∀ i, (ms.getD j 0).testBit i = true → ∃ e ∈ o.after, Region.binds .any e = true ∧ (e.on = i ∨ (ms.getD e.on 0).testBit i = true)
  conf : ∀ i j oi oj, i < j → l[i]? = some oi → l[j]? = some oj → conf l.toArray oi oj = true → (ms.getD j 0).testBit i = true

theorem ZGC {l : List Oper} {ms : List Nat} (h : drawOk l ms = true) : DrawOk l ms := by
  unfold drawOk at h
  rw [List.all_eq_true] at h
  have hj : ∀ j o, l[j]? = some o → j < l.length := fun j o hj => (List.getElem?_eq_some_iff.1 hj).1
  refine ⟨fun j o ho e he hb => ?_, fun j o ho i hi => ?_, fun i j oi oj hij hi ho hc => ?_⟩ <;> have h1 := h j (by simp [hj j _ ho]) <;> simp only [ho, Bool.and_eq_true] at h1
  · have := List.all_eq_true.1 h1.1.1 e (by simpa using he)
    simpa [hb] using this
  · have h2 : (ms.getD j 0 &&& uni ms o.after.toList) = ms.getD j 0 := by simpa using h1.1.2
    rw [← h2, Nat.testBit_and] at hi
    simp only [Bool.and_eq_true] at hi
    obtain ⟨e, h3, h4⟩ := ZDf hi.2
    exact ⟨e, by simpa using h3, h4⟩
  · have := List.all_eq_true.1 h1.2 i (by simp [hij])
    simp only [hi] at this
    simpa [hc] using this

theorem ZC1 {α : Type} {p q : α → Bool} : ∀ {l : List α}, (∀ x ∈ l, q x = true → p x = true) → (∃ x ∈ l, p x = true ∧ q x = false) → l.countP q < l.countP p
  | [], _, h => by obtain ⟨x, hx, _⟩ := h; simp at hx
  | x :: l, h1, h2 => by
    have hle : l.countP q ≤ l.countP p := List.countP_mono_left (fun y hy => h1 y (by simp [hy]))
    simp only [List.countP_cons]
    by_cases hx : p x = true ∧ q x = false
    · simp [hx.1, hx.2]; omega
    · obtain ⟨y, hy, hp, hq⟩ := h2
      have hy' : y ∈ l := by
        rcases List.mem_cons.1 hy with rfl | h
        · exact absurd ⟨hp, hq⟩ hx
        · exact h
      have := ZC1 (l := l) (fun z hz => h1 z (by simp [hz])) ⟨y, hy', hp, hq⟩
      have h3 := h1 x (by simp)
      cases hqx : q x
      · simp; omega
      · simp [h3 hqx]; omega

end Go.Eng
namespace Go.Eng
open Go.RowKit

def elist (E : List (Nat × AV)) (l : List Oper) (val : Nat → AV) (L : Nat → Bool) (k : Nat) : Nat → List (Nat × AV)
  | 0 => E
  | c + 1 => match (if L (k + c) then (l[k + c]?).bind (·.dst) else none) with
    | some d => (d, val (k + c)) :: elist E l val L k c
    | none => elist E l val L k c

section
variable {E : List (Nat × AV)} {l : List Oper} {val : Nat → AV} {L M : Nat → Bool} {k : Nat}

theorem ZB7 (t : Nat) : ∀ c, (∀ i, k ≤ i → i < k + c → (l[i]?).bind (·.dst) = some t → L i = M i) → lk (elist E l val L k c) t = lk (elist E l val M k c) t
  | 0, _ => rfl
  | c + 1, h => by
    have ih := ZB7 t c (fun i h1 h2 => h i h1 (by omega))
    simp only [elist]
    cases hd : (l[k + c]?).bind (·.dst) with
    | none => simp only [ite_self]; exact ih
    | some d =>
      by_cases hdt : d = t
      · subst hdt
        have := h (k + c) (by omega) (by omega) hd
        rw [this]
        cases M (k + c)
        · simpa using ih
        · simp [lk]
      · have aux : ∀ (X : Bool) (R : List (Nat × AV)), lk (match (if X = true then some d else none) with | some d => (d, val (k + c)) :: R | none => R) t = lk R t := fun X R => by
          cases X
          · rfl
          · simp only [if_true, lk]; rw [if_neg hdt]
        rw [aux, aux]; exact ih

theorem ZBW (σ : Nat → St) (j : Nat) (hE : E = (σ k).env) (hq : ∀ i o, k ≤ i → i < j → l[i]? = some o → (σ (i + 1)).env = ((σ i).put o.dst (val i)).env) (hl : j ≤ l.length) (hL : ∀ i, k ≤ i → i < j → L i = true) : ∀ c, k + c ≤ j → elist E l val L k c = (σ (k + c)).env
  | 0, _ => hE
  | c + 1, h => by
    have ih := ZBW σ j hE hq hl hL c (by omega)
    have hlt : k + c < l.length := by omega
    have ho : l[k + c]? = some l[k + c] := List.getElem?_eq_getElem hlt
    have h1 := hq (k + c) _ (by omega) (by omega) ho
    simp only [elist, hL (k + c) (by omega) (by omega), if_true, ho, Option.bind_some]
    rw [ih, show k + (c + 1) = k + c + 1 from rfl, h1]
    cases hd : (l[k + c]).dst <;> simp [St.put]

theorem ZBD (c0 : Nat) (hL : ∀ i, k + c0 ≤ i → L i = false) : ∀ c, c0 ≤ c → elist E l val L k c = elist E l val L k c0
  | 0, h => by have : c0 = 0 := by omega
               subst this; rfl
  | c + 1, h => by
    by_cases e : c0 = c + 1
    · rw [e]
    · have ih := ZBD c0 hL c (by omega)
      simp only [elist, hL (k + c) (by omega)]
      exact ih

theorem ZC2 (j d : Nat) (hkj : k ≤ j) (hjd : (l[j]?).bind (·.dst) = some d) (hLj : L j = false) (hM : ∀ i, M i = (L i || i == j)) (hno : ∀ i, j < i → L i = true → (l[i]?).bind (·.dst) ≠ some d) (s : Nat) : ∀ c, lk (elist E l val M k c) s = if j < k + c ∧ d = s then val j else lk (elist E l val L k c) s
  | 0 => by simp only [elist]; rw [if_neg (by omega)]
  | c + 1 => by
    have ih := ZC2 j d hkj hjd hLj hM hno s c
    simp only [elist]
    by_cases e : k + c = j
    · rw [e, hM j, hLj, hjd]
      simp only [beq_self_eq_true, Bool.or_true, if_true, lk, Bool.false_eq_true, if_false]
      by_cases hs : d = s
      · rw [if_pos hs, if_pos ⟨by omega, hs⟩]
      · rw [if_neg hs, if_neg (by omega), ih, if_neg (by omega)]
    · have hMc : M (k + c) = L (k + c) := by rw [hM]; simp [e]
      rw [hMc]
      cases hLc : L (k + c)
      · simp only [Bool.false_eq_true, if_false]
        rw [ih]
        by_cases hs : d = s
        · by_cases hj : j < k + c
          · rw [if_pos ⟨hj, hs⟩, if_pos ⟨by omega, hs⟩]
          · rw [if_neg (by omega), if_neg (by omega)]
        · rw [if_neg (by omega), if_neg (by omega)]
      · simp only [if_true]
        cases hd : (l[k + c]?).bind (·.dst) with
        | none =>
          simp only
          rw [ih]
          by_cases hs : d = s
          · by_cases hj : j < k + c
            · rw [if_pos ⟨hj, hs⟩, if_pos ⟨by omega, hs⟩]
            · rw [if_neg (by omega), if_neg (by omega)]
          · rw [if_neg (by omega), if_neg (by omega)]
        | some d' =>
          simp only [lk]
          by_cases hds : d' = s
          · rw [if_pos hds, if_pos hds]
            by_cases hj : j < k + c
            · have := hno (k + c) hj hLc
              rw [hd] at this
              have hne : d ≠ s := fun e => this (by rw [hds, e])
              rw [if_neg (fun hh => hne hh.2)]
            · rw [if_neg (by omega)]
          · rw [if_neg hds, if_neg hds, ih]
            by_cases hs : d = s
            · by_cases hj : j < k + c
              · rw [if_pos ⟨hj, hs⟩, if_pos ⟨by omega, hs⟩]
              · rw [if_neg (by omega), if_neg (by omega)]
            · rw [if_neg (by omega), if_neg (by omega)]

theorem ZCc (j : Nat) (hjd : (l[j]?).bind (·.dst) = none) (hM : ∀ i, M i = (L i || i == j)) : ∀ c, elist E l val M k c = elist E l val L k c
  | 0 => rfl
  | c + 1 => by
    have ih := ZCc j hjd hM c
    simp only [elist]
    by_cases e : k + c = j
    · rw [e, hjd]; simp only [ite_self]; exact ih
    · have hMc : M (k + c) = L (k + c) := by rw [hM]; simp [e]
      rw [hMc, ih]
end

theorem G.congr {n B : Nat} {w0 : Orig} {st st' : St} {a : Act} {w : World} (hG : G n B w0 st a w) (hE : ∀ s, lk st'.env s = lk st.env s) (hH : st'.heap = st.heap) : G n B w0 st' a w := by
  obtain ⟨ρ, I, h⟩ := hG
  exact ⟨ρ, I, h.defers, h.size, fun s => by rw [hE]; exact h.env s, by rw [hH]; exact h.hw, h.below, h.base, h.old⟩

section
variable {P : Program} {T : Tab} (hT : T.ok P) {n B : Nat} {w0 : Orig} {l : List Oper} {ms : List Nat} (hD : DrawOk l ms)
include hD

theorem ZCn {L : Nat → Bool} (hdc : ∀ j o, l[j]? = some o → L j = true → ∀ e ∈ o.after, Region.binds .any e = true → L e.on = true) :
    ∀ (m j : Nat), j < m → ∀ o, l[j]? = some o → (∀ e ∈ o.after, Region.binds .any e = true → L e.on = true) → ∀ i, (ms.getD j 0).testBit i = true → L i = true
  | 0, j, hm => by omega
  | m + 1, j, hm => by
    intro o ho hdep i hi
    obtain ⟨e, he, hb, h⟩ := hD.sub j o ho i hi
    have hlt := hD.lt j o ho e he hb
    have hLe := hdep e he hb
    rcases h with h | h
    · rw [← h]; exact hLe
    · have hjl := (List.getElem?_eq_some_iff.1 ho).1
      have ho' : l[e.on]? = some l[e.on] := List.getElem?_eq_getElem (by omega)
      exact ZCn hdc m e.on (by omega) _ ho' (hdc _ _ ho' hLe) i h

include hT in
theorem any_ok {Q : Exit → Act → World → Prop} (σ : Nat → St) (val : Nat → AV) (hσ : ∀ i o, l[i]? = some o → AStep P T n l.toArray o (fun s => s = σ (i + 1)) (σ i))
    (hval : ∀ i o, l[i]? = some o → quietOp o.op = true → σ (i + 1) = (σ i).put o.dst (val i) ∧ ∀ st' : St, st'.heap = (σ i).heap → (∀ t ∈ o.looksAt l.toArray, lk st'.env t = lk (σ i).env t) → AStep P T n l.toArray o (fun s => s = st'.put o.dst (val i)) st')
    (hQ : ∀ a w, G n B w0 (σ l.length) a w → Q .normal a w) :
    ∀ (fuel : Nat) (listed : Array Bool) (a : Act) (w : World), listed.size = l.length →
      (∀ j o, l[j]? = some o → listed.getD j false = true → ∀ e ∈ o.after, Region.binds .any e = true → listed.getD e.on false = true) →
      (List.range l.length).countP (fun i => !listed.getD i false) ≤ fuel →
      (∃ k, k ≤ l.length ∧ (∀ i, i < k → listed.getD i false = true) ∧ (∀ i, k ≤ i → listed.getD i false = true → ∀ m o, k ≤ m → m ≤ i → l[m]? = some o → quietOp o.op = true) ∧
        G n B w0 ⟨elist (σ k).env l val (fun i => listed.getD i false) k (l.length - k), (σ k).heap⟩ a w) →
      wpAnyIn (fo w0) 0 P .any l.toArray Q fuel listed a w := by
  intro fuel
  -- the states within a segment of quiet operations
  have seg : ∀ k j, k ≤ j → (∀ m o, k ≤ m → m < j → l[m]? = some o → quietOp o.op = true) → j ≤ l.length → (σ j).heap = (σ k).heap := by
    intro k j hkj hq hjl
    induction j with
    | zero => have : k = 0 := by omega
              subst this; rfl
    | succ j ih =>
      by_cases e : k = j + 1
      · rw [e]
      · have hj : j < l.length := by omega
        have ho : l[j]? = some l[j] := List.getElem?_eq_getElem hj
        rw [(hval j _ ho (hq j _ (by omega) (by omega) ho)).1]
        have := ih (by omega) (fun m o h1 h2 => hq m o h1 (by omega)) (by omega)
        rw [← this]
        cases (l[j]).dst <;> rfl
  have segE : ∀ k j, (∀ m o, k ≤ m → m < j → l[m]? = some o → quietOp o.op = true) → ∀ i o, k ≤ i → i < j → l[i]? = some o → (σ (i + 1)).env = ((σ i).put o.dst (val i)).env := fun k j hq i o h1 h2 ho => by
    rw [(hval i o ho (hq i o h1 h2 ho)).1]
  -- when all is listed
  have done : ∀ (listed : Array Bool) (a : Act) (w : World), (∀ i, i < l.length → listed.getD i false = true) → (∃ k, k ≤ l.length ∧ (∀ i, i < k → listed.getD i false = true) ∧ (∀ i, k ≤ i → listed.getD i false = true → ∀ m o, k ≤ m → m ≤ i → l[m]? = some o → quietOp o.op = true) ∧
        G n B w0 ⟨elist (σ k).env l val (fun i => listed.getD i false) k (l.length - k), (σ k).heap⟩ a w) → Q .normal a w := by
    rintro listed a w hall ⟨k, hk, _, hq, hG⟩
    have hq' : ∀ m o, k ≤ m → m < l.length → l[m]? = some o → quietOp o.op = true := fun m o h1 h2 ho => hq m h1 (hall m h2) m o h1 (Nat.le_refl _) ho
    have hE := ZBW (l := l) (val := val) (L := fun i => listed.getD i false) (k := k) σ l.length rfl (segE k l.length hq') (Nat.le_refl _) (fun i _ h2 => hall i h2) (l.length - k) (by omega)
    refine hQ a w (hG.congr (fun s => ?_) ?_)
    · show lk (σ l.length).env s = lk (elist _ _ _ _ _ _) s
      rw [hE, show k + (l.length - k) = l.length from by omega]
    · exact seg k l.length hk hq' (Nat.le_refl _)
  have getD_true : ∀ (listed : Array Bool) (j : Nat), listed.size = l.length → j < l.length → listed.getD j true = listed.getD j false := fun listed j hs hj => by
    have : j < listed.size := by omega
    simp [this]
  have notready : ∀ (listed : Array Bool), listed.size = l.length → Region.ready .any l.toArray listed = [] → ∀ i, i < l.length → listed.getD i false = true := by
    intro listed hs hr
    have key : ∀ m i, i < m → i < l.length → listed.getD i false = true := by
      intro m
      induction m with
      | zero => intro i h; omega
      | succ m ih =>
        intro i hm hi
        cases hL : listed.getD i false with
        | true => rfl
        | false =>
          exfalso
          have ho : l[i]? = some l[i] := List.getElem?_eq_getElem hi
          have : i ∈ Region.ready .any l.toArray listed := by
            simp only [Region.ready, List.mem_filter, List.mem_range, Bool.and_eq_true]
            refine ⟨by simpa using hi, by rw [getD_true listed i hs hi, hL]; rfl, ?_⟩
            simp only [List.getElem?_toArray, ho, Option.map_some, Option.getD_some]
            rw [Array.all_eq_true_iff_forall_mem]
            intro e he
            cases hb : Region.binds .any e with
            | false => rfl
            | true =>
              have hlt := hD.lt i _ ho e he hb
              rw [ih e.on (by omega) (by omega)]; rfl
          rw [hr] at this; cases this
    exact fun i hi => key (i + 1) i (by omega) hi
  induction fuel with
  | zero =>
    intro listed a w hs hdc hcnt hinv
    have hall : ∀ i, i < l.length → listed.getD i false = true := by
      intro i hi
      have h0 : (List.range l.length).countP (fun i => !listed.getD i false) = 0 := by omega
      rw [List.countP_eq_zero] at h0
      have := h0 i (by simpa using hi)
      simpa using this
    refine ⟨?_, done listed a w hall hinv⟩
    apply List.eq_nil_iff_forall_not_mem.2
    intro i hi
    simp only [Region.ready, List.mem_filter, List.mem_range, Bool.and_eq_true] at hi
    have hil : i < l.length := by simpa using hi.1
    have := hi.2.1
    rw [getD_true listed i hs hil, hall i hil] at this
    cases this
  | succ fuel ih =>
    intro listed a w hs hdc hcnt hinv
    refine ⟨fun hr => done listed a w (notready listed hs hr) hinv, fun j hj => ?_⟩
    simp only [Region.ready, List.mem_filter, List.mem_range, Bool.and_eq_true] at hj
    obtain ⟨hjl, hjn, hjd⟩ := hj
    have hjl : j < l.length := by simpa using hjl
    have hLj : listed.getD j false = false := by rw [getD_true listed j hs hjl] at hjn; simpa using hjn
    have ho : l[j]? = some l[j] := List.getElem?_eq_getElem hjl
    have hdep : ∀ e ∈ (l[j]).after, Region.binds .any e = true → listed.getD e.on false = true := by
      simp only [List.getElem?_toArray, ho, Option.map_some, Option.getD_some] at hjd
      rw [Array.all_eq_true_iff_forall_mem] at hjd
      intro e he hb
      have := hjd e he
      simpa [hb] using this
    have hcl := ZCn hD hdc (j + 1) j (by omega) _ ho hdep
    -- what comes behind j in the text and is tied to it has not come up
    have hafter : ∀ i oi, j < i → l[i]? = some oi → conf l.toArray l[j] oi = true → listed.getD i false = false := by
      intro i oi hji hoi hc
      cases hL : listed.getD i false with
      | false => rfl
      | true =>
        have := ZCn hD hdc (i + 1) i (by omega) _ hoi (hdc i oi hoi hL) j (hD.conf j i _ _ hji ho hoi hc)
        rw [hLj] at this; cases this
    have hbefore : ∀ i oi, i < j → l[i]? = some oi → conf l.toArray oi l[j] = true → listed.getD i false = true := fun i oi hij hoi hc => hcl i (hD.conf i j _ _ hij hoi ho hc)
    obtain ⟨k, hk, hpre, hqs, hG⟩ := hinv
    have hkj : k ≤ j := by
      rcases Nat.lt_or_ge j k with h | h
      · rw [hpre j h] at hLj; cases hLj
      · exact h
    have hM : ∀ i, (listed.setIfInBounds j true).getD i false = (listed.getD i false || i == j) := by
      intro i
      by_cases e : j = i
      · subst e
        have : j < listed.size := by omega
        simp [this]
      · have : (i == j) = false := by simp; omega
        rw [this, Bool.or_false]
        simp [Array.getD_eq_getD_getElem?, Array.getElem?_setIfInBounds_ne e]
    have hs' : (listed.setIfInBounds j true).size = l.length := by simp [hs]
    have hdc' : ∀ i o, l[i]? = some o → (listed.setIfInBounds j true).getD i false = true → ∀ e ∈ o.after, Region.binds .any e = true → (listed.setIfInBounds j true).getD e.on false = true := by
      intro i o hoi hL e he hb
      rw [hM] at hL ⊢
      rcases Bool.or_eq_true_iff.1 hL with hL | hL
      · rw [hdc i o hoi hL e he hb]; rfl
      · have : i = j := by simpa using hL
        subst this
        rw [ho] at hoi; injection hoi with hoi; subst hoi
        rw [hdep e he hb]; rfl
    have hcnt' : (List.range l.length).countP (fun i => !(listed.setIfInBounds j true).getD i false) ≤ fuel := by
      have : (List.range l.length).countP (fun i => !(listed.setIfInBounds j true).getD i false) < (List.range l.length).countP (fun i => !listed.getD i false) := by
        refine ZC1 (fun i _ h => ?_) ⟨j, by simpa using hjl, by rw [hLj]; rfl, by rw [hM]; simp⟩
        rw [hM] at h
        cases h1 : listed.getD i false <;> simp_all
      omega
    have hwp : ∀ (st : St) (K : St → Prop), G n B w0 st a w → AStep P T n l.toArray l[j] K st → (∀ st' a' w', K st' → G n B w0 st' a' w' → wpAnyIn (fo w0) 0 P .any l.toArray Q fuel (listed.setIfInBounds j true) a' w') → wpOpIn (fo w0) 0 P l.toArray Q j (wpAnyIn (fo w0) 0 P .any l.toArray Q fuel (listed.setIfInBounds j true)) a w := by
      rintro st K ⟨ρ, I, hg⟩ hst hnext
      have := ZE0 hT hg hst (wpAnyIn (fo w0) 0 P .any l.toArray Q fuel (listed.setIfInBounds j true)) Q hnext
      unfold wpOpIn
      simp only [List.getElem?_toArray, ho]
      exact toIf (fun _ => ZE1 hst) this
    by_cases hq : quietOp (l[j]).op = true
    · -- a quiet operation
      have hqseg : ∀ m o, k ≤ m → m ≤ j → l[m]? = some o → quietOp o.op = true := by
        intro m o h1 h2 hom
        by_cases e : m = j
        · subst e; rw [ho] at hom; injection hom with hom; subst hom; exact hq
        · cases hqm : quietOp o.op with
          | true => rfl
          | false =>
            have hL := hbefore m o (by omega) hom (by simp [conf, hqm])
            have := hqs m h1 hL m o h1 (Nat.le_refl _) hom
            rw [hqm] at this; cases this
      obtain ⟨_, hv2⟩ := hval j _ ho hq
      have hheap : (σ j).heap = (σ k).heap := seg k j hkj (fun m o h1 h2 => hqseg m o h1 (by omega)) (by omega)
      have hlook : ∀ t ∈ (l[j]).looksAt l.toArray, lk (elist (σ k).env l val (fun i => listed.getD i false) k (l.length - k)) t = lk (σ j).env t := by
        intro t ht
        have e1 := ZB7 (E := (σ k).env) (l := l) (val := val) (L := fun i => listed.getD i false) (M := fun i => decide (i < j)) (k := k) t (l.length - k) (fun i h1 h2 hd => by
          have hil : i < l.length := by omega
          have hoi : l[i]? = some l[i] := List.getElem?_eq_getElem hil
          rw [hoi] at hd
          simp only [Option.bind_some] at hd
          rcases Nat.lt_trichotomy i j with h | h | h
          · rw [hbefore i _ h hoi (by simp [conf, hd, ht])]; simp [h]
          · subst h; rw [hLj]; simp
          · rw [hafter i _ h hoi (by simp [conf, hd, ht])]; simp; omega)
        rw [e1]
        have e2 := ZBD (E := (σ k).env) (l := l) (val := val) (L := fun i => decide (i < j)) (k := k) (j - k) (fun i hi => by simp; omega) (l.length - k) (by omega)
        have e3 := ZBW (l := l) (val := val) (L := fun i => decide (i < j)) (k := k) σ j rfl (segE k j (fun m o h1 h2 => hqseg m o h1 (by omega))) (by omega) (fun i _ h2 => by simp [h2]) (j - k) (by omega)
        rw [e2, e3, show k + (j - k) = j from by omega]
      have hst := hv2 ⟨elist (σ k).env l val (fun i => listed.getD i false) k (l.length - k), (σ k).heap⟩ hheap.symm hlook
      refine hwp _ _ hG hst ?_
      rintro st' a' w' rfl hG'
      refine ih _ a' w' hs' hdc' hcnt' ⟨k, hk, fun i hi => by rw [hM, hpre i hi]; rfl, fun i hi hL m o h1 h2 hom => ?_, ?_⟩
      · rw [hM] at hL
        rcases Bool.or_eq_true_iff.1 hL with hL | hL
        · exact hqs i hi hL m o h1 h2 hom
        · have : i = j := by simpa using hL
          subst this
          exact hqseg m o h1 h2 hom
      · refine hG'.congr (fun s => ?_) (by cases (l[j]).dst <;> rfl)
        cases hd : (l[j]).dst with
        | none =>
          have e := ZCc (E := (σ k).env) (l := l) (val := val) (L := fun i => listed.getD i false) (M := fun i => (listed.setIfInBounds j true).getD i false) (k := k) j (by rw [ho]; exact hd) hM (l.length - k)
          show lk (elist _ _ _ _ _ _) s = lk (elist _ _ _ _ _ _) s
          rw [e]
        | some d =>
          have e := ZC2 (E := (σ k).env) (l := l) (val := val) (L := fun i => listed.getD i false) (M := fun i => (listed.setIfInBounds j true).getD i false) (k := k) j d hkj (by rw [ho]; exact hd) hLj hM (fun i hji hL hdi => by
            have hil : i < l.length := by
              rcases Nat.lt_or_ge i l.length with h | h
              · exact h
              · rw [List.getElem?_eq_none h] at hdi; cases hdi
            have hoi : l[i]? = some l[i] := List.getElem?_eq_getElem hil
            rw [hoi] at hdi
            simp only [Option.bind_some] at hdi
            have := hafter i _ hji hoi (by simp [conf, hd, hdi])
            rw [this] at hL; cases hL) s (l.length - k)
          show lk (elist _ _ _ _ _ _) s = lk ((d, val j) :: elist _ _ _ _ _ _) s
          rw [e]
          simp only [lk]
          by_cases hds : d = s
          · rw [if_pos ⟨by omega, hds⟩, if_pos hds]
          · rw [if_neg (fun hh => hds hh.2), if_neg hds]
    · -- one that turns memory: all that stands ahead of it in the text has come up, nothing behind it
      have hq' : quietOp (l[j]).op = false := by simpa using hq
      have hb : ∀ i, i < j → listed.getD i false = true := fun i hi => hbefore i _ hi (List.getElem?_eq_getElem (by omega)) (by simp [conf, hq'])
      have ha : ∀ i, j < i → listed.getD i false = false := fun i hi => by
        rcases Nat.lt_or_ge i l.length with h | h
        · exact hafter i _ hi (List.getElem?_eq_getElem h) (by simp [conf, hq'])
        · simp [Array.getD_eq_getD_getElem?, Array.getElem?_eq_none (show listed.size ≤ i by omega)]
      have hqseg : ∀ m o, k ≤ m → m < j → l[m]? = some o → quietOp o.op = true := fun m o h1 h2 hom => hqs m h1 (hb m h2) m o h1 (Nat.le_refl _) hom
      have hheap : (σ j).heap = (σ k).heap := seg k j hkj hqseg (by omega)
      have e2 := ZBD (E := (σ k).env) (l := l) (val := val) (L := fun i => listed.getD i false) (k := k) (j - k) (fun i hi => by
        rcases Nat.lt_or_ge j i with h | h
        · exact ha i h
        · have : i = j := by omega
          subst this; exact hLj) (l.length - k) (by omega)
      have e3 := ZBW (l := l) (val := val) (L := fun i => listed.getD i false) (k := k) σ j rfl (segE k j hqseg) (by omega) (fun i _ h2 => hb i h2) (j - k) (by omega)
      have hGj : G n B w0 (σ j) a w := hG.congr (fun s => by
        show lk (σ j).env s = lk (elist _ _ _ _ _ _) s
        rw [e2, e3, show k + (j - k) = j from by omega]) hheap
      refine hwp _ _ hGj (hσ j _ ho) ?_
      rintro st' a' w' rfl hG'
      have hnone : ∀ i, j + 1 ≤ i → (listed.setIfInBounds j true).getD i false = false := fun i hi => by
        rw [hM, ha i (by omega)]; simp; omega
      refine ih _ a' w' hs' hdc' hcnt' ⟨j + 1, by omega, fun i hi => ?_, (fun i hi hL => by rw [hnone i hi] at hL; cases hL), hG'.congr (fun s => ?_) rfl⟩
      · rw [hM]
        rcases Nat.lt_or_ge i j with h | h
        · rw [hb i h]; rfl
        · have : i = j := by omega
          subst this; simp
      · have e4 := ZBD (E := (σ (j + 1)).env) (l := l) (val := val) (L := fun i => (listed.setIfInBounds j true).getD i false) (k := j + 1) 0 (fun i hi => hnone i (by omega)) (l.length - (j + 1)) (Nat.zero_le _)
        show lk (elist _ _ _ _ _ _) s = _
        rw [e4]; rfl
end

theorem ZGf {P : Program} {T : Tab} (hT : T.ok P) {n B : Nat} {w0 : Orig} {Q : Exit → St → Prop} {st : St} {id : Nat} {l : List Oper} (hm : P.follows .mixedOrders = true) (hD : drawOk l (Region.before l.toArray).toList = true)
    (h : AOps P T n l.toArray (fun st' => Q .normal st') l st) : AWP P n B w0 (.region id l.toArray true) Q st := by
  intro a w hG
  have hD' := ZGC hD
  obtain ⟨σ, s0, sN, sS⟩ := ZGe l st h
  have hval : ∃ val : Nat → AV, ∀ i o, l[i]? = some o → quietOp o.op = true → σ (i + 1) = (σ i).put o.dst (val i) ∧ ∀ st' : St, st'.heap = (σ i).heap → (∀ t ∈ o.looksAt l.toArray, lk st'.env t = lk (σ i).env t) → AStep P T n l.toArray o (fun s => s = st'.put o.dst (val i)) st' := by
    have hex : ∀ i, ∃ v, ∀ o, l[i]? = some o → quietOp o.op = true → σ (i + 1) = (σ i).put o.dst v ∧ ∀ st' : St, st'.heap = (σ i).heap → (∀ t ∈ o.looksAt l.toArray, lk st'.env t = lk (σ i).env t) → AStep P T n l.toArray o (fun s => s = st'.put o.dst v) st' := by
      intro i
      cases ho : l[i]? with
      | none => exact ⟨.top, fun o h => by cases h⟩
      | some o =>
        by_cases hq : quietOp o.op = true
        · obtain ⟨r, h1, h2⟩ := ZCb hq (sS i o ho)
          exact ⟨r, fun o' h' _ => by injection h' with h'; subst h'; exact ⟨h1.symm, h2⟩⟩
        · exact ⟨.top, fun o' h' hq' => by injection h' with h'; subst h'; exact absurd hq' hq⟩
    exact ⟨fun i => Classical.choose (hex i), fun i => Classical.choose_spec (hex i)⟩
  obtain ⟨val, hv⟩ := hval
  refine wpIn_region_any hm ?_
  have hG' : G n B w0 st a { w with drawn := w.drawn + 1 } := by
    obtain ⟨ρ, I, hg⟩ := hG
    exact ⟨ρ, I, hg.quiet ⟨⟨rfl, rfl, rfl, Nat.le_refl _, fun _ _ => rfl⟩, fun _ h => h, fun _ h h' => absurd h h', hg.hw.lt⟩⟩
  have hfalse : ∀ i, (Array.replicate l.toArray.size false).getD i false = false := fun i => by
    by_cases hi : i < l.length <;> simp [Array.getD_eq_getD_getElem?, hi]
  refine any_ok hT hD' σ val sS hv (fun a w hg => ⟨_, sN, hg⟩) _ _ a _ (by simp) (fun j o _ hL => by rw [hfalse] at hL; cases hL) ?_ ⟨0, Nat.zero_le _, (fun i hi => by omega), (fun i _ hL => by rw [hfalse] at hL; cases hL), ?_⟩
  · have := List.countP_le_length (p := fun i => !(Array.replicate l.toArray.size false).getD i false) (l := List.range l.length)
    simpa using this
  · refine hG'.congr (fun s => ?_) (by rw [s0])
    have e := ZBD (E := (σ 0).env) (l := l) (val := val) (L := fun i => (Array.replicate l.toArray.size false).getD i false) (k := 0) 0 (fun i _ => hfalse i) (l.length - 0) (Nat.zero_le _)
    show lk (elist _ _ _ _ _ _) s = _
    rw [e]
    show lk (σ 0).env s = _
    rw [s0]

theorem ZAP {P : Program} {T : Tab} (hT : T.ok P) (hm : P.follows .mixedOrders = true) {n B : Nat} {w0 : Orig} {Q : Exit → St → Prop} {st : St} {id : Nat} {l : List Oper} {y : Code} (hD : drawOk l (Region.before l.toArray).toList = true)
    (h : ∀ K : St → Prop, (∀ s, AWP P n B w0 y Q s → K s) → AOps P T n l.toArray K l st) : AWP P n B w0 (.seq (.region id l.toArray true) y) Q st :=
  ZAL (ZGf hT hm hD (h _ fun _ h => h))
theorem ZAe {P : Program} {T : Tab} (hT : T.ok P) (hm : P.follows .mixedOrders = true) {n B : Nat} {w0 : Orig} {Q : Exit → St → Prop} {st : St} {id : Nat} {l : List Oper} (hD : drawOk l (Region.before l.toArray).toList = true)
    (h : ∀ K : St → Prop, (∀ s, Q .normal s → K s) → AOps P T n l.toArray K l st) : AWP P n B w0 (.region id l.toArray true) Q st := ZGf hT hm hD (h _ fun _ h => h)

end Go.Eng
namespace Go.Eng
open Go.RowKit

theorem wrap64 {n : Int} (h1 : -9223372036854775808 ≤ n) (h2 : n ≤ 9223372036854775807) : IntKind.i64.wrap n = n := by rw [IntKind.wrap_i64]; omega
theorem ZJs (b x : Bool) : (bif b then x else false) = (b && x) := by cases b <;> rfl
theorem bif_or (b x : Bool) : (bif b then true else x) = (b || x) := by cases b <;> rfl
theorem ZJA (b x : Bool) : (bif b then false else x) = (!b && x) := by cases b <;> rfl

theorem G.nilRow {n B : Nat} {w0 : Orig} {st : St} {a : Act} {w : World} (hG : G n B w0 st a w) (s d : Nat) (hs : lk st.env s = .v (.slice none 0 0)) (hsn : s < n) (e : TypeId) (sz : Nat) (c : Cont) (hc : c.len = 0) (hdn : d < n := by decide) :
    G n B w0 ⟨(s, .s d) :: killE d st.env, (d, .row e sz c) :: killH d st.heap⟩ a w := by
  obtain ⟨ρ, I, hg⟩ := hG
  have hv : a.tmps.getD s undef = .slice none 0 0 := by
    have := hg.env s
    rw [hs] at this
    exact this.v_inv
  have h1 := hg.new (Below.refl _ w) d (.slice none 0 0) (.row e sz c) ⟨0, [], World.ownsRow_nil w B e sz, by simp [hc], fun j u hu => by simp at hu⟩ (fun b hb => by simp [rootBlk] at hb) (hg.old.ghn d hdn)
  have h2 := h1.put (d := some s) (x := .s d) (u := .slice none 0 0) (fun k hk => by injection hk with hk; omega) (.s d _ (ZAo _ _ _) rfl)
  refine ⟨_, I, h2.defers, h1.size, fun t => ?_, h2.hw, h2.below, h2.base, h2.old⟩
  have h3 := h2.env t
  have : (a.put (some s) (.slice none 0 0)).tmps.getD t undef = a.tmps.getD t undef := by
    simp only [Act.put]
    by_cases e : s = t
    · subst e
      rw [hv]
      have : s < a.tmps.size := by rw [hg.size]; exact hsn
      simp [Array.getD_eq_getD_getElem?, this]
    · simp [Array.getD_eq_getD_getElem?, Array.getElem?_setIfInBounds_ne e]
  rw [this] at h3
  exact h3

theorem G.weaken {n B : Nat} {w0 : Orig} {st st' : St} {a : Act} {w : World} (hG : G n B w0 st a w) (hE : wkE st.env st'.env) (hH : wkH st.heap st'.heap) : G n B w0 st' a w := G.wk hE hH a w hG

theorem ZC3 {P : Program} {n B : Nat} {w0 : Orig} {c : Code} {Q : Exit → St → Prop} {st : St} (st' : St) (hE : wkE st.env st'.env) (hH : wkH st.heap st'.heap) (h : AWP P n B w0 c Q st') : AWP P n B w0 c Q st := fun a w hG => h a w (hG.weaken hE hH)

def Sub (x y : AV) : Prop := ∀ (B : Nat) (I : Nat → Prop) (w : World) (u : Value), Conc B I w noId x u → Conc B I w noId y u
theorem Sub.refl (x : AV) : Sub x x := fun _ _ _ _ h => h
def SubL : List AV → List AV → Prop
  | [], [] => True
  | x :: r, y :: s => Sub x y ∧ SubL r s
  | _, _ => False
theorem SubL.spec : ∀ {xs ys : List AV}, SubL xs ys → ys.length = xs.length ∧ ∀ j, Sub (xs.getD j .top) (ys.getD j .top)
  | [], [], _ => ⟨rfl, fun _ => Sub.refl _⟩
  | x :: r, y :: s, h => by
    obtain ⟨h1, h2⟩ := SubL.spec h.2
    refine ⟨by simp [h1], fun j => ?_⟩
    cases j with
    | zero => simpa using h.1
    | succ j => simpa using h2 j
  | [], _ :: _, h => h.elim
  | _ :: _, [], h => h.elim
theorem Pure.sub {P : Program} {f : FuncId} {xs ys : List AV} {r : AV} (h : Pure P f ys r) (hs : SubL xs ys) : Pure P f xs r := by
  obtain ⟨h1, h2⟩ := hs.spec
  exact ⟨h.1, fun w I vs hI hc => h.2 w I vs hI ⟨by rw [hc.1, h1], fun j hj => h2 j _ _ _ _ (hc.2 j (by rw [← h1]; exact hj))⟩⟩
theorem Pure.eq {P : Program} {f : FuncId} {xs : List AV} {r r' : AV} (h : Pure P f xs r) (e : r = r') : Pure P f xs r' := e ▸ h

abbrev I64 (n : Int) : AV := .v (.int .i64 n)
abbrev BL (b : Bool) : AV := .v (.bool b)
abbrev ints (l : List Int) : AV := .i false (fun e _ => .v (.int .i64 (l.getD e 0))) 1 0 l.length
abbrev intsF (l : List Int) : AV := .i true (fun e _ => .v (.int .i64 (l.getD e 0))) 1 0 l.length

theorem ZBG {fr : Bool} {c c' : Nat → Nat → AV} {sz off off' len len' : Nat} (hl : len = len') (h : ∀ e j, e < len → j < sz → c (off + e) j = c' (off' + e) j) : Sub (.i fr c sz off len) (.i fr c' sz off' len') := by
  subst hl
  intro B I w u hu
  cases hu with
  | i _ _ _ _ _ cap A uu hcap hA hc => exact .i _ _ _ _ _ cap A uu hcap hA (fun e j he hj => by rw [← h e j he hj]; exact hc e j he hj)
theorem sub_nil : Sub (.v (.slice none 0 0)) (ints []) := fun B I w u hu => by
  obtain rfl := hu.v_inv
  exact .i _ _ _ _ _ _ _ (fun _ _ => undef) (by simp) (fun h => by simp at h) (fun e j he => by simp at he)
end Go.Eng
namespace Go.Eng
end Go.Eng
namespace Go.Eng
open Go.RowKit

theorem wf64 {n : Int} (h : (Lit.int .i64 n).wf = true) : -9223372036854775808 ≤ n ∧ n ≤ 9223372036854775807 := by
  simp only [Lit.wf, Bool.and_eq_true, decide_eq_true_eq] at h
  have h1 : IntKind.i64.min = -9223372036854775808 := by decide
  have h2 : IntKind.i64.max = 9223372036854775807 := by decide
  omega

theorem ConcL.cons {B : Nat} {I : Nat → Prop} {w : World} {ρ : Nat → Option Value} {x : AV} {u : Value} {cs : List AV} {us : List Value} (h : Conc B I w ρ x u) (hl : ConcL B I w ρ cs us) : ConcL B I w ρ (x :: cs) (u :: us) := by
  refine ⟨by simp [hl.1], fun j hj => ?_⟩
  cases j with
  | zero => simpa using h
  | succ j => simpa using hl.2 j (by simpa using hj)

theorem ConcL.nil {B : Nat} {I : Nat → Prop} {w : World} {ρ : Nat → Option Value} : ConcL B I w ρ [] [] := ⟨rfl, fun j hj => by simp at hj⟩

theorem Pure.walk {P : Program} {f : FuncId} {args : List AV} {b : Value} (h : Pure P f args (.v b)) {vs : Array Value} {w : World} (hc : ConcL w.heap.size (allB w) w noId args vs.toList) :
    Calls P f vs w fun e w' => e = .returned b ∧ Below w.heap.size w w' :=
  (h.2 w (allB w) vs (fun _ h => h) hc).mono fun e w' ⟨v, he, hb, hv⟩ => ⟨by rw [he, hv.v_inv], hb⟩
end Go.Eng
namespace Go.Eng
open Go.RowKit
attribute [push_cast] AOps AStep dstOk guardB AV.cnd pv pvLoad pvIndexAddr pvFieldAddr pvField pvExtract pvBin pvUn pvPick pvSlice pvLen pvMin pvMax pvConvert pvIndex pvNil pvBuild intOp strOp asNat? AV.strip AV.cond qb callee? condL pubL al lk lkH St.ev ofVal St.put TK.agg cellsFrom Blk.cont Cont.at Cont.len Cont.upd Cont.updL Cont.updL0 cellsOf AV.one oneC oneL AV.nor AV.norL killE killH AV.kill AV.killL Blk.kill Cont.kill delH lessH srcOf baseOf fillA setFrom toInts argEnv AV.fresh AV.freshL Nat.mul_one Nat.one_mul Nat.div_one Nat.zero_add Nat.add_zero Nat.mul_zero Nat.zero_mul Nat.sub_zero true_and and_true and_self if_true if_false Bool.false_eq_true List.map_cons List.map_nil List.getElem?_toArray List.getElem?_cons_succ List.getElem?_cons_zero List.getD_cons_zero List.getD_cons_succ Option.bind_some Option.map_some Option.map_none List.length_cons List.length_nil List.size_toArray cond_true cond_false ne_eq Nat.zero_lt_one Nat.lt_add_one implies_true false_implies true_implies Bool.and_true Bool.true_and Bool.true_or Bool.or_true Bool.false_or Bool.or_false Bool.not_true Bool.not_false Bool.and_self List.cons_append List.nil_append List.set_cons_zero List.set_cons_succ Value.cells forall_const Nat.lt_irrefl not_true_eq_false not_false_eq_true List.append_nil List.drop_zero eq_self Bool.and_false Bool.false_and and_false false_and ZJs bif_or ZJA I64 BL ints intsF
section
variable (fl : Bool) (H : List (Nat × Blk)) (n : Nat)
theorem pub_v (y : Value) : AV.pub fl H (n + 1) (.v y) = .v y := rfl
theorem pub_s (id : Nat) : AV.pub fl H (n + 1) (.s id) = (match lkH H id with
      | some (.row _ sz (.ints k l)) => if sz = 1 then .i fl (fun e _ => .v (.int k (l.getD e 0))) 1 0 l.length else .top
      | some (.row _ sz (.vals l)) => if 0 < sz then .i fl (fun e j => .v (l.getD (e * sz + j) undef)) sz 0 (l.length / sz) else .top
      | some (.row _ sz (.avs l)) => if 0 < sz then .i fl (fun e j => AV.pub fl H n (l.getD (e * sz + j) .top)) sz 0 (l.length / sz) else .top
      | some (.nst _ c) => .i fl (fun e _ => AV.pub fl H n (c.at e)) 1 0 c.len
      | _ => .top) := rfl
theorem pub_w (id off len : Nat) : AV.pub fl H (n + 1) (.w id off len) = (match lkH H id with
      | some (.row _ sz (.ints k l)) => if sz = 1 ∧ off + len ≤ l.length then .i fl (fun e _ => .v (.int k (l.getD e 0))) 1 off len else .top
      | _ => .top) := rfl
theorem pub_p (id off : Nat) : AV.pub fl H (n + 1) (.p id off) = (match lkH H id with
      | some blk => .q fl (fun _ j => AV.pub fl H n (blk.cont.at j)) blk.cont.len 0 off
      | none => .top) := rfl
theorem pub_i (fr : Bool) (c : Nat → Nat → AV) (sz off len : Nat) : AV.pub fl H (n + 1) (.i fr c sz off len) = .i (fr && fl) (fun e j => AV.pub fl H n (c e j)) sz off len := rfl
theorem pub_q (fr : Bool) (c : Nat → Nat → AV) (sz e j : Nat) : AV.pub fl H (n + 1) (.q fr c sz e j) = .q (fr && fl) (fun e j => AV.pub fl H n (c e j)) sz e j := rfl
theorem pub_a (cs : List AV) : AV.pub fl H (n + 1) (.a cs) = .a (cs.map (AV.pub fl H n)) := rfl
theorem pub_t (cs : List AV) : AV.pub fl H (n + 1) (.t cs) = .t (cs.map (AV.pub fl H n)) := rfl
theorem pub_f (fn : Fn) (cs : List AV) : AV.pub fl H (n + 1) (.f fn cs) = .f fn (cs.map (AV.pub fl H n)) := rfl
theorem pub_g (b : Bool) (y : AV) : AV.pub fl H (n + 1) (.g b y) = .g b (AV.pub fl H n y) := rfl
theorem ZJt : AV.pub fl H (n + 1) .top = .top := rfl
theorem ZJB (l : List AV) (j : Nat) : AV.pub fl H (n + 1) (l.getD j .top) = (l.map (AV.pub fl H (n + 1))).getD j .top := by
  by_cases h : j < l.length
  · rw [ZAm _ _ _ _ _ h]
  · have e1 : l.getD j .top = .top := by simp [List.getD_eq_getElem?_getD, List.getElem?_eq_none (show l.length ≤ j by omega)]
    have e2 : (l.map (AV.pub fl H (n + 1))).getD j .top = .top := by simp [List.getD_eq_getElem?_getD, List.getElem?_eq_none (show l.length ≤ j by omega)]
    rw [e1, e2]; rfl
end
attribute [push_cast] eqA pub_v pub_s pub_w pub_p pub_i pub_q pub_a pub_t pub_f pub_g ZJt ZJB
end Go.Eng
namespace Go.Eng
open Go.RowKit

def gOf (ops : Array Oper) : Option (Nat × Bool) → Option (Option (Nat × Bool))
  | none => some none
  | some (j, want) => match (ops[j]?).bind (·.dst) with
    | some d => some (some (d, want))
    | none => none
def guardS (st : St) : Option (Nat × Bool) → Option (Option Bool)
  | none => some none
  | some (d, want) => match (lk st.env d).strip with
    | .v (.bool y) => some (some ((lk st.env d).cnd && (bif want then y else !y)))
    | _ => none
theorem ZBd {st : St} {ops : Array Oper} {g : Option (Nat × Bool)} {g' : Option (Nat × Bool)} (h : gOf ops g = some g') : guardB st ops g = guardS st g' := by
  cases g with
  | none => simp [gOf] at h; subst h; rfl
  | some p =>
    obtain ⟨j, want⟩ := p
    simp only [gOf] at h
    simp only [guardB]
    cases hd : (ops[j]?).bind (·.dst) with
    | none => rw [hd] at h; cases h
    | some d => rw [hd] at h; injection h with h; subst h; rfl

def StepN (P : Program) (T : Tab) (n : Nat) (dst : Option Nat) (op : Op) (g : Option (Nat × Bool)) (K : St → Prop) (st : St) : Prop :=
  dstOk n dst ∧
  match guardS st g with
  | none => False
  | some none =>
    match pv T st.heap st.ev op with
    | some (φ, r) => φ ∧ K (st.put dst r)
    | none =>
      match qb T st.ev op with
      | some (φ, r) => φ ∧ K (st.put dst r)
      | none =>
        match callee? st.ev op with
        | some (ψ, k, args) => (ψ ∧ condL args) ∧ ∃ r, (Pure P k (pubL st.heap args) r ∧ okR args r) ∧ K (st.put dst r)
        | none => al T st ⟨dst, op, 0, "", #[], none⟩ K
  | some (some b) =>
    match pv T st.heap st.ev op with
    | some (φ, r) => (b = true → φ) ∧ K (st.put dst (.g b r))
    | none =>
      match qb T st.ev op with
      | some (φ, r) => (b = true → φ) ∧ K (st.put dst (.g b r))
      | none =>
        match callee? st.ev op with
        | some (ψ, k, args) => ∃ r, (b = true → (ψ ∧ condL args) ∧ Pure P k (pubL st.heap args) r ∧ okR args r) ∧ K (st.put dst (.g b r))
        | none => False
theorem ZBT {P : Program} {T : Tab} {n : Nat} {ops : Array Oper} {o : Oper} {g : Option (Nat × Bool)} (hg : gOf ops o.guard = some g) {K : St → Prop} {st : St} (h : StepN P T n o.dst o.op g K st) : AStep P T n ops o K st := by
  unfold AStep
  rw [ZBd hg]
  exact h

theorem ZAJ {P : Program} {T : Tab} {n : Nat} {ops : Array Oper} {K : St → Prop} {st : St} (h : K st) : AOps P T n ops K [] st := h
theorem ZAw {P : Program} {T : Tab} {n : Nat} {ops : Array Oper} {K : St → Prop} {o : Oper} {rest : List Oper} {st : St} {g : Option (Nat × Bool)} (hg : gOf ops o.guard = some g) (h : ∀ K' : St → Prop, (∀ s, AOps P T n ops K rest s → K' s) → StepN P T n o.dst o.op g K' st) : AOps P T n ops K (o :: rest) st :=
  ZBT hg (h _ fun _ h => h)
attribute [push_cast] StepN guardS beq_self_eq_true bne_self_eq_false List.replicate_zero
end Go.Eng
namespace Go.Eng
open Go.RowKit

section
variable {P : Program} {T : Tab} (hT : T.ok P) {n B : Nat} {w0 : Orig} {st : St} {a : Act} {w : World} {ρ : Nat → Option Value} {I : Nat → Prop}
include hT

theorem ZDs (hG : Gam n B w0 st a w ρ I) {dst : Option Nat} {t e : TypeId} {len : Nat} {parts : Array (Nat × Operand)} {ty : TypeId} {pos : String} {aft : Array Edge} {gd : Option (Nat × Bool)} {te : TI} {ψ : Prop} {cs : List AV} {s1 b1 : Nat} {z1 : Value} (ht : T t = some ⟨.sl e, s1, b1, z1⟩) (hte : T e = some te)
    (hfill : fillA (fun i => some (i * te.sz, te.sz)) (cellsFrom (fun j => ofVal (te.z.cells.getD (j % te.sz) undef)) 0 (len * te.sz)) (parts.toList.map fun p => (p.1, st.ev p.2)) = some (ψ, cs)) :
    ψ → te.z.cells.size = te.sz → len * te.sz ≤ 16777216 →
      ∃ us, us.size = len * te.sz ∧ ConcL B I w ρ cs us.toList ∧ (execOp a.eval ⟨dst, .buildSlice t len parts, ty, pos, aft, gd⟩).run P w = .ok (.value (.slice (some ⟨w.heap.size, 0, none⟩) len len)) (w.alloc (.cells us e)) := by
  have hu : P.underlying t = some (.slice e) := (hT _ _ ht).kind
  obtain ⟨inf, hi1, hi2, hi3, hz⟩ := (hT _ _ hte).info
  have hsz := (hT _ _ hte).size w
  intro hψ hzs hlen
  have hz0 : ConcL B I w ρ (cellsFrom (fun j => ofVal (te.z.cells.getD (j % te.sz) undef)) 0 (len * te.sz)) ((Array.range (len * te.sz)).map fun j => (if len * te.sz = 0 then #[] else te.z.cells)[j % (if len * te.sz = 0 then #[] else te.z.cells).size]!).toList := by
    refine ⟨by simp [ZAq], fun j hj => ?_⟩
    rw [ZAq] at hj
    have hne : ¬ len * te.sz = 0 := by omega
    rw [ZBv _ _ _ _ hj, Nat.zero_add, if_neg hne, hzs]
    have e1 : ((Array.range (len * te.sz)).map fun j => te.z.cells[j % te.sz]!).toList.getD j undef = te.z.cells.getD (j % te.sz) undef := by
      have hlt : j % te.sz < te.z.cells.size := by
        rw [hzs]; apply Nat.mod_lt
        rcases Nat.eq_zero_or_pos te.sz with h0 | h0
        · rw [h0] at hne; simp at hne
        · exact h0
      simp [List.getD_eq_getElem?_getD, hj, Array.getD_eq_getD_getElem?, hlt]
    rw [e1]; exact ZBx _
  obtain ⟨us, h1, h2⟩ := ZDe _ ((parts.map fun p => (p.1, a.eval p.2)).toList) _ _ hfill hψ hz0 (by simp) (fun j hj => by
    simp at hj
    have h1 : ((parts.toList.map fun p => (p.1, st.ev p.2)).getD j (0, .top)).2 = st.ev parts[j].2 := by simp [List.getD_eq_getElem?_getD, hj]
    have h2 : ((parts.map fun p => (p.1, a.eval p.2)).toList.getD j (0, undef)).2 = a.eval parts[j].2 := by simp [List.getD_eq_getElem?_getD, hj]
    rw [h1, h2]; exact hG.ev _)
  have hsize : us.size = len * te.sz := by
    have hfl : ∀ (place : Nat → Option (Nat × Nat)) (l : List (Nat × Value)) (us us' : Array Value), Instr.fill place us l = some us' → us'.size = us.size := by
      intro place l
      induction l with
      | nil => intro us us' h; simp [Instr.fill] at h; rw [h]
      | cons p l ih =>
        intro us us' h
        obtain ⟨i, v⟩ := p
        simp only [Instr.fill] at h
        split at h
        · cases h
        · split at h
          · cases h
          · rw [ih _ _ h]
            have : ∀ (l : List (Value × Nat)) (off : Nat) (us : Array Value), (l.foldl (fun cs (x : Value × Nat) => cs.setIfInBounds (off + x.2) x.1) us).size = us.size := by
              intro l
              induction l with
              | nil => intro off us; rfl
              | cons q l ih => intro off us; simp [ih]
            rw [← Array.foldl_toList]
            exact this _ _ _
    rw [hfl _ _ _ _ h1]; simp
  refine ⟨us, hsize, h2, ?_⟩
  have hlen' : ¬ (len * te.sz > 2 ^ 24) := by omega
  by_cases h0 : len * te.sz = 0
  · rw [if_pos h0] at h1
    rw [h0] at h1
    have h024 : ¬ ((0 : Nat) > 2 ^ 24) := by decide
    simp only [execOp, Instr.buildSlice, Sem.run_bind, run_underlying hu, Result.andThen_ok, hsz, h0, h024, if_false, if_true, Sem.run_pure, h1]
    simp [newRow]
  · rw [if_neg h0] at h1
    simp only [execOp, Instr.buildSlice, Sem.run_bind, run_underlying hu, Result.andThen_ok, hsz, hlen', if_false, h0, Sem.run_pure, zeroValue, typeInfo, run_program, hi1, hz, h1]
    simp [newRow]

omit hT in
def alB (T : Tab) (st : St) (dst : Option Nat) (op : Op) (K : St → Prop) : Prop :=
  match op, dst with
  | .buildSlice t len parts, some d =>
    match T t with
    | some ⟨.sl e, _, _, _⟩ =>
      match T e with
      | some te =>
        match fillA (fun i => some (i * te.sz, te.sz)) (cellsFrom (fun j => ofVal (te.z.cells.getD (j % te.sz) undef)) 0 (len * te.sz)) (parts.toList.map fun p => (p.1, st.ev p.2)) with
        | some (φ, cs) =>
          match te.k with
          | .int k => match toInts k cs with
            | some l => (φ ∧ te.sz = 1 ∧ te.z.cells.size = 1 ∧ len ≤ 16777216) ∧ K ⟨(d, .s d) :: killE d st.env, (d, .row e 1 (.ints k l)) :: killH d st.heap⟩
            | none => False
          | _ => (φ ∧ 0 < te.sz ∧ te.z.cells.size = te.sz ∧ len * te.sz ≤ 16777216 ∧ AV.norL cs = true) ∧ K ⟨(d, .s d) :: killE d st.env, (d, .row e te.sz (.avs cs)) :: killH d st.heap⟩
        | none => False
      | none => False
    | _ => False
  | _, _ => False

theorem alB_ok (hG : Gam n B w0 st a w ρ I) {o : Oper} (hd : dstOk n o.dst) {K : St → Prop} (h : alB T st o.dst o.op K) : StepOk P n B w0 o a w K := by
  intro next Q hn
  obtain ⟨dst, op, ty, pos, aft, gd⟩ := o
  simp only [alB] at h
  split at h <;> first | exact h.elim | skip
  rename_i t len parts d
  split at h <;> first | exact h.elim | skip
  rename_i e s1 b1 z1 ht
  cases hte : T e with
  | none => rw [hte] at h; exact h.elim
  | some te =>
    rw [hte] at h
    simp only at h
    split at h <;> first | exact h.elim | skip
    rename_i ψ cs hfill
    have hdn : d < n := hd
    have own : ∀ us : Array Value, us.size = len * te.sz → len ≤ 16777216 → (w.alloc (.cells us e)).ownsRow B e te.sz (.slice (some ⟨w.heap.size, 0, none⟩) len len) len us.toList := fun us hs hl16 =>
      ⟨by simp [hs], .inr ⟨w.heap.size, len, us, rfl, hG.base, heap_alloc_new w _, Nat.le_refl _, by simp only [maxLen]; omega, hs, by rw [List.take_of_length_le (by simp [hs])]⟩⟩
    have hb : ∀ us : Array Value, Below w.heap.size w (w.alloc (.cells us e)) := fun us => (Below.refl _ _).alloc (Nat.le_refl _) _
    split at h
    · rename_i k hk
      split at h <;> first | exact h.elim | skip
      rename_i l hl
      obtain ⟨⟨hφ, hs1, hz1, h16⟩, hK⟩ := h
      obtain ⟨us, h1, h2, h3⟩ := ZDs hT hG (dst := some d) (ty := ty) (pos := pos) (aft := aft) (gd := gd) ht hte hfill hφ (by rw [hs1, hz1]) (by rw [hs1]; omega)
      obtain ⟨l1, l2⟩ := ZCk hl
      have hcl : cs.length = len := by
        have := h2.1
        rw [Array.length_toList, h1, hs1] at this; omega
      unfold Oper.wp
      rw [h3, Oper.upon_value]
      have ho := own us h1 h16
      rw [hs1] at ho
      refine hn _ _ _ hK (ZDJ hG d hdn (hb us) ho (fun b hr => by simp [rootBlk] at hr; omega) _ (by simp [Cont.len, l1, hcl]) fun j u hu => ?_)
      have hj : j < cs.length := by
        have := (List.getElem?_eq_some_iff.1 hu).1
        simp [h1, hs1] at this; omega
      have := h2.2 j hj
      rw [l2 j hj] at this
      have e2 : us.toList.getD j undef = u := by simp [List.getD_eq_getElem?_getD, hu]
      rw [← e2, this.v_inv]; exact .v _
    · obtain ⟨⟨hφ, hpos, hzs, h16, hnor⟩, hK⟩ := h
      obtain ⟨us, h1, h2, h3⟩ := ZDs hT hG (dst := some d) (ty := ty) (pos := pos) (aft := aft) (gd := gd) ht hte hfill hφ hzs h16
      have hcl : cs.length = len * te.sz := by
        have := h2.1
        rw [Array.length_toList, h1] at this; omega
      unfold Oper.wp
      rw [h3, Oper.upon_value]
      have hl16 : len ≤ 16777216 := by
        have : len * 1 ≤ len * te.sz := Nat.mul_le_mul_left _ hpos
        omega
      refine hn _ _ _ hK (ZDJ hG d hdn (hb us) (own us h1 hl16) (fun b hr => by simp [rootBlk] at hr; omega) _ (by simp [Cont.len, hcl]) fun j u hu => ?_)
      have hj : j < cs.length := by
        have := (List.getElem?_eq_some_iff.1 hu).1
        simp [h1] at this; omega
      have := (h2.nor hnor).2 j hj
      have e2 : us.toList.getD j undef = u := by simp [List.getD_eq_getElem?_getD, hu]
      rw [e2] at this
      exact this
end
end Go.Eng
