/- Part of a proof about the given program: contracts of its functions (see the comment of the last text). -/
import Derived.Test.YthgjjhddbigfcaaEng4
import Derived.Test.YthgjjhddbigfcaaEng6
set_option linter.unusedSimpArgs false
set_option linter.unusedVariables false
namespace Go.Eng.V3
open Go.RowKit

def EffK (P : Program) (dst : Option Nat) (op : Op) (K : St → Prop) (st : St) : Prop :=
  match callee? st.ev op with
  | some (ψ, k, args) => (ψ ∧ condL args) ∧ ∃ H r H', Eff P k ((stripL args).map (viewA st.heap H)) H r H' ∧ (∀ id blk, lkH H id = some blk → lkH st.heap id = some blk) ∧ (∀ id, lkH H' id = none ↔ lkH H id = none) ∧ AV.own (fun id => lkH H id ≠ none) r ∧ ownH (fun id => lkH H id ≠ none) H' ∧ (∀ d', r.kill d' = r) ∧ K ⟨pk dst r st.env, H' ++ st.heap⟩
  | none => False
theorem G.pk {n B : Nat} {w0 : Orig} {env : List (Nat × AV)} {H : List (Nat × Blk)} {d : Option Nat} {r : AV} : ∀ a w, G n B w0 (St.put ⟨env, H⟩ d r) a w → G n B w0 ⟨Go.Eng.pk d r env, H⟩ a w := by
  intro a w ⟨ρ, I, h⟩
  cases d with
  | none => exact ⟨ρ, I, h⟩
  | some d =>
    refine ⟨ρ, I, h.defers, h.size, fun s => ?_, h.hw, h.below, h.base, h.old⟩
    have hs := h.env s
    simp only [St.put, Go.Eng.pk, lk] at hs ⊢
    split
    · rename_i e; rw [if_pos e] at hs; exact hs
    · rename_i e; rw [if_neg e] at hs
      rw [ZGa]
      exact hs.kill d ρ fun _ _ => rfl
theorem ZJ9 {P : Program} {n B : Nat} {w0 : Orig} {st : St} {a : Act} {w : World} {ρ : Nat → Option Value} {I : Nat → Prop} (hG : Gam n B w0 st a w ρ I) {o : Oper} (hd : dstOk n o.dst) {K : St → Prop} (h : EffK P o.dst o.op K st) : StepOk P n B w0 o a w K := by
  intro next Q hn
  unfold EffK at h
  split at h <;> first | exact h.elim | skip
  rename_i ψ k args hc
  obtain ⟨hψ, H, r, H', h1, h2, h3, h4, h5, _, hK⟩ := h
  refine ZEd hG hd (K := fun s => s = St.put ⟨st.env, H' ++ st.heap⟩ o.dst r) ?_ next Q fun st' a' w' e hG' => ?_
  · unfold EffStep
    rw [hc]
    exact ⟨hψ, H, r, H', h1, h2, h3, h4, h5, rfl⟩
  · subst e
    exact hn _ _ _ hK (G.pk _ _ hG')
theorem ZKA {P : Program} {st : St} {o : Oper} {K : St → Prop} (h : EffK P o.dst o.op K st) : ∀ c, o.op ≠ .defer c := fun c hc => by
  rw [hc] at h
  exact h
def stepD (P : Program) (T : Tab) (n : Nat) (o : Oper) (K : St → Prop) (st : St) : Prop := o.guard = none ∧ dstOk n o.dst ∧ (alC T st o.dst o.op K ∨ EffK P o.dst o.op K st)
def AStepY (P : Program) (T : Tab) (n : Nat) (ops : Array Oper) (o : Oper) (K : St → Prop) (st : St) : Prop := AStepX P T n ops o K st ∨ (o.guard = none ∧ dstOk n o.dst ∧ EffK P o.dst o.op K st)
theorem ZIT {P : Program} {T : Tab} (hT : T.ok P) {n B : Nat} {w0 : Orig} {st : St} {a : Act} {w : World} {ρ : Nat → Option Value} {I : Nat → Prop} (hG : Gam n B w0 st a w ρ I) {ops : Array Oper} {o : Oper} {K : St → Prop} (h : AStepY P T n ops o K st) (next : Act → World → Prop) (Q : Exit → Act → World → Prop) (hn : ∀ st' a' w', K st' → G n B w0 st' a' w' → next a' w') :
    if Region.wanted o (yielded ops a.tmps) then o.wp P a w next Q else next (a.put o.dst undef) w := by
  rcases h with h | ⟨hg, hd, h⟩
  · exact ZC4 hT hG h next Q hn
  · have : Region.wanted o (yielded ops a.tmps) = true := by
      have := ZBC hG (ops := ops) (o := o) (g := none) (by rw [hg]; rfl)
      simpa using this
    rw [if_pos this]
    exact ZJ9 hG hd h next Q hn
theorem ZIU {P : Program} {T : Tab} {n B : Nat} {w0 : Orig} {st : St} {a : Act} {w : World} {ρ : Nat → Option Value} {I : Nat → Prop} (hG : Gam n B w0 st a w ρ I) {ops : Array Oper} {o : Oper} {K : St → Prop} (h : AStepY P T n ops o K st) (hw : Region.wanted o (yielded ops a.tmps) = true) : ∀ c, o.op ≠ .defer c := by
  rcases h with h | ⟨_, _, h⟩
  · exact ZC5 hG h hw
  · exact ZKA h
theorem ZHP {P : Program} {T : Tab} {n : Nat} {ops : Array Oper} {st : St} {o : Oper} {K : St → Prop} (h : stepD P T n o K st) :
    ∃ r h', K ⟨Go.Eng.pk o.dst r st.env, h'⟩ ∧ (∀ d d', o.dst = some d → d' ≠ d → r.kill d' = r) ∧ ∀ st' : St, st'.heap = st.heap → (∀ t ∈ o.looksAt ops, lk st'.env t = lk st.env t) → AStepY P T n ops o (fun s => s = ⟨Go.Eng.pk o.dst r st'.env, h'⟩) st' := by
  obtain ⟨hg, hd, h | h⟩ := h
  · obtain ⟨r, h', h1, h2, h3⟩ := ZEY (ops := ops) (show stepC T n o K st from ⟨hg, hd, h⟩)
    exact ⟨r, h', h1, h2, fun st' hh hl => .inl (.inr (.inr (.inr (h3 st' hh hl))))⟩
  · have hev : ∀ st' : St, (∀ t ∈ o.looksAt ops, lk st'.env t = lk st.env t) → ∀ x ∈ o.op.operands, st'.ev x = st.ev x := fun st' hl => ZBS hl
    unfold EffK at h
    split at h <;> first | exact h.elim | skip
    rename_i ψ k args hc
    obtain ⟨hψ, H, r, H', h1, h2, h3, h4, h5, h6, hK⟩ := h
    refine ⟨r, H' ++ st.heap, hK, fun _ d' _ _ => h6 d', fun st' hh hl => .inr ⟨hg, hd, ?_⟩⟩
    have hc' : callee? st'.ev o.op = some (ψ, k, args) := by rw [← hc]; exact ZCO (hev st' hl)
    unfold EffK
    rw [hc', hh]
    exact ⟨hψ, H, r, H', h1, h2, h3, h4, h5, h6, rfl⟩

def AOps2 (P : Program) (T : Tab) (n : Nat) (ops : Array Oper) (K : St → Prop) : List Oper → List (Nat × List Nat) → St → Prop
  | [], _, st => K st
  | _ :: _, [], _ => False
  | o :: rest, (un, R) :: rs, st =>
    bif qq (un, R) o then
      bif un == 1 then AStep P T n ops o (fun s => killsL R (dstV s o.dst) ∧ AOps2 P T n ops K rest rs ⟨s.env, st.heap⟩) ⟨st.env, []⟩
      else AStep P T n ops o (fun s => killsL R (dstV s o.dst) ∧ AOps2 P T n ops K rest rs s) st
    else bif un == 3 then stepB T n o (fun s => AOps2 P T n ops K rest rs s) st
    else bif un == 4 then stepD P T n o (fun s => AOps2 P T n ops K rest rs s) st
    else AStep P T n ops o (fun s => AOps2 P T n ops K rest rs s) st

section
variable {P : Program} {T : Tab} (hT : T.ok P) {n B : Nat} {w0 : Orig} {l : List Oper} {ms : List Nat} {rs : List (Nat × List Nat)} (hD : DrawOk2 l ms rs)

theorem trace2_ex {K : St → Prop} : ∀ (q : List Oper) (rs : List (Nat × List Nat)) (st : St), AOps2 P T n l.toArray K q rs st → ∃ (σ : Nat → St) (val : Nat → AV), σ 0 = st ∧ K (σ q.length) ∧
    (∀ i o, q[i]? = some o → qf rs i o = true → σ (i + 1) = (σ i).put o.dst (val i) ∧ (o.dst ≠ none → killsL (rs.getD i (0, [])).2 (val i)) ∧
      ∀ st' : St, (((rs.getD i (0, [])).1 == 1) = false → st'.heap = (σ i).heap) → (∀ t ∈ o.looksAt l.toArray, lk st'.env t = lk (σ i).env t) → AStep P T n l.toArray o (fun s => s = st'.put o.dst (val i)) st') ∧
    (∀ i o, q[i]? = some o → qf rs i o = false → ∃ h', σ (i + 1) = ⟨pk o.dst (val i) (σ i).env, h'⟩ ∧ (∀ d d', o.dst = some d → d' ≠ d → (val i).kill d' = val i) ∧
      ∀ st' : St, st'.heap = (σ i).heap → (∀ t ∈ o.looksAt l.toArray, lk st'.env t = lk (σ i).env t) → AStepY P T n l.toArray o (fun s => s = ⟨pk o.dst (val i) st'.env, h'⟩) st')
  | [], rs, st, h => ⟨fun _ => st, fun _ => .top, rfl, h, fun i o hi => by simp at hi, fun i o hi => by simp at hi⟩
  | o :: q, [], st, h => h.elim
  | o :: q, (un, R) :: rs, st, h => by
    have putV : ∀ (s : St) (r : AV), o.dst ≠ none → dstV (s.put o.dst r) o.dst = r := fun s r hd => by
      cases hd' : o.dst with
      | none => exact absurd hd' hd
      | some d => simp [dstV, St.put, lk]
    simp only [AOps2] at h
    cases hq : qq (un, R) o with
    | true =>
      have hq0 : quietOp o.op = true := by simp only [qq, Bool.and_eq_true] at hq; exact hq.1.1
      rw [hq] at h
      simp only [cond_true] at h
      cases hu : (un == 1) with
      | true =>
        rw [hu] at h
        simp only [cond_true] at h
        obtain ⟨r, ⟨h1, h2⟩, h3⟩ := ZFr hq0 h
        have h2' : AOps2 P T n l.toArray K q rs (st.put o.dst r) := by
          cases hd : o.dst <;> rw [hd] at h2 <;> exact h2
        obtain ⟨σ, val, s0, sN, sq, sl⟩ := trace2_ex q rs _ h2'
        refine ⟨fun i => match i with | 0 => st | i + 1 => σ i, fun i => match i with | 0 => r | i + 1 => val i, rfl, sN, fun i o' hi hq' => ?_, fun i o' hi hq' => ?_⟩
        · cases i with
          | zero =>
            simp at hi; subst hi
            exact ⟨s0, fun hd => by rw [putV _ _ hd] at h1; exact h1, fun st' _ hl => h3 st' hl⟩
          | succ i => simp at hi; exact sq i o' hi (by simpa [qf] using hq')
        · cases i with
          | zero => simp at hi; subst hi; simp [qf, hq] at hq'
          | succ i => simp at hi; exact sl i o' hi (by simpa [qf] using hq')
      | false =>
        rw [hu] at h
        simp only [cond_false] at h
        obtain ⟨r, ⟨h1, h2⟩, h3⟩ := ZCb hq0 h
        obtain ⟨σ, val, s0, sN, sq, sl⟩ := trace2_ex q rs _ h2
        refine ⟨fun i => match i with | 0 => st | i + 1 => σ i, fun i => match i with | 0 => r | i + 1 => val i, rfl, sN, fun i o' hi hq' => ?_, fun i o' hi hq' => ?_⟩
        · cases i with
          | zero =>
            simp at hi; subst hi
            exact ⟨s0, fun hd => by rw [putV _ _ hd] at h1; exact h1, fun st' hh hl => h3 st' (hh hu) hl⟩
          | succ i => simp at hi; exact sq i o' hi (by simpa [qf] using hq')
        · cases i with
          | zero => simp at hi; subst hi; simp [qf, hq] at hq'
          | succ i => simp at hi; exact sl i o' hi (by simpa [qf] using hq')
    | false =>
      rw [hq] at h
      simp only [cond_false] at h
      have hX : ∃ r h', AOps2 P T n l.toArray K q rs ⟨pk o.dst r st.env, h'⟩ ∧ (∀ d d', o.dst = some d → d' ≠ d → r.kill d' = r) ∧
          ∀ st' : St, st'.heap = st.heap → (∀ t ∈ o.looksAt l.toArray, lk st'.env t = lk st.env t) → AStepY P T n l.toArray o (fun s => s = ⟨pk o.dst r st'.env, h'⟩) st' := by
        cases hu : (un == 3) with
        | true =>
          rw [hu] at h
          simp only [cond_true] at h
          obtain ⟨r, h', h1, h2, h3⟩ := ZEX (ops := l.toArray) h
          exact ⟨r, h', h1, h2, fun st' hh hl => .inl (.inr (.inl (h3 st' hh hl)))⟩
        | false =>
          rw [hu] at h
          simp only [cond_false] at h
          cases hu4 : (un == 4) with
          | true =>
            rw [hu4] at h
            simp only [cond_true] at h
            obtain ⟨r, h', h1, h2, h3⟩ := ZHP (ops := l.toArray) h
            exact ⟨r, h', h1, h2, h3⟩
          | false =>
            rw [hu4] at h
            simp only [cond_false] at h
            have hq0 : quietOp o.op = false := by simpa [qq, hu, hu4] using hq
            obtain ⟨r, h', h1, h2, h3⟩ := ZFs hq0 h
            exact ⟨r, h', h1, h2, fun st' hh hl => .inl (.inl (h3 st' hh hl))⟩
      obtain ⟨r, h', h1, h2, h3⟩ := hX
      obtain ⟨σ, val, s0, sN, sq, sl⟩ := trace2_ex q rs _ h1
      refine ⟨fun i => match i with | 0 => st | i + 1 => σ i, fun i => match i with | 0 => r | i + 1 => val i, rfl, sN, fun i o' hi hq' => ?_, fun i o' hi hq' => ?_⟩
      · cases i with
        | zero => simp at hi; subst hi; simp [qf, hq] at hq'
        | succ i => simp at hi; exact sq i o' hi (by simpa [qf] using hq')
      · cases i with
        | zero =>
          simp at hi; subst hi
          exact ⟨h', s0, h2, h3⟩
        | succ i => simp at hi; exact sl i o' hi (by simpa [qf] using hq')

include hD
theorem closed_mask2 {L : Nat → Bool} (hdc : ∀ j o, l[j]? = some o → L j = true → ∀ e ∈ o.after, Region.binds .any e = true → L e.on = true) :
    ∀ (m j : Nat), j < m → ∀ o, l[j]? = some o → (∀ e ∈ o.after, Region.binds .any e = true → L e.on = true) → ∀ i, (ms.getD j 0).testBit i = true → L i = true
  | 0, j, hm => by omega
  | m + 1, j, hm => by
    intro o ho hdep i hi
    obtain ⟨e, he, hb, h⟩ := hD.sub j o ho i hi
    have hlt := hD.lt j o ho e he hb
    have hLe := hdep e he hb
    rcases h with h | h
    · rw [← h]; exact hLe
    · have hjl := (List.getElem?_eq_some_iff.1 ho).1
      have ho' : l[e.on]? = some l[e.on] := List.getElem?_eq_getElem (by omega)
      exact closed_mask2 hdc m e.on (by omega) _ ho' (hdc _ _ ho' hLe) i h
theorem mask_lt : ∀ (m j : Nat), j < m → ∀ o, l[j]? = some o → ∀ i, (ms.getD j 0).testBit i = true → i < j
  | 0, j, hm => by omega
  | m + 1, j, hm => by
    intro o ho i hi
    obtain ⟨e, he, hb, h⟩ := hD.sub j o ho i hi
    have hlt := hD.lt j o ho e he hb
    rcases h with h | h
    · omega
    · have hjl := (List.getElem?_eq_some_iff.1 ho).1
      have ho' : l[e.on]? = some l[e.on] := List.getElem?_eq_getElem (by omega)
      have := mask_lt m e.on (by omega) _ ho' i h
      omega

include hT in
theorem any_ok2 {Q : Exit → Act → World → Prop} (σ : Nat → St) (val : Nat → AV) (h0 : ∀ i o, l[i]? = some o → ∀ d, qf rs i o = false → o.dst = some d → ∀ p ∈ (σ 0).env, p.2.kill d = p.2)
    (hqt : ∀ i o, l[i]? = some o → qf rs i o = true → σ (i + 1) = (σ i).put o.dst (val i) ∧ (o.dst ≠ none → killsL (rs.getD i (0, [])).2 (val i)) ∧
      ∀ st' : St, (((rs.getD i (0, [])).1 == 1) = false → st'.heap = (σ i).heap) → (∀ t ∈ o.looksAt l.toArray, lk st'.env t = lk (σ i).env t) → AStep P T n l.toArray o (fun s => s = st'.put o.dst (val i)) st')
    (hld : ∀ i o, l[i]? = some o → qf rs i o = false → ∃ h', σ (i + 1) = ⟨pk o.dst (val i) (σ i).env, h'⟩ ∧ (∀ d d', o.dst = some d → d' ≠ d → (val i).kill d' = val i) ∧
      ∀ st' : St, st'.heap = (σ i).heap → (∀ t ∈ o.looksAt l.toArray, lk st'.env t = lk (σ i).env t) → AStepY P T n l.toArray o (fun s => s = ⟨pk o.dst (val i) st'.env, h'⟩) st')
    (hQ : ∀ a w, G n B w0 (σ l.length) a w → Q .normal a w) :
    ∀ (fuel : Nat) (listed : Array Bool) (a : Act) (w : World), listed.size = l.length →
      (∀ j o, l[j]? = some o → listed.getD j false = true → ∀ e ∈ o.after, Region.binds .any e = true → listed.getD e.on false = true) →
      (List.range l.length).countP (fun i => !listed.getD i false) ≤ fuel →
      (∃ m, m ≤ l.length ∧ (∀ i o, l[i]? = some o → qf rs i o = false → (listed.getD i false = true ↔ i < m)) ∧
        G n B w0 ⟨elist (σ 0).env l val (fun i => listed.getD i false) 0 l.length, (σ m).heap⟩ a w) →
      wpAnyIn (fo w0) 0 P .any l.toArray Q fuel listed a w := by
  intro fuel
  have hlen : ∀ j o, l[j]? = some o → j < l.length := fun j o hj => (List.getElem?_eq_some_iff.1 hj).1
  -- no reference to what a loud operation makes, ahead of it
  have nr : ∀ i0 o0 d, l[i0]? = some o0 → qf rs i0 o0 = false → o0.dst = some d → ∀ i, i ≤ i0 → (∀ p ∈ (σ i).env, p.2.kill d = p.2) ∧ ∀ i', i' < i → ∀ o', l[i']? = some o' → (σ (i' + 1)).env = ((σ i').put o'.dst (val i')).env := by
    intro i0
    induction i0 using Nat.strongRecOn with
    | _ i0 IH =>
    intro o0 d ho0 hq0 hd0 i
    induction i with
    | zero => intro _; exact ⟨h0 i0 o0 ho0 d hq0 hd0, fun i' hi' => by omega⟩
    | succ i ih =>
      intro hi
      obtain ⟨ih1, ih2⟩ := ih (by omega)
      have hil : i < l.length := by have := hlen _ _ ho0; omega
      have hoi : l[i]? = some l[i] := List.getElem?_eq_getElem hil
      cases hq : qf rs i l[i] with
      | true =>
        obtain ⟨e1, e2, _⟩ := hqt i _ hoi hq
        refine ⟨fun p hp => ?_, fun i' hi' o' ho' => ?_⟩
        · rw [e1] at hp
          cases hdi : (l[i]).dst with
          | none => rw [hdi] at hp; exact ih1 p hp
          | some di =>
            rw [hdi] at hp
            simp only [St.put] at hp
            rcases List.mem_cons.1 hp with rfl | hp
            · refine ZBO (e2 (by rw [hdi]; simp)) d (hD.kills i0 i _ _ d ho0 hoi hq hq0 hd0 ?_)
              cases hb : (ms.getD i 0).testBit i0 with
              | false => rfl
              | true => have := mask_lt hD (i + 1) i (by omega) _ hoi i0 hb; omega
            · exact ih1 p hp
        · rcases Nat.lt_or_ge i' i with h | h
          · exact ih2 i' h o' ho'
          · have : i' = i := by omega
            subst this
            rw [hoi] at ho'; injection ho' with ho'; subst ho'
            rw [e1]
      | false =>
        obtain ⟨h', e1, e2, _⟩ := hld i _ hoi hq
        have henv : (σ (i + 1)).env = ((σ i).put (l[i]).dst (val i)).env := by
          rw [e1]
          cases hdi : (l[i]).dst with
          | none => rfl
          | some di =>
            simp only [pk, St.put]
            rw [ZB8 (IH i (by omega) _ di hoi hq hdi i (Nat.le_refl _)).1]
        refine ⟨fun p hp => ?_, fun i' hi' o' ho' => ?_⟩
        · rw [henv] at hp
          cases hdi : (l[i]).dst with
          | none => rw [hdi] at hp; exact ih1 p hp
          | some di =>
            rw [hdi] at hp
            simp only [St.put] at hp
            rcases List.mem_cons.1 hp with rfl | hp
            · exact e2 di d hdi (fun e => hD.apart i i0 _ _ di (by omega) hoi ho0 hq hq0 hdi (by rw [hd0, e]))
            · exact ih1 p hp
        · rcases Nat.lt_or_ge i' i with h | h
          · exact ih2 i' h o' ho'
          · have : i' = i := by omega
            subst this
            rw [hoi] at ho'; injection ho' with ho'; subst ho'
            exact henv
  have stepE : ∀ i o, l[i]? = some o → (σ (i + 1)).env = ((σ i).put o.dst (val i)).env := by
    intro i o ho
    cases hq : qf rs i o with
    | true => rw [(hqt i o ho hq).1]
    | false =>
      obtain ⟨h', e1, _, _⟩ := hld i o ho hq
      rw [e1]
      cases hdi : o.dst with
      | none => rfl
      | some di =>
        simp only [pk, St.put]
        rw [ZB8 (nr i o di ho hq hdi i (Nat.le_refl _)).1]
  have seg : ∀ k j, k ≤ j → (∀ m o, k ≤ m → m < j → l[m]? = some o → qf rs m o = true) → j ≤ l.length → (σ j).heap = (σ k).heap := by
    intro k j hkj hq hjl
    induction j with
    | zero => have : k = 0 := by omega
              subst this; rfl
    | succ j ih =>
      by_cases e : k = j + 1
      · rw [e]
      · have hj : j < l.length := by omega
        have ho : l[j]? = some l[j] := List.getElem?_eq_getElem hj
        rw [(hqt j _ ho (hq j _ (by omega) (by omega) ho)).1]
        have := ih (by omega) (fun m o h1 h2 => hq m o h1 (by omega)) (by omega)
        rw [← this]
        cases (l[j]).dst <;> rfl
  -- two places with no loud operation between them
  have seg2 : ∀ k j, k ≤ l.length → j ≤ l.length → (∀ m o, l[m]? = some o → qf rs m o = false → (m < k ↔ m < j)) → (σ k).heap = (σ j).heap := by
    intro k j hk hj h
    rcases Nat.le_total k j with hkj | hkj
    · refine (seg k j hkj (fun m o h1 h2 ho => ?_) hj).symm
      cases hq : qf rs m o with
      | true => rfl
      | false => have := h m o ho hq; omega
    · refine seg j k hkj (fun m o h1 h2 ho => ?_) hk
      cases hq : qf rs m o with
      | true => rfl
      | false => have := h m o ho hq; omega
  have done : ∀ (listed : Array Bool) (a : Act) (w : World), (∀ i, i < l.length → listed.getD i false = true) → (∃ m, m ≤ l.length ∧ (∀ i o, l[i]? = some o → qf rs i o = false → (listed.getD i false = true ↔ i < m)) ∧
        G n B w0 ⟨elist (σ 0).env l val (fun i => listed.getD i false) 0 l.length, (σ m).heap⟩ a w) → Q .normal a w := by
    rintro listed a w hall ⟨m, hm, hlo, hG⟩
    have hE := ZBW (l := l) (val := val) (L := fun i => listed.getD i false) (k := 0) σ l.length rfl (fun i o _ _ ho => stepE i o ho) (Nat.le_refl _) (fun i _ h2 => hall i h2) l.length (by omega)
    refine hQ a w (hG.congr (fun s => ?_) ?_)
    · show lk (σ l.length).env s = lk (elist _ _ _ _ _ _) s
      rw [hE, Nat.zero_add]
    · refine seg2 l.length m (Nat.le_refl _) hm (fun i o ho hq => ?_)
      have := hlo i o ho hq
      have h1 := hlen i o ho
      rw [hall i h1] at this
      simp at this
      omega
  have getD_true : ∀ (listed : Array Bool) (j : Nat), listed.size = l.length → j < l.length → listed.getD j true = listed.getD j false := fun listed j hs hj => by
    have : j < listed.size := by omega
    simp [this]
  have notready : ∀ (listed : Array Bool), listed.size = l.length → Region.ready .any l.toArray listed = [] → ∀ i, i < l.length → listed.getD i false = true := by
    intro listed hs hr
    have key : ∀ m i, i < m → i < l.length → listed.getD i false = true := by
      intro m
      induction m with
      | zero => intro i h; omega
      | succ m ih =>
        intro i hm hi
        cases hL : listed.getD i false with
        | true => rfl
        | false =>
          exfalso
          have ho : l[i]? = some l[i] := List.getElem?_eq_getElem hi
          have : i ∈ Region.ready .any l.toArray listed := by
            simp only [Region.ready, List.mem_filter, List.mem_range, Bool.and_eq_true]
            refine ⟨by simpa using hi, by rw [getD_true listed i hs hi, hL]; rfl, ?_⟩
            simp only [List.getElem?_toArray, ho, Option.map_some, Option.getD_some]
            rw [Array.all_eq_true_iff_forall_mem]
            intro e he
            cases hb : Region.binds .any e with
            | false => rfl
            | true =>
              have hlt := hD.lt i _ ho e he hb
              rw [ih e.on (by omega) (by omega)]; rfl
          rw [hr] at this; cases this
    exact fun i hi => key (i + 1) i (by omega) hi
  induction fuel with
  | zero =>
    intro listed a w hs hdc hcnt hinv
    have hall : ∀ i, i < l.length → listed.getD i false = true := by
      intro i hi
      have h0 : (List.range l.length).countP (fun i => !listed.getD i false) = 0 := by omega
      rw [List.countP_eq_zero] at h0
      have := h0 i (by simpa using hi)
      simpa using this
    refine ⟨?_, done listed a w hall hinv⟩
    apply List.eq_nil_iff_forall_not_mem.2
    intro i hi
    simp only [Region.ready, List.mem_filter, List.mem_range, Bool.and_eq_true] at hi
    have hil : i < l.length := by simpa using hi.1
    have := hi.2.1
    rw [getD_true listed i hs hil, hall i hil] at this
    cases this
  | succ fuel ih =>
    intro listed a w hs hdc hcnt hinv
    refine ⟨fun hr => done listed a w (notready listed hs hr) hinv, fun j hj => ?_⟩
    simp only [Region.ready, List.mem_filter, List.mem_range, Bool.and_eq_true] at hj
    obtain ⟨hjl, hjn, hjd⟩ := hj
    have hjl : j < l.length := by simpa using hjl
    have hLj : listed.getD j false = false := by rw [getD_true listed j hs hjl] at hjn; simpa using hjn
    have ho : l[j]? = some l[j] := List.getElem?_eq_getElem hjl
    have hdep : ∀ e ∈ (l[j]).after, Region.binds .any e = true → listed.getD e.on false = true := by
      simp only [List.getElem?_toArray, ho, Option.map_some, Option.getD_some] at hjd
      rw [Array.all_eq_true_iff_forall_mem] at hjd
      intro e he hb
      have := hjd e he
      simpa [hb] using this
    have hcl := closed_mask2 hD hdc (j + 1) j (by omega) _ ho hdep
    have hopen : ∀ i oi, l[i]? = some oi → listed.getD i false = true → (ms.getD i 0).testBit j = false := by
      intro i oi hoi hL
      cases hb : (ms.getD i 0).testBit j with
      | false => rfl
      | true =>
        have := closed_mask2 hD hdc (i + 1) i (by omega) _ hoi (hdc i oi hoi hL) j hb
        rw [hLj] at this; cases this
    have hafter : ∀ i oi, j < i → l[i]? = some oi → conf2 (qf rs j l[j]) (qf rs i oi) l.toArray l[j] oi = true → listed.getD i false = false := by
      intro i oi hji hoi hc
      cases hL : listed.getD i false with
      | false => rfl
      | true =>
        have := hopen i oi hoi hL
        rw [hD.conf j i _ _ hji ho hoi hc] at this; cases this
    have hbefore : ∀ i oi, i < j → l[i]? = some oi → conf2 (qf rs i oi) (qf rs j l[j]) l.toArray oi l[j] = true → listed.getD i false = true := fun i oi hij hoi hc => hcl i (hD.conf i j _ _ hij hoi ho hc)
    obtain ⟨m, hm, hlo, hG⟩ := hinv
    have hM : ∀ i, (listed.setIfInBounds j true).getD i false = (listed.getD i false || i == j) := by
      intro i
      by_cases e : j = i
      · subst e
        have : j < listed.size := by omega
        simp [this]
      · have : (i == j) = false := by simp; omega
        rw [this, Bool.or_false]
        simp [Array.getD_eq_getD_getElem?, Array.getElem?_setIfInBounds_ne e]
    have hs' : (listed.setIfInBounds j true).size = l.length := by simp [hs]
    have hdc' : ∀ i o, l[i]? = some o → (listed.setIfInBounds j true).getD i false = true → ∀ e ∈ o.after, Region.binds .any e = true → (listed.setIfInBounds j true).getD e.on false = true := by
      intro i o hoi hL e he hb
      rw [hM] at hL ⊢
      rcases Bool.or_eq_true_iff.1 hL with hL | hL
      · rw [hdc i o hoi hL e he hb]; rfl
      · have : i = j := by simpa using hL
        subst this
        rw [ho] at hoi; injection hoi with hoi; subst hoi
        rw [hdep e he hb]; rfl
    have hcnt' : (List.range l.length).countP (fun i => !(listed.setIfInBounds j true).getD i false) ≤ fuel := by
      have : (List.range l.length).countP (fun i => !(listed.setIfInBounds j true).getD i false) < (List.range l.length).countP (fun i => !listed.getD i false) := by
        refine ZC1 (fun i _ h => ?_) ⟨j, by simpa using hjl, by rw [hLj]; rfl, by rw [hM]; simp⟩
        rw [hM] at h
        cases h1 : listed.getD i false <;> simp_all
      omega
    have hwp : ∀ (st : St) (K : St → Prop), G n B w0 st a w → AStepY P T n l.toArray l[j] K st → (∀ st' a' w', K st' → G n B w0 st' a' w' → wpAnyIn (fo w0) 0 P .any l.toArray Q fuel (listed.setIfInBounds j true) a' w') → wpOpIn (fo w0) 0 P l.toArray Q j (wpAnyIn (fo w0) 0 P .any l.toArray Q fuel (listed.setIfInBounds j true)) a w := by
      rintro st K ⟨ρ, I, hg⟩ hst hnext
      have := ZIT hT hg hst (wpAnyIn (fo w0) 0 P .any l.toArray Q fuel (listed.setIfInBounds j true)) Q hnext
      unfold wpOpIn
      simp only [List.getElem?_toArray, ho]
      exact toIf (ZIU hg hst) this
    have hlook : ∀ t ∈ (l[j]).looksAt l.toArray, lk (elist (σ 0).env l val (fun i => listed.getD i false) 0 l.length) t = lk (σ j).env t := by
      intro t ht
      have e1 := ZB7 (E := (σ 0).env) (l := l) (val := val) (L := fun i => listed.getD i false) (M := fun i => decide (i < j)) (k := 0) t l.length (fun i h1 h2 hd => by
        have hil : i < l.length := by omega
        have hoi : l[i]? = some l[i] := List.getElem?_eq_getElem hil
        rw [hoi] at hd
        simp only [Option.bind_some] at hd
        rcases Nat.lt_trichotomy i j with h | h | h
        · rw [hbefore i _ h hoi (by simp [conf2, hd, ht])]; simp [h]
        · subst h; rw [hLj]; simp
        · rw [hafter i _ h hoi (by simp [conf2, hd, ht])]; simp; omega)
      rw [e1]
      have e2 := ZBD (E := (σ 0).env) (l := l) (val := val) (L := fun i => decide (i < j)) (k := 0) j (fun i hi => by simp; omega) l.length (by omega)
      have e3 := ZBW (l := l) (val := val) (L := fun i => decide (i < j)) (k := 0) σ j rfl (fun i o _ _ ho => stepE i o ho) (by omega) (fun i _ h2 => by simp [h2]) j (by omega)
      rw [e2, e3, Nat.zero_add]
    have hput : ∀ d s, (l[j]).dst = some d → lk (elist (σ 0).env l val (fun i => (listed.setIfInBounds j true).getD i false) 0 l.length) s = if d = s then val j else lk (elist (σ 0).env l val (fun i => listed.getD i false) 0 l.length) s := by
      intro d s hd
      have e := ZC2 (E := (σ 0).env) (l := l) (val := val) (L := fun i => listed.getD i false) (M := fun i => (listed.setIfInBounds j true).getD i false) (k := 0) j d (Nat.zero_le _) (by rw [ho]; exact hd) hLj hM (fun i hji hL hdi => by
        have hil : i < l.length := by
          rcases Nat.lt_or_ge i l.length with h | h
          · exact h
          · rw [List.getElem?_eq_none h] at hdi; cases hdi
        have hoi : l[i]? = some l[i] := List.getElem?_eq_getElem hil
        rw [hoi] at hdi
        simp only [Option.bind_some] at hdi
        have := hafter i _ hji hoi (by simp [conf2, hd, hdi])
        rw [this] at hL; cases hL) s l.length
      rw [e]
      by_cases hds : d = s
      · rw [if_pos ⟨by omega, hds⟩, if_pos hds]
      · rw [if_neg (fun hh => hds hh.2), if_neg hds]
    have hput0 : (l[j]).dst = none → elist (σ 0).env l val (fun i => (listed.setIfInBounds j true).getD i false) 0 l.length = elist (σ 0).env l val (fun i => listed.getD i false) 0 l.length := fun hd =>
      ZCc (E := (σ 0).env) (l := l) (val := val) (L := fun i => listed.getD i false) (M := fun i => (listed.setIfInBounds j true).getD i false) (k := 0) j (by rw [ho]; exact hd) hM l.length
    cases hq : qf rs j l[j] with
    | true =>
      obtain ⟨_, _, hv2⟩ := hqt j _ ho hq
      have hst := hv2 ⟨elist (σ 0).env l val (fun i => listed.getD i false) 0 l.length, (σ m).heap⟩ (fun hu => by
        refine seg2 m j hm (by omega) (fun i oi hoi hqi => ?_)
        have h1 := hlo i oi hoi hqi
        rcases hD.tied i j oi _ hoi ho hq hqi hu with h | h
        · have h2 := hcl i h
          have h3 := mask_lt hD (j + 1) j (by omega) _ ho i h
          exact ⟨fun _ => h3, fun _ => h1.1 h2⟩
        · have h3 := mask_lt hD (i + 1) i (by omega) _ hoi j h
          refine ⟨fun h4 => ?_, fun h4 => by omega⟩
          have := hopen i oi hoi (h1.2 h4)
          rw [h] at this; cases this) hlook
      refine hwp _ _ hG (.inl (.inl hst)) ?_
      rintro st' a' w' rfl hG'
      refine ih _ a' w' hs' hdc' hcnt' ⟨m, hm, fun i o hoi hqi => ?_, ?_⟩
      · rw [hM]
        have hne : (i == j) = false := by
          simp only [beq_eq_false_iff_ne]
          intro e; subst e
          rw [ho] at hoi; injection hoi with hoi; subst hoi
          rw [hq] at hqi; cases hqi
        rw [hne, Bool.or_false]
        exact hlo i o hoi hqi
      · refine hG'.congr (fun s => ?_) (by cases (l[j]).dst <;> rfl)
        cases hd : (l[j]).dst with
        | none =>
          show lk (elist _ _ _ _ _ _) s = lk (elist _ _ _ _ _ _) s
          rw [hput0 hd]
        | some d =>
          show lk (elist _ _ _ _ _ _) s = lk ((d, val j) :: elist _ _ _ _ _ _) s
          rw [hput d s hd]
          simp only [lk]
    | false =>
      obtain ⟨h', e1, _, hv⟩ := hld j _ ho hq
      have hb : ∀ i oi, i < j → l[i]? = some oi → qf rs i oi = false → listed.getD i false = true := fun i oi hij hoi hqi => hbefore i oi hij hoi (by simp [conf2, hqi, hq])
      have ha : ∀ i oi, j < i → l[i]? = some oi → qf rs i oi = false → listed.getD i false = false := fun i oi hij hoi hqi => hafter i oi hij hoi (by simp [conf2, hqi, hq])
      have hheap : (σ m).heap = (σ j).heap := by
        refine seg2 m j hm (by omega) (fun i oi hoi hqi => ?_)
        have h1 := hlo i oi hoi hqi
        rcases Nat.lt_trichotomy i j with h | h | h
        · exact ⟨fun _ => h, fun _ => h1.1 (hb i oi h hoi hqi)⟩
        · subst h
          rw [hLj] at h1
          simp at h1
          omega
        · have := ha i oi h hoi hqi
          rw [this] at h1
          simp at h1
          omega
      have hst := hv ⟨elist (σ 0).env l val (fun i => listed.getD i false) 0 l.length, (σ m).heap⟩ hheap hlook
      refine hwp _ _ hG hst ?_
      rintro st' a' w' rfl hG'
      refine ih _ a' w' hs' hdc' hcnt' ⟨j + 1, by omega, fun i o hoi hqi => ?_, ?_⟩
      · rw [hM]
        rcases Nat.lt_trichotomy i j with h | h | h
        · rw [hb i o h hoi hqi]; simp; omega
        · subst h; simp
        · rw [ha i o h hoi hqi]; simp; omega
      · refine hG'.congr (fun s => ?_) (by rw [e1])
        cases hd : (l[j]).dst with
        | none =>
          show lk (elist _ _ _ _ _ _) s = lk (elist _ _ _ _ _ _) s
          rw [hput0 hd]
        | some d =>
          show lk (elist _ _ _ _ _ _) s = lk ((d, val j) :: killE d (elist _ _ _ _ _ _)) s
          rw [hput d s hd, ZB8]
          · simp only [lk]
          · refine ZE9 (h0 j _ ho d hq hd) (fun i hL hdi => ?_) _
            have hil : i < l.length := by
              rcases Nat.lt_or_ge i l.length with h | h
              · exact h
              · rw [List.getElem?_eq_none h] at hdi; exact absurd rfl hdi
            have hoi : l[i]? = some l[i] := List.getElem?_eq_getElem hil
            rw [hoi] at hdi
            simp only [Option.bind_some] at hdi
            cases hqi : qf rs i l[i] with
            | true => exact ZBO ((hqt i _ hoi hqi).2.1 hdi) d (hD.kills j i _ _ d ho hoi hqi hq hd (hopen i _ hoi hL))
            | false =>
              obtain ⟨_, _, e2, _⟩ := hld i _ hoi hqi
              cases hdi' : (l[i]).dst with
              | none => exact absurd hdi' hdi
              | some di =>
                refine e2 di d hdi' (fun e => ?_)
                have hij : i ≠ j := fun e => by subst e; rw [hLj] at hL; cases hL
                exact hD.apart i j _ _ di hij hoi ho hqi hq hdi' (by rw [hd, e])
end

theorem awp_draw2 {P : Program} {T : Tab} (hT : T.ok P) {n B : Nat} {w0 : Orig} {Q : Exit → St → Prop} {st : St} {id : Nat} {l : List Oper} (rs : List (Nat × List Nat)) (hm : P.follows .mixedOrders = true) (hD : drawOk2 l (Region.before l.toArray).toList rs = true)
    (hE : killsE (loudDs l rs) st.env) (h : AOps2 P T n l.toArray (fun st' => Q .normal st') l rs st) : AWP P n B w0 (.region id l.toArray true) Q st := by
  intro a w hG
  have hD' := ZDZ hD
  obtain ⟨σ, val, s0, sN, sq, sl⟩ := trace2_ex l rs st h
  refine wpIn_region_any hm ?_
  have hG' : G n B w0 st a { w with drawn := w.drawn + 1 } := by
    obtain ⟨ρ, I, hg⟩ := hG
    exact ⟨ρ, I, hg.quiet ⟨⟨rfl, rfl, rfl, Nat.le_refl _, fun _ _ => rfl⟩, fun _ h => h, fun _ h h' => absurd h h', hg.hw.lt⟩⟩
  have hfalse : ∀ i, (Array.replicate l.toArray.size false).getD i false = false := fun i => by
    by_cases hi : i < l.length <;> simp [Array.getD_eq_getD_getElem?, hi]
  refine any_ok2 hT hD' σ val (fun i o ho d hq hd p hp => ?_) sq sl (fun a w hg => ⟨_, sN, hg⟩) _ _ a _ (by simp) (fun j o _ hL => by rw [hfalse] at hL; cases hL) ?_ ⟨0, Nat.zero_le _, (fun i o _ _ => by rw [hfalse]; simp), ?_⟩
  · rw [s0] at hp
    exact ZCo hE p hp d (ZDM ho hq hd)
  · have := List.countP_le_length (p := fun i => !(Array.replicate l.toArray.size false).getD i false) (l := List.range l.length)
    simpa using this
  · refine hG'.congr (fun s => ?_) (by rw [s0])
    have e := ZBD (E := (σ 0).env) (l := l) (val := val) (L := fun i => (Array.replicate l.toArray.size false).getD i false) (k := 0) 0 (fun i _ => hfalse i) l.length (Nat.zero_le _)
    show lk (elist _ _ _ _ _ _) s = _
    rw [e]
    show lk (σ 0).env s = _
    rw [s0]

theorem aops2_nil {P : Program} {T : Tab} {n : Nat} {ops : Array Oper} {K : St → Prop} {st : St} {rs : List (Nat × List Nat)} (h : K st) : AOps2 P T n ops K [] rs st := h
theorem aops2_quiet {P : Program} {T : Tab} {n : Nat} {ops : Array Oper} {K : St → Prop} {o : Oper} {rest : List Oper} {R : List Nat} {rs : List (Nat × List Nat)} {st : St} {g : Option (Nat × Bool)} (hq : quietOp o.op = true) (hg : gOf ops o.guard = some g)
    (h : ∀ K' : St → Prop, (∀ s, killsL R (dstV s o.dst) → AOps2 P T n ops K rest rs s → K' s) → StepN P T n o.dst o.op g K' st) : AOps2 P T n ops K (o :: rest) ((0, R) :: rs) st := by
  have e : qq (0, R) o = true := by simp [qq, hq]
  simp only [AOps2, e, cond_true]
  show AStep P T n ops o (fun s => killsL R (dstV s o.dst) ∧ AOps2 P T n ops K rest rs s) st
  exact ZBT hg (h _ fun _ h1 h2 => ⟨h1, h2⟩)
theorem aops2_free {P : Program} {T : Tab} {n : Nat} {ops : Array Oper} {K : St → Prop} {o : Oper} {rest : List Oper} {R : List Nat} {rs : List (Nat × List Nat)} {st : St} {g : Option (Nat × Bool)} (hq : quietOp o.op = true) (hg : gOf ops o.guard = some g)
    (h : ∀ K' : St → Prop, (∀ s, killsL R (dstV s o.dst) → AOps2 P T n ops K rest rs ⟨s.env, st.heap⟩ → K' s) → StepN P T n o.dst o.op g K' ⟨st.env, []⟩) : AOps2 P T n ops K (o :: rest) ((1, R) :: rs) st := by
  have e : qq (1, R) o = true := by simp [qq, hq]
  simp only [AOps2, e, cond_true]
  show AStep P T n ops o (fun s => killsL R (dstV s o.dst) ∧ AOps2 P T n ops K rest rs ⟨s.env, st.heap⟩) ⟨st.env, []⟩
  exact ZBT hg (h _ fun _ h1 h2 => ⟨h1, h2⟩)
theorem aops2_loud {P : Program} {T : Tab} {n : Nat} {ops : Array Oper} {K : St → Prop} {o : Oper} {rest : List Oper} {R : List Nat} {rs : List (Nat × List Nat)} {st : St} {g : Option (Nat × Bool)} (hq : quietOp o.op = false) (hg : gOf ops o.guard = some g)
    (h : ∀ K' : St → Prop, (∀ s, AOps2 P T n ops K rest rs s → K' s) → StepN P T n o.dst o.op g K' st) : AOps2 P T n ops K (o :: rest) ((0, R) :: rs) st := by
  have e : qq (0, R) o = false := by simp [qq, hq]
  simp only [AOps2, e, cond_false]
  show AStep P T n ops o (fun s => AOps2 P T n ops K rest rs s) st
  exact ZBT hg (h _ fun _ h => h)
theorem aops2_own {P : Program} {T : Tab} {n : Nat} {ops : Array Oper} {K : St → Prop} {o : Oper} {rest : List Oper} {R : List Nat} {rs : List (Nat × List Nat)} {st : St} {d : Nat} (hd : o.dst = some d) (hg : o.guard = none) (hn : d < n)
    (h : ∀ K' : St → Prop, (∀ s, AOps2 P T n ops K rest rs s → K' s) → alB T st (some d) o.op K') : AOps2 P T n ops K (o :: rest) ((3, R) :: rs) st := by
  have : qq (3, R) o = false := by simp [qq]
  simp only [AOps2, this, cond_false]
  show stepB T n o (fun s => AOps2 P T n ops K rest rs s) st
  exact ⟨hg, by rw [hd]; exact hn, by rw [hd]; exact h _ fun _ h => h⟩
theorem aops2_map {P : Program} {T : Tab} {n : Nat} {ops : Array Oper} {K : St → Prop} {o : Oper} {rest : List Oper} {R : List Nat} {rs : List (Nat × List Nat)} {st : St} (hg : o.guard = none) (hd : dstOk n o.dst)
    (h : ∀ K' : St → Prop, (∀ s, AOps2 P T n ops K rest rs s → K' s) → MapUpdA T o.dst o.op K' st) : AOps2 P T n ops K (o :: rest) ((4, R) :: rs) st := by
  have : qq (4, R) o = false := by simp [qq]
  simp only [AOps2, this, cond_false]
  show stepD P T n o (fun s => AOps2 P T n ops K rest rs s) st
  exact ⟨hg, hd, .inl (.inl (h _ fun _ h => h))⟩
theorem aops2_lit {P : Program} {T : Tab} {n : Nat} {ops : Array Oper} {K : St → Prop} {o : Oper} {rest : List Oper} {R : List Nat} {rs : List (Nat × List Nat)} {st : St} (hg : o.guard = none) (hd : dstOk n o.dst)
    (h : ∀ K' : St → Prop, (∀ s, AOps2 P T n ops K rest rs s → K' s) → NstLit T o.dst o.op K' st) : AOps2 P T n ops K (o :: rest) ((4, R) :: rs) st := by
  have : qq (4, R) o = false := by simp [qq]
  simp only [AOps2, this, cond_false]
  show stepD P T n o (fun s => AOps2 P T n ops K rest rs s) st
  exact ⟨hg, hd, .inl (.inr (.inl (h _ fun _ h => h)))⟩
theorem aops2_appN {P : Program} {T : Tab} {n : Nat} {ops : Array Oper} {K : St → Prop} {o : Oper} {rest : List Oper} {R : List Nat} {rs : List (Nat × List Nat)} {st : St} (hg : o.guard = none) (hd : dstOk n o.dst)
    (h : ∀ K' : St → Prop, (∀ s, AOps2 P T n ops K rest rs s → K' s) → AppN T o.dst o.op K' st) : AOps2 P T n ops K (o :: rest) ((4, R) :: rs) st := by
  have : qq (4, R) o = false := by simp [qq]
  simp only [AOps2, this, cond_false]
  show stepD P T n o (fun s => AOps2 P T n ops K rest rs s) st
  exact ⟨hg, hd, .inl (.inr (.inr (h _ fun _ h => h)))⟩
theorem awp_v {P : Program} {T : Tab} (hT : T.ok P) {n B : Nat} {w0 : Orig} {Q : Exit → St → Prop} {st : St} {id : Nat} {l : List Oper} (ds : List Nat) (rs : List (Nat × List Nat)) (hm : P.follows .mixedOrders = true) (hD : (decide (loudDs l rs = ds) && drawOk2 l (Region.before l.toArray).toList rs) = true)
    (hE : killsE ds st.env) (h : ∀ K : St → Prop, (∀ s, Q .normal s → K s) → AOps2 P T n l.toArray K l rs st) : AWP P n B w0 (.region id l.toArray true) Q st := by
  rw [Bool.and_eq_true, decide_eq_true_eq] at hD
  exact awp_draw2 hT rs hm hD.2 (by rw [hD.1]; exact hE) (h _ fun _ h => h)
theorem aops2_eff {P : Program} {T : Tab} {n : Nat} {ops : Array Oper} {K : St → Prop} {o : Oper} {rest : List Oper} {R : List Nat} {rs : List (Nat × List Nat)} {st : St} (hg : o.guard = none) (hd : dstOk n o.dst)
    (h : ∀ K' : St → Prop, (∀ s, AOps2 P T n ops K rest rs s → K' s) → EffK P o.dst o.op K' st) : AOps2 P T n ops K (o :: rest) ((4, R) :: rs) st := by
  have : qq (4, R) o = false := by simp [qq]
  simp only [AOps2, this, cond_false]
  show stepD P T n o (fun s => AOps2 P T n ops K rest rs s) st
  exact ⟨hg, hd, .inr (h _ fun _ h => h)⟩
attribute [push_cast] pk
end Go.Eng.V3
namespace Go.Eng
open Go
set_option linter.unusedVariables false
set_option linter.unusedSimpArgs false

def MvStep (g : Option (Nat × Bool)) (dst : Option Nat) (op : Op) (K : St → Prop) (st : St) : Prop :=
  match op with
  | .makeFunc (.method m) first caps => match first.toList, caps.toList with
    | [x], [] => match (st.ev x).strip, guardS st g with
      | .v y, some (some true) => (st.ev x).cond ∧ K (st.put dst (.g true (.v (.func (.method m) #[y] #[]))))
      | _, _ => False
    | _, _ => False
  | _ => False
theorem ZHR {P : Program} {T : Tab} (hT : T.ok P) {n B : Nat} {w0 : Orig} {ops : Array Oper} {K : St → Prop} {o : Oper} {rest : List Oper} {st : St} {g : Option (Nat × Bool)} (hg : gOf ops o.guard = some g) (hd : dstOk n o.dst) (h : ∀ K' : St → Prop, (∀ s, AOpsS P n B w0 ops K rest s → K' s) → MvStep g o.dst o.op K' st) : AOpsS P n B w0 ops K (o :: rest) st := by
  intro a w ρ I hG next Q hnx
  have h' := h _ fun _ h => h
  unfold MvStep at h'
  split at h' <;> first | exact h'.elim | skip
  rename_i m first caps ho
  split at h' <;> first | exact h'.elim | skip
  rename_i x hf hc
  split at h' <;> first | exact h'.elim | skip
  rename_i y hx hgs
  have hw := ZBC hG (ops := ops) (o := o) (g := some true) (by rw [ZBd hg]; exact hgs)
  rw [hw]
  have hxv := (hG.ev x).strip h'.1
  rw [hx] at hxv
  have hxv := hxv.v_inv
  have hf' : first = #[x] := Array.toList_inj.1 (by simpa using hf)
  have hc' : caps = #[] := Array.toList_inj.1 (by simpa using hc)
  subst hf'; subst hc'
  refine toIn (fun c' hc' => by rw [hc'] at ho; cases ho) ?_
  unfold Oper.wp
  have : (execOp a.eval o).run P w = .ok (.value (.func (.method m) #[y] #[])) w := by
    simp [execOp, ho, Instr.makeFunc, hxv]
  rw [this, Oper.upon_value]
  exact hnx _ _ _ h'.2 ⟨ρ, I, hG.put (ZCL hd) (.g true _ _ (fun _ => .v _) (fun h => by cases h))⟩
def NvStep (P : Program) (g : Option (Nat × Bool)) (dst : Option Nat) (op : Op) (K : St → Prop) (st : St) : Prop :=
  match op with
  | .nilCheck x => match (st.ev x).strip, guardS st g with
    | .v (.func (.method m) first caps), some (some true) => (st.ev x).cond ∧ ∃ t pl, first = #[.iface t pl] ∧ (∀ w : World, (nilAhead (P.types.size + Made.depth) t pl m).run P w = .ok (some false) w) ∧ K (st.put dst (.g true (.v (.func (.method m) first caps))))
    | _, _ => False
  | _ => False
theorem ZHS {P : Program} {T : Tab} (hT : T.ok P) {n B : Nat} {w0 : Orig} {ops : Array Oper} {K : St → Prop} {o : Oper} {rest : List Oper} {st : St} {g : Option (Nat × Bool)} (hg : gOf ops o.guard = some g) (hd : dstOk n o.dst) (h : ∀ K' : St → Prop, (∀ s, AOpsS P n B w0 ops K rest s → K' s) → NvStep P g o.dst o.op K' st) : AOpsS P n B w0 ops K (o :: rest) st := by
  intro a w ρ I hG next Q hnx
  have h' := h _ fun _ h => h
  unfold NvStep at h'
  split at h' <;> first | exact h'.elim | skip
  rename_i x ho
  split at h' <;> first | exact h'.elim | skip
  rename_i m first caps hx hgs
  obtain ⟨cx, t, pl, rfl, hn, hK⟩ := h'
  have hw := ZBC hG (ops := ops) (o := o) (g := some true) (by rw [ZBd hg]; exact hgs)
  rw [hw]
  have hxv := (hG.ev x).strip cx
  rw [hx] at hxv
  have hxv := hxv.v_inv
  refine toIn (fun c' hc' => by rw [hc'] at ho; cases ho) ?_
  unfold Oper.wp
  have : (execOp a.eval o).run P w = .ok (.value (.func (.method m) #[.iface t pl] caps)) w := by
    simp [execOp, ho, hxv, hn, Result.andThen]
  rw [this, Oper.upon_value]
  exact hnx _ _ _ hK ⟨ρ, I, hG.put (ZCL hd) (.g true _ _ (fun _ => .v _) (fun h => by cases h))⟩
attribute [push_cast] MvStep NvStep
end Go.Eng
