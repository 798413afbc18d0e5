/- Part of a proof about the given program: contracts of its functions (see the comment of the last text). -/
import Derived.Test.YthgjjhddbigfcaaEng4
import Derived.WalkKit
import Derived.ProofKit
import Derived.OpenShut
import Derived.ShutString
import Derived.ChangeOld
import Derived.Carry
import Derived.Laws.CopyRow
set_option linter.unusedSimpArgs false
set_option linter.unusedVariables false
namespace Go.Eng
open Go.RowKit

def killsL : List Nat → AV → Prop
  | [], _ => True
  | d :: r, v => v.kill d = v ∧ killsL r v
theorem killsL_spec : ∀ {R : List Nat} {v : AV}, killsL R v → ∀ d ∈ R, v.kill d = v
  | [], _, _, d, hd => by simp at hd
  | e :: R, v, h, d, hd => by
    rcases List.mem_cons.1 hd with rfl | hd
    · exact h.1
    · exact killsL_spec h.2 d hd
def killsE : List Nat → List (Nat × AV) → Prop
  | _, [] => True
  | R, (_, v) :: r => killsL R v ∧ killsE R r
theorem killsE_spec : ∀ {R : List Nat} {E : List (Nat × AV)}, killsE R E → ∀ p ∈ E, ∀ d ∈ R, p.2.kill d = p.2
  | _, [], _, p, hp, _, _ => by simp at hp
  | R, (k, v) :: r, h, p, hp, d, hd => by
    rcases List.mem_cons.1 hp with rfl | hp
    · exact killsL_spec h.1 d hd
    · exact killsE_spec h.2 p hp d hd
def dstV (st : St) : Option Nat → AV
  | some d => lk st.env d
  | none => .top

def qq (p : Nat × List Nat) (o : Oper) : Bool := quietOp o.op && !(p.1 == 3) && !(p.1 == 4)
def qf (rs : List (Nat × List Nat)) (i : Nat) (o : Oper) : Bool := qq (rs.getD i (0, [])) o
/-- The evaluation, in the text's order: (un, R): 0: tied to all loud ones; 1: it stands beside one; 3: a literal as a row of one's own. R: the loud ones that need not have come. -/
def AOps2 (P : Program) (T : Tab) (n : Nat) (ops : Array Oper) (K : St → Prop) : List Oper → List (Nat × List Nat) → St → Prop
  | [], _, st => K st
  | _ :: _, [], _ => False
  | o :: rest, (un, R) :: rs, st =>
    bif qq (un, R) o then
      bif un == 1 then AStep P T n ops o (fun s => killsL R (dstV s o.dst) ∧ AOps2 P T n ops K rest rs ⟨s.env, st.heap⟩) ⟨st.env, []⟩
      else AStep P T n ops o (fun s => killsL R (dstV s o.dst) ∧ AOps2 P T n ops K rest rs s) st
    else bif un == 3 then stepB T n o (fun s => AOps2 P T n ops K rest rs s) st
    else bif un == 4 then stepC T n o (fun s => AOps2 P T n ops K rest rs s) st
    else AStep P T n ops o (fun s => AOps2 P T n ops K rest rs s) st

def loudDs : List Oper → List (Nat × List Nat) → List Nat
  | [], _ => []
  | o :: l, rs => (bif qq (rs.headD (0, [])) o then [] else o.dst.toList) ++ loudDs l rs.tail
theorem mem_loudDs : ∀ {l : List Oper} {rs : List (Nat × List Nat)} {i : Nat} {o : Oper} {d : Nat}, l[i]? = some o → qf rs i o = false → o.dst = some d → d ∈ loudDs l rs
  | [], rs, i, o, d, h, _, _ => by simp at h
  | x :: l, rs, 0, o, d, h, hq, hd => by
    simp at h; subst h
    have : qq (rs.headD (0, [])) x = false := by
      cases rs <;> simpa [qf] using hq
    simp only [loudDs, this, cond_false, hd, Option.toList, List.mem_append]
    exact .inl (by simp)
  | x :: l, rs, i + 1, o, d, h, hq, hd => by
    simp at h
    have : qf rs.tail i o = false := by
      cases rs <;> simpa [qf] using hq
    simp only [loudDs, List.mem_append]
    exact .inr (mem_loudDs h this hd)
def conf2 (qx qy : Bool) (ops : Array Oper) (x y : Oper) : Bool :=
  (match x.dst with | some d => (y.looksAt ops).contains d || y.dst == some d | none => false) ||
  (match y.dst with | some d => (x.looksAt ops).contains d | none => false) || (!qx && !qy)
def drawOk2 (l : List Oper) (ms : List Nat) (rs : List (Nat × List Nat)) : Bool :=
  (List.range l.length).all fun j => match l[j]? with
    | none => true
    | some oj => oj.after.toList.all (fun e => !Region.binds .any e || decide (e.on < j)) && ((ms.getD j 0 &&& uni ms oj.after.toList) == ms.getD j 0) &&
      (List.range l.length).all fun i => match l[i]? with
        | none => true
        | some oi =>
          (!(decide (i < j) && conf2 (qf rs i oi) (qf rs j oj) l.toArray oi oj) || (ms.getD j 0).testBit i) &&
          (!(decide (i < j) && (!qf rs i oi && !qf rs j oj)) || oi.dst.isNone || oi.dst != oj.dst) &&
          (!(qf rs j oj && !qf rs i oi) || ((rs.getD j (0, [])).1 == 1 || (ms.getD j 0).testBit i || (ms.getD i 0).testBit j)) &&
          (!(qf rs j oj && !qf rs i oi) || ((ms.getD j 0).testBit i || match oi.dst with | some d => (rs.getD j (0, [])).2.contains d | none => true))

structure DrawOk2 (l : List Oper) (ms : List Nat) (rs : List (Nat × List Nat)) : Prop where
  lt : ∀ j (o : Oper), l[j]? = some o → ∀ e ∈ o.after, Region.binds .any e = true → e.on < j
  sub : ∀ j (o : Oper), l[j]? = some o → ∀ i, (ms.getD j 0).testBit i = true → ∃ e ∈ o.after, Region.binds .any e = true ∧ (e.on = i ∨ (ms.getD e.on 0).testBit i = true)
  conf : ∀ (i j : Nat) (oi oj : Oper), i < j → l[i]? = some oi → l[j]? = some oj → conf2 (qf rs i oi) (qf rs j oj) l.toArray oi oj = true → (ms.getD j 0).testBit i = true
  apart : ∀ (i j : Nat) (oi oj : Oper) (d : Nat), i ≠ j → l[i]? = some oi → l[j]? = some oj → qf rs i oi = false → qf rs j oj = false → oi.dst = some d → oj.dst ≠ some d
  tied : ∀ (i j : Nat) (oi oj : Oper), l[i]? = some oi → l[j]? = some oj → qf rs j oj = true → qf rs i oi = false → ((rs.getD j (0, [])).1 == 1) = false → (ms.getD j 0).testBit i = true ∨ (ms.getD i 0).testBit j = true
  kills : ∀ (i j : Nat) (oi oj : Oper) (d : Nat), l[i]? = some oi → l[j]? = some oj → qf rs j oj = true → qf rs i oi = false → oi.dst = some d → (ms.getD j 0).testBit i = false → d ∈ (rs.getD j (0, [])).2

theorem drawOk2_spec {l : List Oper} {ms : List Nat} {rs : List (Nat × List Nat)} (h : drawOk2 l ms rs = true) : DrawOk2 l ms rs := by
  unfold drawOk2 at h
  rw [List.all_eq_true] at h
  have hj : ∀ j o, l[j]? = some o → j < l.length := fun j o hj => (List.getElem?_eq_some_iff.1 hj).1
  have key : ∀ i j (oi oj : Oper), l[i]? = some oi → l[j]? = some oj →
      (((!(decide (i < j) && conf2 (qf rs i oi) (qf rs j oj) l.toArray oi oj) || (ms.getD j 0).testBit i) = true ∧
          (!(decide (i < j) && (!qf rs i oi && !qf rs j oj)) || oi.dst.isNone || oi.dst != oj.dst) = true) ∧
          (!(qf rs j oj && !qf rs i oi) || ((rs.getD j (0, [])).1 == 1 || (ms.getD j 0).testBit i || (ms.getD i 0).testBit j)) = true) ∧
          (!(qf rs j oj && !qf rs i oi) || ((ms.getD j 0).testBit i || match oi.dst with | some d => (rs.getD j (0, [])).2.contains d | none => true)) = true := fun i j oi oj hi ho => by
    have h1 := h j (by simp [hj j _ ho])
    simp only [ho, Bool.and_eq_true] at h1
    have := List.all_eq_true.1 h1.2 i (by simp [hj i _ hi])
    simp only [hi] at this
    simpa only [Bool.and_eq_true] using this
  refine ⟨fun j o ho e he hb => ?_, fun j o ho i hi => ?_, fun i j oi oj hij hi ho hc => ?_, fun i j oi oj d hne hi ho q1 q2 hd hd2 => ?_, fun i j oi oj hi ho q1 q2 hu => ?_, fun i j oi oj d hi ho q1 q2 hd ht => ?_⟩
  · have h1 := h j (by simp [hj j _ ho])
    simp only [ho, Bool.and_eq_true] at h1
    have := List.all_eq_true.1 h1.1.1 e (by simpa using he)
    simpa [hb] using this
  · have h1 := h j (by simp [hj j _ ho])
    simp only [ho, Bool.and_eq_true] at h1
    have h2 : (ms.getD j 0 &&& uni ms o.after.toList) = ms.getD j 0 := by simpa using h1.1.2
    rw [← h2, Nat.testBit_and] at hi
    simp only [Bool.and_eq_true] at hi
    obtain ⟨e, h3, h4⟩ := uni_spec hi.2
    exact ⟨e, by simpa using h3, h4⟩
  · have := (key i j oi oj hi ho).1.1.1
    simpa [hij, hc] using this
  · rcases Nat.lt_or_ge i j with hlt | hge
    · have := (key i j oi oj hi ho).1.1.2
      simp [hlt, q1, q2, hd, hd2] at this
    · have := (key j i oj oi ho hi).1.1.2
      simp [show j < i by omega, q1, q2, hd, hd2] at this
  · have := (key i j oi oj hi ho).1.2
    rw [hu] at this
    simpa [q1, q2] using this
  · have := (key i j oi oj hi ho).2
    rw [ht] at this
    simpa [q1, q2, hd] using this

theorem killE_nr {d : Nat} : ∀ {E : List (Nat × AV)}, (∀ p ∈ E, p.2.kill d = p.2) → killE d E = E
  | [], _ => rfl
  | (k, v) :: r, h => by
    simp only [killE]
    rw [h (k, v) (by simp), killE_nr (fun p hp => h p (by simp [hp]))]
theorem lk_nr {d : Nat} : ∀ {E : List (Nat × AV)}, (∀ p ∈ E, p.2.kill d = p.2) → ∀ s, (lk E s).kill d = lk E s
  | [], _, s => by simp only [lk, AV.kill]
  | (k, v) :: r, h, s => by
    simp only [lk]
    split
    · exact h (k, v) (by simp)
    · exact lk_nr (fun p hp => h p (by simp [hp])) s
theorem elist_nr {E : List (Nat × AV)} {l : List Oper} {val : Nat → AV} {L : Nat → Bool} {k d : Nat} (hE : ∀ p ∈ E, p.2.kill d = p.2) (hv : ∀ i, L i = true → (l[i]?).bind (·.dst) ≠ none → (val i).kill d = val i) : ∀ c, ∀ p ∈ elist E l val L k c, p.2.kill d = p.2
  | 0, p, hp => hE p hp
  | c + 1, p, hp => by
    have ih := elist_nr (k := k) hE hv c
    simp only [elist] at hp
    split at hp
    · rename_i d' heq
      split at heq
      · rename_i hL
        rcases List.mem_cons.1 hp with rfl | hp
        · exact hv _ hL (by rw [heq]; simp)
        · exact ih p hp
      · cases heq
    · exact ih p hp

section
variable {P : Program} {T : Tab} (hT : T.ok P) {n B : Nat} {w0 : Orig} {l : List Oper} {ms : List Nat} {rs : List (Nat × List Nat)} (hD : DrawOk2 l ms rs)

/-- The states of an evaluation, one by one. -/
theorem trace2_ex {K : St → Prop} : ∀ (q : List Oper) (rs : List (Nat × List Nat)) (st : St), AOps2 P T n l.toArray K q rs st → ∃ (σ : Nat → St) (val : Nat → AV), σ 0 = st ∧ K (σ q.length) ∧
    (∀ i o, q[i]? = some o → qf rs i o = true → σ (i + 1) = (σ i).put o.dst (val i) ∧ (o.dst ≠ none → killsL (rs.getD i (0, [])).2 (val i)) ∧
      ∀ st' : St, (((rs.getD i (0, [])).1 == 1) = false → st'.heap = (σ i).heap) → (∀ t ∈ o.looksAt l.toArray, lk st'.env t = lk (σ i).env t) → AStep P T n l.toArray o (fun s => s = st'.put o.dst (val i)) st') ∧
    (∀ i o, q[i]? = some o → qf rs i o = false → ∃ h', σ (i + 1) = ⟨pk o.dst (val i) (σ i).env, h'⟩ ∧ (∀ d d', o.dst = some d → d' ≠ d → (val i).kill d' = val i) ∧
      ∀ st' : St, st'.heap = (σ i).heap → (∀ t ∈ o.looksAt l.toArray, lk st'.env t = lk (σ i).env t) → AStepX P T n l.toArray o (fun s => s = ⟨pk o.dst (val i) st'.env, h'⟩) st')
  | [], rs, st, h => ⟨fun _ => st, fun _ => .top, rfl, h, fun i o hi => by simp at hi, fun i o hi => by simp at hi⟩
  | o :: q, [], st, h => h.elim
  | o :: q, (un, R) :: rs, st, h => by
    have putV : ∀ (s : St) (r : AV), o.dst ≠ none → dstV (s.put o.dst r) o.dst = r := fun s r hd => by
      cases hd' : o.dst with
      | none => exact absurd hd' hd
      | some d => simp [dstV, St.put, lk]
    simp only [AOps2] at h
    cases hq : qq (un, R) o with
    | true =>
      have hq0 : quietOp o.op = true := by simp only [qq, Bool.and_eq_true] at hq; exact hq.1.1
      rw [hq] at h
      simp only [cond_true] at h
      cases hu : (un == 1) with
      | true =>
        rw [hu] at h
        simp only [cond_true] at h
        obtain ⟨r, ⟨h1, h2⟩, h3⟩ := free_step hq0 h
        have h2' : AOps2 P T n l.toArray K q rs (st.put o.dst r) := by
          cases hd : o.dst <;> rw [hd] at h2 <;> exact h2
        obtain ⟨σ, val, s0, sN, sq, sl⟩ := trace2_ex q rs _ h2'
        refine ⟨fun i => match i with | 0 => st | i + 1 => σ i, fun i => match i with | 0 => r | i + 1 => val i, rfl, sN, fun i o' hi hq' => ?_, fun i o' hi hq' => ?_⟩
        · cases i with
          | zero =>
            simp at hi; subst hi
            exact ⟨s0, fun hd => by rw [putV _ _ hd] at h1; exact h1, fun st' _ hl => h3 st' hl⟩
          | succ i => simp at hi; exact sq i o' hi (by simpa [qf] using hq')
        · cases i with
          | zero => simp at hi; subst hi; simp [qf, hq] at hq'
          | succ i => simp at hi; exact sl i o' hi (by simpa [qf] using hq')
      | false =>
        rw [hu] at h
        simp only [cond_false] at h
        obtain ⟨r, ⟨h1, h2⟩, h3⟩ := quiet_step hq0 h
        obtain ⟨σ, val, s0, sN, sq, sl⟩ := trace2_ex q rs _ h2
        refine ⟨fun i => match i with | 0 => st | i + 1 => σ i, fun i => match i with | 0 => r | i + 1 => val i, rfl, sN, fun i o' hi hq' => ?_, fun i o' hi hq' => ?_⟩
        · cases i with
          | zero =>
            simp at hi; subst hi
            exact ⟨s0, fun hd => by rw [putV _ _ hd] at h1; exact h1, fun st' hh hl => h3 st' (hh hu) hl⟩
          | succ i => simp at hi; exact sq i o' hi (by simpa [qf] using hq')
        · cases i with
          | zero => simp at hi; subst hi; simp [qf, hq] at hq'
          | succ i => simp at hi; exact sl i o' hi (by simpa [qf] using hq')
    | false =>
      rw [hq] at h
      simp only [cond_false] at h
      have hX : ∃ r h', AOps2 P T n l.toArray K q rs ⟨pk o.dst r st.env, h'⟩ ∧ (∀ d d', o.dst = some d → d' ≠ d → r.kill d' = r) ∧
          ∀ st' : St, st'.heap = st.heap → (∀ t ∈ o.looksAt l.toArray, lk st'.env t = lk st.env t) → AStepX P T n l.toArray o (fun s => s = ⟨pk o.dst r st'.env, h'⟩) st' := by
        cases hu : (un == 3) with
        | true =>
          rw [hu] at h
          simp only [cond_true] at h
          obtain ⟨r, h', h1, h2, h3⟩ := loudB_step (ops := l.toArray) h
          exact ⟨r, h', h1, h2, fun st' hh hl => .inr (.inl (h3 st' hh hl))⟩
        | false =>
          rw [hu] at h
          simp only [cond_false] at h
          cases hu4 : (un == 4) with
          | true =>
            rw [hu4] at h
            simp only [cond_true] at h
            obtain ⟨r, h', h1, h2, h3⟩ := loudC_step (ops := l.toArray) h
            exact ⟨r, h', h1, h2, fun st' hh hl => .inr (.inr (.inr (h3 st' hh hl)))⟩
          | false =>
            rw [hu4] at h
            simp only [cond_false] at h
            have hq0 : quietOp o.op = false := by simpa [qq, hu, hu4] using hq
            obtain ⟨r, h', h1, h2, h3⟩ := loud_step hq0 h
            exact ⟨r, h', h1, h2, fun st' hh hl => .inl (h3 st' hh hl)⟩
      obtain ⟨r, h', h1, h2, h3⟩ := hX
      obtain ⟨σ, val, s0, sN, sq, sl⟩ := trace2_ex q rs _ h1
      refine ⟨fun i => match i with | 0 => st | i + 1 => σ i, fun i => match i with | 0 => r | i + 1 => val i, rfl, sN, fun i o' hi hq' => ?_, fun i o' hi hq' => ?_⟩
      · cases i with
        | zero => simp at hi; subst hi; simp [qf, hq] at hq'
        | succ i => simp at hi; exact sq i o' hi (by simpa [qf] using hq')
      · cases i with
        | zero =>
          simp at hi; subst hi
          exact ⟨h', s0, h2, h3⟩
        | succ i => simp at hi; exact sl i o' hi (by simpa [qf] using hq')

include hD
theorem closed_mask2 {L : Nat → Bool} (hdc : ∀ j o, l[j]? = some o → L j = true → ∀ e ∈ o.after, Region.binds .any e = true → L e.on = true) :
    ∀ (m j : Nat), j < m → ∀ o, l[j]? = some o → (∀ e ∈ o.after, Region.binds .any e = true → L e.on = true) → ∀ i, (ms.getD j 0).testBit i = true → L i = true
  | 0, j, hm => by omega
  | m + 1, j, hm => by
    intro o ho hdep i hi
    obtain ⟨e, he, hb, h⟩ := hD.sub j o ho i hi
    have hlt := hD.lt j o ho e he hb
    have hLe := hdep e he hb
    rcases h with h | h
    · rw [← h]; exact hLe
    · have hjl := (List.getElem?_eq_some_iff.1 ho).1
      have ho' : l[e.on]? = some l[e.on] := List.getElem?_eq_getElem (by omega)
      exact closed_mask2 hdc m e.on (by omega) _ ho' (hdc _ _ ho' hLe) i h
theorem mask_lt : ∀ (m j : Nat), j < m → ∀ o, l[j]? = some o → ∀ i, (ms.getD j 0).testBit i = true → i < j
  | 0, j, hm => by omega
  | m + 1, j, hm => by
    intro o ho i hi
    obtain ⟨e, he, hb, h⟩ := hD.sub j o ho i hi
    have hlt := hD.lt j o ho e he hb
    rcases h with h | h
    · omega
    · have hjl := (List.getElem?_eq_some_iff.1 ho).1
      have ho' : l[e.on]? = some l[e.on] := List.getElem?_eq_getElem (by omega)
      have := mask_lt m e.on (by omega) _ ho' i h
      omega

include hT in
theorem any_ok2 {Q : Exit → Act → World → Prop} (σ : Nat → St) (val : Nat → AV) (h0 : ∀ i o, l[i]? = some o → ∀ d, qf rs i o = false → o.dst = some d → ∀ p ∈ (σ 0).env, p.2.kill d = p.2)
    (hqt : ∀ i o, l[i]? = some o → qf rs i o = true → σ (i + 1) = (σ i).put o.dst (val i) ∧ (o.dst ≠ none → killsL (rs.getD i (0, [])).2 (val i)) ∧
      ∀ st' : St, (((rs.getD i (0, [])).1 == 1) = false → st'.heap = (σ i).heap) → (∀ t ∈ o.looksAt l.toArray, lk st'.env t = lk (σ i).env t) → AStep P T n l.toArray o (fun s => s = st'.put o.dst (val i)) st')
    (hld : ∀ i o, l[i]? = some o → qf rs i o = false → ∃ h', σ (i + 1) = ⟨pk o.dst (val i) (σ i).env, h'⟩ ∧ (∀ d d', o.dst = some d → d' ≠ d → (val i).kill d' = val i) ∧
      ∀ st' : St, st'.heap = (σ i).heap → (∀ t ∈ o.looksAt l.toArray, lk st'.env t = lk (σ i).env t) → AStepX P T n l.toArray o (fun s => s = ⟨pk o.dst (val i) st'.env, h'⟩) st')
    (hQ : ∀ a w, G n B w0 (σ l.length) a w → Q .normal a w) :
    ∀ (fuel : Nat) (listed : Array Bool) (a : Act) (w : World), listed.size = l.length →
      (∀ j o, l[j]? = some o → listed.getD j false = true → ∀ e ∈ o.after, Region.binds .any e = true → listed.getD e.on false = true) →
      (List.range l.length).countP (fun i => !listed.getD i false) ≤ fuel →
      (∃ m, m ≤ l.length ∧ (∀ i o, l[i]? = some o → qf rs i o = false → (listed.getD i false = true ↔ i < m)) ∧
        G n B w0 ⟨elist (σ 0).env l val (fun i => listed.getD i false) 0 l.length, (σ m).heap⟩ a w) →
      wpAnyIn (fo w0) 0 P .any l.toArray Q fuel listed a w := by
  intro fuel
  have hlen : ∀ j o, l[j]? = some o → j < l.length := fun j o hj => (List.getElem?_eq_some_iff.1 hj).1
  -- no reference to what a loud operation makes, ahead of it
  have nr : ∀ i0 o0 d, l[i0]? = some o0 → qf rs i0 o0 = false → o0.dst = some d → ∀ i, i ≤ i0 → (∀ p ∈ (σ i).env, p.2.kill d = p.2) ∧ ∀ i', i' < i → ∀ o', l[i']? = some o' → (σ (i' + 1)).env = ((σ i').put o'.dst (val i')).env := by
    intro i0
    induction i0 using Nat.strongRecOn with
    | _ i0 IH =>
    intro o0 d ho0 hq0 hd0 i
    induction i with
    | zero => intro _; exact ⟨h0 i0 o0 ho0 d hq0 hd0, fun i' hi' => by omega⟩
    | succ i ih =>
      intro hi
      obtain ⟨ih1, ih2⟩ := ih (by omega)
      have hil : i < l.length := by have := hlen _ _ ho0; omega
      have hoi : l[i]? = some l[i] := List.getElem?_eq_getElem hil
      cases hq : qf rs i l[i] with
      | true =>
        obtain ⟨e1, e2, _⟩ := hqt i _ hoi hq
        refine ⟨fun p hp => ?_, fun i' hi' o' ho' => ?_⟩
        · rw [e1] at hp
          cases hdi : (l[i]).dst with
          | none => rw [hdi] at hp; exact ih1 p hp
          | some di =>
            rw [hdi] at hp
            simp only [St.put] at hp
            rcases List.mem_cons.1 hp with rfl | hp
            · refine killsL_spec (e2 (by rw [hdi]; simp)) d (hD.kills i0 i _ _ d ho0 hoi hq hq0 hd0 ?_)
              cases hb : (ms.getD i 0).testBit i0 with
              | false => rfl
              | true => have := mask_lt hD (i + 1) i (by omega) _ hoi i0 hb; omega
            · exact ih1 p hp
        · rcases Nat.lt_or_ge i' i with h | h
          · exact ih2 i' h o' ho'
          · have : i' = i := by omega
            subst this
            rw [hoi] at ho'; injection ho' with ho'; subst ho'
            rw [e1]
      | false =>
        obtain ⟨h', e1, e2, _⟩ := hld i _ hoi hq
        have henv : (σ (i + 1)).env = ((σ i).put (l[i]).dst (val i)).env := by
          rw [e1]
          cases hdi : (l[i]).dst with
          | none => rfl
          | some di =>
            simp only [pk, St.put]
            rw [killE_nr (IH i (by omega) _ di hoi hq hdi i (Nat.le_refl _)).1]
        refine ⟨fun p hp => ?_, fun i' hi' o' ho' => ?_⟩
        · rw [henv] at hp
          cases hdi : (l[i]).dst with
          | none => rw [hdi] at hp; exact ih1 p hp
          | some di =>
            rw [hdi] at hp
            simp only [St.put] at hp
            rcases List.mem_cons.1 hp with rfl | hp
            · exact e2 di d hdi (fun e => hD.apart i i0 _ _ di (by omega) hoi ho0 hq hq0 hdi (by rw [hd0, e]))
            · exact ih1 p hp
        · rcases Nat.lt_or_ge i' i with h | h
          · exact ih2 i' h o' ho'
          · have : i' = i := by omega
            subst this
            rw [hoi] at ho'; injection ho' with ho'; subst ho'
            exact henv
  have stepE : ∀ i o, l[i]? = some o → (σ (i + 1)).env = ((σ i).put o.dst (val i)).env := by
    intro i o ho
    cases hq : qf rs i o with
    | true => rw [(hqt i o ho hq).1]
    | false =>
      obtain ⟨h', e1, _, _⟩ := hld i o ho hq
      rw [e1]
      cases hdi : o.dst with
      | none => rfl
      | some di =>
        simp only [pk, St.put]
        rw [killE_nr (nr i o di ho hq hdi i (Nat.le_refl _)).1]
  have seg : ∀ k j, k ≤ j → (∀ m o, k ≤ m → m < j → l[m]? = some o → qf rs m o = true) → j ≤ l.length → (σ j).heap = (σ k).heap := by
    intro k j hkj hq hjl
    induction j with
    | zero => have : k = 0 := by omega
              subst this; rfl
    | succ j ih =>
      by_cases e : k = j + 1
      · rw [e]
      · have hj : j < l.length := by omega
        have ho : l[j]? = some l[j] := List.getElem?_eq_getElem hj
        rw [(hqt j _ ho (hq j _ (by omega) (by omega) ho)).1]
        have := ih (by omega) (fun m o h1 h2 => hq m o h1 (by omega)) (by omega)
        rw [← this]
        cases (l[j]).dst <;> rfl
  -- two places with no loud operation between them
  have seg2 : ∀ k j, k ≤ l.length → j ≤ l.length → (∀ m o, l[m]? = some o → qf rs m o = false → (m < k ↔ m < j)) → (σ k).heap = (σ j).heap := by
    intro k j hk hj h
    rcases Nat.le_total k j with hkj | hkj
    · refine (seg k j hkj (fun m o h1 h2 ho => ?_) hj).symm
      cases hq : qf rs m o with
      | true => rfl
      | false => have := h m o ho hq; omega
    · refine seg j k hkj (fun m o h1 h2 ho => ?_) hk
      cases hq : qf rs m o with
      | true => rfl
      | false => have := h m o ho hq; omega
  have done : ∀ (listed : Array Bool) (a : Act) (w : World), (∀ i, i < l.length → listed.getD i false = true) → (∃ m, m ≤ l.length ∧ (∀ i o, l[i]? = some o → qf rs i o = false → (listed.getD i false = true ↔ i < m)) ∧
        G n B w0 ⟨elist (σ 0).env l val (fun i => listed.getD i false) 0 l.length, (σ m).heap⟩ a w) → Q .normal a w := by
    rintro listed a w hall ⟨m, hm, hlo, hG⟩
    have hE := elist_all (l := l) (val := val) (L := fun i => listed.getD i false) (k := 0) σ l.length rfl (fun i o _ _ ho => stepE i o ho) (Nat.le_refl _) (fun i _ h2 => hall i h2) l.length (by omega)
    refine hQ a w (hG.congr (fun s => ?_) ?_)
    · show lk (σ l.length).env s = lk (elist _ _ _ _ _ _) s
      rw [hE, Nat.zero_add]
    · refine seg2 l.length m (Nat.le_refl _) hm (fun i o ho hq => ?_)
      have := hlo i o ho hq
      have h1 := hlen i o ho
      rw [hall i h1] at this
      simp at this
      omega
  have getD_true : ∀ (listed : Array Bool) (j : Nat), listed.size = l.length → j < l.length → listed.getD j true = listed.getD j false := fun listed j hs hj => by
    have : j < listed.size := by omega
    simp [this]
  have notready : ∀ (listed : Array Bool), listed.size = l.length → Region.ready .any l.toArray listed = [] → ∀ i, i < l.length → listed.getD i false = true := by
    intro listed hs hr
    have key : ∀ m i, i < m → i < l.length → listed.getD i false = true := by
      intro m
      induction m with
      | zero => intro i h; omega
      | succ m ih =>
        intro i hm hi
        cases hL : listed.getD i false with
        | true => rfl
        | false =>
          exfalso
          have ho : l[i]? = some l[i] := List.getElem?_eq_getElem hi
          have : i ∈ Region.ready .any l.toArray listed := by
            simp only [Region.ready, List.mem_filter, List.mem_range, Bool.and_eq_true]
            refine ⟨by simpa using hi, by rw [getD_true listed i hs hi, hL]; rfl, ?_⟩
            simp only [List.getElem?_toArray, ho, Option.map_some, Option.getD_some]
            rw [Array.all_eq_true_iff_forall_mem]
            intro e he
            cases hb : Region.binds .any e with
            | false => rfl
            | true =>
              have hlt := hD.lt i _ ho e he hb
              rw [ih e.on (by omega) (by omega)]; rfl
          rw [hr] at this; cases this
    exact fun i hi => key (i + 1) i (by omega) hi
  induction fuel with
  | zero =>
    intro listed a w hs hdc hcnt hinv
    have hall : ∀ i, i < l.length → listed.getD i false = true := by
      intro i hi
      have h0 : (List.range l.length).countP (fun i => !listed.getD i false) = 0 := by omega
      rw [List.countP_eq_zero] at h0
      have := h0 i (by simpa using hi)
      simpa using this
    refine ⟨?_, done listed a w hall hinv⟩
    apply List.eq_nil_iff_forall_not_mem.2
    intro i hi
    simp only [Region.ready, List.mem_filter, List.mem_range, Bool.and_eq_true] at hi
    have hil : i < l.length := by simpa using hi.1
    have := hi.2.1
    rw [getD_true listed i hs hil, hall i hil] at this
    cases this
  | succ fuel ih =>
    intro listed a w hs hdc hcnt hinv
    refine ⟨fun hr => done listed a w (notready listed hs hr) hinv, fun j hj => ?_⟩
    simp only [Region.ready, List.mem_filter, List.mem_range, Bool.and_eq_true] at hj
    obtain ⟨hjl, hjn, hjd⟩ := hj
    have hjl : j < l.length := by simpa using hjl
    have hLj : listed.getD j false = false := by rw [getD_true listed j hs hjl] at hjn; simpa using hjn
    have ho : l[j]? = some l[j] := List.getElem?_eq_getElem hjl
    have hdep : ∀ e ∈ (l[j]).after, Region.binds .any e = true → listed.getD e.on false = true := by
      simp only [List.getElem?_toArray, ho, Option.map_some, Option.getD_some] at hjd
      rw [Array.all_eq_true_iff_forall_mem] at hjd
      intro e he hb
      have := hjd e he
      simpa [hb] using this
    have hcl := closed_mask2 hD hdc (j + 1) j (by omega) _ ho hdep
    have hopen : ∀ i oi, l[i]? = some oi → listed.getD i false = true → (ms.getD i 0).testBit j = false := by
      intro i oi hoi hL
      cases hb : (ms.getD i 0).testBit j with
      | false => rfl
      | true =>
        have := closed_mask2 hD hdc (i + 1) i (by omega) _ hoi (hdc i oi hoi hL) j hb
        rw [hLj] at this; cases this
    have hafter : ∀ i oi, j < i → l[i]? = some oi → conf2 (qf rs j l[j]) (qf rs i oi) l.toArray l[j] oi = true → listed.getD i false = false := by
      intro i oi hji hoi hc
      cases hL : listed.getD i false with
      | false => rfl
      | true =>
        have := hopen i oi hoi hL
        rw [hD.conf j i _ _ hji ho hoi hc] at this; cases this
    have hbefore : ∀ i oi, i < j → l[i]? = some oi → conf2 (qf rs i oi) (qf rs j l[j]) l.toArray oi l[j] = true → listed.getD i false = true := fun i oi hij hoi hc => hcl i (hD.conf i j _ _ hij hoi ho hc)
    obtain ⟨m, hm, hlo, hG⟩ := hinv
    have hM : ∀ i, (listed.setIfInBounds j true).getD i false = (listed.getD i false || i == j) := by
      intro i
      by_cases e : j = i
      · subst e
        have : j < listed.size := by omega
        simp [this]
      · have : (i == j) = false := by simp; omega
        rw [this, Bool.or_false]
        simp [Array.getD_eq_getD_getElem?, Array.getElem?_setIfInBounds_ne e]
    have hs' : (listed.setIfInBounds j true).size = l.length := by simp [hs]
    have hdc' : ∀ i o, l[i]? = some o → (listed.setIfInBounds j true).getD i false = true → ∀ e ∈ o.after, Region.binds .any e = true → (listed.setIfInBounds j true).getD e.on false = true := by
      intro i o hoi hL e he hb
      rw [hM] at hL ⊢
      rcases Bool.or_eq_true_iff.1 hL with hL | hL
      · rw [hdc i o hoi hL e he hb]; rfl
      · have : i = j := by simpa using hL
        subst this
        rw [ho] at hoi; injection hoi with hoi; subst hoi
        rw [hdep e he hb]; rfl
    have hcnt' : (List.range l.length).countP (fun i => !(listed.setIfInBounds j true).getD i false) ≤ fuel := by
      have : (List.range l.length).countP (fun i => !(listed.setIfInBounds j true).getD i false) < (List.range l.length).countP (fun i => !listed.getD i false) := by
        refine countP_lt (fun i _ h => ?_) ⟨j, by simpa using hjl, by rw [hLj]; rfl, by rw [hM]; simp⟩
        rw [hM] at h
        cases h1 : listed.getD i false <;> simp_all
      omega
    have hwp : ∀ (st : St) (K : St → Prop), G n B w0 st a w → AStepX P T n l.toArray l[j] K st → (∀ st' a' w', K st' → G n B w0 st' a' w' → wpAnyIn (fo w0) 0 P .any l.toArray Q fuel (listed.setIfInBounds j true) a' w') → wpOpIn (fo w0) 0 P l.toArray Q j (wpAnyIn (fo w0) 0 P .any l.toArray Q fuel (listed.setIfInBounds j true)) a w := by
      rintro st K ⟨ρ, I, hg⟩ hst hnext
      have := astepX_ok hT hg hst (wpAnyIn (fo w0) 0 P .any l.toArray Q fuel (listed.setIfInBounds j true)) Q hnext
      unfold wpOpIn
      simp only [List.getElem?_toArray, ho]
      exact toIf (astepX_nd hg hst) this
    have hlook : ∀ t ∈ (l[j]).looksAt l.toArray, lk (elist (σ 0).env l val (fun i => listed.getD i false) 0 l.length) t = lk (σ j).env t := by
      intro t ht
      have e1 := elist_agree (E := (σ 0).env) (l := l) (val := val) (L := fun i => listed.getD i false) (M := fun i => decide (i < j)) (k := 0) t l.length (fun i h1 h2 hd => by
        have hil : i < l.length := by omega
        have hoi : l[i]? = some l[i] := List.getElem?_eq_getElem hil
        rw [hoi] at hd
        simp only [Option.bind_some] at hd
        rcases Nat.lt_trichotomy i j with h | h | h
        · rw [hbefore i _ h hoi (by simp [conf2, hd, ht])]; simp [h]
        · subst h; rw [hLj]; simp
        · rw [hafter i _ h hoi (by simp [conf2, hd, ht])]; simp; omega)
      rw [e1]
      have e2 := elist_none (E := (σ 0).env) (l := l) (val := val) (L := fun i => decide (i < j)) (k := 0) j (fun i hi => by simp; omega) l.length (by omega)
      have e3 := elist_all (l := l) (val := val) (L := fun i => decide (i < j)) (k := 0) σ j rfl (fun i o _ _ ho => stepE i o ho) (by omega) (fun i _ h2 => by simp [h2]) j (by omega)
      rw [e2, e3, Nat.zero_add]
    have hput : ∀ d s, (l[j]).dst = some d → lk (elist (σ 0).env l val (fun i => (listed.setIfInBounds j true).getD i false) 0 l.length) s = if d = s then val j else lk (elist (σ 0).env l val (fun i => listed.getD i false) 0 l.length) s := by
      intro d s hd
      have e := elist_put (E := (σ 0).env) (l := l) (val := val) (L := fun i => listed.getD i false) (M := fun i => (listed.setIfInBounds j true).getD i false) (k := 0) j d (Nat.zero_le _) (by rw [ho]; exact hd) hLj hM (fun i hji hL hdi => by
        have hil : i < l.length := by
          rcases Nat.lt_or_ge i l.length with h | h
          · exact h
          · rw [List.getElem?_eq_none h] at hdi; cases hdi
        have hoi : l[i]? = some l[i] := List.getElem?_eq_getElem hil
        rw [hoi] at hdi
        simp only [Option.bind_some] at hdi
        have := hafter i _ hji hoi (by simp [conf2, hd, hdi])
        rw [this] at hL; cases hL) s l.length
      rw [e]
      by_cases hds : d = s
      · rw [if_pos ⟨by omega, hds⟩, if_pos hds]
      · rw [if_neg (fun hh => hds hh.2), if_neg hds]
    have hput0 : (l[j]).dst = none → elist (σ 0).env l val (fun i => (listed.setIfInBounds j true).getD i false) 0 l.length = elist (σ 0).env l val (fun i => listed.getD i false) 0 l.length := fun hd =>
      elist_put0 (E := (σ 0).env) (l := l) (val := val) (L := fun i => listed.getD i false) (M := fun i => (listed.setIfInBounds j true).getD i false) (k := 0) j (by rw [ho]; exact hd) hM l.length
    cases hq : qf rs j l[j] with
    | true =>
      obtain ⟨_, _, hv2⟩ := hqt j _ ho hq
      have hst := hv2 ⟨elist (σ 0).env l val (fun i => listed.getD i false) 0 l.length, (σ m).heap⟩ (fun hu => by
        refine seg2 m j hm (by omega) (fun i oi hoi hqi => ?_)
        have h1 := hlo i oi hoi hqi
        rcases hD.tied i j oi _ hoi ho hq hqi hu with h | h
        · have h2 := hcl i h
          have h3 := mask_lt hD (j + 1) j (by omega) _ ho i h
          exact ⟨fun _ => h3, fun _ => h1.1 h2⟩
        · have h3 := mask_lt hD (i + 1) i (by omega) _ hoi j h
          refine ⟨fun h4 => ?_, fun h4 => by omega⟩
          have := hopen i oi hoi (h1.2 h4)
          rw [h] at this; cases this) hlook
      refine hwp _ _ hG (.inl hst) ?_
      rintro st' a' w' rfl hG'
      refine ih _ a' w' hs' hdc' hcnt' ⟨m, hm, fun i o hoi hqi => ?_, ?_⟩
      · rw [hM]
        have hne : (i == j) = false := by
          simp only [beq_eq_false_iff_ne]
          intro e; subst e
          rw [ho] at hoi; injection hoi with hoi; subst hoi
          rw [hq] at hqi; cases hqi
        rw [hne, Bool.or_false]
        exact hlo i o hoi hqi
      · refine hG'.congr (fun s => ?_) (by cases (l[j]).dst <;> rfl)
        cases hd : (l[j]).dst with
        | none =>
          show lk (elist _ _ _ _ _ _) s = lk (elist _ _ _ _ _ _) s
          rw [hput0 hd]
        | some d =>
          show lk (elist _ _ _ _ _ _) s = lk ((d, val j) :: elist _ _ _ _ _ _) s
          rw [hput d s hd]
          simp only [lk]
    | false =>
      obtain ⟨h', e1, _, hv⟩ := hld j _ ho hq
      have hb : ∀ i oi, i < j → l[i]? = some oi → qf rs i oi = false → listed.getD i false = true := fun i oi hij hoi hqi => hbefore i oi hij hoi (by simp [conf2, hqi, hq])
      have ha : ∀ i oi, j < i → l[i]? = some oi → qf rs i oi = false → listed.getD i false = false := fun i oi hij hoi hqi => hafter i oi hij hoi (by simp [conf2, hqi, hq])
      have hheap : (σ m).heap = (σ j).heap := by
        refine seg2 m j hm (by omega) (fun i oi hoi hqi => ?_)
        have h1 := hlo i oi hoi hqi
        rcases Nat.lt_trichotomy i j with h | h | h
        · exact ⟨fun _ => h, fun _ => h1.1 (hb i oi h hoi hqi)⟩
        · subst h
          rw [hLj] at h1
          simp at h1
          omega
        · have := ha i oi h hoi hqi
          rw [this] at h1
          simp at h1
          omega
      have hst := hv ⟨elist (σ 0).env l val (fun i => listed.getD i false) 0 l.length, (σ m).heap⟩ hheap hlook
      refine hwp _ _ hG hst ?_
      rintro st' a' w' rfl hG'
      refine ih _ a' w' hs' hdc' hcnt' ⟨j + 1, by omega, fun i o hoi hqi => ?_, ?_⟩
      · rw [hM]
        rcases Nat.lt_trichotomy i j with h | h | h
        · rw [hb i o h hoi hqi]; simp; omega
        · subst h; simp
        · rw [ha i o h hoi hqi]; simp; omega
      · refine hG'.congr (fun s => ?_) (by rw [e1])
        cases hd : (l[j]).dst with
        | none =>
          show lk (elist _ _ _ _ _ _) s = lk (elist _ _ _ _ _ _) s
          rw [hput0 hd]
        | some d =>
          show lk (elist _ _ _ _ _ _) s = lk ((d, val j) :: killE d (elist _ _ _ _ _ _)) s
          rw [hput d s hd, killE_nr]
          · simp only [lk]
          · refine elist_nr (h0 j _ ho d hq hd) (fun i hL hdi => ?_) _
            have hil : i < l.length := by
              rcases Nat.lt_or_ge i l.length with h | h
              · exact h
              · rw [List.getElem?_eq_none h] at hdi; exact absurd rfl hdi
            have hoi : l[i]? = some l[i] := List.getElem?_eq_getElem hil
            rw [hoi] at hdi
            simp only [Option.bind_some] at hdi
            cases hqi : qf rs i l[i] with
            | true => exact killsL_spec ((hqt i _ hoi hqi).2.1 hdi) d (hD.kills j i _ _ d ho hoi hqi hq hd (hopen i _ hoi hL))
            | false =>
              obtain ⟨_, _, e2, _⟩ := hld i _ hoi hqi
              cases hdi' : (l[i]).dst with
              | none => exact absurd hdi' hdi
              | some di =>
                refine e2 di d hdi' (fun e => ?_)
                have hij : i ≠ j := fun e => by subst e; rw [hLj] at hL; cases hL
                exact hD.apart i j _ _ di hij hoi ho hqi hq hdi' (by rw [hd, e])
end

theorem awp_draw2 {P : Program} {T : Tab} (hT : T.ok P) {n B : Nat} {w0 : Orig} {Q : Exit → St → Prop} {st : St} {id : Nat} {l : List Oper} (rs : List (Nat × List Nat)) (hm : P.follows .mixedOrders = true) (hD : drawOk2 l (Region.before l.toArray).toList rs = true)
    (hE : killsE (loudDs l rs) st.env) (h : AOps2 P T n l.toArray (fun st' => Q .normal st') l rs st) : AWP P n B w0 (.region id l.toArray true) Q st := by
  intro a w hG
  have hD' := drawOk2_spec hD
  obtain ⟨σ, val, s0, sN, sq, sl⟩ := trace2_ex l rs st h
  refine wpIn_region_any hm ?_
  have hG' : G n B w0 st a { w with drawn := w.drawn + 1 } := by
    obtain ⟨ρ, I, hg⟩ := hG
    exact ⟨ρ, I, hg.quiet ⟨⟨rfl, rfl, rfl, Nat.le_refl _, fun _ _ => rfl⟩, fun _ h => h, fun _ h h' => absurd h h', hg.hw.lt⟩⟩
  have hfalse : ∀ i, (Array.replicate l.toArray.size false).getD i false = false := fun i => by
    by_cases hi : i < l.length <;> simp [Array.getD_eq_getD_getElem?, hi]
  refine any_ok2 hT hD' σ val (fun i o ho d hq hd p hp => ?_) sq sl (fun a w hg => ⟨_, sN, hg⟩) _ _ a _ (by simp) (fun j o _ hL => by rw [hfalse] at hL; cases hL) ?_ ⟨0, Nat.zero_le _, (fun i o _ _ => by rw [hfalse]; simp), ?_⟩
  · rw [s0] at hp
    exact killsE_spec hE p hp d (mem_loudDs ho hq hd)
  · have := List.countP_le_length (p := fun i => !(Array.replicate l.toArray.size false).getD i false) (l := List.range l.length)
    simpa using this
  · refine hG'.congr (fun s => ?_) (by rw [s0])
    have e := elist_none (E := (σ 0).env) (l := l) (val := val) (L := fun i => (Array.replicate l.toArray.size false).getD i false) (k := 0) 0 (fun i _ => hfalse i) l.length (Nat.zero_le _)
    show lk (elist _ _ _ _ _ _) s = _
    rw [e]
    show lk (σ 0).env s = _
    rw [s0]

theorem aops2_nil {P : Program} {T : Tab} {n : Nat} {ops : Array Oper} {K : St → Prop} {st : St} {rs : List (Nat × List Nat)} (h : K st) : AOps2 P T n ops K [] rs st := h
theorem aops2_quiet {P : Program} {T : Tab} {n : Nat} {ops : Array Oper} {K : St → Prop} {o : Oper} {rest : List Oper} {R : List Nat} {rs : List (Nat × List Nat)} {st : St} {g : Option (Nat × Bool)} (hq : quietOp o.op = true) (hg : gOf ops o.guard = some g)
    (h : ∀ K' : St → Prop, (∀ s, killsL R (dstV s o.dst) → AOps2 P T n ops K rest rs s → K' s) → StepN P T n o.dst o.op g K' st) : AOps2 P T n ops K (o :: rest) ((0, R) :: rs) st := by
  have e : qq (0, R) o = true := by simp [qq, hq]
  simp only [AOps2, e, cond_true]
  show AStep P T n ops o (fun s => killsL R (dstV s o.dst) ∧ AOps2 P T n ops K rest rs s) st
  exact stepN_ok hg (h _ fun _ h1 h2 => ⟨h1, h2⟩)
theorem aops2_free {P : Program} {T : Tab} {n : Nat} {ops : Array Oper} {K : St → Prop} {o : Oper} {rest : List Oper} {R : List Nat} {rs : List (Nat × List Nat)} {st : St} {g : Option (Nat × Bool)} (hq : quietOp o.op = true) (hg : gOf ops o.guard = some g)
    (h : ∀ K' : St → Prop, (∀ s, killsL R (dstV s o.dst) → AOps2 P T n ops K rest rs ⟨s.env, st.heap⟩ → K' s) → StepN P T n o.dst o.op g K' ⟨st.env, []⟩) : AOps2 P T n ops K (o :: rest) ((1, R) :: rs) st := by
  have e : qq (1, R) o = true := by simp [qq, hq]
  simp only [AOps2, e, cond_true]
  show AStep P T n ops o (fun s => killsL R (dstV s o.dst) ∧ AOps2 P T n ops K rest rs ⟨s.env, st.heap⟩) ⟨st.env, []⟩
  exact stepN_ok hg (h _ fun _ h1 h2 => ⟨h1, h2⟩)
theorem aops2_loud {P : Program} {T : Tab} {n : Nat} {ops : Array Oper} {K : St → Prop} {o : Oper} {rest : List Oper} {R : List Nat} {rs : List (Nat × List Nat)} {st : St} {g : Option (Nat × Bool)} (hq : quietOp o.op = false) (hg : gOf ops o.guard = some g)
    (h : ∀ K' : St → Prop, (∀ s, AOps2 P T n ops K rest rs s → K' s) → StepN P T n o.dst o.op g K' st) : AOps2 P T n ops K (o :: rest) ((0, R) :: rs) st := by
  have e : qq (0, R) o = false := by simp [qq, hq]
  simp only [AOps2, e, cond_false]
  show AStep P T n ops o (fun s => AOps2 P T n ops K rest rs s) st
  exact stepN_ok hg (h _ fun _ h => h)
theorem aops2_own {P : Program} {T : Tab} {n : Nat} {ops : Array Oper} {K : St → Prop} {o : Oper} {rest : List Oper} {R : List Nat} {rs : List (Nat × List Nat)} {st : St} {d : Nat} (hd : o.dst = some d) (hg : o.guard = none) (hn : d < n)
    (h : ∀ K' : St → Prop, (∀ s, AOps2 P T n ops K rest rs s → K' s) → alB T st (some d) o.op K') : AOps2 P T n ops K (o :: rest) ((3, R) :: rs) st := by
  have : qq (3, R) o = false := by simp [qq]
  simp only [AOps2, this, cond_false]
  show stepB T n o (fun s => AOps2 P T n ops K rest rs s) st
  exact ⟨hg, by rw [hd]; exact hn, by rw [hd]; exact h _ fun _ h => h⟩
theorem aops2_map {P : Program} {T : Tab} {n : Nat} {ops : Array Oper} {K : St → Prop} {o : Oper} {rest : List Oper} {R : List Nat} {rs : List (Nat × List Nat)} {st : St} (hg : o.guard = none) (hd : dstOk n o.dst)
    (h : ∀ K' : St → Prop, (∀ s, AOps2 P T n ops K rest rs s → K' s) → MapUpdA T o.dst o.op K' st) : AOps2 P T n ops K (o :: rest) ((4, R) :: rs) st := by
  have : qq (4, R) o = false := by simp [qq]
  simp only [AOps2, this, cond_false]
  show stepC T n o (fun s => AOps2 P T n ops K rest rs s) st
  exact ⟨hg, hd, .inl (h _ fun _ h => h)⟩
theorem aops2_lit {P : Program} {T : Tab} {n : Nat} {ops : Array Oper} {K : St → Prop} {o : Oper} {rest : List Oper} {R : List Nat} {rs : List (Nat × List Nat)} {st : St} (hg : o.guard = none) (hd : dstOk n o.dst)
    (h : ∀ K' : St → Prop, (∀ s, AOps2 P T n ops K rest rs s → K' s) → NstLit T o.dst o.op K' st) : AOps2 P T n ops K (o :: rest) ((4, R) :: rs) st := by
  have : qq (4, R) o = false := by simp [qq]
  simp only [AOps2, this, cond_false]
  show stepC T n o (fun s => AOps2 P T n ops K rest rs s) st
  exact ⟨hg, hd, .inr (.inl (h _ fun _ h => h))⟩
theorem aops2_appN {P : Program} {T : Tab} {n : Nat} {ops : Array Oper} {K : St → Prop} {o : Oper} {rest : List Oper} {R : List Nat} {rs : List (Nat × List Nat)} {st : St} (hg : o.guard = none) (hd : dstOk n o.dst)
    (h : ∀ K' : St → Prop, (∀ s, AOps2 P T n ops K rest rs s → K' s) → AppN T o.dst o.op K' st) : AOps2 P T n ops K (o :: rest) ((4, R) :: rs) st := by
  have : qq (4, R) o = false := by simp [qq]
  simp only [AOps2, this, cond_false]
  show stepC T n o (fun s => AOps2 P T n ops K rest rs s) st
  exact ⟨hg, hd, .inr (.inr (h _ fun _ h => h))⟩
theorem awp_v {P : Program} {T : Tab} (hT : T.ok P) {n B : Nat} {w0 : Orig} {Q : Exit → St → Prop} {st : St} {id : Nat} {l : List Oper} (ds : List Nat) (rs : List (Nat × List Nat)) (hm : P.follows .mixedOrders = true) (hD : (decide (loudDs l rs = ds) && drawOk2 l (Region.before l.toArray).toList rs) = true)
    (hE : killsE ds st.env) (h : ∀ K : St → Prop, (∀ s, Q .normal s → K s) → AOps2 P T n l.toArray K l rs st) : AWP P n B w0 (.region id l.toArray true) Q st := by
  rw [Bool.and_eq_true, decide_eq_true_eq] at hD
  exact awp_draw2 hT rs hm hD.2 (by rw [hD.1]; exact hE) (h _ fun _ h => h)
theorem getD_dt (l : List Int) (off m j : Nat) (hj : j < m) : ((l.drop off).take m).getD j 0 = l.getD (off + j) 0 := by
  simp [List.getD_eq_getElem?_getD, hj]
/-- What is appended of a slice of integers. -/
theorem src_dt {k : IntKind} (l : List Int) (off m : Nat) : ∀ j, j < m → AV.v (.int k (l.getD (off + j) 0)) = AV.v (.int k (((l.drop off).take m).getD j 0)) := fun j hj => by rw [getD_dt _ _ _ _ hj]
theorem src_t {k : IntKind} (l : List Int) (m : Nat) : ∀ j, j < m → AV.v (.int k (l.getD j 0)) = AV.v (.int k ((l.take m).getD j 0)) := fun j hj => by
  have := getD_dt l 0 m j hj
  simp only [List.drop_zero, Nat.zero_add] at this
  rw [this]
attribute [push_cast] killsL killsE dstV
end Go.Eng
namespace Go.Eng
open Go.RowKit
theorem G.sub1 {n B : Nat} {w0 : Orig} {st : St} {a : Act} {w : World} (hG : G n B w0 st a w) (s : Nat) (y : AV) (hn : (lk st.env s).nor = true) (hs : Sub (lk st.env s) y) : G n B w0 ⟨(s, y) :: st.env, st.heap⟩ a w := by
  obtain ⟨ρ, I, h⟩ := hG
  refine ⟨ρ, I, h.defers, h.size, fun t => ?_, h.hw, h.below, h.base, h.old⟩
  simp only [lk]
  split
  · rename_i e; subst e
    exact (hs _ _ _ _ ((h.env s).nor hn)).up
  · exact h.env t
theorem awp_sub1 {P : Program} {n B : Nat} {w0 : Orig} {c : Code} {Q : Exit → St → Prop} {st : St} (s : Nat) (y : AV) (hn : (lk st.env s).nor = true) (hs : Sub (lk st.env s) y) (h : AWP P n B w0 c Q ⟨(s, y) :: st.env, st.heap⟩) : AWP P n B w0 c Q st := fun a w hG => h a w (hG.sub1 s y hn hs)
/-- What is new is what came in. -/
theorem sub_fresh {fr : Bool} {c : Nat → Nat → AV} {sz off len : Nat} : Sub (.i fr c sz off len) (.i false c sz off len) := by
  intro B I w u h
  cases h with
  | i _ _ _ _ _ cap A u hcap hA hc =>
    refine .i _ _ _ _ _ _ _ u hcap (fun hl => ?_) hc
    obtain ⟨ad, h1, h2, h3, h4⟩ := hA hl
    exact ⟨ad, h1, h2, (fun hh => by cases hh), h4⟩
theorem Sub.trans {x y z : AV} (h : Sub x y) (k : Sub y z) : Sub x z := fun B I w u hu => k B I w u (h B I w u hu)
theorem Sub.of_eq {x y : AV} (h : x = y) : Sub x y := h ▸ Sub.refl x
/-- Of the result less is said. -/
theorem Pure.res {P : Program} {f : FuncId} {args : List AV} {r r' : AV} (h : Pure P f args r) (hs : Sub r r') : Pure P f args r' :=
  ⟨h.1, fun w I vs hI hc => (h.2 w I vs hI hc).mono fun _ _ ⟨v, h1, h2, h3⟩ => ⟨v, h1, h2, hs _ _ _ _ h3⟩⟩
/-- An empty slice, by its value. -/
theorem Pure.empty {P : Program} {f : FuncId} {fr : Bool} {c : Nat → Nat → AV} {sz off : Nat} {r : AV} (h : ∀ A cap, Pure P f [.v (.slice A 0 cap)] r) : Pure P f [.i fr c sz off 0] r := by
  refine ⟨(h none 0).1, fun w I vs hI hc => ?_⟩
  have h0 := hc.2 0 (by simp)
  simp only [List.getD_cons_zero] at h0
  generalize hv : vs.toList.getD 0 undef = u at h0
  cases h0 with
  | i _ _ _ _ _ cap A uu hcap hA hcc =>
    refine (h A cap).2 w I vs hI ⟨by have := hc.1; simpa using this, fun j hj => ?_⟩
    have : j = 0 := by simp at hj; omega
    subst this
    simp only [List.getD_cons_zero]
    rw [hv]; exact .v _
theorem sub_nil' {fr : Bool} {c : Nat → Nat → AV} {sz : Nat} : Sub (.v (.slice none 0 0)) (.i fr c sz 0 0) := fun B I w u hu => by
  obtain rfl := hu.v_inv
  exact .i _ _ _ _ _ _ _ (fun _ _ => undef) (Nat.le_refl _) (fun h => by omega) (fun e f he => by omega)
end Go.Eng
namespace Go.Eng
open Go.RowKit

/-- Whatever reads as data of type t is one of these rows of cells. -/
def Reads (P : Program) (t : TypeId) {α : Type} (av : α → List AV) (ok : α → Prop) : Prop :=
  ∀ (H : Type) (enc : TypeId × Value → H) (W : World) (sp : Nat → Bool) (fuel : Nat) (cs : List Value) (x : DataW H × List MemPlace), DataW.trod enc P W 0 sp true fuel t cs = some x →
    ∃ a, ok a ∧ ConcL W.heap.size (allB W) W noId (av a) cs

theorem reads_int {P : Program} {t : TypeId} {k : IntKind} (ht : P.underlying t = some (.int k)) : Reads P t (fun n : Int => [.v (.int k n)]) (fun n => (Lit.int k n).wf = true) := by
  intro H enc W sp fuel cs x h
  obtain ⟨n, rfl, _, hw⟩ := DataW.trod_int ht h
  exact ⟨n, hw, ConcL.cons (.v _) ConcL.nil⟩
theorem reads_bool {P : Program} {t : TypeId} (ht : P.underlying t = some .bool) : Reads P t (fun b : Bool => [.v (.bool b)]) (fun _ => True) := by
  intro H enc W sp fuel cs x h
  obtain ⟨n, rfl, _⟩ := DataW.trod_bool ht h
  exact ⟨n, trivial, ConcL.cons (.v _) ConcL.nil⟩
theorem reads_str {P : Program} {t : TypeId} (ht : P.underlying t = some .string) : Reads P t (fun s : ByteArray => [.v (.string s)]) (fun s => s.size ≤ maxLen) := by
  intro H enc W sp fuel cs x h
  obtain ⟨n, rfl, _, hl⟩ := DataW.trod_string ht h
  exact ⟨n, hl, ConcL.cons (.v _) ConcL.nil⟩
theorem Reads.map {P : Program} {t : TypeId} {α β : Type} {av : α → List AV} {ok : α → Prop} (h : Reads P t av ok) (f : α → β) {av' : β → List AV} {ok' : β → Prop} (hav : ∀ a, av' (f a) = av a) (hok : ∀ a, ok a → ok' (f a)) : Reads P t av' ok' := by
  intro H enc W sp fuel cs x hx
  obtain ⟨a, h1, h2⟩ := h H enc W sp fuel cs x hx
  exact ⟨f a, hok a h1, by rw [hav]; exact h2⟩

/-- The fields of a struct, from cell 'pos' on. -/
def ReadsF (P : Program) (fs : List (TypeId × Nat)) (pos tot : Nat) {α : Type} (av : α → List AV) (ok : α → Prop) : Prop :=
  ∀ (H : Type) (enc : TypeId × Value → H) (W : World) (sp : Nat → Bool) (n : Nat) (cs : List Value), cs.length = tot →
    (∀ p ∈ fs, ∃ y, DataW.trod enc P W 0 sp true n p.1 ((cs.drop p.2).take (P.cellsOf p.1)) = some y) → ∃ a, ok a ∧ ConcL W.heap.size (allB W) W noId (av a) (cs.drop pos)

theorem ConcL.append {B : Nat} {I : Nat → Prop} {w : World} {ρ : Nat → Option Value} : ∀ {xs ys : List AV} {us vs : List Value}, ConcL B I w ρ xs us → ConcL B I w ρ ys vs → ConcL B I w ρ (xs ++ ys) (us ++ vs)
  | [], ys, [], vs, _, h2 => h2
  | [], ys, u :: us, vs, h1, _ => by have := h1.1; simp at this
  | x :: xs, ys, [], vs, h1, _ => by have := h1.1; simp at this
  | x :: xs, ys, u :: us, vs, h1, h2 => by
    refine ConcL.cons (by have := h1.2 0 (by simp); simpa using this) (ConcL.append ⟨by have := h1.1; simpa using this, fun j hj => ?_⟩ h2)
    have := h1.2 (j + 1) (by simpa using hj)
    simpa using this

theorem readsF_nil {P : Program} {pos : Nat} : ReadsF P [] pos pos (fun _ : Unit => []) (fun _ => True) := by
  intro H enc W sp n cs hl _
  refine ⟨(), trivial, ?_⟩
  rw [List.drop_of_length_le (by omega)]
  exact ConcL.nil
theorem readsF_cons {P : Program} {t : TypeId} {k pos tot : Nat} {fs : List (TypeId × Nat)} {α β : Type} {av : α → List AV} {ok : α → Prop} {av' : β → List AV} {ok' : β → Prop} (hk : P.cellsOf t = k) (h1 : Reads P t av ok) (h2 : ReadsF P fs (pos + k) tot av' ok') :
    ReadsF P ((t, pos) :: fs) pos tot (fun p : α × β => av p.1 ++ av' p.2) (fun p => ok p.1 ∧ ok' p.2) := by
  intro H enc W sp n cs hl hf
  obtain ⟨y, hy⟩ := hf (t, pos) (by simp)
  obtain ⟨a, ha, ca⟩ := h1 H enc W sp n _ y hy
  obtain ⟨b, hb, cb⟩ := h2 H enc W sp n cs hl (fun p hp => hf p (by simp [hp]))
  refine ⟨(a, b), ⟨ha, hb⟩, ?_⟩
  have := ConcL.append ca cb
  simp only at this
  rw [hk, ← List.drop_drop, List.take_append_drop] at this
  exact this
theorem reads_struct {P : Program} {t : TypeId} {fs : Array Field} {tot : Nat} {l : List (TypeId × Nat)} {α : Type} {av : α → List AV} {ok : α → Prop} (ht : P.underlying t = some (.struct fs)) (hl : fs.toList.map (fun f => (f.type, f.offset)) = l) (hc : P.cellsOf t = tot) (h : ReadsF P l 0 tot av ok) : Reads P t av ok := by
  intro H enc W sp fuel cs x hx
  obtain ⟨xs, n, _, _, h1, h2, h3⟩ := DataW.trod_struct ht hx
  have := h H enc W sp n cs (by omega) (fun p hp => by
    rw [← hl] at hp
    obtain ⟨f, hf, rfl⟩ := List.mem_map.1 hp
    obtain ⟨i, hi⟩ := List.getElem?_of_mem hf
    have h4 := h3 i f (by simpa using hi)
    have hil : i < xs.length := by
      have := (List.getElem?_eq_some_iff.1 hi).1
      simp at this; omega
    rw [List.getElem?_eq_getElem hil] at h4
    exact ⟨_, h4⟩)
  simpa using this

/-- A slice that came in, by its elements' cells. -/
def avSl {α : Type} [Inhabited α] (av : α → List AV) (sz : Nat) (as : List α) : AV := .i false (fun e j => (av (as.getD e default)).getD j .top) sz 0 as.length

theorem reads_slice {P : Program} {t e : TypeId} {sz : Nat} {α : Type} [Inhabited α] {av : α → List AV} {ok : α → Prop} (ht : P.underlying t = some (.slice e)) (hc : P.cellsOf e = sz) (hpos : 0 < sz) (h : Reads P e av ok) :
    Reads P t (fun as : List α => [avSl av sz as]) (fun as => (∀ a ∈ as, ok a) ∧ as.length ≤ maxLen) := by
  intro H enc W sp fuel cs x hx
  rcases DataW.trod_slice ht hx with ⟨rfl, _⟩ | ⟨a, len, cap, elems, rest, n, _, rfl, _, hb, hl, hm, hlen, hel, _, _⟩
  · refine ⟨[], ⟨by simp, by simp⟩, ConcL.cons ?_ ConcL.nil⟩
    exact .i _ _ _ _ _ _ _ (fun _ _ => undef) (by simp) (fun hp => by simp at hp) (fun e f he => by simp at he)
  · rw [hc] at hel
    have each : ∀ i, i < len → ∃ cs' y, W.cells? 0 (a.add (i * sz)) sz = some cs' ∧ DataW.trod enc P W 0 sp true n e cs' = some y := fun i hi => by
      have := hel i hi
      rw [List.getElem?_eq_getElem (by omega), Option.bind_eq_some_iff] at this
      obtain ⟨cs', h1, h2⟩ := this
      exact ⟨cs', _, h1, h2⟩
    have each2 : ∀ i, ∃ (cs' : List Value) (z : α), i < len → W.cells? 0 (a.add (i * sz)) sz = some cs' ∧ ok z ∧ ConcL W.heap.size (allB W) W noId (av z) cs' := fun i => by
      by_cases hi : i < len
      · obtain ⟨cs', y, h1, h2⟩ := each i hi
        obtain ⟨z, h3, h4⟩ := h H enc W sp n cs' y h2
        exact ⟨cs', z, fun _ => ⟨h1, h3, h4⟩⟩
      · exact ⟨[], default, fun hh => absurd hh hi⟩
    refine ⟨(List.range len).map (fun i => Classical.choose (Classical.choose_spec (each2 i))), ⟨fun z hz => ?_, by simp; omega⟩, ConcL.cons ?_ ConcL.nil⟩
    · obtain ⟨i, hi, rfl⟩ := List.mem_map.1 hz
      exact (Classical.choose_spec (Classical.choose_spec (each2 i)) (by simpa using hi)).2.1
    · have hget : ∀ i, i < len → ((List.range len).map (fun i => Classical.choose (Classical.choose_spec (each2 i)))).getD i default = Classical.choose (Classical.choose_spec (each2 i)) := fun i hi => by
        simp [List.getD_eq_getElem?_getD, hi]
      unfold avSl
      simp only [List.length_map, List.length_range]
      have cell : ∀ i j, i < len → j < sz → W.cell? (a.add (i * sz + j)) = some ((Classical.choose (each2 i)).getD j undef) := fun i j hi hj => by
        obtain ⟨h1, _, _⟩ := Classical.choose_spec (Classical.choose_spec (each2 i)) hi
        obtain ⟨_, h2, h3⟩ := World.cells?_some h1
        have := h3 j hj
        rw [add_add] at this
        rw [this, List.getElem?_eq_getElem (by omega)]
        simp [List.getD_eq_getElem?_getD, show j < (Classical.choose (each2 i)).length by omega]
      refine .i _ _ _ _ _ _ _ (fun i j => (Classical.choose (each2 i)).getD j undef) hl (fun hp => ⟨a, rfl, ?_, (fun h => by cases h), cell⟩) (fun i j hi hj => ?_)
      · have := cell 0 0 hp hpos
        unfold World.cell? at this
        show a.block < W.heap.size
        rcases Nat.lt_or_ge a.block W.heap.size with h | h
        · exact h
        · exfalso
          have hn : W.heap[(a.add (0 * sz + 0)).block]? = none := by rw [add_block]; exact Array.getElem?_eq_none h
          rw [hn] at this
          cases this
      · rw [Nat.zero_add, hget i hi]
        obtain ⟨h1, _, h4⟩ := Classical.choose_spec (Classical.choose_spec (each2 i)) hi
        have hl2 := h4.1
        obtain ⟨_, h2, _⟩ := World.cells?_some h1
        exact h4.2 j (by omega)

/-- An argument: one cell. -/
theorem Reads.one {P : Program} {t : TypeId} {α : Type} {av : α → AV} {ok : α → Prop} (h : Reads P t (fun a => [av a]) ok) {H : Type} {enc : TypeId × Value → H} {W : World} {v : Value} {d : DataW H} {ps : List MemPlace} {sp : Nat → Bool} (hd : DataW.Trod enc P W 0 sp true t v d ps) (h1 : v.cells = #[v]) :
    ∃ a, ok a ∧ Conc W.heap.size (allB W) W noId (av a) v := by
  obtain ⟨fuel, hf⟩ := hd
  obtain ⟨a, ha, hc⟩ := h H enc W sp fuel _ _ hf
  rw [h1] at hc
  exact ⟨a, ha, by have := hc.2 0 (by simp); simpa using this⟩
/-- An argument: a struct. -/
theorem Reads.agg {P : Program} {t : TypeId} {α : Type} {av : α → List AV} {ok : α → Prop} (h : Reads P t av ok) {H : Type} {enc : TypeId × Value → H} {W : World} {us : Array Value} {d : DataW H} {ps : List MemPlace} {sp : Nat → Bool} (hd : DataW.Trod enc P W 0 sp true t (.agg us) d ps) :
    ∃ a, ok a ∧ Conc W.heap.size (allB W) W noId (.a (av a)) (.agg us) := by
  obtain ⟨fuel, hf⟩ := hd
  obtain ⟨a, ha, hc⟩ := h H enc W sp fuel _ _ hf
  simp only [Value.cells] at hc
  refine ⟨a, ha, .a _ _ ?_ fun j hj => ?_⟩
  · rw [← hc.1]; simp
  · have := hc.2 j hj
    simpa [List.getD_eq_getElem?_getD, Array.getD_eq_getD_getElem?] using this
theorem okWide_struct {P : Program} {t : TypeId} {fs : Array Field} {W : World} {b0 : Nat} {r : Reach} {v : Value} (ht : P.underlying t = some (.struct fs)) (h : Value.okWide P W r b0 t v) : ∃ us, v = .agg us := by
  simp only [Value.okWide, ht] at h
  obtain ⟨cs, h1, _⟩ := h
  exact ⟨cs, h1⟩
/-- What a test says, in plain words. -/
theorem bh : (∀ a b : Bool, ((a && b) = true) = (a = true ∧ b = true)) ∧ (∀ a b : Bool, ((a || b) = true) = (a = true ∨ b = true)) ∧ (∀ a b : Bool, ((a && b) = false) = (a = false ∨ b = false)) ∧ (∀ a b : Bool, ((a || b) = false) = (a = false ∧ b = false)) ∧
    (∀ a : Bool, ((!a) = true) = (a = false)) ∧ (∀ a : Bool, ((!a) = false) = (a = true)) ∧ (∀ a b : Int, (¬ a < b) = (b ≤ a)) ∧ (∀ a b : Int, (¬ a ≤ b) = (b < a)) ∧ (∀ a b : Int, ((a == b) = true) = (a = b)) ∧ (∀ a b : Int, ((a == b) = false) = (¬ a = b)) ∧ (∀ a b : Int, ((a != b) = true) = (¬ a = b)) ∧ (∀ a b : Int, ((a != b) = false) = (a = b)) :=
  ⟨by decide, by decide, by decide, by decide, by decide, by decide, fun a b => by rw [Int.not_lt], fun a b => by rw [Int.not_le], fun a b => by simp, fun a b => by simp, fun a b => by simp, fun a b => by simp⟩
attribute [push_cast] avSl Ex.then Ex.inBlock Ex.noGoto EndsA fin resOf retOf
end Go.Eng
namespace Go.Eng
open Go.RowKit

mutual
/-- All ids are N or more. -/
def AV.ge (N : Nat) : AV → Prop
  | .v _ => True
  | .s id => N ≤ id
  | .w id _ _ => N ≤ id
  | .p id _ => N ≤ id
  | .i _ _ _ _ _ => True
  | .q _ _ _ _ _ => True
  | .a cs => AV.geL N cs
  | .t cs => AV.geL N cs
  | .f _ cs => AV.geL N cs
  | .g _ x => AV.ge N x
  | .top => True
def AV.geL (N : Nat) : List AV → Prop
  | [] => True
  | x :: r => AV.ge N x ∧ AV.geL N r
end
theorem geL_getD {N : Nat} : ∀ {cs : List AV} (_ : AV.geL N cs) (j : Nat), (cs.getD j .top).ge N
  | [], _, _ => by simp [AV.ge]
  | x :: r, h, 0 => by simp only [AV.geL] at h; simpa using h.1
  | x :: r, h, j + 1 => by simp only [AV.geL] at h; simpa using geL_getD h.2 j
theorem Conc.ge {N B : Nat} {I : Nat → Prop} {w : World} {ρ : Nat → Option Value} {x : AV} {u : Value} (h : Conc B I w ρ x u) : x.ge N → ∀ ρ', (∀ id, N ≤ id → ρ' id = ρ id) → Conc B I w ρ' x u := by
  induction h with
  | v x => intro _ ρ' _; exact .v x
  | s id x h h1 => intro hg ρ' hr; exact .s id x (by rw [hr id hg]; exact h) h1
  | w id off len cap A x h hcap hA => intro hg ρ' hr; exact .w id off len cap A x (by rw [hr id hg]; exact h) hcap hA
  | p id off b x h hb => intro hg ρ' hr; exact .p id off b x (by rw [hr id hg]; exact h) hb
  | i fr c sz off len cap A u hcap hA hc ih => intro _ ρ' _; exact .i fr c sz off len cap A u hcap hA hc
  | q fr c sz e f ad u h2 h3 hcell hc ih => intro _ ρ' _; exact .q fr c sz e f ad u h2 h3 hcell hc
  | a cs us hl h ih => intro hg ρ' hr; exact .a cs us hl fun j hj => ih j hj (geL_getD (by simpa only [AV.ge] using hg) j) ρ' hr
  | t cs us hl h ih => intro hg ρ' hr; exact .t cs us hl fun j hj => ih j hj (geL_getD (by simpa only [AV.ge] using hg) j) ρ' hr
  | f fn cs us hl h ih => intro hg ρ' hr; exact .f fn cs us hl fun j hj => ih j hj (geL_getD (by simpa only [AV.ge] using hg) j) ρ' hr
  | g b x u h h0 ih => intro hg ρ' hr; exact .g b x u (fun hb => ih hb (by simpa only [AV.ge] using hg) ρ' hr) h0
  | top u => intro _ ρ' _; exact .top u

mutual
theorem nor_kill (d : Nat) : ∀ (x : AV), x.nor = true → x.kill d = x
  | .v _, _ => by rw [AV.kill]
  | .s _, h => by simp [AV.nor] at h
  | .w _ _ _, h => by simp [AV.nor] at h
  | .p _ _, h => by simp [AV.nor] at h
  | .i _ _ _ _ _, _ => by rw [AV.kill]
  | .q _ _ _ _ _, _ => by rw [AV.kill]
  | .a cs, h => by rw [AV.kill, norL_kill d cs (by simpa [AV.nor] using h)]
  | .t cs, h => by rw [AV.kill, norL_kill d cs (by simpa [AV.nor] using h)]
  | .f _ cs, h => by rw [AV.kill, norL_kill d cs (by simpa [AV.nor] using h)]
  | .g _ x, h => by rw [AV.kill, nor_kill d x (by simpa [AV.nor] using h)]
  | .top, _ => by rw [AV.kill]
theorem norL_kill (d : Nat) : ∀ (l : List AV), AV.norL l = true → AV.killL d l = l
  | [], _ => rfl
  | x :: r, h => by
    simp only [AV.norL, Bool.and_eq_true] at h
    rw [AV.killL, nor_kill d x h.1, norL_kill d r h.2]
end
mutual
theorem nor_ge (N : Nat) : ∀ (x : AV), x.nor = true → x.ge N
  | .v _, _ => by simp [AV.ge]
  | .s _, h => by simp [AV.nor] at h
  | .w _ _ _, h => by simp [AV.nor] at h
  | .p _ _, h => by simp [AV.nor] at h
  | .i _ _ _ _ _, _ => by simp [AV.ge]
  | .q _ _ _ _ _, _ => by simp [AV.ge]
  | .a cs, h => by rw [AV.ge]; exact norL_ge N cs (by simpa [AV.nor] using h)
  | .t cs, h => by rw [AV.ge]; exact norL_ge N cs (by simpa [AV.nor] using h)
  | .f _ cs, h => by rw [AV.ge]; exact norL_ge N cs (by simpa [AV.nor] using h)
  | .g _ x, h => by rw [AV.ge]; exact nor_ge N x (by simpa [AV.nor] using h)
  | .top, _ => by simp [AV.ge]
theorem norL_ge (N : Nat) : ∀ (l : List AV), AV.norL l = true → AV.geL N l
  | [], _ => trivial
  | x :: r, h => by
    simp only [AV.norL, Bool.and_eq_true] at h
    exact ⟨nor_ge N x h.1, norL_ge N r h.2⟩
end
theorem norL_set (v : Value) : ∀ (L : List AV) (j : Nat), AV.norL L = true → AV.norL (L.set j (.v v)) = true
  | [], j, _ => rfl
  | x :: r, 0, h => by
    simp only [AV.norL, Bool.and_eq_true] at h
    simp only [List.set_cons_zero, AV.norL, AV.nor, Bool.true_and]; exact h.2
  | x :: r, j + 1, h => by
    simp only [AV.norL, Bool.and_eq_true] at h
    simp only [List.set_cons_succ, AV.norL, Bool.and_eq_true]; exact ⟨h.1, norL_set v r j h.2⟩
def Cont.ge (N : Nat) : Cont → Prop
  | .avs l => AV.geL N l
  | _ => True
theorem Cont.ge_at {N : Nat} {c : Cont} (h : c.ge N) (j : Nat) : (c.at j).ge N := by
  cases c with
  | ints k l => trivial
  | vals l => trivial
  | avs l => exact geL_getD h j
def Blk.ge (N : Nat) : Blk → Prop
  | .box _ c => c.ge N
  | .row _ _ _ => True
  | .mp _ => True
  | .mpa _ _ c => c.ge N
  | .nst _ c => c.ge N
def keepH (N : Nat) : List (Nat × Blk) → List (Nat × Blk)
  | [] => []
  | (k, b) :: r => if N ≤ k then (k, b) :: keepH N r else keepH N r
def geH (N : Nat) : List (Nat × Blk) → Prop
  | [] => True
  | (_, b) :: r => b.ge N ∧ geH N r
theorem keepH_lk {N : Nat} : ∀ {H : List (Nat × Blk)} {id : Nat} {b : Blk}, lkH (keepH N H) id = some b → N ≤ id ∧ lkH H id = some b
  | [], _, _, h => by cases h
  | (k, c) :: r, id, b, h => by
    unfold keepH at h
    by_cases hk : N ≤ k
    · rw [if_pos hk] at h
      simp only [lkH] at h ⊢
      split at h
      · rename_i e; subst e; rw [if_pos rfl]; exact ⟨hk, h⟩
      · rename_i e; rw [if_neg e]; exact keepH_lk h
    · rw [if_neg hk] at h
      obtain ⟨h1, h2⟩ := keepH_lk h
      refine ⟨h1, ?_⟩
      simp only [lkH]
      rw [if_neg (by omega)]; exact h2
theorem geH_lk {N : Nat} : ∀ {H : List (Nat × Blk)} {id : Nat} {b : Blk}, geH N H → lkH H id = some b → b.ge N
  | [], _, _, _, h => by cases h
  | (k, c) :: r, id, b, hg, h => by
    simp only [lkH] at h
    split at h
    · injection h with h; subst h; exact hg.1
    · exact geH_lk hg.2 h

/-- The end of a callee that is walked in place. -/
def finE (T : Tab) (N : Nat) (res : List ResultVar) (R : AV → List (Nat × Blk) → Prop) (st : St) : Prop :=
  match resOf T st res with
  | some (φ, l) => φ ∧ (retOf l).ge N ∧ geH N (keepH N st.heap) ∧ R (retOf l) (keepH N st.heap)
  | none => False
def EndsE (T : Tab) (N : Nat) (res : List ResultVar) (R : AV → List (Nat × Blk) → Prop) : Exit → St → Prop
  | .ret, st => finE T N res R st
  | .normal, st => finE T N res R st
  | _, _ => False
def stripL : List AV → List AV
  | [] => []
  | x :: r => x.strip :: stripL r
theorem stripL_length : ∀ cs, (stripL cs).length = cs.length
  | [] => rfl
  | x :: r => by simp [stripL, stripL_length r]
theorem stripL_getD : ∀ (cs : List AV) (j : Nat), j < cs.length → (stripL cs).getD j .top = (cs.getD j .top).strip
  | [], j, h => by simp at h
  | x :: r, 0, h => by simp [stripL]
  | x :: r, j + 1, h => by simpa [stripL] using stripL_getD r j (by simpa using h)

/-- A call whose body is walked in place. -/
def EffCall (P : Program) (T : Tab) (dst : Option Nat) (op : Op) (K : St → Prop) (st : St) : Prop :=
  match callee? st.ev op with
  | some (ψ, k, args) => (ψ ∧ condL args) ∧ ∃ (fn : Func) (c : Code) (N : Nat), P.funcs[k]? = some fn ∧ fn.body = some c ∧ (fn.name == "runtime.NumGoroutine") = false ∧ args.length ≤ fn.ntmps ∧ fn.ntmps ≤ N ∧
      ∀ B w0, AWP P fn.ntmps B w0 c (EndsE T N fn.results.toList fun r H => K (St.put ⟨st.env, H⟩ dst r)) ⟨argEnv 0 (stripL args), st.heap⟩
  | none => False

theorem res_ok {P : Program} {T : Tab} (hT : T.ok P) {n B : Nat} {w0 : Orig} {st : St} {a : Act} {w : World} {ρ : Nat → Option Value} {I : Nat → Prop} {fn : Func} (hG : Gam n B w0 st a w ρ I) {φ : Prop} {l : List AV} (hl : resOf T st fn.results.toList = some (φ, l)) (hφ : φ) :
    ∃ v, (results fn a.tmps).run P w = .ok v w ∧ Conc B I w ρ (retOf l) v := by
  obtain ⟨vs, h1, h2⟩ := results_ok hT hG fn.results.toList hl hφ
  refine ⟨if h : vs.toArray.size = 1 then vs.toArray[0] else .tuple vs.toArray, ?_, ?_⟩
  · unfold results
    have : (fn.results.mapM fun r => match r with | .tmp t => pure (a.tmps.getD t undef) | .cell x t => do loadVar t (← asAddr (a.tmps.getD x undef)) : Sem (Array Value)).run P w = .ok vs.toArray w := by
      rw [Array.mapM_eq_mapM_toList, ← bind_pure_comp]
      simp only [Sem.run_bind, Sem.run_pure]
      exact congrArg (fun q : Result (List Value) => q.andThen fun a w' => Result.ok a.toArray w') h1
    simp only [Sem.run_bind, Sem.run_pure]
    exact congrArg (fun q : Result (Array Value) => q.andThen fun vs w' => Result.ok (if h : vs.size = 1 then vs[0] else Value.tuple vs) w') this
  · match l, vs, h2 with
    | [x], [v], h2 => simpa [retOf] using h2.2 0 (by simp)
    | [], [], h2 => exact .t _ _ (by simp) (fun j hj => by simp at hj)
    | x :: y :: l, v :: u :: vs, h2 =>
      rw [dif_neg (by simp)]
      exact .t _ _ (by simpa using h2.1) (fun j hj => by have := h2.2 j hj; simpa [List.getD_eq_getElem?_getD, Array.getD_eq_getD_getElem?] using this)
    | [], _ :: _, h2 => exact absurd h2.1 (by simp)
    | [_], [], h2 => exact absurd h2.1 (by simp)
    | [_], _ :: _ :: _, h2 => exact absurd h2.1 (by simp)
    | _ :: _ :: _, [], h2 => exact absurd h2.1 (by simp)
    | _ :: _ :: _, [_], h2 => exact absurd h2.1 (by simp)

mutual
/-- All ids are such. -/
def AV.ids (p : Nat → Prop) : AV → Prop
  | .v _ => True
  | .s id => p id
  | .w id _ _ => p id
  | .p id _ => p id
  | .i _ _ _ _ _ => True
  | .q _ _ _ _ _ => True
  | .a cs => AV.idsL p cs
  | .t cs => AV.idsL p cs
  | .f _ cs => AV.idsL p cs
  | .g _ x => AV.ids p x
  | .top => True
def AV.idsL (p : Nat → Prop) : List AV → Prop
  | [] => True
  | x :: r => AV.ids p x ∧ AV.idsL p r
end
theorem idsL_getD {p : Nat → Prop} : ∀ {cs : List AV} (_ : AV.idsL p cs) (j : Nat), (cs.getD j .top).ids p
  | [], _, _ => by simp [AV.ids]
  | x :: r, h, 0 => by simp only [AV.idsL] at h; simpa using h.1
  | x :: r, h, j + 1 => by simp only [AV.idsL] at h; simpa using idsL_getD h.2 j
theorem Conc.ids {p : Nat → Prop} {B : Nat} {I : Nat → Prop} {w : World} {ρ : Nat → Option Value} {x : AV} {u : Value} (h : Conc B I w ρ x u) : x.ids p → ∀ ρ', (∀ id, p id → ρ' id = ρ id) → Conc B I w ρ' x u := by
  induction h with
  | v x => intro _ ρ' _; exact .v x
  | s id x h h1 => intro hg ρ' hr; rw [AV.ids] at hg; exact .s id x (by rw [hr id hg]; exact h) h1
  | w id off len cap A x h hcap hA => intro hg ρ' hr; rw [AV.ids] at hg; exact .w id off len cap A x (by rw [hr id hg]; exact h) hcap hA
  | p id off b x h hb => intro hg ρ' hr; rw [AV.ids] at hg; exact .p id off b x (by rw [hr id hg]; exact h) hb
  | i fr c sz off len cap A u hcap hA hc ih => intro _ ρ' _; exact .i fr c sz off len cap A u hcap hA hc
  | q fr c sz e f ad u h2 h3 hcell hc ih => intro _ ρ' _; exact .q fr c sz e f ad u h2 h3 hcell hc
  | a cs us hl h ih => intro hg ρ' hr; rw [AV.ids] at hg; exact .a cs us hl fun j hj => ih j hj (idsL_getD hg j) ρ' hr
  | t cs us hl h ih => intro hg ρ' hr; rw [AV.ids] at hg; exact .t cs us hl fun j hj => ih j hj (idsL_getD hg j) ρ' hr
  | f fn cs us hl h ih => intro hg ρ' hr; rw [AV.ids] at hg; exact .f fn cs us hl fun j hj => ih j hj (idsL_getD hg j) ρ' hr
  | g b x u h h0 ih => intro hg ρ' hr; rw [AV.ids] at hg; exact .g b x u (fun hb => ih hb hg ρ' hr) h0
  | top u => intro _ ρ' _; exact .top u
def idsE (p : Nat → Prop) : List (Nat × AV) → Prop
  | [] => True
  | (_, x) :: r => x.ids p ∧ idsE p r
theorem idsE_lk {p : Nat → Prop} : ∀ {E : List (Nat × AV)}, idsE p E → ∀ s, (lk E s).ids p
  | [], _, s => by simp [lk, AV.ids]
  | (k, x) :: r, h, s => by
    simp only [lk]
    split
    · exact h.1
    · exact idsE_lk h.2 s

/-- Back in a suspended frame: its slots as they were (ids below N are its own, those from N on but below M are pinned), memory as it is now (blocks from N on). -/
theorem resume {n B N M : Nat} {w0 w0' : Orig} {st st' : St} {a a' : Act} {w w' : World} {n' : Nat} {ρ ρ' : Nat → Option Value} {I I' : Nat → Prop} (hM : idsE (· < M) st.env)
    (hG : Gam n B w0 st a w ρ I) (hG' : Gam n' B w0' st' a' w' ρ' I') (hpin : ∀ id, N ≤ id → id < M → ρ' id = ρ id) (hfree : ∀ id, M ≤ id → w0.gh id = none)
    (hkeep : ∀ b, I b → I' b ∧ w'.heap[b]? = w.heap[b]?) (hup : ∀ b, I' b → I b ∨ B ≤ b) (hbel : Below B w w') (hge : geH N (keepH N st'.heap)) :
    Gam n B w0 ⟨st.env, keepH N st'.heap⟩ a w' (fun id => if id < N then ρ id else ρ' id) I' := by
  have h1 : ∀ id, N ≤ id → (if id < N then ρ id else ρ' id) = ρ' id := fun id h => if_neg (by omega)
  refine ⟨hG.defers.mono hkeep, hG.size, fun s => ?_, ⟨fun id blk hk => ?_, fun id id' b1 b2 x x' b hne k1 k2 hx hx' hb => ?_, fun id blk x b hk hx hb => ?_, hG'.hw.lt⟩, hG.below.trans hbel, hG'.base, ⟨fun b hb => ?_, fun id x hx => ?_, hG.old.ghn, fun b hb => ?_⟩⟩
  · refine (((hG.env s).mono (Nat.le_refl _) hkeep ρ (fun _ _ h => h)).ids (idsE_lk hM s) _ fun id hid => ?_)
    show (if id < N then ρ id else ρ' id) = ρ id
    split
    · rfl
    · exact hpin id (by omega) hid
  · obtain ⟨hid, hk'⟩ := keepH_lk hk
    obtain ⟨x, hx, hok⟩ := hG'.hw.ok id blk hk'
    refine ⟨x, by rw [h1 id hid]; exact hx, ?_⟩
    cases blk with
    | box t c =>
      obtain ⟨b, us, rfl, hB, hh, hl, hc⟩ := hok
      exact ⟨b, us, rfl, hB, hh, hl, fun j u hu => (hc j u hu).ge (Cont.ge_at (geH_lk hge hk) j) _ h1⟩
    | row e sz c => exact hok
    | mp c => exact hok
    | mpa kd ks c =>
      obtain ⟨b, vals, rfl, hB, hm, hl, hl2, hc⟩ := hok
      exact ⟨b, vals, rfl, hB, hm, hl, hl2, fun j u hu => (hc j u hu).ge (Cont.ge_at (geH_lk hge hk) j) _ h1⟩
    | nst e c =>
      obtain ⟨m, xs, ho, hl, hc⟩ := hok
      exact ⟨m, xs, ho, hl, fun j u hu => (hc j u hu).ge (Cont.ge_at (geH_lk hge hk) j) _ h1⟩
  · obtain ⟨i1, k1'⟩ := keepH_lk k1
    obtain ⟨i2, k2'⟩ := keepH_lk k2
    exact hG'.hw.apart id id' b1 b2 x x' b hne k1' k2' (by rw [← h1 id i1]; exact hx) (by rw [← h1 id' i2]; exact hx') hb
  · obtain ⟨i1, k1'⟩ := keepH_lk hk
    exact hG'.hw.imm id blk x b k1' (by rw [← h1 id i1]; exact hx) hb
  · rcases hup b hb with h | h
    · exact hG.old.up b h
    · exact .inr h
  · by_cases e1 : id < N
    · show (if id < N then ρ id else ρ' id) = x
      rw [if_pos e1]; exact hG.old.gh id x hx
    · show (if id < N then ρ id else ρ' id) = x
      rw [if_neg e1]
      by_cases e2 : id < M
      · rw [hpin id (by omega) e2]; exact hG.old.gh id x hx
      · rw [hfree id (by omega)] at hx; cases hx
  · obtain ⟨g1, g2⟩ := hG.old.keep b hb
    obtain ⟨g3, g4⟩ := hkeep b g1
    exact ⟨g3, g4.trans g2⟩

/-- What a callee that is walked in place starts with. -/
theorem start_in {n' N M B : Nat} {w0 : Orig} {n : Nat} {st : St} {a : Act} {w : World} {ρ : Nat → Option Value} {I : Nat → Prop} (hG : Gam n B w0 st a w ρ I) {args : List AV} {vs : Array Value} (hvs : ConcL B I w ρ args vs.toList) (hcond : condL args) (hle : args.length ≤ n') (hnN : n' ≤ N) :
    Gam n' B ⟨w, I, fun id => if N ≤ id ∧ id < M then some (ρ id) else none, [], none⟩ ⟨argEnv 0 (stripL args), st.heap⟩ { tmps := vs ++ Array.replicate (n' - vs.size) undef, defers := [] } w ρ I := by
  have hsz : vs.size = args.length := by rw [← Array.length_toList, hvs.1]
  refine ⟨Marks.nil, by simp; omega, fun s => start_env ⟨by rw [stripL_length]; exact hvs.1, fun j hj => ?_⟩ s, hG.hw, Below.refl _ _, hG.base, ⟨fun b hb => .inl hb, fun id x hx => ?_, fun d hd => if_neg (by omega), fun b hb => ⟨hb, rfl⟩⟩⟩
  · rw [stripL_length] at hj
    rw [stripL_getD _ _ hj]
    exact (hvs.2 j hj).strip (condL_getD hcond j)
  · simp only at hx
    split at hx
    · injection hx
    · cases hx

/-- A call whose body is walked in place; of the ids from N on those from M on are free. -/
def EffCallM (P : Program) (T : Tab) (dst : Option Nat) (op : Op) (K : St → Prop) (hgh : Nat → Option (Option Value)) (st : St) : Prop :=
  match callee? st.ev op with
  | some (ψ, k, args) => (ψ ∧ condL args) ∧ ∃ (fn : Func) (c : Code) (N M : Nat), P.funcs[k]? = some fn ∧ fn.body = some c ∧ (fn.name == "runtime.NumGoroutine") = false ∧ args.length ≤ fn.ntmps ∧ fn.ntmps ≤ N ∧ idsE (· < M) st.env ∧ (∀ id, M ≤ id → hgh id = none) ∧
      ∀ B w0, (∀ id, M ≤ id → w0.gh id = none) → AWP P fn.ntmps B w0 c (EndsE T N fn.results.toList fun r H => K (St.put ⟨st.env, H⟩ dst r)) ⟨argEnv 0 (stripL args), st.heap⟩
  | none => False
theorem effM_ok {P : Program} {T : Tab} (hT : T.ok P) {n B : Nat} {w0 : Orig} {st : St} {a : Act} {w : World} {ρ : Nat → Option Value} {I : Nat → Prop} (hG : Gam n B w0 st a w ρ I) {o : Oper} (hd : dstOk n o.dst) {K : St → Prop} (h : EffCallM P T o.dst o.op K w0.gh st) : StepOk P n B w0 o a w K := by
  intro next Q hn
  unfold EffCallM at h
  split at h
  · rename_i ψ k args hcal
    obtain ⟨⟨hψ, hcond⟩, fn, c, N, M, hf, hb, hname, hle, hnN, hids, hfree, hA⟩ := h
    obtain ⟨vs, hrun, hvs⟩ := callee_run (fun x => hG.ev x) hcal hψ hf hname (by rw [hb]; rfl)
    unfold Oper.wp
    rw [hrun, Oper.upon_enter]
    refine calls_of_awp (w0 := ⟨w, I, fun id => if N ≤ id ∧ id < M then some (ρ id) else none, [], none⟩) hf hb rfl rfl (hA B _ fun id hid => if_neg (by omega)) ⟨ρ, I, start_in hG hvs hcond hle hnN⟩ fun e st' a' w' ρ' I' h1 hG' => ?_
    have key : finE T N fn.results.toList (fun r H => K (St.put ⟨st.env, H⟩ o.dst r)) st' → ∃ v, (results fn a'.tmps).run P w' = .ok v w' ∧ next (a.put o.dst v) w' := fun hfin => by
      unfold finE at hfin
      split at hfin
      · rename_i φ l hl
        obtain ⟨hφ, hge, hgeH, hK⟩ := hfin
        obtain ⟨v, h2, h3⟩ := res_ok hT hG' hl hφ
        refine ⟨v, h2, hn _ _ _ hK ⟨_, I', Gam.put (st := ⟨st.env, keepH N st'.heap⟩) (d := o.dst) (resume (N := N) (M := M) hids hG hG' (fun id h1 h2 => hG'.old.gh id (ρ id) (if_pos ⟨h1, h2⟩)) hfree hG'.old.keep (fun b hb => hG'.old.up b hb) hG'.below hgeH) (fun k hk => by rw [hk] at hd; exact hd) (h3.ge hge _ fun id hid => if_neg (by omega))⟩⟩
      · exact hfin.elim
    cases e with
    | ret => exact ⟨.inl rfl, key h1⟩
    | normal => exact ⟨.inr rfl, key h1⟩
    | _ => exact h1.elim
  · exact h.elim

theorem eff_ok {P : Program} {T : Tab} (hT : T.ok P) {n B : Nat} {w0 : Orig} {st : St} {a : Act} {w : World} {ρ : Nat → Option Value} {I : Nat → Prop} (hG : Gam n B w0 st a w ρ I) {o : Oper} (hd : dstOk n o.dst) {K : St → Prop} (h : EffCall P T o.dst o.op K st) : StepOk P n B w0 o a w K := by
  intro next Q hn
  unfold EffCall at h
  split at h
  · rename_i ψ k args hcal
    obtain ⟨⟨hψ, hcond⟩, fn, c, N, hf, hb, hname, hle, hnN, hA⟩ := h
    obtain ⟨vs, hrun, hvs⟩ := callee_run (fun x => hG.ev x) hcal hψ hf hname (by rw [hb]; rfl)
    unfold Oper.wp
    rw [hrun, Oper.upon_enter]
    have hsz : vs.size = args.length := by rw [← Array.length_toList, hvs.1]
    refine calls_of_awp (w0 := ⟨w, I, fun id => if N ≤ id then some (ρ id) else none, [], none⟩) hf hb rfl rfl (hA B _) ⟨ρ, I, ?_⟩ fun e st' a' w' ρ' I' h1 hG' => ?_
    · refine ⟨Marks.nil, by simp; omega, fun s => start_env ⟨by rw [stripL_length]; exact hvs.1, fun j hj => ?_⟩ s, hG.hw, Below.refl _ _, hG.base, ⟨fun b hb => .inl hb, fun id x hx => ?_, fun d hd => if_neg (by omega), fun b hb => ⟨hb, rfl⟩⟩⟩
      · rw [stripL_length] at hj
        rw [stripL_getD _ _ hj]
        exact (hvs.2 j hj).strip (condL_getD hcond j)
      · simp only at hx
        split at hx
        · injection hx
        · cases hx
    · have key : finE T N fn.results.toList (fun r H => K (St.put ⟨st.env, H⟩ o.dst r)) st' → ∃ v, (results fn a'.tmps).run P w' = .ok v w' ∧ next (a.put o.dst v) w' := fun hfin => by
        unfold finE at hfin
        split at hfin
        · rename_i φ l hl
          obtain ⟨hφ, hge, hgeH, hK⟩ := hfin
          obtain ⟨v, h2, h3⟩ := res_ok hT hG' hl hφ
          refine ⟨v, h2, ?_⟩
          have hρ : ∀ id, N ≤ id → ρ id = ρ' id := fun id hid => (hG'.old.gh id (ρ id) (if_pos hid)).symm
          refine hn _ _ _ hK ⟨ρ, I', Gam.put (st := ⟨st.env, keepH N st'.heap⟩) (d := o.dst) ⟨hG.defers.mono hG'.old.keep, hG.size, fun s => (hG.env s).mono (Nat.le_refl _) hG'.old.keep ρ (fun _ _ h => h), ⟨fun id blk hk => ?_, fun id id' b1 b2 x x' b hne k1 k2 hx hx' hb => ?_, fun id blk x b hk hx hb => ?_, hG'.hw.lt⟩, hG.below.trans hG'.below, hG'.base, ⟨fun b hb => ?_, hG.old.gh, hG.old.ghn, fun b hb => ?_⟩⟩ (fun k hk => by rw [hk] at hd; exact hd) (h3.ge hge ρ hρ)⟩
          · obtain ⟨hid, hk'⟩ := keepH_lk hk
            obtain ⟨x, hx, hok⟩ := hG'.hw.ok id blk hk'
            refine ⟨x, by rw [hρ id hid]; exact hx, ?_⟩
            cases blk with
            | box t c =>
              obtain ⟨b, us, rfl, hB, hh, hl, hc⟩ := hok
              exact ⟨b, us, rfl, hB, hh, hl, fun j u hu => (hc j u hu).ge (Cont.ge_at (geH_lk hgeH hk) j) ρ hρ⟩
            | row e sz c => exact hok
            | mp c => exact hok
            | mpa kd ks c =>
              obtain ⟨b, vals, rfl, hB, hm, hl, hl2, hc⟩ := hok
              exact ⟨b, vals, rfl, hB, hm, hl, hl2, fun j u hu => (hc j u hu).ge (Cont.ge_at (geH_lk hgeH hk) j) ρ hρ⟩
            | nst e c =>
              obtain ⟨m, xs, ho, hl, hc⟩ := hok
              exact ⟨m, xs, ho, hl, fun j u hu => (hc j u hu).ge (Cont.ge_at (geH_lk hgeH hk) j) ρ hρ⟩
          · obtain ⟨i1, k1'⟩ := keepH_lk k1
            obtain ⟨i2, k2'⟩ := keepH_lk k2
            exact hG'.hw.apart id id' b1 b2 x x' b hne k1' k2' (by rw [← hρ id i1]; exact hx) (by rw [← hρ id' i2]; exact hx') hb
          · obtain ⟨i1, k1'⟩ := keepH_lk hk
            exact hG'.hw.imm id blk x b k1' (by rw [← hρ id i1]; exact hx) hb
          · rcases hG'.old.up b hb with h | h
            · exact hG.old.up b h
            · exact .inr h
          · obtain ⟨g1, g2⟩ := hG.old.keep b hb
            obtain ⟨g3, g4⟩ := hG'.old.keep b g1
            exact ⟨g3, g4.trans g2⟩
        · exact hfin.elim
      cases e with
      | ret => exact ⟨.inl rfl, key h1⟩
      | normal => exact ⟨.inr rfl, key h1⟩
      | _ => exact h1.elim
  · exact h.elim

/-- Other names for the own blocks. -/
def AV.ren (k : Nat) : AV → AV
  | .v x => .v x
  | .s id => .s (id + k)
  | .w id off len => .w (id + k) off len
  | .p id off => .p (id + k) off
  | .i fr c sz off len => .i fr c sz off len
  | .q fr c sz e j => .q fr c sz e j
  | .a cs => .a (renL k cs)
  | .t cs => .t (renL k cs)
  | .f fn cs => .f fn (renL k cs)
  | .g b x => .g b (AV.ren k x)
  | .top => .top
where renL (k : Nat) : List AV → List AV
  | [] => []
  | x :: r => AV.ren k x :: renL k r
theorem renL_length (k : Nat) (cs : List AV) : (AV.ren.renL k cs).length = cs.length := by
  induction cs with
  | nil => rfl
  | cons x r ih => simp [AV.ren.renL, ih]
theorem renL_getD (k : Nat) (cs : List AV) (j : Nat) : (AV.ren.renL k cs).getD j .top = (cs.getD j .top).ren k := by
  induction cs generalizing j with
  | nil => simp [AV.ren.renL, AV.ren]
  | cons x r ih => cases j with
    | zero => simp [AV.ren.renL]
    | succ j => simpa [AV.ren.renL] using ih j
theorem Conc.ren {B : Nat} {I : Nat → Prop} {w : World} {ρ : Nat → Option Value} {x : AV} {u : Value} (k : Nat) (h : Conc B I w ρ x u) : ∀ ρ', (∀ id, ρ' (id + k) = ρ id) → Conc B I w ρ' (x.ren k) u := by
  induction h with
  | v x => intro ρ' _; rw [AV.ren]; exact .v x
  | s id x h h1 => intro ρ' hr; rw [AV.ren]; exact .s _ x (by rw [hr id]; exact h) h1
  | w id off len cap A x h hcap hA => intro ρ' hr; rw [AV.ren]; exact .w _ off len cap A x (by rw [hr id]; exact h) hcap hA
  | p id off b x h hb => intro ρ' hr; rw [AV.ren]; exact .p _ off b x (by rw [hr id]; exact h) hb
  | i fr c sz off len cap A u hcap hA hc ih => intro ρ' _; rw [AV.ren]; exact .i fr c sz off len cap A u hcap hA hc
  | q fr c sz e f ad u h2 h3 hcell hc ih => intro ρ' _; rw [AV.ren]; exact .q fr c sz e f ad u h2 h3 hcell hc
  | a cs us hl h ih => intro ρ' hr; rw [AV.ren]; exact .a _ us (by rw [renL_length]; exact hl) fun j hj => by rw [renL_length] at hj; rw [renL_getD]; exact ih j hj ρ' hr
  | t cs us hl h ih => intro ρ' hr; rw [AV.ren]; exact .t _ us (by rw [renL_length]; exact hl) fun j hj => by rw [renL_length] at hj; rw [renL_getD]; exact ih j hj ρ' hr
  | f fn cs us hl h ih => intro ρ' hr; rw [AV.ren]; exact .f fn _ us (by rw [renL_length]; exact hl) fun j hj => by rw [renL_length] at hj; rw [renL_getD]; exact ih j hj ρ' hr
  | g b x u h h0 ih => intro ρ' hr; rw [AV.ren]; exact .g b _ u (fun hb => ih hb ρ' hr) h0
  | top u => intro ρ' _; rw [AV.ren]; exact .top u
def Cont.ren (k : Nat) : Cont → Cont
  | .ints q l => .ints q l
  | .vals l => .vals l
  | .avs l => .avs (AV.ren.renL k l)
def Blk.ren (k : Nat) : Blk → Blk
  | .box t c => .box t (c.ren k)
  | .row e sz c => .row e sz c
  | .mp c => .mp c
  | .mpa kd ks c => .mpa kd ks (c.ren k)
  | .nst e c => .nst e (c.ren k)
theorem Cont.ren_len (k : Nat) (c : Cont) : (c.ren k).len = c.len := by cases c <;> simp [Cont.ren, Cont.len, renL_length]
theorem Cont.ren_at (k : Nat) (c : Cont) (j : Nat) : (c.ren k).at j = (c.at j).ren k := by cases c <;> simp only [Cont.ren, Cont.at, AV.ren, renL_getD]
def renE (k : Nat) : List (Nat × AV) → List (Nat × AV)
  | [] => []
  | (s, x) :: r => (s, x.ren k) :: renE k r
def renH (k : Nat) : List (Nat × Blk) → List (Nat × Blk)
  | [] => []
  | (d, b) :: r => (d + k, b.ren k) :: renH k r
theorem lk_renE (k : Nat) : ∀ (E : List (Nat × AV)) (s : Nat), lk (renE k E) s = (lk E s).ren k
  | [], s => by simp [renE, lk, AV.ren]
  | (t, x) :: r, s => by
    simp only [renE, lk]
    split
    · rfl
    · exact lk_renE k r s
theorem lkH_renH (k : Nat) : ∀ {H : List (Nat × Blk)} {id : Nat} {b : Blk}, lkH (renH k H) id = some b → ∃ id0 b0, id = id0 + k ∧ lkH H id0 = some b0 ∧ b = b0.ren k
  | [], _, _, h => by cases h
  | (d, c) :: r, id, b, h => by
    simp only [renH, lkH] at h
    split at h
    · rename_i e; injection h with h; exact ⟨d, c, e.symm, by simp [lkH], h.symm⟩
    · rename_i e
      obtain ⟨id0, b0, e1, e2, e3⟩ := lkH_renH k h
      refine ⟨id0, b0, e1, ?_, e3⟩
      simp only [lkH]
      rw [if_neg (fun hh => e (by rw [hh, e1]))]; exact e2
theorem G.ren {n B : Nat} {w0 : Orig} {st : St} {a : Act} {w : World} (hG : G n B w0 st a w) (hgh : ∀ id, w0.gh id = none) (k : Nat) : G n B w0 ⟨renE k st.env, renH k st.heap⟩ a w := by
  obtain ⟨ρ, I, h⟩ := hG
  have hρ : ∀ id, (if k ≤ id + k then ρ (id + k - k) else none) = ρ id := fun id => by simp
  refine ⟨fun id => if k ≤ id then ρ (id - k) else none, I, h.defers, h.size, fun s => ?_, ⟨fun id blk hk => ?_, fun id id' b1 b2 x x' b hne k1 k2 hx hx' hb => ?_, fun id blk x b hk hx hb => ?_, h.hw.lt⟩, h.below, h.base, ⟨h.old.up, fun id x hx => (by rw [hgh] at hx; cases hx), h.old.ghn, h.old.keep⟩⟩
  · show Conc _ _ _ _ (lk (renE k st.env) s) _
    rw [lk_renE]; exact (h.env s).ren k _ hρ
  · obtain ⟨id0, b0, rfl, h2, rfl⟩ := lkH_renH k hk
    obtain ⟨x, hx, hok⟩ := h.hw.ok id0 b0 h2
    refine ⟨x, by rw [hρ id0]; exact hx, ?_⟩
    cases b0 with
    | box t c =>
      obtain ⟨b, us, rfl, hB, hh, hl, hc⟩ := hok
      exact ⟨b, us, rfl, hB, hh, by rw [Cont.ren_len]; exact hl, fun j u hu => by rw [Cont.ren_at]; exact (hc j u hu).ren k _ hρ⟩
    | row e sz c => exact hok
    | mp c => exact hok
    | mpa kd ks c =>
      obtain ⟨b, vals, rfl, hB, hm, hl, hl2, hc⟩ := hok
      exact ⟨b, vals, rfl, hB, hm, hl, by rw [Cont.ren_len]; exact hl2, fun j u hu => by rw [Cont.ren_at]; exact (hc j u hu).ren k _ hρ⟩
    | nst e c =>
      obtain ⟨m, xs, ho, hl, hc⟩ := hok
      exact ⟨m, xs, ho, by rw [Cont.ren_len]; exact hl, fun j u hu => by rw [Cont.ren_at]; exact (hc j u hu).ren k _ hρ⟩
  · obtain ⟨i1, c1, rfl, g1, rfl⟩ := lkH_renH k k1
    obtain ⟨i2, c2, rfl, g2, rfl⟩ := lkH_renH k k2
    rw [hρ] at hx hx'
    exact h.hw.apart i1 i2 c1 c2 x x' b (fun e => hne (by rw [e])) g1 g2 hx hx' hb
  · obtain ⟨i1, c1, rfl, g1, rfl⟩ := lkH_renH k hk
    rw [hρ] at hx
    exact h.hw.imm i1 c1 x b g1 hx hb
theorem awp_ren {P : Program} {n B : Nat} {w0 : Orig} {c : Code} {Q : Exit → St → Prop} {st : St} (hgh : ∀ id, w0.gh id = none) (k : Nat) (h : AWP P n B w0 c Q ⟨renE k st.env, renH k st.heap⟩) : AWP P n B w0 c Q st := fun a w hG => h a w (hG.ren hgh k)
attribute [push_cast] AV.ren AV.ren.renL Cont.ren Blk.ren renE renH EffCall EffCallM AV.ids AV.idsL idsE EndsE finE stripL keepH geH AV.ge AV.geL Cont.ge Blk.ge
end Go.Eng
namespace Go.Eng
open Go.RowKit
set_option linter.unusedSimpArgs false

/-- A content is told in other words. -/
theorem G.cont {n B : Nat} {w0 : Orig} {st : St} {a : Act} {w : World} (hG : G n B w0 st a w) (d : Nat) (t : TypeId) (c c' : Cont) (hk : lkH st.heap d = some (.box t c)) (hl : c'.len = c.len) (hc : ∀ j, j < c.len → c'.at j = c.at j ∨ c'.at j = .top) : G n B w0 ⟨st.env, (d, .box t c') :: st.heap⟩ a w := by
  obtain ⟨ρ, I, h⟩ := hG
  obtain ⟨x, hx, hok⟩ := h.hw.ok d _ hk
  refine ⟨ρ, I, h.store hk hx ?_ (Below.refl _ _) (fun _ _ => rfl)⟩
  obtain ⟨b, us, rfl, hB, hh, hl2, hcc⟩ := hok
  refine ⟨b, us, rfl, hB, hh, by rw [hl]; exact hl2, fun j u hu => ?_⟩
  have hj : j < us.size := (Array.getElem?_eq_some_iff.1 hu).1
  rcases hc j (by omega) with e | e
  · rw [e]; exact hcc j u hu
  · rw [e]; exact .top _
theorem awp_cont {P : Program} {n B : Nat} {w0 : Orig} {cd : Code} {Q : Exit → St → Prop} {st : St} (d : Nat) (t : TypeId) (c c' : Cont) (hk : lkH st.heap d = some (.box t c)) (hl : c'.len = c.len) (hc : ∀ j, j < c.len → c'.at j = c.at j ∨ c'.at j = .top) (h : AWP P n B w0 cd Q ⟨st.env, (d, .box t c') :: st.heap⟩) : AWP P n B w0 cd Q st := fun a w hG => h a w (hG.cont d t c c' hk hl hc)

section
variable {P : Program} {T : Tab} (hT : T.ok P) {n B : Nat} {w0 : Orig} {st : St} {a : Act} {w : World} {ρ : Nat → Option Value} {I : Nat → Prop}

/-- A row that is made, of whatever elements. -/
def MakeAny (T : Tab) (dst : Option Nat) (op : Op) (K : St → Prop) (st : St) : Prop :=
  match op, dst with
  | .makeSlice t l c, some d =>
    match T t, (st.ev l).strip, (st.ev c).strip with
    | some ⟨.sl e, _, _, _⟩, .v (.int _ nl), .v (.int _ nc) =>
      match T e with
      | some te => ((st.ev l).cond ∧ (st.ev c).cond ∧ 0 ≤ nl ∧ nl = nc ∧ (te.by_ : Int) * nc ≤ 281474976710656 ∧ nc ≤ 9223372036854775807) ∧ K ⟨(d, .s d) :: killE d st.env, (d, .row e te.sz (.avs (List.replicate (nl.toNat * te.sz) .top))) :: killH d st.heap⟩
      | none => False
    | _, _, _ => False
  | _, _ => False
include hT in
theorem makeAny_ok (hG : Gam n B w0 st a w ρ I) {o : Oper} (hd : dstOk n o.dst) {K : St → Prop} (h : MakeAny T o.dst o.op K st) : StepOk P n B w0 o a w K := by
  intro next Q hn
  unfold MakeAny at h
  split at h
  · rename_i t l c d ho hdst
    split at h
    · rename_i e _ _ _ k1 nl k2 nc ht hl hc
      have hu : P.underlying t = some (.slice e) := (hT _ _ ht).kind
      split at h
      · rename_i te hte
        obtain ⟨inf, hi1, hi2, hi3, hz⟩ := (hT _ _ hte).info
        obtain ⟨⟨c1, c2, h0, rfl, hby, h63⟩, hK⟩ := h
        have e1 := (hG.ev l).strip c1
        have e2 := (hG.ev c).strip c2
        rw [hl] at e1; rw [hc] at e2
        have e1 := e1.v_inv
        have e2 := e2.v_inv
        have hr := run_make (P := P) w t e inf te.z hu hi1 hz k1 k2 nl nl h0 (Int.le_refl _) (by rw [hi3]; exact hby) h63
        unfold Oper.wp
        have hrun : (execOp a.eval o).run P w = .ok (.value (.slice (some ⟨w.heap.size, 0, none⟩) nl.toNat nl.toNat)) (w.alloc (.cells (madeCells te.z.cells (nl.toNat * inf.size)) e)) := by
          simp only [execOp, ho, e1, e2, Sem.run_bind, hr, Result.andThen_ok, Sem.run_pure]
        rw [hrun, Oper.upon_value, hdst]
        have hb : Below w.heap.size w (w.alloc (.cells (madeCells te.z.cells (nl.toNat * inf.size)) e)) := (Below.refl _ _).alloc (Nat.le_refl _) _
        have hown : (w.alloc (.cells (madeCells te.z.cells (nl.toNat * inf.size)) e)).ownsRow B e te.sz (.slice (some ⟨w.heap.size, 0, none⟩) nl.toNat nl.toNat) nl.toNat ((madeCells te.z.cells (nl.toNat * inf.size)).toList.take (nl.toNat * te.sz)) := by
          refine ⟨?_, .inr ⟨w.heap.size, nl.toNat, _, rfl, hG.base, heap_alloc_new w _, by omega, by simp only [maxLen]; omega, by rw [size_madeCells, hi2], rfl⟩⟩
          rw [List.length_take, Array.length_toList, size_madeCells, hi2]; omega
        refine hn _ _ _ hK (new_row hG d (by rw [hdst] at hd; exact hd) hb hown (fun b hr => by simp [rootBlk] at hr; omega) _ (by simp [Cont.len]) fun j u hu => ?_)
        have : (Cont.avs (List.replicate (nl.toNat * te.sz) AV.top)).at j = .top := by
          simp only [Cont.at, List.getD_eq_getElem?_getD]
          by_cases hj : j < nl.toNat * te.sz
          · simp [hj]
          · rw [List.getElem?_eq_none (by simp; omega)]; rfl
        rw [this]; exact .top _
      · exact h.elim
    · exact h.elim
  · exact h.elim

theorem run_copy_rows (w : World) (dT sT ty elem : TypeId) (g o dLen dCap : Nat) (a : Addr) (sLen sCap size m : Nat) (cur : Array Value) (t : TypeId) (cs : List Value)
    (hu : P.underlying dT = some (.slice elem)) (hs : (P.info? elem).map (·.size) = some size)
    (hg : w.heap[g]? = some (.cells cur t (0, 0))) (hm : Nat.min sLen dLen = m) (hn : cs.length = m * size)
    (hsrc : ∀ j v, cs[j]? = some v → w.cell? (a.add j) = some v) (hfit : o + cs.length ≤ cur.size) (h1 : ∀ v ∈ cs, v.oneCell' = true) :
    (Builtin.copy_ #[dT, sT] ty #[.slice (some ⟨g, o, none⟩) dLen dCap, .slice (some a) sLen sCap]).run P w =
      .ok (goInt m) (w.setRow g (cur.toList.take o ++ cs ++ cur.toList.drop (o + cs.length)).toArray) := by
  have hl := run_loadCells_list (P := P) w a cs hsrc
  have hst := run_storeCells_at P g o t cs 0 cur w hg (by simpa using hfit) h1
  rw [hn] at hl
  cases hq : P.info? elem with
  | none => simp [hq] at hs
  | some i =>
    have hi : i.size = size := by simpa [hq] using hs
    simp [Builtin.copy_, run_underlying hu, Builtin.lenOf, Builtin.firstCells, sizeOf, typeInfo, hq, hi, hm, hl, hst]

/-- A whole row is filled out of a box. -/
def CopyAll (T : Tab) (dst : Option Nat) (op : Op) (K : St → Prop) (st : St) : Prop :=
  match op with
  | .call c =>
    match c.callee, c.args.toList, c.argTypes.toList with
    | .builtin .copy, [x, y], [t, _] =>
      match T t, (st.ev x).strip, (st.ev y).strip with
      | some ⟨.sl e, _, _, _⟩, .s id, .w id2 off len =>
        match T e, lkH st.heap id, lkH st.heap id2 with
        | some te, some (.row e' sz c), some (.box _ c2) =>
          ∃ c' : Cont, ((st.ev x).cond ∧ (st.ev y).cond ∧ sz = te.sz ∧ 0 < sz ∧ c.len = len * te.sz ∧ off + len * te.sz ≤ c2.len ∧ c'.len = c.len ∧ (∀ j, j < c.len → c'.at j = c2.at (off + j)) ∧ norC c' ∧ (∀ j, j < c.len → (c'.at j).one = true)) ∧ K (St.put ⟨st.env, (id, .row e' sz c') :: st.heap⟩ dst (.v (.int .i64 len)))
        | _, _, _ => False
      | _, _, _ => False
    | _, _, _ => False
  | _ => False
include hT in
theorem copyAll_ok (hG : Gam n B w0 st a w ρ I) {o : Oper} (hd : dstOk n o.dst) {K : St → Prop} (h : CopyAll T o.dst o.op K st) : StepOk P n B w0 o a w K := by
  intro next Q hn
  unfold CopyAll at h
  split at h
  · rename_i c ho
    split at h
    · rename_i x y t t' hcal hargs htys
      split at h
      · rename_i e _ _ _ id id2 off len ht hx hy
        have hu : P.underlying t = some (.slice e) := (hT _ _ ht).kind
        split at h
        · rename_i te e' sz c0 tb c2 hte hk hk2
          obtain ⟨inf, hi1, hi2, hi3, hz⟩ := (hT _ _ hte).info
          obtain ⟨c', ⟨k1, k2, rfl, hpos, hl, hl2, hl', hat, hnor, hone⟩, hK⟩ := h
          have hop : o.op = .call ⟨.builtin .copy, #[x, y], #[t, t']⟩ := by
            rw [ho]
            obtain ⟨cc, ca, ct⟩ := c
            simp only at hcal hargs htys
            subst hcal
            have e1 : ca = #[x, y] := by cases ca; simp_all
            have e2 : ct = #[t, t'] := by cases ct; simp_all
            rw [e1, e2]
          have vx := (hG.ev x).strip k1
          have vy := (hG.ev y).strip k2
          rw [hx] at vx; rw [hy] at vy
          generalize hxv : a.eval x = xv at vx
          generalize hyv : a.eval y = yv at vy
          cases vx with
          | s _ _ hrx hox =>
            cases vy with
            | w _ _ _ cap A xx hry hcap hA =>
              obtain ⟨x', hx', hok⟩ := hG.hw.ok id _ hk
              rw [hrx] at hx'; injection hx' with hx'; subst hx'
              obtain ⟨m, xs, hown, hlen, hcc⟩ := hok
              have hm : m = len := Nat.eq_of_mul_eq_mul_right hpos (by rw [← hlen, hl])
              subst hm
              unfold Oper.wp
              by_cases h0 : m = 0
              · subst h0
                have hrun : (execOp a.eval o).run P w = .ok (.value (.int .i64 0)) w := by
                  rcases hown.2 with ⟨rfl, _⟩ | ⟨g, cap', cur, rfl, _⟩
                  · cases A <;> simp [execOp, hop, hxv, hyv, resolve, builtin, Builtin.copy_, run_underlying hu, Builtin.lenOf, Builtin.firstCells, sizeOf, typeInfo, hi1, loadCells, loadCellsFrom, storeCells, goInt, Deferred.ofValue, invoke]
                  · cases A <;> simp [execOp, hop, hxv, hyv, resolve, builtin, Builtin.copy_, run_underlying hu, Builtin.lenOf, Builtin.firstCells, sizeOf, typeInfo, hi1, loadCells, loadCellsFrom, storeCells, goInt, Deferred.ofValue, invoke]
                rw [hrun, Oper.upon_value]
                refine hn _ _ _ hK ⟨ρ, I, Gam.put (st := ⟨st.env, (id, .row e' te.sz c') :: st.heap⟩) (hG.store hk hrx ⟨0, [], ?_, by rw [hl', hl], fun j u hu => by simp at hu⟩ (Below.refl _ _) (fun _ _ => rfl)) (fun k hk => by rw [hk] at hd; exact hd) (.v _)⟩
                have hx0 : xs = [] := List.eq_nil_of_length_eq_zero (by rw [hown.1]; simp)
                rw [hx0] at hown; exact hown
              · have hmp : 0 < m * te.sz := Nat.mul_pos (by omega) hpos
                rcases hown.2 with ⟨_, h00⟩ | ⟨g, cap', cur, rfl, hB, hh, hmc, hmax, hcs2, htake⟩
                · exact absurd h00 h0
                obtain ⟨b, hb, rfl⟩ := hA (by omega)
                have hcell : ∀ j, j < m * te.sz → ∃ u, w.cell? ⟨b, off + j, none⟩ = some u ∧ Conc B I w ρ (c2.at (off + j)) u := fun j hj => hG.hw.cell hk2 hry hb (j := off + j) (by show off + j < c2.len; omega)
                let f : Nat → Value := fun j => if hj : j < m * te.sz then Classical.choose (hcell j hj) else undef
                have hf : ∀ j, j < m * te.sz → w.cell? ⟨b, off + j, none⟩ = some (f j) ∧ Conc B I w ρ (c2.at (off + j)) (f j) := fun j hj => by
                  show w.cell? _ = some (if hj : j < m * te.sz then Classical.choose (hcell j hj) else undef) ∧ Conc B I w ρ _ (if hj : j < m * te.sz then Classical.choose (hcell j hj) else undef)
                  rw [dif_pos hj]; exact Classical.choose_spec (hcell j hj)
                have hget : ∀ j v, ((List.range (m * te.sz)).map f)[j]? = some v → j < m * te.sz ∧ v = f j := fun j v hv => by
                  have hj : j < m * te.sz := by have := (List.getElem?_eq_some_iff.1 hv).1; simpa using this
                  refine ⟨hj, ?_⟩
                  rw [List.getElem?_map, List.getElem?_range hj] at hv
                  exact (Option.some.inj hv).symm
                have hcap3 : m * te.sz ≤ cap' * te.sz := Nat.mul_le_mul_right _ hmc
                have hlenr : ((List.range (m * te.sz)).map f).length = m * te.sz := by simp
                have hr := run_copy_rows (P := P) w t t' o.type e g 0 m cap' ⟨b, off, none⟩ m cap te.sz m cur e' ((List.range (m * te.sz)).map f) hu (by rw [hi1]; simp [hi2]) hh (Nat.min_self m) hlenr (fun j v hv => by
                    obtain ⟨hj, rfl⟩ := hget j v hv
                    rw [add_none]; exact (hf j hj).1) (by rw [hlenr]; omega) (fun v hv => by
                    obtain ⟨j, hj, rfl⟩ := List.mem_map.1 hv
                    have hj : j < m * te.sz := by simpa using hj
                    rw [oneC_eq]
                    have h1 := (hf j hj).2
                    rw [← hat j (by omega)] at h1
                    exact h1.one (hone j (by omega)))
                have hrun : (execOp a.eval o).run P w = .ok (.value (goInt m)) (w.setRow g (cur.toList.take 0 ++ (List.range (m * te.sz)).map f ++ cur.toList.drop (0 + ((List.range (m * te.sz)).map f).length)).toArray) := by
                  simp only [execOp, hop, hxv, hyv, resolve, builtin, Deferred.ofValue, invoke, Sem.run_bind, Sem.run_pure, Result.andThen_ok, List.map_toArray, List.map_cons, List.map_nil, hr]
                rw [hrun, Oper.upon_value]
                have hI : ∀ b1, I b1 → b1 ≠ g := fun b1 h1 e => by subst e; exact hG.hw.imm id _ _ _ hk hrx rfl h1
                refine hn _ _ _ hK ⟨ρ, I, Gam.put (st := ⟨st.env, (id, .row e' te.sz c') :: st.heap⟩) (hG.store hk hrx ⟨m, (List.range (m * te.sz)).map f, ⟨hlenr, .inr ⟨g, cap', _, rfl, hB, heap_setRow w g _ cur e' hh, hmc, hmax, ?_, ?_⟩⟩, by rw [hl', hl], fun j u hu => ?_⟩ (below_setRow (Below.refl _ _) hB _) (fun b1 hb1 => heap_setRow_ne w _ _ _ (fun e => hb1 (by rw [e]; rfl)))) (fun k hk => by rw [hk] at hd; exact hd) (.v _)⟩
                · simp; omega
                · simp [hlenr]
                · obtain ⟨hj, rfl⟩ := hget j u hu
                  have h1 := (hf j hj).2
                  rw [← hat j (by omega)] at h1
                  exact (h1.nor (norC_at hnor j)).same (fun b1 hb1 => heap_setRow_ne w _ _ _ (Ne.symm (hI b1 hb1)))
        · exact h.elim
      · exact h.elim
    · exact h.elim
  · exact h.elim
end
end Go.Eng
