/- The least cost of an alignment: the plain laws. -/
import Derived.Test.YtgcomonjkcpkaaaPuE
namespace Go.Proofs.Ytgcomonjkcpkaaa
open Go.Eng Go.Proofs

/-- One row of the table. -/
def Drow (m : Mk) (rest : List Pn → Int) (cnt : Nat) : List Pn → Int
  | [] => 120 * cnt
  | p :: ps => min (120 + min (rest (p :: ps)) (Drow m rest cnt ps)) (costF m p + rest ps)
/-- The least cost of marks and punches. -/
def D : List Mk → List Pn → Int
  | [], ps => 120 * ps.length
  | m :: ms, ps => Drow m (D ms) (ms.length + 1) ps
theorem D_nil (ps : List Pn) : D [] ps = 120 * ps.length := rfl
theorem D_emp (ms : List Mk) : D ms [] = 120 * ms.length := by
  cases ms with
  | nil => rfl
  | cons m ms => simp [D, Drow]
theorem D_cons (m : Mk) (ms : List Mk) (p : Pn) (ps : List Pn) : D (m :: ms) (p :: ps) = min (120 + min (D ms (p :: ps)) (D (m :: ms) ps)) (costF m p + D ms ps) := rfl
theorem cost_nonneg (m : Mk) (p : Pn) : 0 ≤ costF m p := by unfold costF; split <;> omega
theorem D_bounds : ∀ (ms : List Mk) (ps : List Pn), 0 ≤ D ms ps ∧ D ms ps ≤ 120 * (ms.length + ps.length)
  | [], ps => by rw [D_nil]; simp; omega
  | m :: ms, [] => by rw [D_emp]; simp; omega
  | m :: ms, p :: ps => by
    have h1 := D_bounds ms (p :: ps)
    have h2 := D_bounds (m :: ms) ps
    have h3 := D_bounds ms ps
    have h4 := cost_nonneg m p
    rw [D_cons]
    simp only [List.length_cons] at *
    omega
termination_by ms ps => ms.length + ps.length
/-- A mark left out; a punch left out. -/
theorem D_mark (m : Mk) (ms : List Mk) (ps : List Pn) : D (m :: ms) ps ≤ 120 + D ms ps := by
  cases ps with
  | nil => rw [D_emp, D_emp]; simp; omega
  | cons p ps => rw [D_cons]; omega
theorem D_punch (ms : List Mk) (p : Pn) (ps : List Pn) : D ms (p :: ps) ≤ 120 + D ms ps := by
  cases ms with
  | nil => rw [D_nil, D_nil]; simp; omega
  | cons m ms => rw [D_cons]; omega
theorem D_unmark (m : Mk) : ∀ (ms : List Mk) (ps : List Pn), D ms ps ≤ 120 + D (m :: ms) ps
  | ms, [] => by rw [D_emp, D_emp]; simp; omega
  | ms, p :: ps => by
    have h1 := D_unmark m ms ps
    have h2 := D_punch ms p ps
    have h3 := cost_nonneg m p
    rw [D_cons]; omega
theorem D_unpunch (p : Pn) : ∀ (ms : List Mk) (ps : List Pn), D ms ps ≤ 120 + D ms (p :: ps)
  | [], ps => by rw [D_nil, D_nil]; simp; omega
  | m :: ms, ps => by
    have h1 := D_unpunch p ms ps
    have h2 := D_mark m ms ps
    have h3 := cost_nonneg m p
    rw [D_cons]; omega
/-- One punch more, anywhere. -/
theorem D_lost (p : Pn) : ∀ (l1 l2 : List Pn) (ms : List Mk), D ms (l1 ++ p :: l2) ≤ 120 + D ms (l1 ++ l2) ∧ D ms (l1 ++ l2) ≤ 120 + D ms (l1 ++ p :: l2)
  | [], l2, ms => ⟨D_punch ms p l2, D_unpunch p ms l2⟩
  | q :: l1, l2, [] => by simp only [D_nil, List.length_append, List.length_cons]; omega
  | q :: l1, l2, m :: ms => by
    have h1 := D_lost p (q :: l1) l2 ms
    have h2 := D_lost p l1 l2 (m :: ms)
    have h3 := D_lost p l1 l2 ms
    simp only [List.cons_append, D_cons] at *
    omega
termination_by l1 _ ms => l1.length + ms.length
theorem cost_move (m : Mk) (p p' : Pn) (h : p.i = p'.i) : costF m p ≤ max (p.a - p'.a) (p'.a - p.a) + costF m p' := by
  unfold costF; rw [h]; split <;> omega
/-- One punch moved. -/
theorem D_moved (p p' : Pn) (h : p.i = p'.i) (l2 : List Pn) : ∀ (l1 : List Pn) (ms : List Mk), D ms (l1 ++ p :: l2) ≤ max (p.a - p'.a) (p'.a - p.a) + D ms (l1 ++ p' :: l2)
  | l1, [] => by simp only [D_nil, List.length_append, List.length_cons]; omega
  | [], m :: ms => by
    have h1 := D_moved p p' h l2 [] ms
    have h4 := cost_move m p p' h
    simp only [List.nil_append, D_cons] at *
    omega
  | q :: l1, m :: ms => by
    have h1 := D_moved p p' h l2 (q :: l1) ms
    have h2 := D_moved p p' h l2 l1 (m :: ms)
    have h3 := D_moved p p' h l2 l1 ms
    simp only [List.cons_append, D_cons] at *
    omega
termination_by l1 ms => l1.length + ms.length
/-- The cost sees of a mark its direction and its instant. -/
theorem D_congr : ∀ {ms ms' : List Mk} {ps ps' : List Pn}, ms.length = ms'.length → ps.length = ps'.length → (∀ i k, i < ms.length → k < ps.length → costF (ms.getD i default) (ps.getD k default) = costF (ms'.getD i default) (ps'.getD k default)) → D ms ps = D ms' ps'
  | [], [], ps, ps', _, h2, _ => by rw [D_nil, D_nil, h2]
  | m :: ms, m' :: ms', [], [], h1, _, _ => by rw [D_emp, D_emp, h1]
  | m :: ms, m' :: ms', p :: ps, p' :: ps', h1, h2, h => by
    have e1 := D_congr (ms := ms) (ms' := ms') (ps := p :: ps) (ps' := p' :: ps') (by simpa using h1) h2 (fun i k hi hk => by have := h (i + 1) k (by simpa using hi) hk; simpa using this)
    have e2 := D_congr (ms := m :: ms) (ms' := m' :: ms') (ps := ps) (ps' := ps') h1 (by simpa using h2) (fun i k hi hk => by have := h i (k + 1) hi (by simpa using hk); simpa using this)
    have e3 := D_congr (ms := ms) (ms' := ms') (ps := ps) (ps' := ps') (by simpa using h1) (by simpa using h2) (fun i k hi hk => by have := h (i + 1) (k + 1) (by simpa using hi) (by simpa using hk); simpa using this)
    have e4 : costF m p = costF m' p' := by have := h 0 0 (by simp) (by simp); simpa using this
    rw [D_cons, D_cons, e1, e2, e3, e4]
termination_by ms _ ps _ => ms.length + ps.length
/-- The table at two indices. -/
theorem D_drop {ms : List Mk} {ps : List Pn} {i k : Nat} (hi : i < ms.length) (hk : k < ps.length) : D (ms.drop i) (ps.drop k) = min (120 + min (D (ms.drop (i + 1)) (ps.drop k)) (D (ms.drop i) (ps.drop (k + 1)))) (costF (ms.getD i default) (ps.getD k default) + D (ms.drop (i + 1)) (ps.drop (k + 1))) := by
  have e1 : ms.drop i = ms.getD i default :: ms.drop (i + 1) := by rw [List.drop_eq_getElem_cons hi]; simp [List.getD_eq_getElem?_getD, hi]
  have e2 : ps.drop k = ps.getD k default :: ps.drop (k + 1) := by rw [List.drop_eq_getElem_cons hk]; simp [List.getD_eq_getElem?_getD, hk]
  rw [e1, e2, D_cons]
end Go.Proofs.Ytgcomonjkcpkaaa
