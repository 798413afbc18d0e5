/- Part of a proof about the given program: contracts of its functions (see the comment of the last text). -/
import Derived.Test.YthgjjhddbigfcaaWfW
import Derived.Test.YthgjjhddbigfcaaPl5
namespace Go.Proofs.Ythgjjhddbigfcaa
open Go.Eng Go.Proofs Go.Wf
set_option linter.unusedSimpArgs false
set_option linter.unusedVariables false
attribute [local irreducible] AOps AOpsX AOps2 AOpsS AWP AAnyS Go.Eng.Pure PureRow Eff
theorem lenC3 (l : List Cl) : (l.flatMap avC).length = l.length * 3 := by
  induction l with
  | nil => rfl
  | cons p ps ih => rw [List.flatMap_cons, List.length_append, ih]; simp [avC]; omega
theorem getC3 : ∀ (l : List Cl) (e j : Nat), e < l.length → j < 3 → (l.flatMap avC).getD (e * 3 + j) .top = (avC (l.getD e default)).getD j .top
  | [], e, j, h, _ => by simp at h
  | p :: ps, 0, j, _, hj => by
    rw [List.flatMap_cons]
    simp only [List.getD_eq_getElem?_getD, List.getD_cons_zero, Nat.zero_mul, Nat.zero_add]
    rw [List.getElem?_append_left (by simp [avC]; omega)]
    rfl
  | p :: ps, e + 1, j, h, hj => by
    have := getC3 ps e j (by simpa using h) hj
    rw [List.flatMap_cons, List.getD_cons_succ, ← this]
    simp only [List.getD_eq_getElem?_getD]
    rw [List.getElem?_append_right (by simp [avC]; omega)]
    simp only [avC, List.length_cons, List.length_nil]
    congr 2
    omega
theorem pubC3 (l : List Cl) (fl : Bool) (H : List (Nat × Blk)) (n : Nat) (j : Nat) : AV.pub fl H (n + 1) ((l.flatMap avC).getD j .top) = (l.flatMap avC).getD j .top := by
  induction l generalizing j with
  | nil => rfl
  | cons p ps ih =>
    rw [List.flatMap_cons]
    match j with
    | 0 => rfl
    | 1 => rfl
    | 2 => rfl
    | j + 3 => exact ih j
@[simp] theorem fresh_gr (g : Gr) : AV.freshL (avGF g) := by
  unfold avGF
  refine ⟨?_, ?_, trivial⟩
  · simp [AV.fresh]
  · refine ⟨rfl, fun e j => ?_⟩
    refine freshL_getD (cs := [intsF (g.fr.getD e default)]) ⟨?_, trivial⟩ j
    simp [AV.fresh]
end Go.Proofs.Ythgjjhddbigfcaa
