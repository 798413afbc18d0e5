/- Part of a proof about the given program: contracts of its functions (see the comment of the last text). -/
import Derived.Test.YtflclkbkgcfliaaZoI
namespace Go.Proofs.Ytflclkbkgcfliaa
open Go.Eng Go.Proofs Go.Zo
set_option linter.unusedSimpArgs false
set_option linter.unusedVariables false
attribute [local irreducible] AOps AOpsX AOps2 AOpsS AWP AAnyS Go.Eng.Pure PureRow

/-- A window. -/
structure Sp where
  f : Int
  g : Int
  deriving Inhabited
def avW2 (s : Sp) : List AV := [I64 s.f, I64 s.g]
attribute [push_cast] avW2
def okW (s : Sp) : Prop := In64 s.f ∧ In64 s.g
theorem readsW : Reads Try.prog 26 avW2 okW :=
  (reads_struct Try.underlying26 rfl (by kernel_rfl) (readsF_cons (k := 1) (by kernel_rfl) (reads_int Try.underlying3) (readsF_cons (k := 1) (by kernel_rfl) (reads_int Try.underlying3) readsF_nil))).map (fun a => ⟨a.1, a.2.1⟩) (fun _ => rfl) (fun a h => ⟨wf64 h.1, wf64 h.2.1⟩)
theorem win_all (z : Zn) {a b : Int} (hab : a ≤ b) : win z a b 0 1440 = b - a := by
  unfold win
  rw [sumI_const 1 hab fun t _ _ => ?_]
  · omega
  · unfold b1 inW
    rw [if_neg (show ¬ (1440 : Int) < 0 by omega), decide_eq_true (p := 0 ≤ loc z t % 1440) (by omega), decide_eq_true (p := loc z t % 1440 < 1440) (by omega)]; rfl
theorem win_split (z : Zn) {a m b : Int} (f g : Int) (h1 : a ≤ m) (h2 : m ≤ b) : win z a b f g = win z a m f g + win z m b f g := sumI_split _ h1 h2
theorem win_both (z : Zn) {a b : Int} (hab : a ≤ b) {f g : Int} (hne : f ≠ g) : win z a b f g + win z a b g f = b - a := by
  unfold win
  rw [← sumI_plus, sumI_const 1 hab fun t _ _ => ?_]
  · omega
  · unfold b1 inW
    by_cases h : g < f
    · rw [if_pos h, if_neg (show ¬ f < g by omega)]
      by_cases h1 : f ≤ loc z t % 1440 <;> by_cases h2 : loc z t % 1440 < g <;> simp [h1, h2] <;> omega
    · rw [if_neg h, if_pos (show f < g by omega)]
      by_cases h1 : f ≤ loc z t % 1440 <;> by_cases h2 : loc z t % 1440 < g <;> simp [h1, h2] <;> omega
theorem winF_good {z : Zn} {a b f g : Int} (h : (winF z a b f g).2 = 0) : chkF z a b = true ∧ ((0 ≤ f ∧ f ≤ 1440) ∧ 0 ≤ g) ∧ g ≤ 1440 ∧ b - a ≤ 44640 ∧ winF z a b f g = (win z a b f g, 0) := by
  unfold winF at h ⊢
  by_cases h1 : chkF z a b = true ∧ ((0 ≤ f ∧ f ≤ 1440) ∧ 0 ≤ g) ∧ g ≤ 1440
  · rw [if_pos h1] at h ⊢
    by_cases h2 : 44640 < b - a
    · rw [if_pos h2] at h; exact absurd h (by decide)
    · rw [if_neg h2]; exact ⟨h1.1, h1.2.1, h1.2.2, by omega, rfl⟩
  · rw [if_neg h1] at h; exact absurd h (by decide)
theorem winF_ok {z : Zn} {a b f g : Int} (h1 : chkF z a b = true) (h2 : ((0 ≤ f ∧ f ≤ 1440) ∧ 0 ≤ g) ∧ g ≤ 1440) (h3 : b - a ≤ 44640) : winF z a b f g = (win z a b f g, 0) := by
  unfold winF; rw [if_pos ⟨h1, h2⟩, if_neg (by omega)]
theorem chkF_mk {z : Zn} {a b : Int} (h1 : validZ z = true) (h2 : 0 ≤ a) (h3 : a ≤ b) (h4 : b ≤ 52596000) : chkF z a b = true := by
  unfold chkF; rw [h1, decide_eq_true h2, decide_eq_true h3, decide_eq_true h4]; rfl
end Go.Proofs.Ytflclkbkgcfliaa
