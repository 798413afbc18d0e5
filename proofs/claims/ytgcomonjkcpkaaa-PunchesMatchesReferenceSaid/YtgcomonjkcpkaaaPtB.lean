/- Part of a proof about the given program: contracts of its functions (see the comment of the last text). -/
import Derived.Test.YtgcomonjkcpkaaaPtU
import Derived.Test.YtgcomonjkcpkaaaPuK

namespace Go.Proofs.Ytgcomonjkcpkaaa
open Go.Eng Go.Proofs
set_option linter.unusedSimpArgs false
set_option linter.unusedVariables false
attribute [local irreducible] AOps AOpsX AOps2 AOpsF AAny AWP zTab zFound zRow

/-- What the reference refuses at a match. -/
def badM (mks : List Mk) (P : Nat) (i k : Nat) (m : Mt) : Prop :=
  (((m.d < 0 ∧ m.p < 0) ∨ m.d < -1) ∨ m.p < -1) ∨ (m.d = -1 ∧ m.i = true)
def badN (mks : List Mk) (P : Nat) (i k : Nat) (m : Mt) : Prop :=
  (0 ≤ m.d ∧ ((mks.length ≤ i ∨ m.d ≠ (mks.getD i default).d) ∨ m.i ≠ (mks.getD i default).i)) ∨ (0 ≤ m.p ∧ m.p ≠ k)
theorem al_bad1 {mks : List Mk} {P i k : Nat} {m : Mt} {r : List Mt} (hd : ∀ i, i < mks.length → 0 ≤ (mks.getD i default).d) (h : badM mks P i k m) : alI mks P i k (m :: r) = false := by
  rw [alI]
  unfold badM at h
  by_cases c1 : m.d = -1
  · rw [if_pos c1]
    by_cases c2 : m.i = true ∨ m.p = -1
    · rw [if_pos c2]
    · rw [if_neg c2, if_pos]
      rcases h with ((⟨_, h⟩ | h) | h) | ⟨_, h⟩
      · exact .inr (by omega)
      · omega
      · exact .inr (by omega)
      · exact absurd (.inl h) c2
  · rw [if_neg c1]
    by_cases c2 : mks.length ≤ i ∨ m.d ≠ (mks.getD i default).d ∨ m.i ≠ (mks.getD i default).i
    · rw [if_pos c2]
    · rw [if_neg c2]
      have c3 : i < mks.length := by
        rcases Nat.lt_or_ge i mks.length with h | h
        · exact h
        · exact absurd (.inl h) c2
      have c4 : m.d = (mks.getD i default).d := by
        by_cases e : m.d = (mks.getD i default).d
        · exact e
        · exact absurd (.inr (.inl e)) c2
      have := hd i c3
      rw [if_neg (show ¬ m.p = -1 by omega), if_pos (.inr (by omega))]
theorem al_bad2 {mks : List Mk} {P i k : Nat} {m : Mt} {r : List Mt} (hd : ∀ i, i < mks.length → 0 ≤ (mks.getD i default).d) (h0 : ¬ badM mks P i k m) (h : badN mks P i k m ∨ (0 ≤ m.p ∧ P ≤ k)) : alI mks P i k (m :: r) = false := by
  rw [alI]
  unfold badM at h0
  unfold badN at h
  by_cases c1 : m.d = -1
  · rw [if_pos c1]
    by_cases c2 : m.i = true ∨ m.p = -1
    · rw [if_pos c2]
    · rw [if_neg c2, if_pos]
      rcases h with (⟨h, _⟩ | ⟨_, h⟩) | ⟨_, h⟩
      · omega
      · exact .inr h
      · exact .inl h
  · rw [if_neg c1]
    by_cases c2 : mks.length ≤ i ∨ m.d ≠ (mks.getD i default).d ∨ m.i ≠ (mks.getD i default).i
    · rw [if_pos c2]
    · rw [if_neg c2]
      have h' : (0 ≤ m.p ∧ m.p ≠ k) ∨ (0 ≤ m.p ∧ P ≤ k) := by
        rcases h with (⟨_, (h | h) | h⟩ | h) | h
        · exact absurd (.inl h) c2
        · exact absurd (.inr (.inl h)) c2
        · exact absurd (.inr (.inr h)) c2
        · exact .inl h
        · exact .inr h
      rw [if_neg (show ¬ m.p = -1 by omega), if_pos (by rcases h' with h | h; exact .inr h.2; exact .inl h.2)]
theorem al_go {mks : List Mk} {P i k : Nat} {m : Mt} {r : List Mt} (h0 : ¬ badM mks P i k m) (h1 : ¬ badN mks P i k m) (h2 : ¬ (0 ≤ m.p ∧ P ≤ k)) : alI mks P i k (m :: r) = alI mks P (if 0 ≤ m.d then i + 1 else i) (if 0 ≤ m.p then k + 1 else k) r := by
  rw [alI]
  unfold badM at h0
  unfold badN at h1
  by_cases c1 : m.d = -1
  · rw [if_pos c1, if_neg (show ¬ 0 ≤ m.d by omega)]
    have c2 : ¬ (m.i = true ∨ m.p = -1) := by
      rintro (h | h)
      · exact h0 (.inr ⟨c1, h⟩)
      · exact h0 (.inl (.inl (.inl ⟨by omega, by omega⟩)))
    have c3 : 0 ≤ m.p := by
      apply Classical.byContradiction; intro hn; exact h0 (.inl (.inl (.inl ⟨by omega, by omega⟩)))
    rw [if_neg c2, if_pos c3, if_neg]
    rintro (h | h)
    · exact h2 ⟨c3, h⟩
    · exact h1 (.inr ⟨c3, h⟩)
  · have cd : 0 ≤ m.d := by
      apply Classical.byContradiction; intro hn; exact h0 (.inl (.inl (.inr (by omega))))
    rw [if_neg c1, if_pos cd, if_neg]
    · by_cases c3 : m.p = -1
      · rw [if_pos c3, if_neg (show ¬ 0 ≤ m.p by omega)]
      · have c4 : 0 ≤ m.p := by
          apply Classical.byContradiction; intro hn; exact h0 (.inl (.inr (by omega)))
        rw [if_neg c3, if_pos c4, if_neg]
        rintro (h | h)
        · exact h2 ⟨c4, h⟩
        · exact h1 (.inr ⟨c4, h⟩)
    · rintro (h | h | h)
      · exact h1 (.inl ⟨cd, .inl (.inl h)⟩)
      · exact h1 (.inl ⟨cd, .inl (.inr h)⟩)
      · exact h1 (.inl ⟨cd, .inr h⟩)
end Go.Proofs.Ytgcomonjkcpkaaa
