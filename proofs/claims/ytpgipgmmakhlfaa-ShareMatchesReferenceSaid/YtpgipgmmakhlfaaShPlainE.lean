/- Plain laws: a division that a list of numbers determines. -/
import Derived.Test.YtpgipgmmakhlfaaShPlainD
namespace Go.Proofs.Share
set_option linter.unusedVariables false
set_option linter.unusedSimpArgs false
theorem sumL_setx (d : List Int) (k : Nat) (x : Int) (hk : k < d.length) : sumL (d.set k x) = sumL d - d.getD k 0 + x := by
  have := sumL_set d k (x - d.getD k 0) hk
  rw [show d.getD k 0 + (x - d.getD k 0) = x by omega] at this
  omega
theorem sumL_zeros (n : Nat) : sumL (List.replicate n 0) = 0 := by
  induction n with
  | zero => rfl
  | succ n ih => rw [List.replicate_succ]; simp only [sumL]; omega
theorem zeros_get (n i : Nat) : (List.replicate n (0 : Int)).getD i 0 = 0 := by
  simp only [List.getD_eq_getElem?_getD, List.getElem?_replicate]; split <;> rfl

/-- Between the claims, with so much left of so much. -/
structure Mid (l : List Int) (all : Int) (d : List Int) (r : Int) : Prop where
  len : d.length = l.length
  lo : ∀ i, i < l.length → 0 ≤ d.getD i 0
  hi : ∀ i, i < l.length → d.getD i 0 ≤ l.getD i 0
  sum : sumL d + r = all
  left : 0 ≤ r

def oth1 (f : Int → Int → Int) (l bys : List Int) (left : Int) : Nat → List Int × Int
  | 0 => (List.replicate l.length 0, left)
  | k + 1 => ((oth1 f l bys left k).1.set k (f (bys.getD k 0) (min (l.getD k 0) (oth1 f l bys left k).2 + 1)), (oth1 f l bys left k).2 - f (bys.getD k 0) (min (l.getD k 0) (oth1 f l bys left k).2 + 1))
def oth2 (l d0 : List Int) (r0 : Int) : Nat → List Int × Int
  | 0 => (d0, r0)
  | k + 1 => ((oth2 l d0 r0 k).1.set k ((oth2 l d0 r0 k).1.getD k 0 + min (l.getD k 0 - (oth2 l d0 r0 k).1.getD k 0) (oth2 l d0 r0 k).2), (oth2 l d0 r0 k).2 - min (l.getD k 0 - (oth2 l d0 r0 k).1.getD k 0) (oth2 l d0 r0 k).2)

theorem Mid.set {l : List Int} {all : Int} {d : List Int} {r : Int} (h : Mid l all d r) {k : Nat} (hk : k < l.length) {x : Int} (h0 : 0 ≤ x) (h1 : x ≤ l.getD k 0) (h2 : x - d.getD k 0 ≤ r) : Mid l all (d.set k x) (r - (x - d.getD k 0)) := by
  have e := h.len
  have hs := h.sum
  refine ⟨by simp [e], fun i hi => ?_, fun i hi => ?_, ?_, by omega⟩
  · rw [getD_set d k x i (by omega)]; split
    · exact h0
    · exact h.lo i hi
  · rw [getD_set d k x i (by omega)]; split
    · subst_vars; exact h1
    · exact h.hi i hi
  · rw [sumL_setx d k x (by omega)]; omega

theorem oth1_mid (f : Int → Int → Int) (hf : ∀ c n, 0 < n → 0 ≤ f c n ∧ f c n < n) (l bys : List Int) (left : Int) (hl : ∀ c ∈ l, 0 ≤ c) (h0 : 0 ≤ left) : ∀ k, k ≤ l.length → Mid l left (oth1 f l bys left k).1 (oth1 f l bys left k).2 ∧ ∀ i, k ≤ i → (oth1 f l bys left k).1.getD i 0 = 0
  | 0, _ => ⟨⟨by simp [oth1], fun i hi => by simp only [oth1]; rw [zeros_get]; omega, fun i hi => by
      simp only [oth1]; rw [zeros_get]; exact hl _ (by simp [List.getD_eq_getElem?_getD, hi]), by simp only [oth1]; rw [sumL_zeros]; omega, h0⟩, fun i _ => by simp only [oth1]; rw [zeros_get]⟩
  | k + 1, hk => by
    obtain ⟨ih, iz⟩ := oth1_mid f hf l bys left hl h0 k (by omega)
    have hlk : 0 ≤ l.getD k 0 := hl _ (by simp [List.getD_eq_getElem?_getD, show k < l.length by omega])
    have hr := ih.left
    have hx := hf (bys.getD k 0) (min (l.getD k 0) (oth1 f l bys left k).2 + 1) (by omega)
    have hz := iz k (Nat.le_refl _)
    have := ih.set (k := k) (by omega) hx.1 (by omega) (by omega)
    rw [hz] at this
    simp only [Int.sub_zero] at this
    refine ⟨this, fun i hi => ?_⟩
    simp only [oth1]
    rw [getD_set _ _ _ _ (by rw [ih.len]; omega), if_neg (by omega)]
    exact iz i (by omega)

theorem oth2_mid (l d0 : List Int) (all r0 : Int) (h : Mid l all d0 r0) : ∀ k, k ≤ l.length → Mid l all (oth2 l d0 r0 k).1 (oth2 l d0 r0 k).2 ∧ ((oth2 l d0 r0 k).2 = 0 ∨ ∀ i, i < k → (oth2 l d0 r0 k).1.getD i 0 = l.getD i 0)
  | 0, _ => ⟨h, .inr fun i hi => by omega⟩
  | k + 1, hk => by
    obtain ⟨ih, iz⟩ := oth2_mid l d0 all r0 h k (by omega)
    have h1 := ih.lo k (by omega)
    have h2 := ih.hi k (by omega)
    have hr := ih.left
    generalize hm : min (l.getD k 0 - (oth2 l d0 r0 k).1.getD k 0) (oth2 l d0 r0 k).2 = m
    have := ih.set (k := k) (by omega) (x := (oth2 l d0 r0 k).1.getD k 0 + m) (by omega) (by omega) (by omega)
    rw [show (oth2 l d0 r0 k).1.getD k 0 + m - (oth2 l d0 r0 k).1.getD k 0 = m by omega] at this
    simp only [oth2]
    rw [hm]
    refine ⟨this, ?_⟩
    rcases iz with iz | iz
    · left; omega
    · by_cases e : m = (oth2 l d0 r0 k).2
      · left; omega
      · right
        intro i hi
        rw [getD_set _ _ _ _ (by rw [ih.len]; omega)]
        split
        · subst_vars; omega
        · exact iz i (by omega)

theorem oth2_end (l d0 : List Int) (t r0 : Int) (h : Mid l (min t (sumL l)) d0 r0) : sumL (oth2 l d0 r0 l.length).1 = min t (sumL l) := by
  obtain ⟨h1, h2⟩ := oth2_mid l d0 _ r0 h l.length (Nat.le_refl _)
  have hs := h1.sum
  have hr := h1.left
  rcases h2 with h2 | h2
  · omega
  · have : (oth2 l d0 r0 l.length).1 = l := by
      apply List.ext_getElem h1.len
      intro i hi hi'
      have := h2 i hi'
      simpa [List.getD_eq_getElem?_getD, hi, hi'] using this
    rw [this] at hs ⊢
    omega
end Go.Proofs.Share
