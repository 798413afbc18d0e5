/- Part of a proof about the given program: contracts of its functions (see the comment of the last text). -/
import Derived.Test.YtejafnamkalhiaaTxP
namespace Go.Proofs.Ytejafnamkalhiaa
open Go.Eng Go.Proofs
set_option linter.unusedSimpArgs false
set_option linter.unusedVariables false
attribute [local irreducible] AOps AOpsX AOps2 AWP

/-- What bestI is. -/
def IsBest (bs : List Br) (y : Int) (n m : Nat) : Prop :=
  m < n ∧ (bs.getD m default).year ≤ y ∧ (∀ i, i < n → (bs.getD i default).year ≤ y → (bs.getD i default).year ≤ (bs.getD m default).year) ∧ (∀ i, m < i → i < n → (bs.getD i default).year ≤ y → (bs.getD i default).year < (bs.getD m default).year)
theorem best_spec (bs : List Br) (y : Int) : ∀ n, (bestI bs y n < 0 → ∀ i, i < n → y < (bs.getD i default).year) ∧ (∀ m : Nat, bestI bs y n = m → IsBest bs y n m)
  | 0 => ⟨fun _ i hi => by omega, fun m hm' => by simp only [bestI] at hm'; omega⟩
  | k + 1 => by
    obtain ⟨s1, s2⟩ := best_spec bs y k
    have hl := bestI_lt bs y k
    by_cases hc : (bs.getD k default).year ≤ y ∧ (bestI bs y k < 0 ∨ (bs.getD (bestI bs y k).toNat default).year ≤ (bs.getD k default).year)
    · have e : bestI bs y (k + 1) = k := by rw [bestI, if_pos hc]
      refine ⟨fun h => by omega, fun m hm' => ?_⟩
      obtain rfl : m = k := by omega
      refine ⟨by omega, hc.1, fun i hi hy => ?_, fun i h1 h2 => by omega⟩
      rcases hc.2 with h | h
      · rcases Nat.lt_or_ge i m with h' | h'
        · have := s1 h i h'; omega
        · obtain rfl : i = m := by omega
          omega
      · rcases Nat.lt_or_ge i m with h' | h'
        · by_cases h0 : bestI bs y m < 0
          · have := s1 h0 i h'; omega
          · have := s2 (bestI bs y m).toNat (by omega)
            have := this.2.2.1 i h' hy
            omega
        · obtain rfl : i = m := by omega
          omega
    · have e : bestI bs y (k + 1) = bestI bs y k := by rw [bestI, if_neg hc]
      rw [e]
      refine ⟨fun h i hi => ?_, fun m hm' => ?_⟩
      · rcases Nat.lt_or_ge i k with h' | h'
        · exact s1 h i h'
        · obtain rfl : i = k := by omega
          apply Classical.byContradiction
          intro hn
          exact hc ⟨by omega, .inl h⟩
      · obtain ⟨a1, a2, a3, a4⟩ := s2 m hm'
        have hk : (bs.getD k default).year ≤ y → (bs.getD k default).year < (bs.getD m default).year := fun hy => by
          apply Classical.byContradiction
          intro hn
          exact hc ⟨hy, .inr (by rw [hm', Int.toNat_natCast]; omega)⟩
        refine ⟨by omega, a2, fun i hi hy => ?_, fun i h1 h2 hy => ?_⟩
        · rcases Nat.lt_or_ge i k with h' | h'
          · exact a3 i h' hy
          · obtain rfl : i = k := by omega
            have := hk hy; omega
        · rcases Nat.lt_or_ge i k with h' | h'
          · exact a4 i h1 h' hy
          · obtain rfl : i = k := by omega
            exact hk hy
theorem best_of {bs : List Br} {y : Int} {n m : Nat} (h : IsBest bs y n m) : bestI bs y n = m := by
  obtain ⟨a1, a2, a3, a4⟩ := h
  have hl := bestI_lt bs y n
  by_cases h0 : bestI bs y n < 0
  · have := (best_spec bs y n).1 h0 m a1; omega
  · obtain ⟨b1, b2, b3, b4⟩ := (best_spec bs y n).2 (bestI bs y n).toNat (by omega)
    generalize hq : (bestI bs y n).toNat = q at *
    have e1 := a3 q b1 b2
    have e2 := b3 m a1 a2
    have : q = m := by
      rcases Nat.lt_trichotomy q m with h | h | h
      · have := b4 m h a1 a2; omega
      · exact h
      · have := a4 q h b1 b2; omega
    omega
theorem best_back {bs : List Br} {y y' : Int} {n m : Nat} (h : IsBest bs y n m) (h1 : (bs.getD m default).year ≤ y') (h2 : y' ≤ y) : IsBest bs y' n m :=
  ⟨h.1, h1, fun i hi hy => h.2.2.1 i hi (by omega), fun i hi hn hy => h.2.2.2 i hi hn (by omega)⟩
def early (bs : List Br) (y : Int) (k : Nat) : List Br := (bs.take k).filter fun c => decide (c.year ≤ y)
theorem early_succ {bs : List Br} {y : Int} {k : Nat} (h : k < bs.length) : early bs y (k + 1) = if (bs.getD k default).year ≤ y then early bs y k ++ [bs.getD k default] else early bs y k := by
  unfold early
  rw [List.take_add_one, List.filter_append]
  have e : bs[k]?.toList = [bs.getD k default] := by simp [List.getD_eq_getElem?_getD, h]
  rw [e]
  by_cases hy : (bs.getD k default).year ≤ y
  · rw [if_pos hy, List.filter_cons_of_pos (by simpa using hy)]; simp
  · rw [if_neg hy, List.filter_cons_of_neg (by simpa using hy)]; simp
theorem early_len (bs : List Br) (y : Int) (k : Nat) : (early bs y k).length ≤ k := Nat.le_trans (List.length_filter_le _ _) (by rw [List.length_take]; omega)
theorem early_all (bs : List Br) (y : Int) (k i : Nat) (h : i < (early bs y k).length) : ((early bs y k).getD i default).year ≤ y := by
  have : (early bs y k).getD i default ∈ early bs y k := by simp only [List.getD_eq_getElem?_getD, List.getElem?_eq_getElem h, Option.getD_some]; exact List.getElem_mem h
  have := (List.mem_filter.1 this).2
  simpa using this
theorem early_mem (bs : List Br) (y : Int) (k i : Nat) (h : i < (early bs y k).length) : (early bs y k).getD i default ∈ bs := by
  have : (early bs y k).getD i default ∈ early bs y k := by simp only [List.getD_eq_getElem?_getD, List.getElem?_eq_getElem h, Option.getD_some]; exact List.getElem_mem h
  exact List.mem_of_mem_take (List.mem_filter.1 this).1
theorem best_early (bs : List Br) (y : Int) : ∀ k, k ≤ bs.length → (bestI bs y k < 0 → early bs y k = []) ∧ (∀ m : Nat, bestI bs y k = m → ∃ q : Nat, IsBest (early bs y k) y (early bs y k).length q ∧ (early bs y k).getD q default = bs.getD m default)
  | 0, _ => ⟨fun _ => rfl, fun m h => by simp only [bestI] at h; omega⟩
  | k + 1, hk => by
    obtain ⟨s1, s2⟩ := best_early bs y k (by omega)
    have hl := bestI_lt bs y k
    rw [early_succ (by omega)]
    by_cases hy : (bs.getD k default).year ≤ y
    · rw [if_pos hy]
      have ga : ∀ i, i < (early bs y k).length → (early bs y k ++ [bs.getD k default]).getD i default = (early bs y k).getD i default := fun i hi => by
        simp only [List.getD_eq_getElem?_getD]; rw [List.getElem?_append_left hi]
      have gl : (early bs y k ++ [bs.getD k default]).getD (early bs y k).length default = bs.getD k default := by
        simp [List.getD_eq_getElem?_getD]
      by_cases hc : bestI bs y k < 0 ∨ (bs.getD (bestI bs y k).toNat default).year ≤ (bs.getD k default).year
      · have e : bestI bs y (k + 1) = k := by rw [bestI, if_pos ⟨hy, hc⟩]
        refine ⟨fun h => by omega, fun m hm' => ⟨(early bs y k).length, ?_, ?_⟩⟩
        · refine ⟨by simp, by rw [gl]; exact hy, fun i hi hiy => ?_, fun i h1 h2 => by simp at h2; omega⟩
          rw [gl]
          rcases Nat.lt_or_ge i (early bs y k).length with h' | h'
          · rw [ga i h']
            rcases hc with h | h
            · rw [s1 h] at h'; simp at h'
            · by_cases h0 : bestI bs y k < 0
              · rw [s1 h0] at h'; simp at h'
              · obtain ⟨q, hq, hqe⟩ := s2 (bestI bs y k).toNat (by omega)
                have := hq.2.2.1 i h' (early_all _ _ _ _ h')
                rw [hqe] at this; omega
          · obtain rfl : i = (early bs y k).length := by simp at hi; omega
            rw [gl]; omega
        · rw [gl]
          obtain rfl : m = k := by omega
          rfl
      · have e : bestI bs y (k + 1) = bestI bs y k := by rw [bestI, if_neg fun h => hc h.2]
        rw [e]
        have h0 : ¬ bestI bs y k < 0 := fun h => hc (.inl h)
        have h1 : ¬ (bs.getD (bestI bs y k).toNat default).year ≤ (bs.getD k default).year := fun h => hc (.inr h)
        refine ⟨fun h => absurd h h0, fun m hm' => ?_⟩
        obtain ⟨q, hq, hqe⟩ := s2 m hm'
        rw [hm', Int.toNat_natCast] at h1
        refine ⟨q, ⟨?_, ?_, fun i hi hiy => ?_, fun i g1 g2 hiy => ?_⟩, by rw [ga q hq.1]; exact hqe⟩
        · simp; have := hq.1; omega
        · rw [ga q hq.1]; exact hq.2.1
        · rw [ga q hq.1, hqe]
          rcases Nat.lt_or_ge i (early bs y k).length with h' | h'
          · rw [ga i h']; have := hq.2.2.1 i h' (early_all _ _ _ _ h'); rw [hqe] at this; exact this
          · obtain rfl : i = (early bs y k).length := by simp at hi; omega
            rw [gl]; omega
        · rw [ga q hq.1, hqe]
          rcases Nat.lt_or_ge i (early bs y k).length with h' | h'
          · rw [ga i h']; have := hq.2.2.2 i g1 h' (early_all _ _ _ _ h'); rw [hqe] at this; exact this
          · obtain rfl : i = (early bs y k).length := by simp at g2; omega
            rw [gl]; omega
    · rw [if_neg hy]
      have e : bestI bs y (k + 1) = bestI bs y k := by rw [bestI, if_neg fun h => hy h.1]
      rw [e]
      exact ⟨s1, s2⟩
end Go.Proofs.Ytejafnamkalhiaa
