/- Part of a proof about the given program: contracts of its functions (see the comment of the last text). -/
import Derived.Test.YtflclkbkgcfliaaZoI
namespace Go.Proofs.Ytflclkbkgcfliaa
open Go.Eng Go.Proofs Go.Zo
set_option linter.unusedSimpArgs false
set_option linter.unusedVariables false
attribute [local irreducible] AOps AOpsX AOps2 AOpsS AWP AAnyS Go.Eng.Pure PureRow

/-- In a stretch shorter than two days the offset turns at most once. -/
theorem off_two {z : Zn} (hv : validZ z = true) {t s x : Int} (h1 : t ≤ x) (h2 : x ≤ s) (hts : s - t < 2880) : off z x = off z t ∨ off z x = off z s := by
  obtain ⟨_, _, h3⟩ := validZ_spec hv
  have key : ∀ k i, k + i = z.cs.length → offL (before z i) (z.cs.drop i) x = offL (before z i) (z.cs.drop i) t ∨ offL (before z i) (z.cs.drop i) x = offL (before z i) (z.cs.drop i) s := fun k => by
    induction k with
    | zero =>
      intro i hi
      obtain rfl : i = z.cs.length := by omega
      rw [off_end, off_end]; exact .inl rfl
    | succ k ih =>
      intro i hi
      have hlt : i < z.cs.length := by omega
      rw [off_at hlt, off_at hlt, off_at hlt]
      by_cases c1 : (z.cs.getD i default).at_ ≤ t
      · rw [if_pos c1, if_pos (by omega), if_pos (by omega)]; exact ih (i + 1) (by omega)
      · rw [if_neg c1]
        by_cases c2 : (z.cs.getD i default).at_ ≤ x
        · rw [if_pos c2, if_pos (by omega)]
          have : ∀ y, y ≤ s → offL (before z (i + 1)) (z.cs.drop (i + 1)) y = before z (i + 1) := fun y hy => by
            by_cases h7 : i + 1 < z.cs.length
            · rw [off_at h7, if_neg]
              obtain ⟨_, h8, _⟩ := okC_spec (h3 (i + 1) h7)
              simp only [Nat.add_sub_cancel] at h8
              have h8' : i + 1 = 0 ∨ 2880 ≤ (z.cs.getD (i + 1) default).at_ - (z.cs.getD i default).at_ := h8
              omega
            · have h9 : i + 1 = z.cs.length := by omega
              rw [h9, off_end]
          rw [this x h2, this s (Int.le_refl _)]; exact .inr rfl
        · rw [if_neg c2]; exact .inl rfl
  exact key z.cs.length 0 (by omega)
theorem locF_good {z : Zn} {t : Int} (h : (locF z t).2.2 = 0) : (validZ z = true ∧ 0 ≤ t ∧ t ≤ 52595999) ∧ (0 ≤ loc z t / 1440 ∧ loc z t / 1440 ≤ 36524) ∧ locF z t = (loc z t / 1440, loc z t % 1440, 0) := by
  unfold locF at h ⊢
  by_cases h1 : (validZ z && decide (0 ≤ t) && decide (t ≤ 52595999)) = true
  · rw [if_pos h1] at h ⊢
    simp only [bh, decide_eq_true_eq] at h1
    by_cases h2 : 0 ≤ loc z t / 1440 ∧ loc z t / 1440 ≤ 36524
    · rw [if_pos h2]; exact ⟨⟨h1.1.1, h1.1.2, h1.2⟩, h2, rfl⟩
    · rw [if_neg h2] at h; exact absurd h (by decide)
  · rw [if_neg h1] at h; exact absurd h (by decide)
theorem locF_in {z : Zn} {t : Int} (hv : validZ z = true) (h1 : 0 ≤ t) (h2 : t ≤ 52595999) : locF z t = if 0 ≤ loc z t / 1440 ∧ loc z t / 1440 ≤ 36524 then (loc z t / 1440, loc z t % 1440, 0) else (0, 0, 21) := by
  unfold locF; rw [if_pos]; rw [hv, decide_eq_true h1, decide_eq_true h2]; rfl
theorem mem_instZ {z : Zn} {d m x : Int} : x ∈ instZ z d m ↔ ((((validZ z = true ∧ 0 ≤ d) ∧ d ≤ 36524) ∧ 0 ≤ m) ∧ m < 1440) ∧ 0 ≤ x ∧ x < 52596000 ∧ x + off z x = d * 1440 + m := by
  unfold instZ
  by_cases hc : (((validZ z = true ∧ 0 ≤ d) ∧ d ≤ 36524) ∧ 0 ≤ m) ∧ m < 1440
  · rw [if_pos (by simp only [Bool.and_eq_true, decide_eq_true_eq]; exact hc), ← instF_eq hc.1.1.1.1, mem_filI]
    constructor
    · intro ⟨a, b, c⟩; exact ⟨hc, a, b, of_decide_eq_true c⟩
    · intro ⟨_, a, b, c⟩; exact ⟨a, b, decide_eq_true c⟩
  · rw [if_neg (by simp only [Bool.and_eq_true, decide_eq_true_eq]; exact hc)]
    constructor
    · intro h; exact absurd h (by simp)
    · intro h; exact absurd h.1 hc
theorem instZ_asc (z : Zn) (d m : Int) : (instZ z d m).Pairwise (· < ·) := by
  unfold instZ
  split
  · exact filI_asc _ _ _
  · exact List.Pairwise.nil
theorem instZ_two (z : Zn) (d m : Int) : (instZ z d m).length ≤ 2 ∧ ((instZ z d m).length = 2 → (instZ z d m).getD 0 0 < (instZ z d m).getD 1 0) := by
  have ha := instZ_asc z d m
  have hm := fun x => @mem_instZ z d m x
  generalize instZ z d m = l at *
  match l, ha, hm with
  | [], _, _ => exact ⟨by decide, fun h => by simp at h⟩
  | [x], _, _ => exact ⟨by simp, fun h => by simp at h⟩
  | [x, y], ha, _ => exact ⟨by simp, fun _ => by
      have := List.rel_of_pairwise_cons ha (List.mem_cons_self ..)
      simpa using this⟩
  | x :: y :: w :: r, ha, hm =>
    exfalso
    have xy := List.rel_of_pairwise_cons ha (List.mem_cons_self ..)
    have yw := List.rel_of_pairwise_cons (List.Pairwise.of_cons ha) (List.mem_cons_self ..)
    obtain ⟨hc, _, _, e1⟩ := (hm x).1 (by simp)
    obtain ⟨_, _, _, e2⟩ := (hm y).1 (by simp)
    obtain ⟨_, _, _, e3⟩ := (hm w).1 (by simp)
    have v := hc.1.1.1.1
    have o1 := off_bounds v x
    have o3 := off_bounds v w
    have := off_two v (Int.le_of_lt xy) (Int.le_of_lt yw) (by omega)
    omega
theorem instZ_loc {z : Zn} {d m x : Int} (h : x ∈ instZ z d m) : locF z x = (d, m, 0) := by
  obtain ⟨⟨⟨⟨⟨v, a⟩, b⟩, c⟩, e⟩, f, g, k⟩ := mem_instZ.1 h
  rw [locF_in v f (by omega)]
  have e1 : loc z x = d * 1440 + m := k
  rw [e1, if_pos (by omega), show (d * 1440 + m) / 1440 = d by omega, show (d * 1440 + m) % 1440 = m by omega]
def hit (u : Int) (l : List Int) : Nat → Bool
  | 0 => false
  | i + 1 => hit u l i || l.getD i 0 == u
theorem hit_at {u : Int} {l : List Int} {j : Nat} (h : l.getD j 0 = u) : ∀ n, j < n → hit u l n = true
  | 0, hj => by omega
  | n + 1, hj => by
    unfold hit
    by_cases e : j = n
    · subst e; rw [h]; simp
    · rw [hit_at h n (by omega)]; rfl
theorem hit_mem {u : Int} {l : List Int} (h : u ∈ l) : hit u l l.length = true := by
  obtain ⟨i, hi, e⟩ := List.getElem_of_mem h
  exact hit_at (j := i) (by simpa [List.getD_eq_getElem?_getD, hi] using e) _ hi
theorem getD_mem {l : List Int} {i : Nat} (h : i < l.length) : l.getD i 0 ∈ l := by
  have : l.getD i 0 = l[i] := by simp [List.getD_eq_getElem?_getD, h]
  rw [this]; exact List.getElem_mem h
end Go.Proofs.Ytflclkbkgcfliaa
