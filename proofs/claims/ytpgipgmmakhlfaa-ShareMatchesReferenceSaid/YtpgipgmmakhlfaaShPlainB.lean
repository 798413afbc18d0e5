/- The fairest division: how the loops come to it. -/
import Derived.Test.YtpgipgmmakhlfaaShPlain
namespace Go.Proofs.Share

theorem level_nat (q : Nat → Bool) (hq : ∀ i j, i ≤ j → q i = true → q j = true) : ∀ m : Nat, ∃ r, r ≤ m ∧ (∀ i, i < r → q i = false) ∧ (∀ i, r ≤ i → i < m → q i = true)
  | 0 => ⟨0, Nat.le_refl _, fun i h => by omega, fun i h1 h2 => by omega⟩
  | m + 1 => by
    obtain ⟨r, h1, h2, h3⟩ := level_nat q hq m
    by_cases e : r = m
    · subst e
      cases hr : q r
      · exact ⟨r + 1, Nat.le_refl _, fun i hi => by
          by_cases e : i = r
          · rw [e]; exact hr
          · exact h2 i (by omega), fun i h4 h5 => by omega⟩
      · exact ⟨r, by omega, h2, fun i h4 h5 => by
          have : i = r := by omega
          rw [this]; exact hr⟩
    · exact ⟨r, by omega, h2, fun i h4 h5 => hq r i h4 (h3 r (Nat.le_refl _) (by omega))⟩

/-- The level that the search finds. -/
theorem level_ex (total : Int) (l : List Int) (m : Int) (hm : 0 ≤ m) : ∃ r, 0 ≤ r ∧ r ≤ m ∧ (∀ i, 0 ≤ i → i < r → costF l (i + 1) ≤ total) ∧ (∀ i, r ≤ i → i < m → total < costF l (i + 1)) := by
  obtain ⟨r, h1, h2, h3⟩ := level_nat (fun i => decide (total < costF l ((i : Int) + 1))) (fun i j hij h => by
    have := cost_mono l (a := (i : Int) + 1) (b := (j : Int) + 1) (by omega)
    simp at h ⊢; omega) m.toNat
  refine ⟨r, by omega, by omega, fun i h4 h5 => ?_, fun i h4 h5 => ?_⟩
  · have := h2 i.toNat (by omega)
    simp at this
    rwa [show max i 0 = i from by omega] at this
  · have := h3 i.toNat (by omega) (by omega)
    simp at this
    rwa [show max i 0 = i from by omega] at this

theorem cost_zero (l : List Int) (h : ∀ c ∈ l, 0 ≤ c) : costF l 0 = 0 := by
  induction l with
  | nil => rfl
  | cons c l ih =>
    have := h c (by simp)
    rw [costF_cons, ih (fun x hx => h x (by simp [hx]))]; omega
theorem unsat_zero (l : List Int) (e : Int) (h : ∀ c ∈ l, c ≤ e) : unsat l e = 0 := by
  induction l with
  | nil => rfl
  | cons c l ih =>
    have := h c (by simp)
    rw [unsat_cons, ih (fun x hx => h x (by simp [hx])), if_neg (by omega)]; rfl

/-- What the level is good for. -/
theorem level_ok {total m r : Int} {l : List Int} (hl : ∀ c ∈ l, 0 ≤ c ∧ c ≤ m) (ht : 0 ≤ total) (h0 : 0 ≤ r) (hm : r ≤ m) (h1 : ∀ i, 0 ≤ i → i < r → costF l (i + 1) ≤ total) (h2 : ∀ i, r ≤ i → i < m → total < costF l (i + 1)) :
    costF l r ≤ total ∧ (total - costF l r < unsat l r ∨ unsat l r = 0) := by
  constructor
  · by_cases e : r = 0
    · rw [e, cost_zero l (fun c hc => (hl c hc).1)]; exact ht
    · have := h1 (r - 1) (by omega) (by omega)
      rwa [show r - 1 + 1 = r from by omega] at this
  · by_cases e : r < m
    · have := h2 r (Int.le_refl _) e
      rw [cost_succ] at this
      left; omega
    · right
      exact unsat_zero l r (fun c hc => by have := (hl c hc).2; omega)

theorem DF.ex {total m : Int} {l : List Int} (hl : ∀ c ∈ l, 0 ≤ c ∧ c ≤ m) (ht : 0 ≤ total) (hm : 0 ≤ m) : ∃ p, DF total l p := by
  obtain ⟨r, h0, h1, h2, h3⟩ := level_ex total l m hm
  obtain ⟨h4, h5⟩ := level_ok hl ht h0 h1 h2 h3
  exact ⟨_, DF.of_dist (fun c hc => (hl c hc).1) h0 h4 h5⟩

theorem set_fill (l : List Int) (f : Int → Int) (k : Nat) (h : k < l.length) : ((l.take k).map f ++ List.replicate (l.length - k) 0).set k (f (l.getD k 0)) = (l.take (k + 1)).map f ++ List.replicate (l.length - (k + 1)) 0 := by
  have hk : ((l.take k).map f).length = k := by simp; omega
  rw [show l.length - k = (l.length - (k + 1)) + 1 from by omega, List.replicate_succ, List.set_append_right _ _ (by omega), hk, Nat.sub_self, List.set_cons_zero, List.take_succ_eq_append_getElem h, List.map_append, List.append_assoc]
  congr 1
  simp [List.getD_eq_getElem?_getD, h]

theorem unsat_append (a b : List Int) (e : Int) : unsat (a ++ b) e = unsat a e + unsat b e := by
  unfold unsat; simp
theorem dist_append (e : Int) : ∀ (a b : List Int) (left : Int), 0 ≤ left → dist e left (a ++ b) = dist e left a ++ dist e (left - min left (unsat a e)) b
  | [], b, left, h => by simp [dist, unsat, Int.min_eq_right h]
  | c :: a, b, left, h => by
    have hn := unsat_nonneg a e
    simp only [List.cons_append, dist]
    rw [unsat_cons]
    split
    · rename_i h1
      rw [dist_append e a b (left - 1) (by omega), if_pos h1.1, List.cons_append]
      congr 3; omega
    · rename_i h1
      rw [dist_append e a b left h, List.cons_append]
      congr 3
      split <;> omega

/-- The parts behind i rounds of the last loop. -/
def partsAt (e left : Int) (l : List Int) (i : Nat) : List Int := dist e left (l.take i) ++ (l.drop i).map (min · e)
def leftAt (e left : Int) (l : List Int) (i : Nat) : Int := left - min left (unsat (l.take i) e)
theorem partsAt_length (e left : Int) (l : List Int) (i : Nat) : (partsAt e left l i).length = l.length := by
  unfold partsAt; simp [dist_length]; omega
theorem partsAt_get (e left : Int) (l : List Int) (i : Nat) (h : i < l.length) : (partsAt e left l i).getD i 0 = min (l.getD i 0) e := by
  unfold partsAt
  have hd : (dist e left (l.take i)).length = i := by rw [dist_length]; simp; omega
  rw [List.getD_eq_getElem?_getD, List.getElem?_append_right (by omega), hd]
  simp [List.getD_eq_getElem?_getD, h]
theorem leftAt_nonneg (e left : Int) (l : List Int) (i : Nat) (_h : 0 ≤ left) : 0 ≤ leftAt e left l i := by unfold leftAt; omega
theorem leftAt_le (e left : Int) (l : List Int) (i : Nat) (h : 0 ≤ left) : leftAt e left l i ≤ left := by unfold leftAt; have := unsat_nonneg (l.take i) e; omega
theorem partsAt_done (e left : Int) (l : List Int) (i : Nat) (h : 0 ≤ left) (h0 : leftAt e left l i ≤ 0 ∨ l.length ≤ i) : partsAt e left l i = dist e left l := by
  conv => rhs; rw [← List.take_append_drop i l]
  rw [dist_append e _ _ _ h]
  unfold partsAt
  congr 1
  rcases h0 with h0 | h0
  · rw [dist_zero]; exact h0
  · rw [List.drop_eq_nil_of_le h0]; rfl
theorem partsAt_give (e left : Int) (l : List Int) (i : Nat) (h : i < l.length) (hl : 0 ≤ left) (h1 : 0 < leftAt e left l i) (h2 : e < l.getD i 0) : (partsAt e left l i).set i (e + 1) = partsAt e left l (i + 1) ∧ leftAt e left l (i + 1) = leftAt e left l i - 1 := by
  have hd : (dist e left (l.take i)).length = i := by rw [dist_length]; simp; omega
  have hg : l.getD i 0 = l[i] := by simp [List.getD_eq_getElem?_getD, h]
  rw [hg] at h2
  constructor
  · unfold partsAt
    rw [List.set_append_right _ _ (by omega), hd, Nat.sub_self, List.drop_eq_getElem_cons h, List.map_cons, List.set_cons_zero, List.take_succ_eq_append_getElem h, dist_append e _ _ _ hl]
    have : dist e (left - min left (unsat (l.take i) e)) [l[i]] = [e + 1] := by
      simp only [dist]; unfold leftAt at h1; rw [if_pos ⟨h2, h1⟩]
    rw [this]; simp
  · unfold leftAt at h1 ⊢
    rw [List.take_succ_eq_append_getElem h, unsat_append]
    have : unsat [l[i]] e = 1 := by rw [unsat_cons, if_pos h2]; rfl
    omega
theorem partsAt_keep (e left : Int) (l : List Int) (i : Nat) (h : i < l.length) (hl : 0 ≤ left) (h2 : ¬ e < l.getD i 0) : partsAt e left l i = partsAt e left l (i + 1) ∧ leftAt e left l (i + 1) = leftAt e left l i := by
  have hg : l.getD i 0 = l[i] := by simp [List.getD_eq_getElem?_getD, h]
  rw [hg] at h2
  constructor
  · unfold partsAt
    rw [List.drop_eq_getElem_cons h, List.map_cons, List.take_succ_eq_append_getElem h, dist_append e _ _ _ hl]
    have : dist e (left - min left (unsat (l.take i) e)) [l[i]] = [min l[i] e] := by
      simp only [dist]; rw [if_neg (fun hh => h2 hh.1)]
    rw [this]; simp
  · unfold leftAt
    rw [List.take_succ_eq_append_getElem h, unsat_append]
    have : unsat [l[i]] e = 0 := by rw [unsat_cons, if_neg h2]; rfl
    omega
end Go.Proofs.Share
