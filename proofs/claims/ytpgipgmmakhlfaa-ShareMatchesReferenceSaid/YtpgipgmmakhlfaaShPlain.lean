/- The fairest division: plain mathematics. -/
namespace Go.Proofs.Share

def sumL : List Int → Int
  | [] => 0
  | x :: r => x + sumL r
theorem sumL_append (a b : List Int) : sumL (a ++ b) = sumL a + sumL b := by
  induction a with
  | nil => simp [sumL]
  | cons x r ih => simp [sumL, ih]; omega
def costF (l : List Int) (e : Int) : Int := sumL (l.map (min · e))
def unsat (l : List Int) (e : Int) : Int := (l.filter (fun c => decide (e < c))).length
theorem unsat_cons (c : Int) (l : List Int) (e : Int) : unsat (c :: l) e = (if e < c then 1 else 0) + unsat l e := by
  unfold unsat
  by_cases h : e < c
  · simp [List.filter_cons, h]; omega
  · simp [List.filter_cons, h]
theorem unsat_nonneg (l : List Int) (e : Int) : 0 ≤ unsat l e := by unfold unsat; omega
theorem costF_cons (c : Int) (l : List Int) (e : Int) : costF (c :: l) e = min c e + costF l e := rfl
theorem cost_succ (l : List Int) (e : Int) : costF l (e + 1) = costF l e + unsat l e := by
  induction l with
  | nil => rfl
  | cons c l ih =>
    rw [costF_cons, costF_cons, unsat_cons, ih]
    split <;> omega
theorem cost_mono (l : List Int) {a b : Int} (h : a ≤ b) : costF l a ≤ costF l b := by
  induction l with
  | nil => exact Int.le_refl _
  | cons c l ih => rw [costF_cons, costF_cons]; omega
theorem cost_le_sum (l : List Int) (e : Int) : costF l e ≤ sumL l := by
  induction l with
  | nil => exact Int.le_refl _
  | cons c l ih => rw [costF_cons, sumL]; omega
theorem cost_eq_sum (l : List Int) (e : Int) (h : ∀ c ∈ l, c ≤ e) : costF l e = sumL l := by
  induction l with
  | nil => rfl
  | cons c l ih =>
    have := h c (by simp)
    rw [costF_cons, sumL, ih (fun x hx => h x (by simp [hx]))]; omega

/-- The level for all, then a cent each for the first that are not satisfied. -/
def dist (e : Int) : Int → List Int → List Int
  | _, [] => []
  | left, c :: r => if e < c ∧ 0 < left then (e + 1) :: dist e (left - 1) r else min c e :: dist e left r
theorem dist_length (e : Int) : ∀ (left : Int) (l : List Int), (dist e left l).length = l.length
  | _, [] => rfl
  | left, c :: r => by
    simp only [dist]
    split <;> simp [dist_length]
theorem dist_zero (e : Int) (left : Int) (h : left ≤ 0) : ∀ l : List Int, dist e left l = l.map (min · e)
  | [] => rfl
  | c :: r => by
    simp only [dist, List.map_cons]
    rw [if_neg (by omega), dist_zero e left h r]

/-- The fairest division (the document's two properties). -/
structure DF (total : Int) (l p : List Int) : Prop where
  len : p.length = l.length
  lo : ∀ i, i < l.length → 0 ≤ p.getD i 0
  hi : ∀ i, i < l.length → p.getD i 0 ≤ l.getD i 0
  sum : sumL p = min total (sumL l)
  fair : ∀ i k, i < l.length → k < l.length → p.getD k 0 < l.getD k 0 → p.getD i 0 ≤ p.getD k 0 ∨ (p.getD i 0 = p.getD k 0 + 1 ∧ i < k)

theorem sum_lt {p q : List Int} (hl : p.length = q.length) (hle : ∀ i, i < p.length → p.getD i 0 ≤ q.getD i 0) (hne : p ≠ q) : sumL p < sumL q := by
  induction p generalizing q with
  | nil => cases q with
    | nil => exact absurd rfl hne
    | cons _ _ => simp at hl
  | cons x p ih =>
    cases q with
    | nil => simp at hl
    | cons y q =>
      have h0 := hle 0 (by simp)
      simp at h0
      have hr : ∀ i, i < p.length → p.getD i 0 ≤ q.getD i 0 := fun i hi => by have := hle (i + 1) (by simpa using hi); simpa using this
      have hl' : p.length = q.length := by simpa using hl
      simp only [sumL]
      by_cases e : p = q
      · subst e
        have : x ≠ y := fun e => hne (by rw [e])
        omega
      · have := ih hl' hr e
        omega

theorem DF.unique {total : Int} {l p q : List Int} (hp : DF total l p) (hq : DF total l q) : p = q := by
  have hl : p.length = q.length := by rw [hp.len, hq.len]
  by_cases e : p = q
  · exact e
  exfalso
  have h1 : ∃ i, i < l.length ∧ p.getD i 0 < q.getD i 0 := by
    by_cases h : ∃ i, i < l.length ∧ p.getD i 0 < q.getD i 0
    · exact h
    · exfalso
      have := sum_lt hl.symm (fun i hi => by
        rw [hq.len] at hi
        rcases Int.lt_or_le (p.getD i 0) (q.getD i 0) with h2 | h2
        · exact absurd ⟨i, hi, h2⟩ h
        · exact h2) (Ne.symm e)
      rw [hp.sum, hq.sum] at this; omega
  have h2 : ∃ k, k < l.length ∧ q.getD k 0 < p.getD k 0 := by
    by_cases h : ∃ k, k < l.length ∧ q.getD k 0 < p.getD k 0
    · exact h
    · exfalso
      have := sum_lt hl (fun i hi => by
        rw [hp.len] at hi
        rcases Int.lt_or_le (q.getD i 0) (p.getD i 0) with h2 | h2
        · exact absurd ⟨i, hi, h2⟩ h
        · exact h2) e
      rw [hp.sum, hq.sum] at this; omega
  obtain ⟨i, hi, h1⟩ := h1
  obtain ⟨k, hk, h2⟩ := h2
  have := hq.hi i hi
  have := hp.hi k hk
  rcases hp.fair k i hk hi (by omega) with h3 | ⟨h3, h4⟩ <;> rcases hq.fair i k hi hk (by omega) with h5 | ⟨h5, h6⟩ <;> omega

theorem dist_sum (e : Int) : ∀ (left : Int) (l : List Int), 0 ≤ left → sumL (dist e left l) = costF l e + min left (unsat l e)
  | left, [], h => by simp [dist, sumL, costF, unsat]; omega
  | left, c :: r, h => by
    rw [costF_cons, unsat_cons]
    simp only [dist]
    split
    · rename_i h1
      rw [sumL, dist_sum e (left - 1) r (by omega), if_pos h1.1]
      have := unsat_nonneg r e
      omega
    · rename_i h1
      rw [sumL, dist_sum e left r h]
      have := unsat_nonneg r e
      split <;> omega

/-- What dist gives at a place. -/
theorem dist_at (e : Int) : ∀ (left : Int) (l : List Int) (i : Nat), i < l.length → 0 ≤ left →
    ((dist e left l).getD i 0 = min (l.getD i 0) e ∧ (e < l.getD i 0 → unsat (l.take i) e ≥ left)) ∨ ((dist e left l).getD i 0 = e + 1 ∧ e < l.getD i 0 ∧ unsat (l.take i) e < left)
  | left, [], i, hi, _ => by simp at hi
  | left, c :: r, 0, _, h => by
    simp only [dist]
    split
    · rename_i h1; right; simp [unsat]; omega
    · rename_i h1; left; simp [unsat]; omega
  | left, c :: r, i + 1, hi, h => by
    have hi' : i < r.length := by simpa using hi
    simp only [dist]
    split
    · rename_i h1
      have ih := dist_at e (left - 1) r i hi' (by omega)
      simp only [List.getD_cons_succ, List.take_succ_cons]
      rw [unsat_cons, if_pos h1.1]
      rcases ih with ⟨a, b⟩ | ⟨a, b, c⟩
      · left; exact ⟨a, fun hh => by have := b hh; omega⟩
      · right; exact ⟨a, b, by omega⟩
    · rename_i h1
      have ih := dist_at e left r i hi' h
      simp only [List.getD_cons_succ, List.take_succ_cons]
      rw [unsat_cons]
      have := unsat_nonneg (r.take i) e
      rcases ih with ⟨a, b⟩ | ⟨a, b, c⟩
      · left; exact ⟨a, fun hh => by have := b hh; split <;> omega⟩
      · right; exact ⟨a, b, by split <;> omega⟩

theorem unsat_take_mono (l : List Int) (e : Int) {i k : Nat} (h : i ≤ k) : unsat (l.take i) e ≤ unsat (l.take k) e := by
  induction l generalizing i k with
  | nil => simp
  | cons c l ih =>
    cases i with
    | zero => simp only [List.take_zero]; exact unsat_nonneg _ _
    | succ i =>
      cases k with
      | zero => omega
      | succ k => simp only [List.take_succ_cons]; rw [unsat_cons, unsat_cons]; have := ih (i := i) (k := k) (by omega); omega
theorem unsat_take_le (l : List Int) (e : Int) (i : Nat) : unsat (l.take i) e ≤ unsat l e := by
  by_cases h : i ≤ l.length
  · have := unsat_take_mono l e h; simpa using this
  · rw [List.take_of_length_le (by omega)]; exact Int.le_refl _

theorem sum_getD_zero : ∀ (l : List Int), (∀ c ∈ l, 0 ≤ c) → 0 ≤ sumL l
  | [], _ => by simp [sumL]
  | c :: r, h => by have h1 := h c (by simp); have := sum_getD_zero r (fun x hx => h x (by simp [hx])); simp only [sumL]; omega

theorem DF.of_dist {total e : Int} {l : List Int} (hl : ∀ c ∈ l, 0 ≤ c) (he : 0 ≤ e) (hc : costF l e ≤ total) (hu : total - costF l e < unsat l e ∨ unsat l e = 0) : DF total l (dist e (total - costF l e) l) := by
  have h0 : 0 ≤ total - costF l e := by omega
  have hmem : ∀ i, i < l.length → 0 ≤ l.getD i 0 := fun i hi => hl _ (by simp [List.getD_eq_getElem?_getD, hi])
  refine ⟨dist_length _ _ _, fun i hi => ?_, fun i hi => ?_, ?_, fun i k hi hk hlt => ?_⟩
  · have := hmem i hi
    rcases dist_at e _ l i hi h0 with ⟨a, _⟩ | ⟨a, _, _⟩ <;> rw [a] <;> omega
  · rcases dist_at e _ l i hi h0 with ⟨a, _⟩ | ⟨a, _, _⟩ <;> rw [a] <;> omega
  · rw [dist_sum _ _ _ h0]
    have h1 := cost_succ l e
    have h2 := cost_le_sum l (e + 1)
    rcases hu with hu | hu
    · omega
    · have h3 : costF l e = sumL l := by
        apply cost_eq_sum
        intro c hc
        rcases Int.lt_or_le e c with h | h
        · exfalso
          have : 0 < (l.filter (fun c => decide (e < c))).length := List.length_pos_of_mem (List.mem_filter.2 ⟨hc, by simpa using h⟩)
          unfold unsat at hu; omega
        · exact h
      omega
  · rcases dist_at e _ l k hk h0 with ⟨a, b⟩ | ⟨a, b, c⟩ <;> rcases dist_at e _ l i hi h0 with ⟨a', b'⟩ | ⟨a', b', c'⟩ <;> rw [a] at hlt ⊢ <;> rw [a']
    · left; omega
    · have hek : e < l.getD k 0 := by omega
      have := b hek
      have hik : i < k := by
        rcases Nat.lt_or_ge i k with h | h
        · exact h
        · have := unsat_take_mono l e h; omega
      by_cases hh : min (l.getD k 0) e = e
      · right; omega
      · omega
    · left; omega
    · left; omega
end Go.Proofs.Share
