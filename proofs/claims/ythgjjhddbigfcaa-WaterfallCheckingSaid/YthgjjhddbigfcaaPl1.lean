/- Part of a proof about the given program: contracts of its functions (see the comment of the last text). -/
set_option linter.unusedSimpArgs false
set_option linter.unusedVariables false
namespace Go.Proofs.Share

def sumL : List Int → Int
  | [] => 0
  | x :: r => x + sumL r
theorem sumL_append (a b : List Int) : sumL (a ++ b) = sumL a + sumL b := by
  induction a with
  | nil => simp [sumL]
  | cons x r ih => simp [sumL, ih]; omega
def costF (l : List Int) (e : Int) : Int := sumL (l.map (min · e))
def unsat (l : List Int) (e : Int) : Int := (l.filter (fun c => decide (e < c))).length
theorem unsat_cons (c : Int) (l : List Int) (e : Int) : unsat (c :: l) e = (if e < c then 1 else 0) + unsat l e := by
  unfold unsat
  by_cases h : e < c
  · simp [List.filter_cons, h]; omega
  · simp [List.filter_cons, h]
theorem unsat_nonneg (l : List Int) (e : Int) : 0 ≤ unsat l e := by unfold unsat; omega
theorem costF_cons (c : Int) (l : List Int) (e : Int) : costF (c :: l) e = min c e + costF l e := rfl
theorem cost_succ (l : List Int) (e : Int) : costF l (e + 1) = costF l e + unsat l e := by
  induction l with
  | nil => rfl
  | cons c l ih =>
    rw [costF_cons, costF_cons, unsat_cons, ih]
    split <;> omega
theorem cost_mono (l : List Int) {a b : Int} (h : a ≤ b) : costF l a ≤ costF l b := by
  induction l with
  | nil => exact Int.le_refl _
  | cons c l ih => rw [costF_cons, costF_cons]; omega
theorem cost_le_sum (l : List Int) (e : Int) : costF l e ≤ sumL l := by
  induction l with
  | nil => exact Int.le_refl _
  | cons c l ih => rw [costF_cons, sumL]; omega
theorem cost_eq_sum (l : List Int) (e : Int) (h : ∀ c ∈ l, c ≤ e) : costF l e = sumL l := by
  induction l with
  | nil => rfl
  | cons c l ih =>
    have := h c (by simp)
    rw [costF_cons, sumL, ih (fun x hx => h x (by simp [hx]))]; omega

/-- The level for all, then a cent each for the first that are not satisfied. -/
def dist (e : Int) : Int → List Int → List Int
  | _, [] => []
  | left, c :: r => if e < c ∧ 0 < left then (e + 1) :: dist e (left - 1) r else min c e :: dist e left r
theorem dist_length (e : Int) : ∀ (left : Int) (l : List Int), (dist e left l).length = l.length
  | _, [] => rfl
  | left, c :: r => by
    simp only [dist]
    split <;> simp [dist_length]
theorem dist_zero (e : Int) (left : Int) (h : left ≤ 0) : ∀ l : List Int, dist e left l = l.map (min · e)
  | [] => rfl
  | c :: r => by
    simp only [dist, List.map_cons]
    rw [if_neg (by omega), dist_zero e left h r]

/-- The fairest division (the document's two properties). -/
structure DF (total : Int) (l p : List Int) : Prop where
  len : p.length = l.length
  lo : ∀ i, i < l.length → 0 ≤ p.getD i 0
  hi : ∀ i, i < l.length → p.getD i 0 ≤ l.getD i 0
  sum : sumL p = min total (sumL l)
  fair : ∀ i k, i < l.length → k < l.length → p.getD k 0 < l.getD k 0 → p.getD i 0 ≤ p.getD k 0 ∨ (p.getD i 0 = p.getD k 0 + 1 ∧ i < k)

theorem sum_lt {p q : List Int} (hl : p.length = q.length) (hle : ∀ i, i < p.length → p.getD i 0 ≤ q.getD i 0) (hne : p ≠ q) : sumL p < sumL q := by
  induction p generalizing q with
  | nil => cases q with
    | nil => exact absurd rfl hne
    | cons _ _ => simp at hl
  | cons x p ih =>
    cases q with
    | nil => simp at hl
    | cons y q =>
      have h0 := hle 0 (by simp)
      simp at h0
      have hr : ∀ i, i < p.length → p.getD i 0 ≤ q.getD i 0 := fun i hi => by have := hle (i + 1) (by simpa using hi); simpa using this
      have hl' : p.length = q.length := by simpa using hl
      simp only [sumL]
      by_cases e : p = q
      · subst e
        have : x ≠ y := fun e => hne (by rw [e])
        omega
      · have := ih hl' hr e
        omega

theorem DF.unique {total : Int} {l p q : List Int} (hp : DF total l p) (hq : DF total l q) : p = q := by
  have hl : p.length = q.length := by rw [hp.len, hq.len]
  by_cases e : p = q
  · exact e
  exfalso
  have h1 : ∃ i, i < l.length ∧ p.getD i 0 < q.getD i 0 := by
    by_cases h : ∃ i, i < l.length ∧ p.getD i 0 < q.getD i 0
    · exact h
    · exfalso
      have := sum_lt hl.symm (fun i hi => by
        rw [hq.len] at hi
        rcases Int.lt_or_le (p.getD i 0) (q.getD i 0) with h2 | h2
        · exact absurd ⟨i, hi, h2⟩ h
        · exact h2) (Ne.symm e)
      rw [hp.sum, hq.sum] at this; omega
  have h2 : ∃ k, k < l.length ∧ q.getD k 0 < p.getD k 0 := by
    by_cases h : ∃ k, k < l.length ∧ q.getD k 0 < p.getD k 0
    · exact h
    · exfalso
      have := sum_lt hl (fun i hi => by
        rw [hp.len] at hi
        rcases Int.lt_or_le (q.getD i 0) (p.getD i 0) with h2 | h2
        · exact absurd ⟨i, hi, h2⟩ h
        · exact h2) e
      rw [hp.sum, hq.sum] at this; omega
  obtain ⟨i, hi, h1⟩ := h1
  obtain ⟨k, hk, h2⟩ := h2
  have := hq.hi i hi
  have := hp.hi k hk
  rcases hp.fair k i hk hi (by omega) with h3 | ⟨h3, h4⟩ <;> rcases hq.fair i k hi hk (by omega) with h5 | ⟨h5, h6⟩ <;> omega

theorem dist_sum (e : Int) : ∀ (left : Int) (l : List Int), 0 ≤ left → sumL (dist e left l) = costF l e + min left (unsat l e)
  | left, [], h => by simp [dist, sumL, costF, unsat]; omega
  | left, c :: r, h => by
    rw [costF_cons, unsat_cons]
    simp only [dist]
    split
    · rename_i h1
      rw [sumL, dist_sum e (left - 1) r (by omega), if_pos h1.1]
      have := unsat_nonneg r e
      omega
    · rename_i h1
      rw [sumL, dist_sum e left r h]
      have := unsat_nonneg r e
      split <;> omega

/-- What dist gives at a place. -/
theorem dist_at (e : Int) : ∀ (left : Int) (l : List Int) (i : Nat), i < l.length → 0 ≤ left →
    ((dist e left l).getD i 0 = min (l.getD i 0) e ∧ (e < l.getD i 0 → unsat (l.take i) e ≥ left)) ∨ ((dist e left l).getD i 0 = e + 1 ∧ e < l.getD i 0 ∧ unsat (l.take i) e < left)
  | left, [], i, hi, _ => by simp at hi
  | left, c :: r, 0, _, h => by
    simp only [dist]
    split
    · rename_i h1; right; simp [unsat]; omega
    · rename_i h1; left; simp [unsat]; omega
  | left, c :: r, i + 1, hi, h => by
    have hi' : i < r.length := by simpa using hi
    simp only [dist]
    split
    · rename_i h1
      have ih := dist_at e (left - 1) r i hi' (by omega)
      simp only [List.getD_cons_succ, List.take_succ_cons]
      rw [unsat_cons, if_pos h1.1]
      rcases ih with ⟨a, b⟩ | ⟨a, b, c⟩
      · left; exact ⟨a, fun hh => by have := b hh; omega⟩
      · right; exact ⟨a, b, by omega⟩
    · rename_i h1
      have ih := dist_at e left r i hi' h
      simp only [List.getD_cons_succ, List.take_succ_cons]
      rw [unsat_cons]
      have := unsat_nonneg (r.take i) e
      rcases ih with ⟨a, b⟩ | ⟨a, b, c⟩
      · left; exact ⟨a, fun hh => by have := b hh; split <;> omega⟩
      · right; exact ⟨a, b, by split <;> omega⟩

theorem unsat_take_mono (l : List Int) (e : Int) {i k : Nat} (h : i ≤ k) : unsat (l.take i) e ≤ unsat (l.take k) e := by
  induction l generalizing i k with
  | nil => simp
  | cons c l ih =>
    cases i with
    | zero => simp only [List.take_zero]; exact unsat_nonneg _ _
    | succ i =>
      cases k with
      | zero => omega
      | succ k => simp only [List.take_succ_cons]; rw [unsat_cons, unsat_cons]; have := ih (i := i) (k := k) (by omega); omega
theorem unsat_take_le (l : List Int) (e : Int) (i : Nat) : unsat (l.take i) e ≤ unsat l e := by
  by_cases h : i ≤ l.length
  · have := unsat_take_mono l e h; simpa using this
  · rw [List.take_of_length_le (by omega)]; exact Int.le_refl _

theorem sum_getD_zero : ∀ (l : List Int), (∀ c ∈ l, 0 ≤ c) → 0 ≤ sumL l
  | [], _ => by simp [sumL]
  | c :: r, h => by have h1 := h c (by simp); have := sum_getD_zero r (fun x hx => h x (by simp [hx])); simp only [sumL]; omega

theorem DF.of_dist {total e : Int} {l : List Int} (hl : ∀ c ∈ l, 0 ≤ c) (he : 0 ≤ e) (hc : costF l e ≤ total) (hu : total - costF l e < unsat l e ∨ unsat l e = 0) : DF total l (dist e (total - costF l e) l) := by
  have h0 : 0 ≤ total - costF l e := by omega
  have hmem : ∀ i, i < l.length → 0 ≤ l.getD i 0 := fun i hi => hl _ (by simp [List.getD_eq_getElem?_getD, hi])
  refine ⟨dist_length _ _ _, fun i hi => ?_, fun i hi => ?_, ?_, fun i k hi hk hlt => ?_⟩
  · have := hmem i hi
    rcases dist_at e _ l i hi h0 with ⟨a, _⟩ | ⟨a, _, _⟩ <;> rw [a] <;> omega
  · rcases dist_at e _ l i hi h0 with ⟨a, _⟩ | ⟨a, _, _⟩ <;> rw [a] <;> omega
  · rw [dist_sum _ _ _ h0]
    have h1 := cost_succ l e
    have h2 := cost_le_sum l (e + 1)
    rcases hu with hu | hu
    · omega
    · have h3 : costF l e = sumL l := by
        apply cost_eq_sum
        intro c hc
        rcases Int.lt_or_le e c with h | h
        · exfalso
          have : 0 < (l.filter (fun c => decide (e < c))).length := List.length_pos_of_mem (List.mem_filter.2 ⟨hc, by simpa using h⟩)
          unfold unsat at hu; omega
        · exact h
      omega
  · rcases dist_at e _ l k hk h0 with ⟨a, b⟩ | ⟨a, b, c⟩ <;> rcases dist_at e _ l i hi h0 with ⟨a', b'⟩ | ⟨a', b', c'⟩ <;> rw [a] at hlt ⊢ <;> rw [a']
    · left; omega
    · have hek : e < l.getD k 0 := by omega
      have := b hek
      have hik : i < k := by
        rcases Nat.lt_or_ge i k with h | h
        · exact h
        · have := unsat_take_mono l e h; omega
      by_cases hh : min (l.getD k 0) e = e
      · right; omega
      · omega
    · left; omega
    · left; omega
end Go.Proofs.Share
namespace Go.Proofs.Share

theorem level_nat (q : Nat → Bool) (hq : ∀ i j, i ≤ j → q i = true → q j = true) : ∀ m : Nat, ∃ r, r ≤ m ∧ (∀ i, i < r → q i = false) ∧ (∀ i, r ≤ i → i < m → q i = true)
  | 0 => ⟨0, Nat.le_refl _, fun i h => by omega, fun i h1 h2 => by omega⟩
  | m + 1 => by
    obtain ⟨r, h1, h2, h3⟩ := level_nat q hq m
    by_cases e : r = m
    · subst e
      cases hr : q r
      · exact ⟨r + 1, Nat.le_refl _, fun i hi => by
          by_cases e : i = r
          · rw [e]; exact hr
          · exact h2 i (by omega), fun i h4 h5 => by omega⟩
      · exact ⟨r, by omega, h2, fun i h4 h5 => by
          have : i = r := by omega
          rw [this]; exact hr⟩
    · exact ⟨r, by omega, h2, fun i h4 h5 => hq r i h4 (h3 r (Nat.le_refl _) (by omega))⟩

/-- The level that the search finds. -/
theorem level_ex (total : Int) (l : List Int) (m : Int) (hm : 0 ≤ m) : ∃ r, 0 ≤ r ∧ r ≤ m ∧ (∀ i, 0 ≤ i → i < r → costF l (i + 1) ≤ total) ∧ (∀ i, r ≤ i → i < m → total < costF l (i + 1)) := by
  obtain ⟨r, h1, h2, h3⟩ := level_nat (fun i => decide (total < costF l ((i : Int) + 1))) (fun i j hij h => by
    have := cost_mono l (a := (i : Int) + 1) (b := (j : Int) + 1) (by omega)
    simp at h ⊢; omega) m.toNat
  refine ⟨r, by omega, by omega, fun i h4 h5 => ?_, fun i h4 h5 => ?_⟩
  · have := h2 i.toNat (by omega)
    simp at this
    rwa [show max i 0 = i from by omega] at this
  · have := h3 i.toNat (by omega) (by omega)
    simp at this
    rwa [show max i 0 = i from by omega] at this

theorem cost_zero (l : List Int) (h : ∀ c ∈ l, 0 ≤ c) : costF l 0 = 0 := by
  induction l with
  | nil => rfl
  | cons c l ih =>
    have := h c (by simp)
    rw [costF_cons, ih (fun x hx => h x (by simp [hx]))]; omega
theorem unsat_zero (l : List Int) (e : Int) (h : ∀ c ∈ l, c ≤ e) : unsat l e = 0 := by
  induction l with
  | nil => rfl
  | cons c l ih =>
    have := h c (by simp)
    rw [unsat_cons, ih (fun x hx => h x (by simp [hx])), if_neg (by omega)]; rfl

/-- What the level is good for. -/
theorem level_ok {total m r : Int} {l : List Int} (hl : ∀ c ∈ l, 0 ≤ c ∧ c ≤ m) (ht : 0 ≤ total) (h0 : 0 ≤ r) (hm : r ≤ m) (h1 : ∀ i, 0 ≤ i → i < r → costF l (i + 1) ≤ total) (h2 : ∀ i, r ≤ i → i < m → total < costF l (i + 1)) :
    costF l r ≤ total ∧ (total - costF l r < unsat l r ∨ unsat l r = 0) := by
  constructor
  · by_cases e : r = 0
    · rw [e, cost_zero l (fun c hc => (hl c hc).1)]; exact ht
    · have := h1 (r - 1) (by omega) (by omega)
      rwa [show r - 1 + 1 = r from by omega] at this
  · by_cases e : r < m
    · have := h2 r (Int.le_refl _) e
      rw [cost_succ] at this
      left; omega
    · right
      exact unsat_zero l r (fun c hc => by have := (hl c hc).2; omega)

theorem DF.ex {total m : Int} {l : List Int} (hl : ∀ c ∈ l, 0 ≤ c ∧ c ≤ m) (ht : 0 ≤ total) (hm : 0 ≤ m) : ∃ p, DF total l p := by
  obtain ⟨r, h0, h1, h2, h3⟩ := level_ex total l m hm
  obtain ⟨h4, h5⟩ := level_ok hl ht h0 h1 h2 h3
  exact ⟨_, DF.of_dist (fun c hc => (hl c hc).1) h0 h4 h5⟩

theorem set_fill (l : List Int) (f : Int → Int) (k : Nat) (h : k < l.length) : ((l.take k).map f ++ List.replicate (l.length - k) 0).set k (f (l.getD k 0)) = (l.take (k + 1)).map f ++ List.replicate (l.length - (k + 1)) 0 := by
  have hk : ((l.take k).map f).length = k := by simp; omega
  rw [show l.length - k = (l.length - (k + 1)) + 1 from by omega, List.replicate_succ, List.set_append_right _ _ (by omega), hk, Nat.sub_self, List.set_cons_zero, List.take_succ_eq_append_getElem h, List.map_append, List.append_assoc]
  congr 1
  simp [List.getD_eq_getElem?_getD, h]

theorem unsat_append (a b : List Int) (e : Int) : unsat (a ++ b) e = unsat a e + unsat b e := by
  unfold unsat; simp
theorem dist_append (e : Int) : ∀ (a b : List Int) (left : Int), 0 ≤ left → dist e left (a ++ b) = dist e left a ++ dist e (left - min left (unsat a e)) b
  | [], b, left, h => by simp [dist, unsat, Int.min_eq_right h]
  | c :: a, b, left, h => by
    have hn := unsat_nonneg a e
    simp only [List.cons_append, dist]
    rw [unsat_cons]
    split
    · rename_i h1
      rw [dist_append e a b (left - 1) (by omega), if_pos h1.1, List.cons_append]
      congr 3; omega
    · rename_i h1
      rw [dist_append e a b left h, List.cons_append]
      congr 3
      split <;> omega

/-- The parts behind i rounds of the last loop. -/
def partsAt (e left : Int) (l : List Int) (i : Nat) : List Int := dist e left (l.take i) ++ (l.drop i).map (min · e)
def leftAt (e left : Int) (l : List Int) (i : Nat) : Int := left - min left (unsat (l.take i) e)
theorem partsAt_length (e left : Int) (l : List Int) (i : Nat) : (partsAt e left l i).length = l.length := by
  unfold partsAt; simp [dist_length]; omega
theorem partsAt_get (e left : Int) (l : List Int) (i : Nat) (h : i < l.length) : (partsAt e left l i).getD i 0 = min (l.getD i 0) e := by
  unfold partsAt
  have hd : (dist e left (l.take i)).length = i := by rw [dist_length]; simp; omega
  rw [List.getD_eq_getElem?_getD, List.getElem?_append_right (by omega), hd]
  simp [List.getD_eq_getElem?_getD, h]
theorem leftAt_nonneg (e left : Int) (l : List Int) (i : Nat) (_h : 0 ≤ left) : 0 ≤ leftAt e left l i := by unfold leftAt; omega
theorem leftAt_le (e left : Int) (l : List Int) (i : Nat) (h : 0 ≤ left) : leftAt e left l i ≤ left := by unfold leftAt; have := unsat_nonneg (l.take i) e; omega
theorem partsAt_done (e left : Int) (l : List Int) (i : Nat) (h : 0 ≤ left) (h0 : leftAt e left l i ≤ 0 ∨ l.length ≤ i) : partsAt e left l i = dist e left l := by
  conv => rhs; rw [← List.take_append_drop i l]
  rw [dist_append e _ _ _ h]
  unfold partsAt
  congr 1
  rcases h0 with h0 | h0
  · rw [dist_zero]; exact h0
  · rw [List.drop_eq_nil_of_le h0]; rfl
theorem partsAt_give (e left : Int) (l : List Int) (i : Nat) (h : i < l.length) (hl : 0 ≤ left) (h1 : 0 < leftAt e left l i) (h2 : e < l.getD i 0) : (partsAt e left l i).set i (e + 1) = partsAt e left l (i + 1) ∧ leftAt e left l (i + 1) = leftAt e left l i - 1 := by
  have hd : (dist e left (l.take i)).length = i := by rw [dist_length]; simp; omega
  have hg : l.getD i 0 = l[i] := by simp [List.getD_eq_getElem?_getD, h]
  rw [hg] at h2
  constructor
  · unfold partsAt
    rw [List.set_append_right _ _ (by omega), hd, Nat.sub_self, List.drop_eq_getElem_cons h, List.map_cons, List.set_cons_zero, List.take_succ_eq_append_getElem h, dist_append e _ _ _ hl]
    have : dist e (left - min left (unsat (l.take i) e)) [l[i]] = [e + 1] := by
      simp only [dist]; unfold leftAt at h1; rw [if_pos ⟨h2, h1⟩]
    rw [this]; simp
  · unfold leftAt at h1 ⊢
    rw [List.take_succ_eq_append_getElem h, unsat_append]
    have : unsat [l[i]] e = 1 := by rw [unsat_cons, if_pos h2]; rfl
    omega
theorem partsAt_keep (e left : Int) (l : List Int) (i : Nat) (h : i < l.length) (hl : 0 ≤ left) (h2 : ¬ e < l.getD i 0) : partsAt e left l i = partsAt e left l (i + 1) ∧ leftAt e left l (i + 1) = leftAt e left l i := by
  have hg : l.getD i 0 = l[i] := by simp [List.getD_eq_getElem?_getD, h]
  rw [hg] at h2
  constructor
  · unfold partsAt
    rw [List.drop_eq_getElem_cons h, List.map_cons, List.take_succ_eq_append_getElem h, dist_append e _ _ _ hl]
    have : dist e (left - min left (unsat (l.take i) e)) [l[i]] = [min l[i] e] := by
      simp only [dist]; rw [if_neg (fun hh => h2 hh.1)]
    rw [this]; simp
  · unfold leftAt
    rw [List.take_succ_eq_append_getElem h, unsat_append]
    have : unsat [l[i]] e = 0 := by rw [unsat_cons, if_neg h2]; rfl
    omega
end Go.Proofs.Share
namespace Go.Proofs.Share

def leastTo (l : List Int) (e m : Int) : Nat → Int
  | 0 => m
  | k + 1 => if e < l.getD k 0 then min (leastTo l e m k) (l.getD k 0 - e) else leastTo l e m k
theorem leastTo_le (l : List Int) (e m : Int) : ∀ k i, i < k → e < l.getD i 0 → leastTo l e m k ≤ l.getD i 0 - e
  | 0, i, h, _ => by omega
  | k + 1, i, h, he => by
    simp only [leastTo]
    by_cases hi : i = k
    · subst hi; rw [if_pos he]; omega
    · have := leastTo_le l e m k i (by omega) he
      split <;> omega
theorem leastTo_pos (l : List Int) (e m : Int) (hm : 1 ≤ m) : ∀ k, 1 ≤ leastTo l e m k
  | 0 => hm
  | k + 1 => by
    have := leastTo_pos l e m hm k
    simp only [leastTo]
    split <;> omega
theorem leastTo_max (l : List Int) (e m : Int) : ∀ k, leastTo l e m k ≤ m
  | 0 => Int.le_refl _
  | k + 1 => by
    have := leastTo_max l e m k
    simp only [leastTo]
    split <;> omega
theorem leastTo_at (l : List Int) (e m : Int) : ∀ k, leastTo l e m k = m ∨ ∃ i, i < k ∧ e < l.getD i 0 ∧ leastTo l e m k = l.getD i 0 - e
  | 0 => .inl rfl
  | k + 1 => by
    simp only [leastTo]
    rcases leastTo_at l e m k with h | ⟨i, h1, h2, h3⟩
    · by_cases hk : e < l.getD k 0
      · rw [if_pos hk]
        by_cases h2 : leastTo l e m k ≤ l.getD k 0 - e
        · left; omega
        · right; exact ⟨k, by omega, hk, by omega⟩
      · rw [if_neg hk]; exact .inl h
    · by_cases hk : e < l.getD k 0
      · rw [if_pos hk]
        by_cases h4 : leastTo l e m k ≤ l.getD k 0 - e
        · right; exact ⟨i, by omega, h2, by omega⟩
        · right; exact ⟨k, by omega, hk, by omega⟩
      · rw [if_neg hk]; right; exact ⟨i, by omega, h2, h3⟩

theorem unsat_mono (l : List Int) {a b : Int} (h : a ≤ b) : unsat l b ≤ unsat l a := by
  induction l with
  | nil => exact Int.le_refl _
  | cons c l ih =>
    rw [unsat_cons, unsat_cons]
    split <;> split <;> omega
theorem unsat_lt (l : List Int) {a b : Int} (h : a ≤ b) (hex : ∃ c ∈ l, a < c ∧ c ≤ b) : unsat l b + 1 ≤ unsat l a := by
  induction l with
  | nil => obtain ⟨c, hc, _⟩ := hex; cases hc
  | cons c l ih =>
    rw [unsat_cons, unsat_cons]
    by_cases hc : a < c ∧ c ≤ b
    · have := unsat_mono l h
      rw [if_neg (by omega), if_pos hc.1]; omega
    · obtain ⟨x, hx, h1⟩ := hex
      rcases List.mem_cons.1 hx with rfl | hx
      · exact absurd h1 hc
      · have := ih ⟨x, hx, h1⟩
        split <;> split <;> omega
theorem cost_add (l : List Int) (e d : Int) (hd : 0 ≤ d) (h : ∀ c ∈ l, e < c → e + d ≤ c) : costF l (e + d) = costF l e + d * unsat l e := by
  induction l with
  | nil => simp [costF, sumL, unsat]
  | cons c l ih =>
    have h1 := h c (by simp)
    rw [costF_cons, costF_cons, unsat_cons, ih (fun x hx => h x (by simp [hx]))]
    split
    · rename_i hc
      have := h1 hc
      rw [Int.mul_add]; omega
    · rw [Int.zero_add]; omega
theorem unsat_le_len (l : List Int) (e : Int) : unsat l e ≤ l.length := by
  unfold unsat
  have := List.length_filter_le (fun c => decide (e < c)) l
  omega
theorem unsat_take_succ (l : List Int) (e : Int) (k : Nat) (h : k < l.length) : unsat (l.take (k + 1)) e = unsat (l.take k) e + (if e < l.getD k 0 then 1 else 0) := by
  rw [List.take_succ_eq_append_getElem h, unsat_append]
  have hg : l.getD k 0 = l[k] := by simp [List.getD_eq_getElem?_getD, h]
  rw [hg, unsat_cons]
  simp [unsat]
theorem map_min_get (l : List Int) (e : Int) (k : Nat) (h : k < l.length) : (l.map (min · e)).getD k 0 = min (l.getD k 0) e := by
  simp [List.getD_eq_getElem?_getD, h]

/-- The parts behind k steps of a raise. -/
def raiseAt (e d : Int) (l : List Int) (k : Nat) : List Int := (l.take k).map (min · (e + d)) ++ (l.drop k).map (min · e)
theorem raiseAt_length (e d : Int) (l : List Int) (k : Nat) : (raiseAt e d l k).length = l.length := by unfold raiseAt; simp; omega
theorem raiseAt_get (e d : Int) (l : List Int) (k : Nat) (h : k < l.length) : (raiseAt e d l k).getD k 0 = min (l.getD k 0) e := by
  unfold raiseAt
  have hk : ((l.take k).map (min · (e + d))).length = k := by simp; omega
  rw [List.getD_eq_getElem?_getD, List.getElem?_append_right (by omega), hk]
  simp [List.getD_eq_getElem?_getD, h]
theorem raiseAt_zero (e d : Int) (l : List Int) : raiseAt e d l 0 = l.map (min · e) := by simp [raiseAt]
theorem raiseAt_all (e d : Int) (l : List Int) : raiseAt e d l l.length = l.map (min · (e + d)) := by simp [raiseAt]
theorem raiseAt_set (e d : Int) (l : List Int) (k : Nat) (h : k < l.length) : (raiseAt e d l k).set k (min (l.getD k 0) (e + d)) = raiseAt e d l (k + 1) := by
  unfold raiseAt
  have hk : ((l.take k).map (min · (e + d))).length = k := by simp; omega
  rw [List.set_append_right _ _ (by omega), hk, Nat.sub_self, List.drop_eq_getElem_cons h, List.map_cons, List.set_cons_zero, List.take_succ_eq_append_getElem h, List.map_append, List.append_assoc]
  congr 1
  simp [List.getD_eq_getElem?_getD, h]
theorem raiseAt_keep (e d : Int) (l : List Int) (k : Nat) (h : k < l.length) (hd : 0 ≤ d) (hk : ¬ e < l.getD k 0) : raiseAt e d l k = raiseAt e d l (k + 1) := by
  unfold raiseAt
  have hg : l.getD k 0 = l[k] := by simp [List.getD_eq_getElem?_getD, h]
  rw [hg] at hk
  rw [List.drop_eq_getElem_cons h, List.map_cons, List.take_succ_eq_append_getElem h, List.map_append, List.append_assoc]
  congr 1
  have : min l[k] e = min l[k] (e + d) := by omega
  simp [this]

/-- What holds of a level at the head of a round. -/
def Round (total : Int) (l : List Int) (e : Int) (round : Nat) : Prop :=
  0 ≤ e ∧ e ≤ 1000000000000 ∧ costF l e ≤ total ∧ (total - costF l e < unsat l e ∨ unsat l e + round ≤ l.length)

theorem round_step {total e : Int} {l : List Int} {round : Nat} (hl : ∀ c ∈ l, 0 ≤ c ∧ c ≤ 1000000000000) (h : Round total l e round) (ho : 0 < unsat l e) :
    let d := min (leastTo l e 1000000000000 l.length) ((total - costF l e) / unsat l e)
    0 ≤ d ∧ (∀ c ∈ l, e < c → e + d ≤ c) ∧ Round total l (e + d) (round + 1) ∧ d ≤ 1000000000000 ∧ d * unsat l e ≤ total - costF l e := by
  obtain ⟨h0, h1, h2, h3⟩ := h
  have hpos := leastTo_pos l e 1000000000000 (by omega) l.length
  have hmax := leastTo_max l e 1000000000000 l.length
  have hq0 : 0 ≤ (total - costF l e) / unsat l e := Int.ediv_nonneg (by omega) (by omega)
  have hqm : (total - costF l e) / unsat l e * unsat l e ≤ total - costF l e := Int.ediv_mul_le _ (by omega)
  have hqlt : total - costF l e < ((total - costF l e) / unsat l e + 1) * unsat l e := Int.lt_ediv_add_one_mul_self _ ho
  have hleast : ∀ c ∈ l, e < c → leastTo l e 1000000000000 l.length ≤ c - e := by
    intro c hc he
    obtain ⟨i, hi, rfl⟩ := List.getElem_of_mem hc
    have hg : l.getD i 0 = l[i] := by simp [List.getD_eq_getElem?_getD, hi]
    have := leastTo_le l e 1000000000000 l.length i hi (by rw [hg]; exact he)
    rwa [hg] at this
  have hex : ∃ c ∈ l, e < c := by
    unfold unsat at ho
    have : 0 < (l.filter (fun c => decide (e < c))).length := by omega
    obtain ⟨c, hc⟩ := List.exists_mem_of_length_pos this
    rw [List.mem_filter] at hc
    exact ⟨c, hc.1, by simpa using hc.2⟩
  intro d
  have hd1 : d ≤ leastTo l e 1000000000000 l.length := Int.min_le_left _ _
  have hd2 : d ≤ (total - costF l e) / unsat l e := Int.min_le_right _ _
  have hd0 : 0 ≤ d := by show 0 ≤ min _ _; omega
  have hle : ∀ c ∈ l, e < c → e + d ≤ c := fun c hc he => by have := hleast c hc he; omega
  have hdu : d * unsat l e ≤ total - costF l e := Int.le_trans (Int.mul_le_mul_of_nonneg_right hd2 (by omega)) hqm
  have hcost := cost_add l e d hd0 hle
  refine ⟨hd0, hle, ⟨by omega, ?_, by omega, ?_⟩, by omega, hdu⟩
  · obtain ⟨c, hc, he⟩ := hex
    have := hle c hc he
    have := (hl c hc).2
    omega
  · by_cases hcase : (total - costF l e) / unsat l e < leastTo l e 1000000000000 l.length
    · left
      have hd : d = (total - costF l e) / unsat l e := by show min _ _ = _; omega
      have hun : unsat l (e + d) = unsat l e := by
        have hm := unsat_mono l (a := e) (b := e + d) (by omega)
        have hm2 : unsat l e ≤ unsat l (e + d) := by
          have key : ∀ l' : List Int, (∀ c ∈ l', e < c → e + d < c) → unsat l' e ≤ unsat l' (e + d) := by
            intro l'
            induction l' with
            | nil => intro _; exact Int.le_refl _
            | cons c l' ih =>
              intro hh
              have h1 := hh c (by simp)
              have h2 := ih (fun x hx => hh x (by simp [hx]))
              rw [unsat_cons, unsat_cons]
              by_cases hc : e < c
              · rw [if_pos hc, if_pos (h1 hc)]; omega
              · rw [if_neg hc]; split <;> omega
          exact key l (fun c hc he => by have := hleast c hc he; omega)
        omega
      rw [hcost, hun, hd]
      have : ((total - costF l e) / unsat l e + 1) * unsat l e = (total - costF l e) / unsat l e * unsat l e + unsat l e := by rw [Int.add_mul, Int.one_mul]
      omega
    · rcases h3 with h3 | h3
      · exfalso
        have : (total - costF l e) / unsat l e = 0 := Int.ediv_eq_zero_of_lt (by omega) h3
        omega
      · right
        have hd : d = leastTo l e 1000000000000 l.length := by show min _ _ = _; omega
        have hat : ∃ c ∈ l, e < c ∧ c ≤ e + d := by
          rcases leastTo_at l e 1000000000000 l.length with h4 | ⟨i, h4, h5, h6⟩
          · obtain ⟨c, hc, he⟩ := hex
            exact ⟨c, hc, he, by have := (hl c hc).2; omega⟩
          · have hg : l.getD i 0 = l[i] := by simp [List.getD_eq_getElem?_getD, h4]
            exact ⟨l[i], List.getElem_mem h4, by rw [← hg]; exact h5, by rw [← hg]; omega⟩
        have := unsat_lt l (a := e) (b := e + d) (by omega) hat
        omega
end Go.Proofs.Share
namespace Go.Proofs.Share
set_option linter.unusedVariables false
set_option linter.unusedSimpArgs false

theorem sumL_le {p q : List Int} (hl : p.length = q.length) (h : ∀ i, i < p.length → p.getD i 0 ≤ q.getD i 0) : sumL p ≤ sumL q := by
  by_cases e : p = q
  · rw [e]; exact Int.le_refl _
  · exact Int.le_of_lt (sum_lt hl h e)

theorem exists_lt {p q : List Int} (hl : p.length = q.length) (hs : sumL p ≤ sumL q) {i : Nat} (hi : i < p.length) (h : q.getD i 0 < p.getD i 0) : ∃ j, j < p.length ∧ p.getD j 0 < q.getD j 0 := by
  apply Classical.byContradiction
  intro hn
  have hle : ∀ j, j < q.length → q.getD j 0 ≤ p.getD j 0 := fun j hj => by
    apply Classical.byContradiction
    intro h2
    exact hn ⟨j, by omega, by omega⟩
  have := sum_lt hl.symm hle (fun e => by rw [e] at h; omega)
  omega

theorem DF.mono {t m : Int} {l a b : List Int} (ha : DF t l a) (hb : DF (t + m) l b) (hm : 0 ≤ m) : ∀ i, i < l.length → a.getD i 0 ≤ b.getD i 0 := by
  intro i hi
  apply Classical.byContradiction
  intro hn
  have h1 := ha.sum
  have h2 := hb.sum
  have e1 := ha.len
  have e2 := hb.len
  obtain ⟨j, hj, hlt⟩ := exists_lt (p := a) (q := b) (by omega) (by omega) (i := i) (by omega) (by omega)
  have hj' : j < l.length := by omega
  have := ha.hi i hi
  have := hb.hi j hj'
  have f1 := ha.fair i j hi hj' (by omega)
  have f2 := hb.fair j i hj' hi (by omega)
  omega

theorem getD_set (l : List Int) (k : Nat) (x : Int) (i : Nat) (hk : k < l.length) : (l.set k x).getD i 0 = if i = k then x else l.getD i 0 := by
  simp only [List.getD_eq_getElem?_getD, List.getElem?_set]
  split
  · subst_vars; simp [hk]
  · rw [if_neg (by omega)]

theorem sumL_set (l : List Int) (k : Nat) (m : Int) (hk : k < l.length) : sumL (l.set k (l.getD k 0 + m)) = sumL l + m := by
  induction l generalizing k with
  | nil => simp at hk
  | cons c l ih =>
    cases k with
    | zero => simp [sumL]; omega
    | succ k => simp only [List.length_cons] at hk; have := ih k (by omega); simp only [List.set_cons_succ, sumL, List.getD_cons_succ]; omega

theorem DF.more {t m : Int} {l a c : List Int} {k : Nat} (hk : k < l.length) (hm : 0 ≤ m) (ha : DF t l a) (hc : DF t (l.set k (l.getD k 0 + m)) c) :
    a.getD k 0 ≤ c.getD k 0 ∧ ∀ i, i < l.length → i ≠ k → c.getD i 0 ≤ a.getD i 0 := by
  have hx : ∀ i, (l.set k (l.getD k 0 + m)).getD i 0 = if i = k then l.getD k 0 + m else l.getD i 0 := fun i => getD_set l k _ i hk
  have hxl : (l.set k (l.getD k 0 + m)).length = l.length := by simp
  have e1 := ha.len
  have e2 := hc.len
  have s1 := ha.sum
  have s2 := hc.sum
  rw [sumL_set l k m hk] at s2
  have cHi : ∀ i, i < l.length → c.getD i 0 ≤ if i = k then l.getD k 0 + m else l.getD i 0 := fun i hi => by
    have := hc.hi i (by omega); rwa [hx] at this
  have cF : ∀ i j, i < l.length → j < l.length → c.getD j 0 < (if j = k then l.getD k 0 + m else l.getD j 0) → c.getD i 0 ≤ c.getD j 0 ∨ (c.getD i 0 = c.getD j 0 + 1 ∧ i < j) := fun i j hi hj h => by
    have := hc.fair i j (by omega) (by omega)
    rw [hx] at this
    exact this h
  constructor
  · apply Classical.byContradiction
    intro hn
    obtain ⟨j, hj, hlt⟩ := exists_lt (p := a) (q := c) (by omega) (by omega) (i := k) (by omega) (by omega)
    have hj' : j < l.length := by omega
    have hjk : j ≠ k := fun e => by subst e; omega
    have h1 := cHi j hj'
    rw [if_neg hjk] at h1
    have h2 := ha.hi k hk
    have f1 := ha.fair k j hk hj' (by omega)
    have f2 := cF j k hj' hk (by rw [if_pos rfl]; omega)
    omega
  · intro i hi hik
    apply Classical.byContradiction
    intro hn
    have h1 := cHi i hi
    rw [if_neg hik] at h1
    have hne : a ≠ l := fun e => by rw [e] at hn; omega
    have hlt := sum_lt ha.len (fun i hi => ha.hi i (by omega)) hne
    obtain ⟨j, hj, hlt⟩ := exists_lt (p := c) (q := a) (by omega) (by omega) (i := i) (by omega) (by omega)
    have hj' : j < l.length := by omega
    have h2 := ha.hi j hj'
    have f1 := ha.fair j i hj' hi (by omega)
    have f2 := cF i j hi hj' (by split <;> first | (subst_vars; omega) | omega)
    omega

def woF (l : List Int) (k : Nat) : List Int := l.take k ++ l.drop (k + 1)
theorem woF_length (l : List Int) (k : Nat) (hk : k < l.length) : (woF l k).length = l.length - 1 := by simp [woF]; omega
theorem woF_getD (l : List Int) (k i : Nat) (hk : k < l.length) : (woF l k).getD i 0 = if i < k then l.getD i 0 else l.getD (i + 1) 0 := by
  simp only [woF, List.getD_eq_getElem?_getD, List.getElem?_append, List.length_take, List.getElem?_take, List.getElem?_drop]
  by_cases h : i < k
  · rw [if_pos (by omega), if_pos h, if_pos h]
  · rw [if_neg (by omega), if_neg h, show k + 1 + (i - min k l.length) = i + 1 from by omega]
theorem sumL_woF (l : List Int) (k : Nat) (hk : k < l.length) : sumL l = sumL (woF l k) + l.getD k 0 := by
  have : l = l.take k ++ (l.getD k 0 :: l.drop (k + 1)) := by
    conv => lhs; rw [← List.take_append_drop k l, List.drop_eq_getElem_cons hk]
    simp [List.getD_eq_getElem?_getD, hk]
  conv => lhs; rw [this]
  rw [woF, sumL_append, sumL_append]
  simp only [sumL]
  omega

theorem DF.without {t : Int} {l a : List Int} {k : Nat} (hk : k < l.length) (h : DF t l a) : DF (t - a.getD k 0) (woF l k) (woF a k) := by
  have e := h.len
  have hka : k < a.length := by omega
  have l1 := woF_length l k hk
  have l2 := woF_length a k hka
  have s1 := sumL_woF l k hk
  have s2 := sumL_woF a k hka
  have s3 := h.sum
  have hle : sumL (woF a k) ≤ sumL (woF l k) := sumL_le (by omega) (fun i hi => by
    rw [woF_getD _ _ _ hka, woF_getD _ _ _ hk]
    split
    · exact h.hi i (by omega)
    · exact h.hi (i + 1) (by omega))
  refine ⟨by omega, fun i hi => ?_, fun i hi => ?_, ?_, fun i j hi hj hlt => ?_⟩
  · rw [woF_getD _ _ _ hka]; split
    · exact h.lo i (by omega)
    · exact h.lo (i + 1) (by omega)
  · rw [woF_getD _ _ _ hka, woF_getD _ _ _ hk]; split
    · exact h.hi i (by omega)
    · exact h.hi (i + 1) (by omega)
  · by_cases hal : a = l
    · subst hal; omega
    · have := sum_lt h.len (fun i hi => h.hi i (by omega)) hal
      omega
  · rw [woF_getD _ _ _ hka, woF_getD _ _ _ hk] at hlt
    rw [woF_getD _ _ _ hka, woF_getD _ _ _ hka]
    split at hlt <;> rename_i hj2 <;> simp only [hj2, if_true, if_false] <;> split <;> rename_i hi2
    · have := h.fair i j (by omega) (by omega) hlt; omega
    · have := h.fair (i + 1) j (by omega) (by omega) hlt; omega
    · have := h.fair i (j + 1) (by omega) (by omega) hlt; omega
    · have := h.fair (i + 1) (j + 1) (by omega) (by omega) hlt; omega

/-! The greatest, in the order of the sorted parts. -/
theorem costF_append (a b : List Int) (w : Int) : costF (a ++ b) w = costF a w + costF b w := by unfold costF; rw [List.map_append, sumL_append]
theorem costF_le {p q : List Int} {w : Int} (hl : p.length = q.length) (h : ∀ i, i < p.length → min (p.getD i 0) w ≤ min (q.getD i 0) w) : costF p w ≤ costF q w := by
  refine sumL_le (by simpa using hl) (fun i hi => ?_)
  simp only [List.length_map] at hi
  rw [map_min_get _ _ _ hi, map_min_get _ _ _ (by omega)]
  exact h i hi

theorem DF.great {t m : Int} {l a d : List Int} (hlm : ∀ c ∈ l, 0 ≤ c ∧ c ≤ m) (ht : 0 ≤ t) (hm : 0 ≤ m) (ha : DF t l a) (hd : d.length = l.length) (hi : ∀ i, i < l.length → d.getD i 0 ≤ l.getD i 0) (hs : sumL d = min t (sumL l)) : ∀ w, costF d w ≤ costF a w := by
  obtain ⟨r, h0, h1, h2, h3⟩ := level_ex t l m hm
  obtain ⟨k1, k2⟩ := level_ok hlm ht h0 h1 h2 h3
  have hdf := DF.of_dist (fun c hc => (hlm c hc).1) h0 k1 k2
  have hae := ha.unique hdf
  have hat : ∀ i, i < l.length → a.getD i 0 = min (l.getD i 0) r ∨ (a.getD i 0 = r + 1 ∧ r < l.getD i 0) := fun i hi => by
    rw [hae]
    rcases dist_at r (t - costF l r) l i hi (by omega) with h | h
    · exact .inl h.1
    · exact .inr ⟨h.1, h.2.1⟩
  have e := ha.len
  intro w
  by_cases hw : w ≤ r
  · refine costF_le (by omega) (fun i hi' => ?_)
    have := hat i (by omega)
    have := hi i (by omega)
    omega
  · have e1 : costF a w = sumL a := cost_eq_sum a w (fun c hc => by
      obtain ⟨i, hi', rfl⟩ := List.getElem_of_mem hc
      have := hat i (by omega)
      simp only [List.getD_eq_getElem?_getD, List.getElem?_eq_getElem hi', Option.getD_some] at this
      omega)
    have := cost_le_sum d w
    have := ha.sum
    omega

/-- A list with one more, behind all that are not greater. -/
def insS (x : Int) : List Int → List Int
  | [] => [x]
  | y :: r => if y ≤ x then y :: insS x r else x :: y :: r
theorem insS_at (x : Int) : ∀ (l : List Int) (k : Nat), k ≤ l.length → (∀ i, i < k → l.getD i 0 ≤ x) → (k = l.length ∨ x < l.getD k 0) → l.take k ++ x :: l.drop k = insS x l
  | [], k, hk, _, _ => by simp at hk; subst hk; rfl
  | y :: r, 0, _, _, h => by
    simp only [List.length_cons, List.getD_cons_zero] at h
    simp only [List.take_zero, List.drop_zero, List.nil_append, insS]
    rw [if_neg (by omega)]
  | y :: r, k + 1, hk, h1, h2 => by
    have h0 := h1 0 (by omega)
    simp only [List.getD_cons_zero] at h0
    simp only [insS, if_pos h0, List.take_succ_cons, List.drop_succ_cons, List.cons_append]
    rw [insS_at x r k (by simpa using hk) (fun i hi => by have := h1 (i + 1) (by omega); simpa using this) (by simpa using h2)]
theorem insS_length (x : Int) : ∀ l, (insS x l).length = l.length + 1
  | [] => rfl
  | y :: r => by simp only [insS]; split <;> simp [insS_length x r]
theorem insS_cost (x w : Int) : ∀ l, costF (insS x l) w = min x w + costF l w
  | [] => rfl
  | y :: r => by
    simp only [insS]; split
    · rw [costF_cons, costF_cons, insS_cost x w r]; omega
    · rw [costF_cons]
def Up : List Int → Prop
  | [] => True
  | y :: r => (∀ z ∈ r, y ≤ z) ∧ Up r
theorem insS_mem (x : Int) : ∀ l z, z ∈ insS x l → z = x ∨ z ∈ l
  | [], z, h => by simpa [insS] using h
  | y :: r, z, h => by
    simp only [insS] at h
    split at h
    · rcases List.mem_cons.1 h with h | h
      · exact .inr (by simp [h])
      · rcases insS_mem x r z h with h | h
        · exact .inl h
        · exact .inr (by simp [h])
    · rcases List.mem_cons.1 h with h | h
      · exact .inl h
      · exact .inr h
theorem insS_up (x : Int) : ∀ l, Up l → Up (insS x l)
  | [], _ => ⟨fun z hz => by simp at hz, trivial⟩
  | y :: r, h => by
    simp only [insS]; split
    · exact ⟨fun z hz => by
        rcases insS_mem x r z hz with e | e
        · omega
        · exact h.1 z e, insS_up x r h.2⟩
    · exact ⟨fun z hz => by
        rcases List.mem_cons.1 hz with e | e
        · omega
        · have := h.1 z e; omega, h⟩
def sortF : List Int → List Int := fun l => l.foldl (fun o x => insS x o) []
theorem sortF_snoc (l : List Int) (x : Int) : sortF (l ++ [x]) = insS x (sortF l) := by simp [sortF]
theorem foldl_up : ∀ (l o : List Int), Up o → Up (l.foldl (fun o x => insS x o) o) ∧ (l.foldl (fun o x => insS x o) o).length = l.length + o.length ∧ ∀ w, costF (l.foldl (fun o x => insS x o) o) w = costF l w + costF o w
  | [], o, h => ⟨h, by simp, fun w => by simp [costF, sumL]⟩
  | x :: l, o, h => by
    obtain ⟨a, b, c⟩ := foldl_up l (insS x o) (insS_up x o h)
    refine ⟨a, ?_, fun w => ?_⟩
    · simp only [List.foldl_cons]; rw [b, insS_length, List.length_cons]; omega
    · simp only [List.foldl_cons]; rw [c, insS_cost, costF_cons]; omega
theorem sortF_up (l : List Int) : Up (sortF l) := (foldl_up l [] trivial).1
theorem sortF_length (l : List Int) : (sortF l).length = l.length := by have := (foldl_up l [] trivial).2.1; simpa [sortF] using this
theorem sortF_cost (l : List Int) (w : Int) : costF (sortF l) w = costF l w := by have := (foldl_up l [] trivial).2.2 w; simpa [sortF, costF, sumL] using this

theorem costF_const (w : Int) : ∀ l : List Int, (∀ z ∈ l, w ≤ z) → costF l w = w * l.length
  | [], _ => by simp [costF, sumL]
  | c :: l, h => by
    have := costF_const w l (fun z hz => h z (by simp [hz]))
    have := h c (by simp)
    rw [costF_cons]
    have e : w * ((l.length + 1 : Nat) : Int) = w * (l.length : Int) + w := by rw [Int.natCast_add, Int.mul_add]; simp
    simp only [List.length_cons]
    omega
theorem costF_len (w : Int) : ∀ l : List Int, costF l w ≤ w * l.length
  | [] => by simp [costF, sumL]
  | c :: l => by
    have := costF_len w l
    rw [costF_cons]
    have e : w * ((l.length + 1 : Nat) : Int) = w * (l.length : Int) + w := by rw [Int.natCast_add, Int.mul_add]; simp
    simp only [List.length_cons]
    omega
/-- The first place at which two rising lists part. -/
theorem lex_gt : ∀ (A B : List Int), A.length = B.length → Up A → Up B → (∀ w, costF B w ≤ costF A w) → ∀ j, j < A.length → (∀ i, i < j → A.getD i 0 = B.getD i 0) → A.getD j 0 ≠ B.getD j 0 → B.getD j 0 < A.getD j 0
  | [], _, _, _, _, _, j, hj, _, _ => by simp at hj
  | a :: A, [], hl, _, _, _, _, _, _, _ => by simp at hl
  | a :: A, b :: B, hl, hA, hB, hc, 0, _, _, hne => by
    simp only [List.getD_cons_zero] at hne ⊢
    apply Classical.byContradiction
    intro hn
    have h := hc (a + 1)
    rw [costF_cons, costF_cons] at h
    have h1 := costF_const (a + 1) B (fun z hz => by have := hB.1 z hz; omega)
    have h2 := costF_len (a + 1) A
    simp only [List.length_cons] at hl
    have : (A.length : Int) = B.length := by omega
    rw [this] at h2
    omega
  | a :: A, b :: B, hl, hA, hB, hc, j + 1, hj, hi, hne => by
    have h0 := hi 0 (by omega)
    simp only [List.getD_cons_zero] at h0
    subst h0
    simp only [List.getD_cons_succ] at hne ⊢
    refine lex_gt A B (by simpa using hl) hA.2 hB.2 (fun w => ?_) j (by simpa using hj) (fun i hi' => by have := hi (i + 1) (by omega); simpa using this) hne
    have := hc w
    rw [costF_cons, costF_cons] at this
    omega
end Go.Proofs.Share
