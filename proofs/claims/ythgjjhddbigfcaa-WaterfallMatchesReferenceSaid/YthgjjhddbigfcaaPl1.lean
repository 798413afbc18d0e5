/- Part of a proof about the given program: contracts of its functions (see the comment of the last text). -/
set_option linter.unusedSimpArgs false
set_option linter.unusedVariables false
namespace Go.Proofs.Share

def sumL : List Int → Int
  | [] => 0
  | x :: r => x + sumL r
theorem ZCr (a b : List Int) : sumL (a ++ b) = sumL a + sumL b := by
  induction a with
  | nil => simp [sumL]
  | cons x r ih => simp [sumL, ih]; omega
def costF (l : List Int) (e : Int) : Int := sumL (l.map (min · e))
def unsat (l : List Int) (e : Int) : Int := (l.filter (fun c => decide (e < c))).length
theorem ZAZ (c : Int) (l : List Int) (e : Int) : unsat (c :: l) e = (if e < c then 1 else 0) + unsat l e := by
  unfold unsat
  by_cases h : e < c
  · simp [List.filter_cons, h]; omega
  · simp [List.filter_cons, h]
theorem ZAn (l : List Int) (e : Int) : 0 ≤ unsat l e := by unfold unsat; omega
theorem ZAz (c : Int) (l : List Int) (e : Int) : costF (c :: l) e = min c e + costF l e := rfl
theorem ZEA (l : List Int) (e : Int) : costF l (e + 1) = costF l e + unsat l e := by
  induction l with
  | nil => rfl
  | cons c l ih =>
    rw [ZAz, ZAz, ZAZ, ih]
    split <;> omega
theorem ZH2 (l : List Int) {a b : Int} (h : a ≤ b) : costF l a ≤ costF l b := by
  induction l with
  | nil => exact Int.le_refl _
  | cons c l ih => rw [ZAz, ZAz]; omega
theorem ZGN (l : List Int) (e : Int) : costF l e ≤ sumL l := by
  induction l with
  | nil => exact Int.le_refl _
  | cons c l ih => rw [ZAz, sumL]; omega
theorem ZGO (l : List Int) (e : Int) (h : ∀ c ∈ l, c ≤ e) : costF l e = sumL l := by
  induction l with
  | nil => rfl
  | cons c l ih =>
    have := h c (by simp)
    rw [ZAz, sumL, ih (fun x hx => h x (by simp [hx]))]; omega

def dist (e : Int) : Int → List Int → List Int
  | _, [] => []
  | left, c :: r => if e < c ∧ 0 < left then (e + 1) :: dist e (left - 1) r else min c e :: dist e left r
theorem ZBk (e : Int) : ∀ (left : Int) (l : List Int), (dist e left l).length = l.length
  | _, [] => rfl
  | left, c :: r => by
    simp only [dist]
    split <;> simp [ZBk]
theorem ZF0 (e : Int) (left : Int) (h : left ≤ 0) : ∀ l : List Int, dist e left l = l.map (min · e)
  | [] => rfl
  | c :: r => by
    simp only [dist, List.map_cons]
    rw [if_neg (by omega), ZF0 e left h r]

structure DF (total : Int) (l p : List Int) : Prop where
  len : p.length = l.length
  lo : ∀ i, i < l.length → 0 ≤ p.getD i 0
  hi : ∀ i, i < l.length → p.getD i 0 ≤ l.getD i 0
  sum : sumL p = min total (sumL l)
  fair : ∀ i k, i < l.length → k < l.length → p.getD k 0 < l.getD k 0 → p.getD i 0 ≤ p.getD k 0 ∨ (p.getD i 0 = p.getD k 0 + 1 ∧ i < k)

theorem sum_lt {p q : List Int} (hl : p.length = q.length) (hle : ∀ i, i < p.length → p.getD i 0 ≤ q.getD i 0) (hne : p ≠ q) : sumL p < sumL q := by
  induction p generalizing q with
  | nil => cases q with
    | nil => exact absurd rfl hne
    | cons _ _ => simp at hl
  | cons x p ih =>
    cases q with
    | nil => simp at hl
    | cons y q =>
      have h0 := hle 0 (by simp)
      simp at h0
      have hr : ∀ i, i < p.length → p.getD i 0 ≤ q.getD i 0 := fun i hi => by have := hle (i + 1) (by simpa using hi); simpa using this
      have hl' : p.length = q.length := by simpa using hl
      simp only [sumL]
      by_cases e : p = q
      · subst e
        have : x ≠ y := fun e => hne (by rw [e])
        omega
      · have := ih hl' hr e
        omega

theorem DF.unique {total : Int} {l p q : List Int} (hp : DF total l p) (hq : DF total l q) : p = q := by
  have hl : p.length = q.length := by rw [hp.len, hq.len]
  by_cases e : p = q
  · exact e
  exfalso
  have h1 : ∃ i, i < l.length ∧ p.getD i 0 < q.getD i 0 := by
    by_cases h : ∃ i, i < l.length ∧ p.getD i 0 < q.getD i 0
    · exact h
    · exfalso
      have := sum_lt hl.symm (fun i hi => by
        rw [hq.len] at hi
        rcases Int.lt_or_le (p.getD i 0) (q.getD i 0) with h2 | h2
        · exact absurd ⟨i, hi, h2⟩ h
        · exact h2) (Ne.symm e)
      rw [hp.sum, hq.sum] at this; omega
  have h2 : ∃ k, k < l.length ∧ q.getD k 0 < p.getD k 0 := by
    by_cases h : ∃ k, k < l.length ∧ q.getD k 0 < p.getD k 0
    · exact h
    · exfalso
      have := sum_lt hl (fun i hi => by
        rw [hp.len] at hi
        rcases Int.lt_or_le (q.getD i 0) (p.getD i 0) with h2 | h2
        · exact absurd ⟨i, hi, h2⟩ h
        · exact h2) e
      rw [hp.sum, hq.sum] at this; omega
  obtain ⟨i, hi, h1⟩ := h1
  obtain ⟨k, hk, h2⟩ := h2
  have := hq.hi i hi
  have := hp.hi k hk
  rcases hp.fair k i hk hi (by omega) with h3 | ⟨h3, h4⟩ <;> rcases hq.fair i k hi hk (by omega) with h5 | ⟨h5, h6⟩ <;> omega

theorem ZFQ (e : Int) : ∀ (left : Int) (l : List Int), 0 ≤ left → sumL (dist e left l) = costF l e + min left (unsat l e)
  | left, [], h => by simp [dist, sumL, costF, unsat]; omega
  | left, c :: r, h => by
    rw [ZAz, ZAZ]
    simp only [dist]
    split
    · rename_i h1
      rw [sumL, ZFQ e (left - 1) r (by omega), if_pos h1.1]
      have := ZAn r e
      omega
    · rename_i h1
      rw [sumL, ZFQ e left r h]
      have := ZAn r e
      split <;> omega

theorem ZDP (e : Int) : ∀ (left : Int) (l : List Int) (i : Nat), i < l.length → 0 ≤ left →
    ((dist e left l).getD i 0 = min (l.getD i 0) e ∧ (e < l.getD i 0 → unsat (l.take i) e ≥ left)) ∨ ((dist e left l).getD i 0 = e + 1 ∧ e < l.getD i 0 ∧ unsat (l.take i) e < left)
  | left, [], i, hi, _ => by simp at hi
  | left, c :: r, 0, _, h => by
    simp only [dist]
    split
    · rename_i h1; right; simp [unsat]; omega
    · rename_i h1; left; simp [unsat]; omega
  | left, c :: r, i + 1, hi, h => by
    have hi' : i < r.length := by simpa using hi
    simp only [dist]
    split
    · rename_i h1
      have ih := ZDP e (left - 1) r i hi' (by omega)
      simp only [List.getD_cons_succ, List.take_succ_cons]
      rw [ZAZ, if_pos h1.1]
      rcases ih with ⟨a, b⟩ | ⟨a, b, c⟩
      · left; exact ⟨a, fun hh => by have := b hh; omega⟩
      · right; exact ⟨a, b, by omega⟩
    · rename_i h1
      have ih := ZDP e left r i hi' h
      simp only [List.getD_cons_succ, List.take_succ_cons]
      rw [ZAZ]
      have := ZAn (r.take i) e
      rcases ih with ⟨a, b⟩ | ⟨a, b, c⟩
      · left; exact ⟨a, fun hh => by have := b hh; split <;> omega⟩
      · right; exact ⟨a, b, by split <;> omega⟩

theorem ZBl (l : List Int) (e : Int) {i k : Nat} (h : i ≤ k) : unsat (l.take i) e ≤ unsat (l.take k) e := by
  induction l generalizing i k with
  | nil => simp
  | cons c l ih =>
    cases i with
    | zero => simp only [List.take_zero]; exact ZAn _ _
    | succ i =>
      cases k with
      | zero => omega
      | succ k => simp only [List.take_succ_cons]; rw [ZAZ, ZAZ]; have := ih (i := i) (k := k) (by omega); omega
theorem ZFR (l : List Int) (e : Int) (i : Nat) : unsat (l.take i) e ≤ unsat l e := by
  by_cases h : i ≤ l.length
  · have := ZBl l e h; simpa using this
  · rw [List.take_of_length_le (by omega)]; exact Int.le_refl _

theorem ZCG : ∀ (l : List Int), (∀ c ∈ l, 0 ≤ c) → 0 ≤ sumL l
  | [], _ => by simp [sumL]
  | c :: r, h => by have h1 := h c (by simp); have := ZCG r (fun x hx => h x (by simp [hx])); simp only [sumL]; omega

theorem DF.of_dist {total e : Int} {l : List Int} (hl : ∀ c ∈ l, 0 ≤ c) (he : 0 ≤ e) (hc : costF l e ≤ total) (hu : total - costF l e < unsat l e ∨ unsat l e = 0) : DF total l (dist e (total - costF l e) l) := by
  have h0 : 0 ≤ total - costF l e := by omega
  have hmem : ∀ i, i < l.length → 0 ≤ l.getD i 0 := fun i hi => hl _ (by simp [List.getD_eq_getElem?_getD, hi])
  refine ⟨ZBk _ _ _, fun i hi => ?_, fun i hi => ?_, ?_, fun i k hi hk hlt => ?_⟩
  · have := hmem i hi
    rcases ZDP e _ l i hi h0 with ⟨a, _⟩ | ⟨a, _, _⟩ <;> rw [a] <;> omega
  · rcases ZDP e _ l i hi h0 with ⟨a, _⟩ | ⟨a, _, _⟩ <;> rw [a] <;> omega
  · rw [ZFQ _ _ _ h0]
    have h1 := ZEA l e
    have h2 := ZGN l (e + 1)
    rcases hu with hu | hu
    · omega
    · have h3 : costF l e = sumL l := by
        apply ZGO
        intro c hc
        rcases Int.lt_or_le e c with h | h
        · exfalso
          have : 0 < (l.filter (fun c => decide (e < c))).length := List.length_pos_of_mem (List.mem_filter.2 ⟨hc, by simpa using h⟩)
          unfold unsat at hu; omega
        · exact h
      omega
  · rcases ZDP e _ l k hk h0 with ⟨a, b⟩ | ⟨a, b, c⟩ <;> rcases ZDP e _ l i hi h0 with ⟨a', b'⟩ | ⟨a', b', c'⟩ <;> rw [a] at hlt ⊢ <;> rw [a']
    · left; omega
    · have hek : e < l.getD k 0 := by omega
      have := b hek
      have hik : i < k := by
        rcases Nat.lt_or_ge i k with h | h
        · exact h
        · have := ZBl l e h; omega
      by_cases hh : min (l.getD k 0) e = e
      · right; omega
      · omega
    · left; omega
    · left; omega
end Go.Proofs.Share
namespace Go.Proofs.Share

theorem ZF1 (q : Nat → Bool) (hq : ∀ i j, i ≤ j → q i = true → q j = true) : ∀ m : Nat, ∃ r, r ≤ m ∧ (∀ i, i < r → q i = false) ∧ (∀ i, r ≤ i → i < m → q i = true)
  | 0 => ⟨0, Nat.le_refl _, fun i h => by omega, fun i h1 h2 => by omega⟩
  | m + 1 => by
    obtain ⟨r, h1, h2, h3⟩ := ZF1 q hq m
    by_cases e : r = m
    · subst e
      cases hr : q r
      · exact ⟨r + 1, Nat.le_refl _, fun i hi => by
          by_cases e : i = r
          · rw [e]; exact hr
          · exact h2 i (by omega), fun i h4 h5 => by omega⟩
      · exact ⟨r, by omega, h2, fun i h4 h5 => by
          have : i = r := by omega
          rw [this]; exact hr⟩
    · exact ⟨r, by omega, h2, fun i h4 h5 => hq r i h4 (h3 r (Nat.le_refl _) (by omega))⟩

theorem ZGs (total : Int) (l : List Int) (m : Int) (hm : 0 ≤ m) : ∃ r, 0 ≤ r ∧ r ≤ m ∧ (∀ i, 0 ≤ i → i < r → costF l (i + 1) ≤ total) ∧ (∀ i, r ≤ i → i < m → total < costF l (i + 1)) := by
  obtain ⟨r, h1, h2, h3⟩ := ZF1 (fun i => decide (total < costF l ((i : Int) + 1))) (fun i j hij h => by
    have := ZH2 l (a := (i : Int) + 1) (b := (j : Int) + 1) (by omega)
    simp at h ⊢; omega) m.toNat
  refine ⟨r, by omega, by omega, fun i h4 h5 => ?_, fun i h4 h5 => ?_⟩
  · have := h2 i.toNat (by omega)
    simp at this
    rwa [show max i 0 = i from by omega] at this
  · have := h3 i.toNat (by omega) (by omega)
    simp at this
    rwa [show max i 0 = i from by omega] at this

theorem ZEC (l : List Int) (h : ∀ c ∈ l, 0 ≤ c) : costF l 0 = 0 := by
  induction l with
  | nil => rfl
  | cons c l ih =>
    have := h c (by simp)
    rw [ZAz, ih (fun x hx => h x (by simp [hx]))]; omega
theorem ZEl (l : List Int) (e : Int) (h : ∀ c ∈ l, c ≤ e) : unsat l e = 0 := by
  induction l with
  | nil => rfl
  | cons c l ih =>
    have := h c (by simp)
    rw [ZAZ, ih (fun x hx => h x (by simp [hx])), if_neg (by omega)]; rfl

theorem ZGt {total m r : Int} {l : List Int} (hl : ∀ c ∈ l, 0 ≤ c ∧ c ≤ m) (ht : 0 ≤ total) (h0 : 0 ≤ r) (hm : r ≤ m) (h1 : ∀ i, 0 ≤ i → i < r → costF l (i + 1) ≤ total) (h2 : ∀ i, r ≤ i → i < m → total < costF l (i + 1)) :
    costF l r ≤ total ∧ (total - costF l r < unsat l r ∨ unsat l r = 0) := by
  constructor
  · by_cases e : r = 0
    · rw [e, ZEC l (fun c hc => (hl c hc).1)]; exact ht
    · have := h1 (r - 1) (by omega) (by omega)
      rwa [show r - 1 + 1 = r from by omega] at this
  · by_cases e : r < m
    · have := h2 r (Int.le_refl _) e
      rw [ZEA] at this
      left; omega
    · right
      exact ZEl l r (fun c hc => by have := (hl c hc).2; omega)

theorem DF.ex {total m : Int} {l : List Int} (hl : ∀ c ∈ l, 0 ≤ c ∧ c ≤ m) (ht : 0 ≤ total) (hm : 0 ≤ m) : ∃ p, DF total l p := by
  obtain ⟨r, h0, h1, h2, h3⟩ := ZGs total l m hm
  obtain ⟨h4, h5⟩ := ZGt hl ht h0 h1 h2 h3
  exact ⟨_, DF.of_dist (fun c hc => (hl c hc).1) h0 h4 h5⟩

theorem ZJL (l : List Int) (f : Int → Int) (k : Nat) (h : k < l.length) : ((l.take k).map f ++ List.replicate (l.length - k) 0).set k (f (l.getD k 0)) = (l.take (k + 1)).map f ++ List.replicate (l.length - (k + 1)) 0 := by
  have hk : ((l.take k).map f).length = k := by simp; omega
  rw [show l.length - k = (l.length - (k + 1)) + 1 from by omega, List.replicate_succ, List.set_append_right _ _ (by omega), hk, Nat.sub_self, List.set_cons_zero, List.take_succ_eq_append_getElem h, List.map_append, List.append_assoc]
  congr 1
  simp [List.getD_eq_getElem?_getD, h]

theorem ZCV (a b : List Int) (e : Int) : unsat (a ++ b) e = unsat a e + unsat b e := by
  unfold unsat; simp
theorem ZBm (e : Int) : ∀ (a b : List Int) (left : Int), 0 ≤ left → dist e left (a ++ b) = dist e left a ++ dist e (left - min left (unsat a e)) b
  | [], b, left, h => by simp [dist, unsat, Int.min_eq_right h]
  | c :: a, b, left, h => by
    have hn := ZAn a e
    simp only [List.cons_append, dist]
    rw [ZAZ]
    split
    · rename_i h1
      rw [ZBm e a b (left - 1) (by omega), if_pos h1.1, List.cons_append]
      congr 3; omega
    · rename_i h1
      rw [ZBm e a b left h, List.cons_append]
      congr 3
      split <;> omega

def partsAt (e left : Int) (l : List Int) (i : Nat) : List Int := dist e left (l.take i) ++ (l.drop i).map (min · e)
def leftAt (e left : Int) (l : List Int) (i : Nat) : Int := left - min left (unsat (l.take i) e)
theorem ZBw (e left : Int) (l : List Int) (i : Nat) : (partsAt e left l i).length = l.length := by
  unfold partsAt; simp [ZBk]; omega
theorem ZED (e left : Int) (l : List Int) (i : Nat) (h : i < l.length) : (partsAt e left l i).getD i 0 = min (l.getD i 0) e := by
  unfold partsAt
  have hd : (dist e left (l.take i)).length = i := by rw [ZBk]; simp; omega
  rw [List.getD_eq_getElem?_getD, List.getElem?_append_right (by omega), hd]
  simp [List.getD_eq_getElem?_getD, h]
theorem ZDF (e left : Int) (l : List Int) (i : Nat) (_h : 0 ≤ left) : 0 ≤ leftAt e left l i := by unfold leftAt; omega
theorem ZF2 (e left : Int) (l : List Int) (i : Nat) (h : 0 ≤ left) : leftAt e left l i ≤ left := by unfold leftAt; have := ZAn (l.take i) e; omega
theorem ZBX (e left : Int) (l : List Int) (i : Nat) (h : 0 ≤ left) (h0 : leftAt e left l i ≤ 0 ∨ l.length ≤ i) : partsAt e left l i = dist e left l := by
  conv => rhs; rw [← List.take_append_drop i l]
  rw [ZBm e _ _ _ h]
  unfold partsAt
  congr 1
  rcases h0 with h0 | h0
  · rw [ZF0]; exact h0
  · rw [List.drop_eq_nil_of_le h0]; rfl
theorem ZDb (e left : Int) (l : List Int) (i : Nat) (h : i < l.length) (hl : 0 ≤ left) (h1 : 0 < leftAt e left l i) (h2 : e < l.getD i 0) : (partsAt e left l i).set i (e + 1) = partsAt e left l (i + 1) ∧ leftAt e left l (i + 1) = leftAt e left l i - 1 := by
  have hd : (dist e left (l.take i)).length = i := by rw [ZBk]; simp; omega
  have hg : l.getD i 0 = l[i] := by simp [List.getD_eq_getElem?_getD, h]
  rw [hg] at h2
  constructor
  · unfold partsAt
    rw [List.set_append_right _ _ (by omega), hd, Nat.sub_self, List.drop_eq_getElem_cons h, List.map_cons, List.set_cons_zero, List.take_succ_eq_append_getElem h, ZBm e _ _ _ hl]
    have : dist e (left - min left (unsat (l.take i) e)) [l[i]] = [e + 1] := by
      simp only [dist]; unfold leftAt at h1; rw [if_pos ⟨h2, h1⟩]
    rw [this]; simp
  · unfold leftAt at h1 ⊢
    rw [List.take_succ_eq_append_getElem h, ZCV]
    have : unsat [l[i]] e = 1 := by rw [ZAZ, if_pos h2]; rfl
    omega
theorem ZDc (e left : Int) (l : List Int) (i : Nat) (h : i < l.length) (hl : 0 ≤ left) (h2 : ¬ e < l.getD i 0) : partsAt e left l i = partsAt e left l (i + 1) ∧ leftAt e left l (i + 1) = leftAt e left l i := by
  have hg : l.getD i 0 = l[i] := by simp [List.getD_eq_getElem?_getD, h]
  rw [hg] at h2
  constructor
  · unfold partsAt
    rw [List.drop_eq_getElem_cons h, List.map_cons, List.take_succ_eq_append_getElem h, ZBm e _ _ _ hl]
    have : dist e (left - min left (unsat (l.take i) e)) [l[i]] = [min l[i] e] := by
      simp only [dist]; rw [if_neg (fun hh => h2 hh.1)]
    rw [this]; simp
  · unfold leftAt
    rw [List.take_succ_eq_append_getElem h, ZCV]
    have : unsat [l[i]] e = 0 := by rw [ZAZ, if_neg h2]; rfl
    omega
end Go.Proofs.Share
namespace Go.Proofs.Share

def leastTo (l : List Int) (e m : Int) : Nat → Int
  | 0 => m
  | k + 1 => if e < l.getD k 0 then min (leastTo l e m k) (l.getD k 0 - e) else leastTo l e m k
theorem ZEp (l : List Int) (e m : Int) : ∀ k i, i < k → e < l.getD i 0 → leastTo l e m k ≤ l.getD i 0 - e
  | 0, i, h, _ => by omega
  | k + 1, i, h, he => by
    simp only [leastTo]
    by_cases hi : i = k
    · subst hi; rw [if_pos he]; omega
    · have := ZEp l e m k i (by omega) he
      split <;> omega
theorem ZCu (l : List Int) (e m : Int) (hm : 1 ≤ m) : ∀ k, 1 ≤ leastTo l e m k
  | 0 => hm
  | k + 1 => by
    have := ZCu l e m hm k
    simp only [leastTo]
    split <;> omega
theorem ZCv (l : List Int) (e m : Int) : ∀ k, leastTo l e m k ≤ m
  | 0 => Int.le_refl _
  | k + 1 => by
    have := ZCv l e m k
    simp only [leastTo]
    split <;> omega
theorem ZEq (l : List Int) (e m : Int) : ∀ k, leastTo l e m k = m ∨ ∃ i, i < k ∧ e < l.getD i 0 ∧ leastTo l e m k = l.getD i 0 - e
  | 0 => .inl rfl
  | k + 1 => by
    simp only [leastTo]
    rcases ZEq l e m k with h | ⟨i, h1, h2, h3⟩
    · by_cases hk : e < l.getD k 0
      · rw [if_pos hk]
        by_cases h2 : leastTo l e m k ≤ l.getD k 0 - e
        · left; omega
        · right; exact ⟨k, by omega, hk, by omega⟩
      · rw [if_neg hk]; exact .inl h
    · by_cases hk : e < l.getD k 0
      · rw [if_pos hk]
        by_cases h4 : leastTo l e m k ≤ l.getD k 0 - e
        · right; exact ⟨i, by omega, h2, by omega⟩
        · right; exact ⟨k, by omega, hk, by omega⟩
      · rw [if_neg hk]; right; exact ⟨i, by omega, h2, h3⟩

theorem ZEr (l : List Int) {a b : Int} (h : a ≤ b) : unsat l b ≤ unsat l a := by
  induction l with
  | nil => exact Int.le_refl _
  | cons c l ih =>
    rw [ZAZ, ZAZ]
    split <;> split <;> omega
theorem ZJN (l : List Int) {a b : Int} (h : a ≤ b) (hex : ∃ c ∈ l, a < c ∧ c ≤ b) : unsat l b + 1 ≤ unsat l a := by
  induction l with
  | nil => obtain ⟨c, hc, _⟩ := hex; cases hc
  | cons c l ih =>
    rw [ZAZ, ZAZ]
    by_cases hc : a < c ∧ c ≤ b
    · have := ZEr l h
      rw [if_neg (by omega), if_pos hc.1]; omega
    · obtain ⟨x, hx, h1⟩ := hex
      rcases List.mem_cons.1 hx with rfl | hx
      · exact absurd h1 hc
      · have := ih ⟨x, hx, h1⟩
        split <;> split <;> omega
theorem ZGw (l : List Int) (e d : Int) (hd : 0 ≤ d) (h : ∀ c ∈ l, e < c → e + d ≤ c) : costF l (e + d) = costF l e + d * unsat l e := by
  induction l with
  | nil => simp [costF, sumL, unsat]
  | cons c l ih =>
    have h1 := h c (by simp)
    rw [ZAz, ZAz, ZAZ, ih (fun x hx => h x (by simp [hx]))]
    split
    · rename_i hc
      have := h1 hc
      rw [Int.mul_add]; omega
    · rw [Int.zero_add]; omega
theorem ZCW (l : List Int) (e : Int) : unsat l e ≤ l.length := by
  unfold unsat
  have := List.length_filter_le (fun c => decide (e < c)) l
  omega
theorem ZCX (l : List Int) (e : Int) (k : Nat) (h : k < l.length) : unsat (l.take (k + 1)) e = unsat (l.take k) e + (if e < l.getD k 0 then 1 else 0) := by
  rw [List.take_succ_eq_append_getElem h, ZCV]
  have hg : l.getD k 0 = l[k] := by simp [List.getD_eq_getElem?_getD, h]
  rw [hg, ZAZ]
  simp [unsat]
theorem ZGP (l : List Int) (e : Int) (k : Nat) (h : k < l.length) : (l.map (min · e)).getD k 0 = min (l.getD k 0) e := by
  simp [List.getD_eq_getElem?_getD, h]

def raiseAt (e d : Int) (l : List Int) (k : Nat) : List Int := (l.take k).map (min · (e + d)) ++ (l.drop k).map (min · e)
theorem ZEP (e d : Int) (l : List Int) (k : Nat) : (raiseAt e d l k).length = l.length := by unfold raiseAt; simp; omega
theorem ZGQ (e d : Int) (l : List Int) (k : Nat) (h : k < l.length) : (raiseAt e d l k).getD k 0 = min (l.getD k 0) e := by
  unfold raiseAt
  have hk : ((l.take k).map (min · (e + d))).length = k := by simp; omega
  rw [List.getD_eq_getElem?_getD, List.getElem?_append_right (by omega), hk]
  simp [List.getD_eq_getElem?_getD, h]
theorem ZF5 (e d : Int) (l : List Int) : raiseAt e d l 0 = l.map (min · e) := by simp [raiseAt]
theorem ZGR (e d : Int) (l : List Int) : raiseAt e d l l.length = l.map (min · (e + d)) := by simp [raiseAt]
theorem ZGS (e d : Int) (l : List Int) (k : Nat) (h : k < l.length) : (raiseAt e d l k).set k (min (l.getD k 0) (e + d)) = raiseAt e d l (k + 1) := by
  unfold raiseAt
  have hk : ((l.take k).map (min · (e + d))).length = k := by simp; omega
  rw [List.set_append_right _ _ (by omega), hk, Nat.sub_self, List.drop_eq_getElem_cons h, List.map_cons, List.set_cons_zero, List.take_succ_eq_append_getElem h, List.map_append, List.append_assoc]
  congr 1
  simp [List.getD_eq_getElem?_getD, h]
theorem ZF6 (e d : Int) (l : List Int) (k : Nat) (h : k < l.length) (hd : 0 ≤ d) (hk : ¬ e < l.getD k 0) : raiseAt e d l k = raiseAt e d l (k + 1) := by
  unfold raiseAt
  have hg : l.getD k 0 = l[k] := by simp [List.getD_eq_getElem?_getD, h]
  rw [hg] at hk
  rw [List.drop_eq_getElem_cons h, List.map_cons, List.take_succ_eq_append_getElem h, List.map_append, List.append_assoc]
  congr 1
  have : min l[k] e = min l[k] (e + d) := by omega
  simp [this]

def Round (total : Int) (l : List Int) (e : Int) (round : Nat) : Prop :=
  0 ≤ e ∧ e ≤ 1000000000000 ∧ costF l e ≤ total ∧ (total - costF l e < unsat l e ∨ unsat l e + round ≤ l.length)

theorem ZHM {total e : Int} {l : List Int} {round : Nat} (hl : ∀ c ∈ l, 0 ≤ c ∧ c ≤ 1000000000000) (h : Round total l e round) (ho : 0 < unsat l e) :
    let d := min (leastTo l e 1000000000000 l.length) ((total - costF l e) / unsat l e)
    0 ≤ d ∧ (∀ c ∈ l, e < c → e + d ≤ c) ∧ Round total l (e + d) (round + 1) ∧ d ≤ 1000000000000 ∧ d * unsat l e ≤ total - costF l e := by
  obtain ⟨h0, h1, h2, h3⟩ := h
  have hpos := ZCu l e 1000000000000 (by omega) l.length
  have hmax := ZCv l e 1000000000000 l.length
  have hq0 : 0 ≤ (total - costF l e) / unsat l e := Int.ediv_nonneg (by omega) (by omega)
  have hqm : (total - costF l e) / unsat l e * unsat l e ≤ total - costF l e := Int.ediv_mul_le _ (by omega)
  have hqlt : total - costF l e < ((total - costF l e) / unsat l e + 1) * unsat l e := Int.lt_ediv_add_one_mul_self _ ho
  have hleast : ∀ c ∈ l, e < c → leastTo l e 1000000000000 l.length ≤ c - e := by
    intro c hc he
    obtain ⟨i, hi, rfl⟩ := List.getElem_of_mem hc
    have hg : l.getD i 0 = l[i] := by simp [List.getD_eq_getElem?_getD, hi]
    have := ZEp l e 1000000000000 l.length i hi (by rw [hg]; exact he)
    rwa [hg] at this
  have hex : ∃ c ∈ l, e < c := by
    unfold unsat at ho
    have : 0 < (l.filter (fun c => decide (e < c))).length := by omega
    obtain ⟨c, hc⟩ := List.exists_mem_of_length_pos this
    rw [List.mem_filter] at hc
    exact ⟨c, hc.1, by simpa using hc.2⟩
  intro d
  have hd1 : d ≤ leastTo l e 1000000000000 l.length := Int.min_le_left _ _
  have hd2 : d ≤ (total - costF l e) / unsat l e := Int.min_le_right _ _
  have hd0 : 0 ≤ d := by show 0 ≤ min _ _; omega
  have hle : ∀ c ∈ l, e < c → e + d ≤ c := fun c hc he => by have := hleast c hc he; omega
  have hdu : d * unsat l e ≤ total - costF l e := Int.le_trans (Int.mul_le_mul_of_nonneg_right hd2 (by omega)) hqm
  have hcost := ZGw l e d hd0 hle
  refine ⟨hd0, hle, ⟨by omega, ?_, by omega, ?_⟩, by omega, hdu⟩
  · obtain ⟨c, hc, he⟩ := hex
    have := hle c hc he
    have := (hl c hc).2
    omega
  · by_cases hcase : (total - costF l e) / unsat l e < leastTo l e 1000000000000 l.length
    · left
      have hd : d = (total - costF l e) / unsat l e := by show min _ _ = _; omega
      have hun : unsat l (e + d) = unsat l e := by
        have hm := ZEr l (a := e) (b := e + d) (by omega)
        have hm2 : unsat l e ≤ unsat l (e + d) := by
          have key : ∀ l' : List Int, (∀ c ∈ l', e < c → e + d < c) → unsat l' e ≤ unsat l' (e + d) := by
            intro l'
            induction l' with
            | nil => intro _; exact Int.le_refl _
            | cons c l' ih =>
              intro hh
              have h1 := hh c (by simp)
              have h2 := ih (fun x hx => hh x (by simp [hx]))
              rw [ZAZ, ZAZ]
              by_cases hc : e < c
              · rw [if_pos hc, if_pos (h1 hc)]; omega
              · rw [if_neg hc]; split <;> omega
          exact key l (fun c hc he => by have := hleast c hc he; omega)
        omega
      rw [hcost, hun, hd]
      have : ((total - costF l e) / unsat l e + 1) * unsat l e = (total - costF l e) / unsat l e * unsat l e + unsat l e := by rw [Int.add_mul, Int.one_mul]
      omega
    · rcases h3 with h3 | h3
      · exfalso
        have : (total - costF l e) / unsat l e = 0 := Int.ediv_eq_zero_of_lt (by omega) h3
        omega
      · right
        have hd : d = leastTo l e 1000000000000 l.length := by show min _ _ = _; omega
        have hat : ∃ c ∈ l, e < c ∧ c ≤ e + d := by
          rcases ZEq l e 1000000000000 l.length with h4 | ⟨i, h4, h5, h6⟩
          · obtain ⟨c, hc, he⟩ := hex
            exact ⟨c, hc, he, by have := (hl c hc).2; omega⟩
          · have hg : l.getD i 0 = l[i] := by simp [List.getD_eq_getElem?_getD, h4]
            exact ⟨l[i], List.getElem_mem h4, by rw [← hg]; exact h5, by rw [← hg]; omega⟩
        have := ZJN l (a := e) (b := e + d) (by omega) hat
        omega
end Go.Proofs.Share
namespace Go.Proofs.Share
set_option linter.unusedVariables false
set_option linter.unusedSimpArgs false

theorem ZH8 {p q : List Int} (hl : p.length = q.length) (hs : sumL p ≤ sumL q) {i : Nat} (hi : i < p.length) (h : q.getD i 0 < p.getD i 0) : ∃ j, j < p.length ∧ p.getD j 0 < q.getD j 0 := by
  apply Classical.byContradiction
  intro hn
  have hle : ∀ j, j < q.length → q.getD j 0 ≤ p.getD j 0 := fun j hj => by
    apply Classical.byContradiction
    intro h2
    exact hn ⟨j, by omega, by omega⟩
  have := sum_lt hl.symm hle (fun e => by rw [e] at h; omega)
  omega

theorem DF.mono {t m : Int} {l a b : List Int} (ha : DF t l a) (hb : DF (t + m) l b) (hm : 0 ≤ m) : ∀ i, i < l.length → a.getD i 0 ≤ b.getD i 0 := by
  intro i hi
  apply Classical.byContradiction
  intro hn
  have h1 := ha.sum
  have h2 := hb.sum
  have e1 := ha.len
  have e2 := hb.len
  obtain ⟨j, hj, hlt⟩ := ZH8 (p := a) (q := b) (by omega) (by omega) (i := i) (by omega) (by omega)
  have hj' : j < l.length := by omega
  have := ha.hi i hi
  have := hb.hi j hj'
  have f1 := ha.fair i j hi hj' (by omega)
  have f2 := hb.fair j i hj' hi (by omega)
  omega

end Go.Proofs.Share
