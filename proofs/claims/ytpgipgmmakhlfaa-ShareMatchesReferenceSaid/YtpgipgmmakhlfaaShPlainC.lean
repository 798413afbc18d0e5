/- The fairest division: the rounds of the reference. -/
import Derived.Test.YtpgipgmmakhlfaaShPlainB
namespace Go.Proofs.Share

def leastTo (l : List Int) (e m : Int) : Nat → Int
  | 0 => m
  | k + 1 => if e < l.getD k 0 then min (leastTo l e m k) (l.getD k 0 - e) else leastTo l e m k
theorem leastTo_le (l : List Int) (e m : Int) : ∀ k i, i < k → e < l.getD i 0 → leastTo l e m k ≤ l.getD i 0 - e
  | 0, i, h, _ => by omega
  | k + 1, i, h, he => by
    simp only [leastTo]
    by_cases hi : i = k
    · subst hi; rw [if_pos he]; omega
    · have := leastTo_le l e m k i (by omega) he
      split <;> omega
theorem leastTo_pos (l : List Int) (e m : Int) (hm : 1 ≤ m) : ∀ k, 1 ≤ leastTo l e m k
  | 0 => hm
  | k + 1 => by
    have := leastTo_pos l e m hm k
    simp only [leastTo]
    split <;> omega
theorem leastTo_max (l : List Int) (e m : Int) : ∀ k, leastTo l e m k ≤ m
  | 0 => Int.le_refl _
  | k + 1 => by
    have := leastTo_max l e m k
    simp only [leastTo]
    split <;> omega
theorem leastTo_at (l : List Int) (e m : Int) : ∀ k, leastTo l e m k = m ∨ ∃ i, i < k ∧ e < l.getD i 0 ∧ leastTo l e m k = l.getD i 0 - e
  | 0 => .inl rfl
  | k + 1 => by
    simp only [leastTo]
    rcases leastTo_at l e m k with h | ⟨i, h1, h2, h3⟩
    · by_cases hk : e < l.getD k 0
      · rw [if_pos hk]
        by_cases h2 : leastTo l e m k ≤ l.getD k 0 - e
        · left; omega
        · right; exact ⟨k, by omega, hk, by omega⟩
      · rw [if_neg hk]; exact .inl h
    · by_cases hk : e < l.getD k 0
      · rw [if_pos hk]
        by_cases h4 : leastTo l e m k ≤ l.getD k 0 - e
        · right; exact ⟨i, by omega, h2, by omega⟩
        · right; exact ⟨k, by omega, hk, by omega⟩
      · rw [if_neg hk]; right; exact ⟨i, by omega, h2, h3⟩

theorem unsat_mono (l : List Int) {a b : Int} (h : a ≤ b) : unsat l b ≤ unsat l a := by
  induction l with
  | nil => exact Int.le_refl _
  | cons c l ih =>
    rw [unsat_cons, unsat_cons]
    split <;> split <;> omega
theorem unsat_lt (l : List Int) {a b : Int} (h : a ≤ b) (hex : ∃ c ∈ l, a < c ∧ c ≤ b) : unsat l b + 1 ≤ unsat l a := by
  induction l with
  | nil => obtain ⟨c, hc, _⟩ := hex; cases hc
  | cons c l ih =>
    rw [unsat_cons, unsat_cons]
    by_cases hc : a < c ∧ c ≤ b
    · have := unsat_mono l h
      rw [if_neg (by omega), if_pos hc.1]; omega
    · obtain ⟨x, hx, h1⟩ := hex
      rcases List.mem_cons.1 hx with rfl | hx
      · exact absurd h1 hc
      · have := ih ⟨x, hx, h1⟩
        split <;> split <;> omega
theorem cost_add (l : List Int) (e d : Int) (hd : 0 ≤ d) (h : ∀ c ∈ l, e < c → e + d ≤ c) : costF l (e + d) = costF l e + d * unsat l e := by
  induction l with
  | nil => simp [costF, sumL, unsat]
  | cons c l ih =>
    have h1 := h c (by simp)
    rw [costF_cons, costF_cons, unsat_cons, ih (fun x hx => h x (by simp [hx]))]
    split
    · rename_i hc
      have := h1 hc
      rw [Int.mul_add]; omega
    · rw [Int.zero_add]; omega
theorem unsat_le_len (l : List Int) (e : Int) : unsat l e ≤ l.length := by
  unfold unsat
  have := List.length_filter_le (fun c => decide (e < c)) l
  omega
theorem unsat_take_succ (l : List Int) (e : Int) (k : Nat) (h : k < l.length) : unsat (l.take (k + 1)) e = unsat (l.take k) e + (if e < l.getD k 0 then 1 else 0) := by
  rw [List.take_succ_eq_append_getElem h, unsat_append]
  have hg : l.getD k 0 = l[k] := by simp [List.getD_eq_getElem?_getD, h]
  rw [hg, unsat_cons]
  simp [unsat]
theorem map_min_get (l : List Int) (e : Int) (k : Nat) (h : k < l.length) : (l.map (min · e)).getD k 0 = min (l.getD k 0) e := by
  simp [List.getD_eq_getElem?_getD, h]

/-- The parts behind k steps of a raise. -/
def raiseAt (e d : Int) (l : List Int) (k : Nat) : List Int := (l.take k).map (min · (e + d)) ++ (l.drop k).map (min · e)
theorem raiseAt_length (e d : Int) (l : List Int) (k : Nat) : (raiseAt e d l k).length = l.length := by unfold raiseAt; simp; omega
theorem raiseAt_get (e d : Int) (l : List Int) (k : Nat) (h : k < l.length) : (raiseAt e d l k).getD k 0 = min (l.getD k 0) e := by
  unfold raiseAt
  have hk : ((l.take k).map (min · (e + d))).length = k := by simp; omega
  rw [List.getD_eq_getElem?_getD, List.getElem?_append_right (by omega), hk]
  simp [List.getD_eq_getElem?_getD, h]
theorem raiseAt_zero (e d : Int) (l : List Int) : raiseAt e d l 0 = l.map (min · e) := by simp [raiseAt]
theorem raiseAt_all (e d : Int) (l : List Int) : raiseAt e d l l.length = l.map (min · (e + d)) := by simp [raiseAt]
theorem raiseAt_set (e d : Int) (l : List Int) (k : Nat) (h : k < l.length) : (raiseAt e d l k).set k (min (l.getD k 0) (e + d)) = raiseAt e d l (k + 1) := by
  unfold raiseAt
  have hk : ((l.take k).map (min · (e + d))).length = k := by simp; omega
  rw [List.set_append_right _ _ (by omega), hk, Nat.sub_self, List.drop_eq_getElem_cons h, List.map_cons, List.set_cons_zero, List.take_succ_eq_append_getElem h, List.map_append, List.append_assoc]
  congr 1
  simp [List.getD_eq_getElem?_getD, h]
theorem raiseAt_keep (e d : Int) (l : List Int) (k : Nat) (h : k < l.length) (hd : 0 ≤ d) (hk : ¬ e < l.getD k 0) : raiseAt e d l k = raiseAt e d l (k + 1) := by
  unfold raiseAt
  have hg : l.getD k 0 = l[k] := by simp [List.getD_eq_getElem?_getD, h]
  rw [hg] at hk
  rw [List.drop_eq_getElem_cons h, List.map_cons, List.take_succ_eq_append_getElem h, List.map_append, List.append_assoc]
  congr 1
  have : min l[k] e = min l[k] (e + d) := by omega
  simp [this]

/-- What holds of a level at the head of a round. -/
def Round (total : Int) (l : List Int) (e : Int) (round : Nat) : Prop :=
  0 ≤ e ∧ e ≤ 1000000000000 ∧ costF l e ≤ total ∧ (total - costF l e < unsat l e ∨ unsat l e + round ≤ l.length)

theorem round_step {total e : Int} {l : List Int} {round : Nat} (hl : ∀ c ∈ l, 0 ≤ c ∧ c ≤ 1000000000000) (h : Round total l e round) (ho : 0 < unsat l e) :
    let d := min (leastTo l e 1000000000000 l.length) ((total - costF l e) / unsat l e)
    0 ≤ d ∧ (∀ c ∈ l, e < c → e + d ≤ c) ∧ Round total l (e + d) (round + 1) ∧ d ≤ 1000000000000 ∧ d * unsat l e ≤ total - costF l e := by
  obtain ⟨h0, h1, h2, h3⟩ := h
  have hpos := leastTo_pos l e 1000000000000 (by omega) l.length
  have hmax := leastTo_max l e 1000000000000 l.length
  have hq0 : 0 ≤ (total - costF l e) / unsat l e := Int.ediv_nonneg (by omega) (by omega)
  have hqm : (total - costF l e) / unsat l e * unsat l e ≤ total - costF l e := Int.ediv_mul_le _ (by omega)
  have hqlt : total - costF l e < ((total - costF l e) / unsat l e + 1) * unsat l e := Int.lt_ediv_add_one_mul_self _ ho
  have hleast : ∀ c ∈ l, e < c → leastTo l e 1000000000000 l.length ≤ c - e := by
    intro c hc he
    obtain ⟨i, hi, rfl⟩ := List.getElem_of_mem hc
    have hg : l.getD i 0 = l[i] := by simp [List.getD_eq_getElem?_getD, hi]
    have := leastTo_le l e 1000000000000 l.length i hi (by rw [hg]; exact he)
    rwa [hg] at this
  have hex : ∃ c ∈ l, e < c := by
    unfold unsat at ho
    have : 0 < (l.filter (fun c => decide (e < c))).length := by omega
    obtain ⟨c, hc⟩ := List.exists_mem_of_length_pos this
    rw [List.mem_filter] at hc
    exact ⟨c, hc.1, by simpa using hc.2⟩
  intro d
  have hd1 : d ≤ leastTo l e 1000000000000 l.length := Int.min_le_left _ _
  have hd2 : d ≤ (total - costF l e) / unsat l e := Int.min_le_right _ _
  have hd0 : 0 ≤ d := by show 0 ≤ min _ _; omega
  have hle : ∀ c ∈ l, e < c → e + d ≤ c := fun c hc he => by have := hleast c hc he; omega
  have hdu : d * unsat l e ≤ total - costF l e := Int.le_trans (Int.mul_le_mul_of_nonneg_right hd2 (by omega)) hqm
  have hcost := cost_add l e d hd0 hle
  refine ⟨hd0, hle, ⟨by omega, ?_, by omega, ?_⟩, by omega, hdu⟩
  · obtain ⟨c, hc, he⟩ := hex
    have := hle c hc he
    have := (hl c hc).2
    omega
  · by_cases hcase : (total - costF l e) / unsat l e < leastTo l e 1000000000000 l.length
    · left
      have hd : d = (total - costF l e) / unsat l e := by show min _ _ = _; omega
      have hun : unsat l (e + d) = unsat l e := by
        have hm := unsat_mono l (a := e) (b := e + d) (by omega)
        have hm2 : unsat l e ≤ unsat l (e + d) := by
          have key : ∀ l' : List Int, (∀ c ∈ l', e < c → e + d < c) → unsat l' e ≤ unsat l' (e + d) := by
            intro l'
            induction l' with
            | nil => intro _; exact Int.le_refl _
            | cons c l' ih =>
              intro hh
              have h1 := hh c (by simp)
              have h2 := ih (fun x hx => hh x (by simp [hx]))
              rw [unsat_cons, unsat_cons]
              by_cases hc : e < c
              · rw [if_pos hc, if_pos (h1 hc)]; omega
              · rw [if_neg hc]; split <;> omega
          exact key l (fun c hc he => by have := hleast c hc he; omega)
        omega
      rw [hcost, hun, hd]
      have : ((total - costF l e) / unsat l e + 1) * unsat l e = (total - costF l e) / unsat l e * unsat l e + unsat l e := by rw [Int.add_mul, Int.one_mul]
      omega
    · rcases h3 with h3 | h3
      · exfalso
        have : (total - costF l e) / unsat l e = 0 := Int.ediv_eq_zero_of_lt (by omega) h3
        omega
      · right
        have hd : d = leastTo l e 1000000000000 l.length := by show min _ _ = _; omega
        have hat : ∃ c ∈ l, e < c ∧ c ≤ e + d := by
          rcases leastTo_at l e 1000000000000 l.length with h4 | ⟨i, h4, h5, h6⟩
          · obtain ⟨c, hc, he⟩ := hex
            exact ⟨c, hc, he, by have := (hl c hc).2; omega⟩
          · have hg : l.getD i 0 = l[i] := by simp [List.getD_eq_getElem?_getD, h4]
            exact ⟨l[i], List.getElem_mem h4, by rw [← hg]; exact h5, by rw [← hg]; omega⟩
        have := unsat_lt l (a := e) (b := e + d) (by omega) hat
        omega
end Go.Proofs.Share
