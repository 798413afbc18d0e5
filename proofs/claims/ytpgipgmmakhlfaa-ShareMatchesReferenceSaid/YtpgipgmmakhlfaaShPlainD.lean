/- Plain laws of the fairest division: what grows, what is left out, what is greatest. -/
import Derived.Test.YtpgipgmmakhlfaaShPlainC
namespace Go.Proofs.Share
set_option linter.unusedVariables false
set_option linter.unusedSimpArgs false

theorem sumL_le {p q : List Int} (hl : p.length = q.length) (h : ∀ i, i < p.length → p.getD i 0 ≤ q.getD i 0) : sumL p ≤ sumL q := by
  by_cases e : p = q
  · rw [e]; exact Int.le_refl _
  · exact Int.le_of_lt (sum_lt hl h e)

theorem exists_lt {p q : List Int} (hl : p.length = q.length) (hs : sumL p ≤ sumL q) {i : Nat} (hi : i < p.length) (h : q.getD i 0 < p.getD i 0) : ∃ j, j < p.length ∧ p.getD j 0 < q.getD j 0 := by
  apply Classical.byContradiction
  intro hn
  have hle : ∀ j, j < q.length → q.getD j 0 ≤ p.getD j 0 := fun j hj => by
    apply Classical.byContradiction
    intro h2
    exact hn ⟨j, by omega, by omega⟩
  have := sum_lt hl.symm hle (fun e => by rw [e] at h; omega)
  omega

theorem DF.mono {t m : Int} {l a b : List Int} (ha : DF t l a) (hb : DF (t + m) l b) (hm : 0 ≤ m) : ∀ i, i < l.length → a.getD i 0 ≤ b.getD i 0 := by
  intro i hi
  apply Classical.byContradiction
  intro hn
  have h1 := ha.sum
  have h2 := hb.sum
  have e1 := ha.len
  have e2 := hb.len
  obtain ⟨j, hj, hlt⟩ := exists_lt (p := a) (q := b) (by omega) (by omega) (i := i) (by omega) (by omega)
  have hj' : j < l.length := by omega
  have := ha.hi i hi
  have := hb.hi j hj'
  have f1 := ha.fair i j hi hj' (by omega)
  have f2 := hb.fair j i hj' hi (by omega)
  omega

theorem getD_set (l : List Int) (k : Nat) (x : Int) (i : Nat) (hk : k < l.length) : (l.set k x).getD i 0 = if i = k then x else l.getD i 0 := by
  simp only [List.getD_eq_getElem?_getD, List.getElem?_set]
  split
  · subst_vars; simp [hk]
  · rw [if_neg (by omega)]

theorem sumL_set (l : List Int) (k : Nat) (m : Int) (hk : k < l.length) : sumL (l.set k (l.getD k 0 + m)) = sumL l + m := by
  induction l generalizing k with
  | nil => simp at hk
  | cons c l ih =>
    cases k with
    | zero => simp [sumL]; omega
    | succ k => simp only [List.length_cons] at hk; have := ih k (by omega); simp only [List.set_cons_succ, sumL, List.getD_cons_succ]; omega

theorem DF.more {t m : Int} {l a c : List Int} {k : Nat} (hk : k < l.length) (hm : 0 ≤ m) (ha : DF t l a) (hc : DF t (l.set k (l.getD k 0 + m)) c) :
    a.getD k 0 ≤ c.getD k 0 ∧ ∀ i, i < l.length → i ≠ k → c.getD i 0 ≤ a.getD i 0 := by
  have hx : ∀ i, (l.set k (l.getD k 0 + m)).getD i 0 = if i = k then l.getD k 0 + m else l.getD i 0 := fun i => getD_set l k _ i hk
  have hxl : (l.set k (l.getD k 0 + m)).length = l.length := by simp
  have e1 := ha.len
  have e2 := hc.len
  have s1 := ha.sum
  have s2 := hc.sum
  rw [sumL_set l k m hk] at s2
  have cHi : ∀ i, i < l.length → c.getD i 0 ≤ if i = k then l.getD k 0 + m else l.getD i 0 := fun i hi => by
    have := hc.hi i (by omega); rwa [hx] at this
  have cF : ∀ i j, i < l.length → j < l.length → c.getD j 0 < (if j = k then l.getD k 0 + m else l.getD j 0) → c.getD i 0 ≤ c.getD j 0 ∨ (c.getD i 0 = c.getD j 0 + 1 ∧ i < j) := fun i j hi hj h => by
    have := hc.fair i j (by omega) (by omega)
    rw [hx] at this
    exact this h
  constructor
  · apply Classical.byContradiction
    intro hn
    obtain ⟨j, hj, hlt⟩ := exists_lt (p := a) (q := c) (by omega) (by omega) (i := k) (by omega) (by omega)
    have hj' : j < l.length := by omega
    have hjk : j ≠ k := fun e => by subst e; omega
    have h1 := cHi j hj'
    rw [if_neg hjk] at h1
    have h2 := ha.hi k hk
    have f1 := ha.fair k j hk hj' (by omega)
    have f2 := cF j k hj' hk (by rw [if_pos rfl]; omega)
    omega
  · intro i hi hik
    apply Classical.byContradiction
    intro hn
    have h1 := cHi i hi
    rw [if_neg hik] at h1
    have hne : a ≠ l := fun e => by rw [e] at hn; omega
    have hlt := sum_lt ha.len (fun i hi => ha.hi i (by omega)) hne
    obtain ⟨j, hj, hlt⟩ := exists_lt (p := c) (q := a) (by omega) (by omega) (i := i) (by omega) (by omega)
    have hj' : j < l.length := by omega
    have h2 := ha.hi j hj'
    have f1 := ha.fair j i hj' hi (by omega)
    have f2 := cF i j hi hj' (by split <;> first | (subst_vars; omega) | omega)
    omega

def woF (l : List Int) (k : Nat) : List Int := l.take k ++ l.drop (k + 1)
theorem woF_length (l : List Int) (k : Nat) (hk : k < l.length) : (woF l k).length = l.length - 1 := by simp [woF]; omega
theorem woF_getD (l : List Int) (k i : Nat) (hk : k < l.length) : (woF l k).getD i 0 = if i < k then l.getD i 0 else l.getD (i + 1) 0 := by
  simp only [woF, List.getD_eq_getElem?_getD, List.getElem?_append, List.length_take, List.getElem?_take, List.getElem?_drop]
  by_cases h : i < k
  · rw [if_pos (by omega), if_pos h, if_pos h]
  · rw [if_neg (by omega), if_neg h, show k + 1 + (i - min k l.length) = i + 1 from by omega]
theorem sumL_woF (l : List Int) (k : Nat) (hk : k < l.length) : sumL l = sumL (woF l k) + l.getD k 0 := by
  have : l = l.take k ++ (l.getD k 0 :: l.drop (k + 1)) := by
    conv => lhs; rw [← List.take_append_drop k l, List.drop_eq_getElem_cons hk]
    simp [List.getD_eq_getElem?_getD, hk]
  conv => lhs; rw [this]
  rw [woF, sumL_append, sumL_append]
  simp only [sumL]
  omega

theorem DF.without {t : Int} {l a : List Int} {k : Nat} (hk : k < l.length) (h : DF t l a) : DF (t - a.getD k 0) (woF l k) (woF a k) := by
  have e := h.len
  have hka : k < a.length := by omega
  have l1 := woF_length l k hk
  have l2 := woF_length a k hka
  have s1 := sumL_woF l k hk
  have s2 := sumL_woF a k hka
  have s3 := h.sum
  have hle : sumL (woF a k) ≤ sumL (woF l k) := sumL_le (by omega) (fun i hi => by
    rw [woF_getD _ _ _ hka, woF_getD _ _ _ hk]
    split
    · exact h.hi i (by omega)
    · exact h.hi (i + 1) (by omega))
  refine ⟨by omega, fun i hi => ?_, fun i hi => ?_, ?_, fun i j hi hj hlt => ?_⟩
  · rw [woF_getD _ _ _ hka]; split
    · exact h.lo i (by omega)
    · exact h.lo (i + 1) (by omega)
  · rw [woF_getD _ _ _ hka, woF_getD _ _ _ hk]; split
    · exact h.hi i (by omega)
    · exact h.hi (i + 1) (by omega)
  · by_cases hal : a = l
    · subst hal; omega
    · have := sum_lt h.len (fun i hi => h.hi i (by omega)) hal
      omega
  · rw [woF_getD _ _ _ hka, woF_getD _ _ _ hk] at hlt
    rw [woF_getD _ _ _ hka, woF_getD _ _ _ hka]
    split at hlt <;> rename_i hj2 <;> simp only [hj2, if_true, if_false] <;> split <;> rename_i hi2
    · have := h.fair i j (by omega) (by omega) hlt; omega
    · have := h.fair (i + 1) j (by omega) (by omega) hlt; omega
    · have := h.fair i (j + 1) (by omega) (by omega) hlt; omega
    · have := h.fair (i + 1) (j + 1) (by omega) (by omega) hlt; omega

/-! The greatest, in the order of the sorted parts. -/
theorem costF_append (a b : List Int) (w : Int) : costF (a ++ b) w = costF a w + costF b w := by unfold costF; rw [List.map_append, sumL_append]
theorem costF_le {p q : List Int} {w : Int} (hl : p.length = q.length) (h : ∀ i, i < p.length → min (p.getD i 0) w ≤ min (q.getD i 0) w) : costF p w ≤ costF q w := by
  refine sumL_le (by simpa using hl) (fun i hi => ?_)
  simp only [List.length_map] at hi
  rw [map_min_get _ _ _ hi, map_min_get _ _ _ (by omega)]
  exact h i hi

theorem DF.great {t m : Int} {l a d : List Int} (hlm : ∀ c ∈ l, 0 ≤ c ∧ c ≤ m) (ht : 0 ≤ t) (hm : 0 ≤ m) (ha : DF t l a) (hd : d.length = l.length) (hi : ∀ i, i < l.length → d.getD i 0 ≤ l.getD i 0) (hs : sumL d = min t (sumL l)) : ∀ w, costF d w ≤ costF a w := by
  obtain ⟨r, h0, h1, h2, h3⟩ := level_ex t l m hm
  obtain ⟨k1, k2⟩ := level_ok hlm ht h0 h1 h2 h3
  have hdf := DF.of_dist (fun c hc => (hlm c hc).1) h0 k1 k2
  have hae := ha.unique hdf
  have hat : ∀ i, i < l.length → a.getD i 0 = min (l.getD i 0) r ∨ (a.getD i 0 = r + 1 ∧ r < l.getD i 0) := fun i hi => by
    rw [hae]
    rcases dist_at r (t - costF l r) l i hi (by omega) with h | h
    · exact .inl h.1
    · exact .inr ⟨h.1, h.2.1⟩
  have e := ha.len
  intro w
  by_cases hw : w ≤ r
  · refine costF_le (by omega) (fun i hi' => ?_)
    have := hat i (by omega)
    have := hi i (by omega)
    omega
  · have e1 : costF a w = sumL a := cost_eq_sum a w (fun c hc => by
      obtain ⟨i, hi', rfl⟩ := List.getElem_of_mem hc
      have := hat i (by omega)
      simp only [List.getD_eq_getElem?_getD, List.getElem?_eq_getElem hi', Option.getD_some] at this
      omega)
    have := cost_le_sum d w
    have := ha.sum
    omega

/-- A list with one more, behind all that are not greater. -/
def insS (x : Int) : List Int → List Int
  | [] => [x]
  | y :: r => if y ≤ x then y :: insS x r else x :: y :: r
theorem insS_at (x : Int) : ∀ (l : List Int) (k : Nat), k ≤ l.length → (∀ i, i < k → l.getD i 0 ≤ x) → (k = l.length ∨ x < l.getD k 0) → l.take k ++ x :: l.drop k = insS x l
  | [], k, hk, _, _ => by simp at hk; subst hk; rfl
  | y :: r, 0, _, _, h => by
    simp only [List.length_cons, List.getD_cons_zero] at h
    simp only [List.take_zero, List.drop_zero, List.nil_append, insS]
    rw [if_neg (by omega)]
  | y :: r, k + 1, hk, h1, h2 => by
    have h0 := h1 0 (by omega)
    simp only [List.getD_cons_zero] at h0
    simp only [insS, if_pos h0, List.take_succ_cons, List.drop_succ_cons, List.cons_append]
    rw [insS_at x r k (by simpa using hk) (fun i hi => by have := h1 (i + 1) (by omega); simpa using this) (by simpa using h2)]
theorem insS_length (x : Int) : ∀ l, (insS x l).length = l.length + 1
  | [] => rfl
  | y :: r => by simp only [insS]; split <;> simp [insS_length x r]
theorem insS_cost (x w : Int) : ∀ l, costF (insS x l) w = min x w + costF l w
  | [] => rfl
  | y :: r => by
    simp only [insS]; split
    · rw [costF_cons, costF_cons, insS_cost x w r]; omega
    · rw [costF_cons]
def Up : List Int → Prop
  | [] => True
  | y :: r => (∀ z ∈ r, y ≤ z) ∧ Up r
theorem insS_mem (x : Int) : ∀ l z, z ∈ insS x l → z = x ∨ z ∈ l
  | [], z, h => by simpa [insS] using h
  | y :: r, z, h => by
    simp only [insS] at h
    split at h
    · rcases List.mem_cons.1 h with h | h
      · exact .inr (by simp [h])
      · rcases insS_mem x r z h with h | h
        · exact .inl h
        · exact .inr (by simp [h])
    · rcases List.mem_cons.1 h with h | h
      · exact .inl h
      · exact .inr h
theorem insS_up (x : Int) : ∀ l, Up l → Up (insS x l)
  | [], _ => ⟨fun z hz => by simp at hz, trivial⟩
  | y :: r, h => by
    simp only [insS]; split
    · exact ⟨fun z hz => by
        rcases insS_mem x r z hz with e | e
        · omega
        · exact h.1 z e, insS_up x r h.2⟩
    · exact ⟨fun z hz => by
        rcases List.mem_cons.1 hz with e | e
        · omega
        · have := h.1 z e; omega, h⟩
def sortF : List Int → List Int := fun l => l.foldl (fun o x => insS x o) []
theorem sortF_snoc (l : List Int) (x : Int) : sortF (l ++ [x]) = insS x (sortF l) := by simp [sortF]
theorem foldl_up : ∀ (l o : List Int), Up o → Up (l.foldl (fun o x => insS x o) o) ∧ (l.foldl (fun o x => insS x o) o).length = l.length + o.length ∧ ∀ w, costF (l.foldl (fun o x => insS x o) o) w = costF l w + costF o w
  | [], o, h => ⟨h, by simp, fun w => by simp [costF, sumL]⟩
  | x :: l, o, h => by
    obtain ⟨a, b, c⟩ := foldl_up l (insS x o) (insS_up x o h)
    refine ⟨a, ?_, fun w => ?_⟩
    · simp only [List.foldl_cons]; rw [b, insS_length, List.length_cons]; omega
    · simp only [List.foldl_cons]; rw [c, insS_cost, costF_cons]; omega
theorem sortF_up (l : List Int) : Up (sortF l) := (foldl_up l [] trivial).1
theorem sortF_length (l : List Int) : (sortF l).length = l.length := by have := (foldl_up l [] trivial).2.1; simpa [sortF] using this
theorem sortF_cost (l : List Int) (w : Int) : costF (sortF l) w = costF l w := by have := (foldl_up l [] trivial).2.2 w; simpa [sortF, costF, sumL] using this

theorem costF_const (w : Int) : ∀ l : List Int, (∀ z ∈ l, w ≤ z) → costF l w = w * l.length
  | [], _ => by simp [costF, sumL]
  | c :: l, h => by
    have := costF_const w l (fun z hz => h z (by simp [hz]))
    have := h c (by simp)
    rw [costF_cons]
    have e : w * ((l.length + 1 : Nat) : Int) = w * (l.length : Int) + w := by rw [Int.natCast_add, Int.mul_add]; simp
    simp only [List.length_cons]
    omega
theorem costF_len (w : Int) : ∀ l : List Int, costF l w ≤ w * l.length
  | [] => by simp [costF, sumL]
  | c :: l => by
    have := costF_len w l
    rw [costF_cons]
    have e : w * ((l.length + 1 : Nat) : Int) = w * (l.length : Int) + w := by rw [Int.natCast_add, Int.mul_add]; simp
    simp only [List.length_cons]
    omega
/-- The first place at which two rising lists part. -/
theorem lex_gt : ∀ (A B : List Int), A.length = B.length → Up A → Up B → (∀ w, costF B w ≤ costF A w) → ∀ j, j < A.length → (∀ i, i < j → A.getD i 0 = B.getD i 0) → A.getD j 0 ≠ B.getD j 0 → B.getD j 0 < A.getD j 0
  | [], _, _, _, _, _, j, hj, _, _ => by simp at hj
  | a :: A, [], hl, _, _, _, _, _, _, _ => by simp at hl
  | a :: A, b :: B, hl, hA, hB, hc, 0, _, _, hne => by
    simp only [List.getD_cons_zero] at hne ⊢
    apply Classical.byContradiction
    intro hn
    have h := hc (a + 1)
    rw [costF_cons, costF_cons] at h
    have h1 := costF_const (a + 1) B (fun z hz => by have := hB.1 z hz; omega)
    have h2 := costF_len (a + 1) A
    simp only [List.length_cons] at hl
    have : (A.length : Int) = B.length := by omega
    rw [this] at h2
    omega
  | a :: A, b :: B, hl, hA, hB, hc, j + 1, hj, hi, hne => by
    have h0 := hi 0 (by omega)
    simp only [List.getD_cons_zero] at h0
    subst h0
    simp only [List.getD_cons_succ] at hne ⊢
    refine lex_gt A B (by simpa using hl) hA.2 hB.2 (fun w => ?_) j (by simpa using hj) (fun i hi' => by have := hi (i + 1) (by omega); simpa using this) hne
    have := hc w
    rw [costF_cons, costF_cons] at this
    omega
end Go.Proofs.Share
