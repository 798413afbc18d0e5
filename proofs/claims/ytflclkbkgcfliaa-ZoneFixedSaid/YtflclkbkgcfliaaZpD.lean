/- The minutes of local days, counted in a map: plain laws. -/
import Derived.Test.YtflclkbkgcfliaaZpC
namespace Go.Zo
open Go.Eng

theorem getK_upd (m : List (Key × Int)) (k j : Key) (v : Int) : getK (updK m k v) j 0 = if k = j then v else getK m j 0 := by
  induction m with
  | nil =>
    by_cases h : k = j
    · simp [updK, getK, h]
    · simp [updK, getK, h]
  | cons p r ih =>
    unfold updK
    by_cases h : p.1 = k
    · rw [if_pos h]
      by_cases h2 : k = j
      · rw [if_pos h2]; simp [getK, h2]
      · rw [if_neg h2]
        have : ¬ p.1 = j := fun e => h2 (by rw [← h, e])
        simp [getK, h2, this]
    · rw [if_neg h]
      by_cases h3 : p.1 = j
      · have : ¬ k = j := fun e => h (by rw [e, h3])
        rw [if_neg this]; simp [getK, h3]
      · have e1 : getK (p :: updK r k v) j 0 = getK (updK r k v) j 0 := by simp [getK, h3]
        have e2 : getK (p :: r) j 0 = getK r j 0 := by simp [getK, h3]
        rw [e1, e2, ih]
theorem upd_upd (m : List (Key × Int)) (k : Key) (v v' : Int) : updK (updK m k v) k v' = updK m k v' := by
  induction m with
  | nil => simp [updK]
  | cons p r ih =>
    by_cases h : p.1 = k
    · rw [updK, if_pos h, updK, if_pos rfl, updK, if_pos h]
    · rw [updK, if_neg h, updK, if_neg h, updK, if_neg h, ih]
theorem updI_keys (m : List (Key × Int)) (k : Key) (v : Int) : ((updK m k v).map (·.1)) = if k ∈ m.map (·.1) then m.map (·.1) else m.map (·.1) ++ [k] := by
  induction m with
  | nil => simp [updK]
  | cons p r ih =>
    unfold updK
    by_cases h : p.1 = k
    · rw [if_pos h]; simp [h]
    · rw [if_neg h, List.map_cons, ih, List.map_cons]
      have h' : ¬ k = p.1 := fun e => h e.symm
      by_cases h2 : k ∈ r.map (·.1)
      · rw [if_pos h2, if_pos (List.mem_cons_of_mem _ h2)]
      · rw [if_neg h2, if_neg (by rw [List.mem_cons]; rintro (e | e); exact h' e; exact h2 e)]; rfl
/-- The map behind n minutes. -/
def mM (z : Zn) (a : Int) : Nat → List (Key × Int)
  | 0 => []
  | n + 1 => updK (mM z a n) (.i (loc z (a + n) / 1440)) (getK (mM z a n) (.i (loc z (a + n) / 1440)) 0 + 1)
def mMI (z : Zn) (a cur : Int) : List (Key × Int) := mM z a (cur - a).toNat
theorem mM_chunk (z : Zn) (a : Int) (d : Int) (n : Nat) : ∀ k : Nat, 0 < k → (∀ j, j < k → loc z (a + ((n + j : Nat) : Int)) / 1440 = d) → mM z a (n + k) = updK (mM z a n) (.i d) (getK (mM z a n) (.i d) 0 + k)
  | 0, h, _ => by omega
  | 1, _, h => by
    have := h 0 (by omega)
    rw [Nat.add_zero] at this
    show mM z a (n + 1) = _
    rw [mM, this]; rfl
  | k + 2, _, h => by
    have ih := mM_chunk z a d n (k + 1) (by omega) (fun j hj => h j (by omega))
    have := h (k + 1) (by omega)
    show mM z a ((n + (k + 1)) + 1) = _
    rw [mM, this, ih, upd_upd, getK_upd, if_pos rfl]
    congr 1
    omega
theorem mMI_chunk {z : Zn} {a x y d : Int} (h1 : a ≤ x) (h2 : x < y) (h : ∀ t, x ≤ t → t < y → loc z t / 1440 = d) : mMI z a y = updK (mMI z a x) (.i d) (getK (mMI z a x) (.i d) 0 + (y - x)) := by
  unfold mMI
  have := mM_chunk z a d (x - a).toNat (y - x).toNat (by omega) (fun j hj => h _ (by omega) (by omega))
  rw [show (y - a).toNat = (x - a).toNat + (y - x).toNat by omega, this, show (((y - x).toNat : Nat) : Int) = y - x by omega]
theorem mM_spec (z : Zn) (a : Int) (n : Nat) : ((mM z a n).map (·.1)).Nodup ∧ (∀ k, k ∈ (mM z a n).map (·.1) ↔ ∃ d, k = .i d ∧ 0 < cnt z a (a + n) d) ∧ (∀ d, getK (mM z a n) (.i d) 0 = cnt z a (a + n) d) ∧ (mM z a n).length ≤ n := by
  induction n with
  | zero =>
    have h0 : ∀ d, cnt z a (a + ((0 : Nat) : Int)) d = 0 := fun d => sumI_empty _ (by omega)
    refine ⟨by simp [mM], fun k => ?_, fun d => ?_, by simp [mM]⟩
    · constructor
      · intro h; simp [mM] at h
      · rintro ⟨d, _, hd⟩; rw [h0 d] at hd; omega
    · rw [h0 d]; rfl
  | succ n ih =>
    obtain ⟨i1, i2, i3, i4⟩ := ih
    have hc : ∀ d, cnt z a (a + ((n + 1 : Nat) : Int)) d = cnt z a (a + n) d + b1 (decide (loc z (a + n) / 1440 = d)) := fun d => by
      have := sumI_last (fun t => b1 (decide (loc z t / 1440 = d))) (show a ≤ a + (n : Int) by omega)
      rw [show a + ((n + 1 : Nat) : Int) = a + (n : Int) + 1 by omega]; exact this
    have hpos : ∀ d, 0 ≤ cnt z a (a + n) d := fun d => (cnt_nonneg z (by omega) d).1
    rw [mM]
    generalize hd0 : loc z (a + n) / 1440 = d0 at *
    refine ⟨?_, fun k => ?_, fun d => ?_, ?_⟩
    · rw [updI_keys]
      split
      · exact i1
      · rename_i hk
        exact List.nodup_append.2 ⟨i1, by simp, fun x hx y hy e => by
          have : y = .i d0 := by simpa using hy
          subst this; subst e; exact hk hx⟩
    · rw [updI_keys]
      constructor
      · intro h
        by_cases hk : k = .i d0
        · exact ⟨d0, hk, by rw [hc, decide_eq_true rfl]; have := hpos d0; unfold b1; rw [if_pos rfl]; omega⟩
        · have : k ∈ (mM z a n).map (·.1) := by
            split at h
            · exact h
            · rcases List.mem_append.1 h with h | h
              · exact h
              · exact absurd (by simpa using h) hk
          obtain ⟨d, e1, e2⟩ := (i2 k).1 this
          exact ⟨d, e1, by rw [hc]; unfold b1; split <;> omega⟩
      · rintro ⟨d, e1, e2⟩
        by_cases hd : d0 = d
        · subst hd
          split
          · rename_i h; rw [e1]; exact h
          · rw [e1]; simp
        · rw [hc, decide_eq_false hd] at e2
          have : 0 < cnt z a (a + n) d := by simpa [b1] using e2
          have hin := (i2 k).2 ⟨d, e1, this⟩
          split
          · exact hin
          · exact List.mem_append_left _ hin
    · rw [getK_upd, hc, i3 d0]
      by_cases hd : d0 = d
      · subst hd; rw [if_pos rfl, decide_eq_true rfl]; rfl
      · rw [if_neg (fun e => hd (by injection e)), i3 d, decide_eq_false hd]; simp [b1]
    · have := congrArg List.length (updI_keys (mM z a n) (.i d0) (getK (mM z a n) (.i d0) 0 + 1))
      rw [List.length_map] at this
      rw [this]
      split <;> simp <;> omega
theorem mMI_get {z : Zn} {a cur : Int} (h : a ≤ cur) (d : Int) : getK (mMI z a cur) (.i d) 0 = cnt z a cur d := by
  have := (mM_spec z a (cur - a).toNat).2.2.1 d
  rw [show a + (((cur - a).toNat : Nat) : Int) = cur by omega] at this
  exact this
theorem mMI_len {z : Zn} {a cur : Int} (h : a ≤ cur) : ((mMI z a cur).length : Int) ≤ cur - a := by
  have := (mM_spec z a (cur - a).toNat).2.2.2
  unfold mMI; omega
/-- The keys as numbers. -/
def intsOf (m : List (Key × Int)) : List Int := m.map fun p => match p.1 with | .i n => n | .s _ => 0
def leI' : Int → Int → Bool := fun x y => decide (x ≤ y)
theorem sort_days {z : Zn} (hv : validZ z = true) {a b : Int} (hab : a ≤ b) : (intsOf (mMI z a b)).mergeSort (fun x y => decide (x ≤ y)) = dayL z a b := by
  obtain ⟨i1, i2, _, _⟩ := mM_spec z a (b - a).toNat
  rw [show a + (((b - a).toNat : Nat) : Int) = b by omega] at i2
  have hmem : ∀ d, d ∈ intsOf (mMI z a b) ↔ 0 < cnt z a b d := fun d => by
    unfold intsOf mMI
    rw [List.mem_map]
    constructor
    · rintro ⟨p, hp, rfl⟩
      obtain ⟨d', e1, e2⟩ := (i2 p.1).1 (List.mem_map.2 ⟨p, hp, rfl⟩)
      rw [e1]; exact e2
    · intro h
      obtain ⟨p, hp, e⟩ := List.mem_map.1 ((i2 (.i d)).2 ⟨d, rfl, h⟩)
      exact ⟨p, hp, by rw [e]⟩
  have hnd : (intsOf (mMI z a b)).Nodup := by
    unfold intsOf mMI
    have i1' := List.pairwise_map.1 i1
    refine List.pairwise_map.2 (i1'.imp_of_mem fun {p q} hp hq hne e => hne ?_)
    obtain ⟨d, e1, _⟩ := (i2 p.1).1 (List.mem_map.2 ⟨p, hp, rfl⟩)
    obtain ⟨d', e2, _⟩ := (i2 q.1).1 (List.mem_map.2 ⟨q, hq, rfl⟩)
    rw [e1, e2] at e ⊢
    exact congrArg _ e
  have tr : ∀ a b c : Int, decide (a ≤ b) = true → decide (b ≤ c) = true → decide (a ≤ c) = true := fun a b c h1 h2 => by simp only [decide_eq_true_eq] at *; omega
  have to : ∀ a b : Int, (decide (a ≤ b) || decide (b ≤ a)) = true := fun a b => by simp only [Bool.or_eq_true, decide_eq_true_eq]; omega
  have hs := List.pairwise_mergeSort tr to (intsOf (mMI z a b))
  have hp := List.mergeSort_perm (intsOf (mMI z a b)) (fun x y => decide (x ≤ y))
  have hn2 := hp.nodup_iff.2 hnd
  refine asc_eq ((hs.and hn2).imp fun {x y} h => ?_) (filI_asc _ _ _) fun x => ?_
  · obtain ⟨h1, h2⟩ := h
    simp only [decide_eq_true_eq] at h1
    omega
  · rw [hp.mem_iff, hmem]
    exact (mem_dayL hv).symm
end Go.Zo
