/- Part of a proof about the given program: contracts of its functions (see the comment of the last text). -/
import Derived.Test.YtjilboaofggppaaLeM
namespace Go.Proofs.Ytjilboaofggppaa
open Go.Eng Go.Proofs
set_option linter.unusedSimpArgs false
set_option linter.unusedVariables false

/-- What a posting that succeeds has done. -/
theorem post_good {l : List En} {e : En} (h : (postF l e).2 = 0) : validB l = true ∧ wfB e = true ∧ (((postF l e).1 = l ∧ ∃ i, i < l.length ∧ findF l e.id = i ∧ (nth l i).id = e.id ∧ (∀ j, j < i → (nth l j).id ≠ e.id) ∧ agB (nth l i) e = true) ∨ ((postF l e).1 = l ++ [e] ∧ (∀ j, j < l.length → (nth l j).id ≠ e.id) ∧ l.length < 2000 ∧ ¬ (0 < l.length ∧ e.bk < (nth l (l.length - 1)).bk))) := by
  by_cases hvw : (validB l && wfB e) = true
  · have hvw' := hvw
    rw [Bool.and_eq_true] at hvw'
    refine ⟨hvw'.1, hvw'.2, ?_⟩
    rcases findF_cases l e.id with ⟨hf, hno⟩ | ⟨i0, hi0, hf, hid, hno⟩
    · right
      have hp : postF l e = if 2000 ≤ l.length then ([], 2) else if 0 < l.length ∧ e.bk < (nth l (l.length - 1)).bk then ([], 6) else (l ++ [e], 0) := by
        unfold postF; rw [if_pos hvw, if_neg (by rw [hf]; omega)]
      rw [hp] at h ⊢
      by_cases h1 : 2000 ≤ l.length
      · rw [if_pos h1] at h; exact absurd h (by decide)
      · rw [if_neg h1] at h ⊢
        by_cases h2 : 0 < l.length ∧ e.bk < (nth l (l.length - 1)).bk
        · rw [if_pos h2] at h; exact absurd h (by decide)
        · rw [if_neg h2]
          exact ⟨rfl, hno, by omega, h2⟩
    · left
      have hp : postF l e = if agB (nth l i0) e then (l, 0) else ([], 5) := by
        unfold postF; rw [if_pos hvw, if_pos (by rw [hf]; omega), hf]; rfl
      rw [hp] at h ⊢
      cases ha : agB (nth l i0) e with
      | true => exact ⟨rfl, i0, hi0, hf, hid, hno, ha⟩
      | false => rw [ha, if_neg (by decide)] at h; exact absurd h (by show ¬ (5 : Int) = 0; decide)
  · have hp : postF l e = ([], 1) := by unfold postF; rw [if_neg hvw]
    rw [hp] at h; exact absurd h (by decide)
theorem post_bad {l : List En} {e : En} (h : (postF l e).2 ≠ 0) : (postF l e).1 = [] := by
  unfold postF at h ⊢
  by_cases h1 : (validB l && wfB e) = true
  · rw [if_pos h1] at h ⊢
    by_cases h2 : 0 ≤ findF l e.id
    · rw [if_pos h2] at h ⊢
      by_cases h3 : agB (nth l (findF l e.id).toNat) e = true
      · rw [if_pos h3] at h; exact absurd rfl h
      · rw [if_neg h3]
    · rw [if_neg h2] at h ⊢
      by_cases h3 : 2000 ≤ l.length
      · rw [if_pos h3]
      · rw [if_neg h3] at h ⊢
        by_cases h4 : 0 < l.length ∧ e.bk < (nth l (l.length - 1)).bk
        · rw [if_pos h4]
        · rw [if_neg h4] at h; exact absurd rfl h
  · rw [if_neg h1]
theorem post_len (l : List En) (e : En) : (postF l e).1.length ≤ 2000 := by
  by_cases h : (postF l e).2 = 0
  · obtain ⟨v, _, ⟨h1, _⟩ | ⟨h1, _, h2, _⟩⟩ := post_good h
    · rw [h1]; exact (validB_spec v).1
    · rw [h1]; simp; omega
  · rw [post_bad h]; simp
theorem nth_app_lt {l m : List En} {i : Nat} (h : i < l.length) : nth (l ++ m) i = nth l i := by
  simp [nth, List.getD_eq_getElem?_getD, List.getElem?_append_left h]
theorem nth_app_last (l : List En) (e : En) : nth (l ++ [e]) l.length = e := by simp [nth, List.getD_eq_getElem?_getD]
theorem post_valid {l : List En} {e : En} (hv : validB l = true) (hw : wfB e = true) (hno : ∀ j, j < l.length → (nth l j).id ≠ e.id) (h20 : l.length < 2000) (hb : ¬ (0 < l.length ∧ e.bk < (nth l (l.length - 1)).bk)) : validB (l ++ [e]) = true := by
  obtain ⟨_, hat⟩ := validB_spec hv
  refine validB_true (by simp; omega) fun i hi => ?_
  have hi' : i < l.length + 1 := by simpa using hi
  by_cases hlt : i < l.length
  · have := hat i hlt
    unfold okAt at this ⊢
    rw [nth_app_lt hlt, nth_app_lt (show i - 1 < l.length by omega), List.take_append_of_le_length (by omega)]
    exact this
  · obtain rfl : i = l.length := by omega
    unfold okAt
    rw [nth_app_last, List.take_append_of_le_length (Nat.le_refl _), List.take_length]
    have h1 : (l.any fun x => decide (x.id = e.id)) = false := by
      rw [Bool.eq_false_iff]; intro hh
      obtain ⟨x, hx, h3⟩ := List.any_eq_true.1 hh
      obtain ⟨j, hj, rfl⟩ := List.getElem_of_mem hx
      have e2 : nth l j = l[j] := by simp [nth, List.getD_eq_getElem?_getD, hj]
      exact hno j hj (by rw [e2]; simpa using h3)
    rw [hw, h1]
    by_cases h0 : l.length = 0
    · simp [h0]
    · rw [nth_app_lt (show l.length - 1 < l.length by omega), decide_eq_true (p := (nth l (l.length - 1)).bk ≤ e.bk) (by omega)]
      simp
theorem post_ok_valid {l : List En} {e : En} (h : (postF l e).2 = 0) : validB (postF l e).1 = true := by
  obtain ⟨v, w, ⟨h1, _⟩ | ⟨h1, h2, h3, h4⟩⟩ := post_good h
  · rw [h1]; exact v
  · rw [h1]; exact post_valid v w h2 h3 h4
theorem okL_app {l : List En} {e : En} (hl : okL l) (he : okE e) (hn : l.length ≤ 1000000) : okL (l ++ [e]) :=
  ⟨fun x hx => (List.mem_append.1 hx).elim (hl.1 x) (fun h => by rw [List.mem_singleton.1 h]; exact he), by simp; omega⟩
theorem okL_post {l : List En} {e : En} (hl : okL l) (he : okE e) : okL (postF l e).1 := by
  by_cases h : (postF l e).2 = 0
  · obtain ⟨v, w, ⟨h1, _⟩ | ⟨h1, h2, h3, h4⟩⟩ := post_good h
    · rw [h1]; exact hl
    · rw [h1]; exact okL_app hl he (by omega)
  · rw [post_bad h]; exact okL_nil
theorem accF_len2 (l : List En) : (accF l).length ≤ 4000 := by
  by_cases h : validB l = true
  · have := accF_len l
    have := (validB_spec h).1
    omega
  · unfold accF; rw [if_neg h]; simp
end Go.Proofs.Ytjilboaofggppaa
