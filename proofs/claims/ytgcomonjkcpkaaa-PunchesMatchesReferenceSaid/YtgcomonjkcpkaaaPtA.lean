/- The reference's table: plain laws of its rows. -/
import Derived.Test.YtgcomonjkcpkaaaQngN1
namespace Go.Pt
set_option linter.unusedVariables false
open Go.Eng
abbrev nilV : AV := .v (.slice none 0 0)
/-- A list by its places. -/
def lst {α : Type} (n : Nat) (f : Nat → α) : List α := (List.range n).map f
theorem lst_len {α : Type} (n : Nat) (f : Nat → α) : (lst n f).length = n := by simp [lst]
theorem lst_getD {α : Type} (n : Nat) (f : Nat → α) (d : α) {j : Nat} (h : j < n) : (lst n f).getD j d = f j := by simp [lst, List.getD_eq_getElem?_getD, h]
theorem lst_set {α : Type} (n : Nat) (f g : Nat → α) {i : Nat} (hi : i < n) (h : ∀ j, j < n → j ≠ i → f j = g j) : (lst n f).set i (g i) = lst n g := by
  apply List.ext_getElem
  · simp [lst]
  · intro j h1 h2
    simp only [lst, List.length_set, List.length_map, List.length_range] at h1
    by_cases e : i = j
    · subst e; simp [lst]
    · rw [List.getElem_set_ne e]
      simp only [lst, List.getElem_map, List.getElem_range]
      exact h j h1 (fun h => e h.symm)
theorem lst_rep {α : Type} (n : Nat) (x : α) : lst n (fun _ => x) = List.replicate n x := by
  apply List.ext_getElem
  · simp [lst]
  · intro j h1 h2; simp [lst]
theorem lst_congr {α : Type} (n : Nat) {f g : Nat → α} (h : ∀ j, j < n → f j = g j) : lst n f = lst n g := by
  apply List.ext_getElem
  · simp [lst]
  · intro j h1 h2
    simp only [lst, List.getElem_map, List.getElem_range]
    exact h j (by simpa [lst] using h1)
/-- A row that nobody writes any more. -/
def rowV (l : List Int) : AV := .i true (fun e j => (Cont.ints .i64 l).at (e * 1 + j)) 1 0 (l.length / 1)
/-- The row i of the table, from place j on. -/
def rowP (d : Nat → Nat → Int) (n i j : Nat) : List Int := lst (n + 1) fun k => if k < j then 0 else d i k
/-- The table from row i on. -/
def tabL (d : Nat → Nat → Int) (m n i : Nat) : List AV := lst (m + 1) fun r => if r < i then nilV else rowV (rowP d n r 0)
theorem rowP_top (d : Nat → Nat → Int) (n i : Nat) : rowP d n i (n + 1) = List.replicate (n + 1) 0 := by
  rw [← lst_rep]; exact lst_congr _ fun k hk => if_pos hk
theorem rowP_set (d : Nat → Nat → Int) (n i : Nat) {j : Nat} (h : j ≤ n) : (rowP d n i (j + 1)).set j (d i j) = rowP d n i j := by
  have := lst_set (n + 1) (fun k => if k < j + 1 then 0 else d i k) (fun k => if k < j then 0 else d i k) (i := j) (by omega) (fun k _ hk => by
    by_cases c : k < j
    · rw [if_pos c, if_pos (by omega)]
    · rw [if_neg c, if_neg (by omega)])
  rw [if_neg (by omega)] at this
  exact this
theorem rowP_len (d : Nat → Nat → Int) (n i j : Nat) : (rowP d n i j).length = n + 1 := lst_len _ _
theorem rowP_getD (d : Nat → Nat → Int) (n i : Nat) {j k : Nat} (h1 : j ≤ k) (h2 : k ≤ n) : (rowP d n i j).getD k 0 = d i k := by
  unfold rowP; rw [lst_getD _ _ _ (by omega), if_neg (by omega)]
theorem tabL_top (d : Nat → Nat → Int) (m n : Nat) : tabL d m n (m + 1) = List.replicate (m + 1) nilV := by
  rw [← lst_rep]; exact lst_congr _ fun k hk => if_pos hk
theorem tabL_set (d : Nat → Nat → Int) (m n : Nat) {i : Nat} (h : i ≤ m) : (tabL d m n (i + 1)).set i (rowV (rowP d n i 0)) = tabL d m n i := by
  have := lst_set (m + 1) (fun r => if r < i + 1 then nilV else rowV (rowP d n r 0)) (fun r => if r < i then nilV else rowV (rowP d n r 0)) (i := i) (by omega) (fun k _ hk => by
    by_cases c : k < i
    · rw [if_pos c, if_pos (by omega)]
    · rw [if_neg c, if_neg (by omega)])
  rw [if_neg (by omega)] at this
  exact this
theorem tabL_len (d : Nat → Nat → Int) (m n i : Nat) : (tabL d m n i).length = m + 1 := lst_len _ _
theorem tabL_getD (d : Nat → Nat → Int) (m n : Nat) {i r : Nat} (h1 : i ≤ r) (h2 : r ≤ m) : (tabL d m n i).getD r .top = rowV (rowP d n r 0) := by
  unfold tabL; rw [lst_getD _ _ _ (by omega), if_neg (by omega)]
theorem tabL_mem {d : Nat → Nat → Int} {m n i : Nat} {x : AV} (h : x ∈ tabL d m n i) : x = nilV ∨ ∃ r, x = rowV (rowP d n r 0) := by
  obtain ⟨r, _, rfl⟩ := List.mem_map.1 h
  by_cases c : r < i
  · rw [if_pos c]; exact .inl rfl
  · rw [if_neg c]; exact .inr ⟨r, rfl⟩
theorem tabL_kill (d : Nat → Nat → Int) (m n i k : Nat) : AV.killL k (tabL d m n i) = tabL d m n i :=
  killL_self fun x hx => by
    rcases tabL_mem hx with rfl | ⟨r, rfl⟩
    · rfl
    · rfl
theorem tabL_frz (d : Nat → Nat → Int) (m n i k : Nat) (blk : Blk) : frzL k blk (tabL d m n i) = tabL d m n i :=
  frzL_self fun x hx => by
    rcases tabL_mem hx with rfl | ⟨r, rfl⟩
    · rfl
    · rfl
end Go.Pt
