/- Arguments that are arrays. -/
import Derived.Test.YtflclkbkgcfliaaEngG6
namespace Go.Eng
open Go.RowKit
theorem reads_arr {P : Program} {t e : TypeId} {n k tot : Nat} {l : List (TypeId × Nat)} {α : Type} {av : α → List AV} {ok : α → Prop} (ht : P.underlying t = some (.array n e)) (hk : P.cellsOf e = k) (hl : (List.range n).map (fun i => (e, i * k)) = l) (hc : P.cellsOf t = tot) (h : ReadsF P l 0 tot av ok) : Reads P t av ok := by
  intro H enc W sp fuel cs x hx
  obtain ⟨xs, m, _, _, h1, h2, h3⟩ := DataW.trod_array ht hx
  have := h H enc W sp m cs (by omega) (fun p hp => by
    rw [← hl] at hp
    obtain ⟨i, hi, rfl⟩ := List.mem_map.1 hp
    have hi' : i < n := List.mem_range.1 hi
    have h4 := h3 i hi'
    rw [hk] at h4
    rw [List.getElem?_eq_getElem (by omega)] at h4
    show ∃ y, DataW.trod enc P W 0 sp true m e ((cs.drop (i * k)).take (P.cellsOf e)) = some y
    rw [hk]
    exact ⟨_, h4⟩)
  simpa using this
theorem okWide_array {P : Program} {t e : TypeId} {n : Nat} {W : World} {b0 : Nat} {r : Reach} {v : Value} (ht : P.underlying t = some (.array n e)) (h : Value.okWide P W r b0 t v) : ∃ us, v = .agg us := by
  simp only [Value.okWide, ht] at h
  obtain ⟨cs, h1, _⟩ := h
  exact ⟨cs, h1⟩
end Go.Eng
