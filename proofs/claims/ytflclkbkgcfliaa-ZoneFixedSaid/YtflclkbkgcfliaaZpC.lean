/- Zones: validity, local time, portions, instants: plain laws. -/
import Derived.Test.YtflclkbkgcfliaaZpB
namespace Go.Zo
open Go.Eng

/-- A zone. -/
structure Zn where
  nm : ByteArray
  base : Int
  cs : List Ch
  deriving Inhabited
abbrev chN (cs : List Ch) (i : Nat) : Ch := cs.getD i default
/-- The offset ahead of change i. -/
def before (z : Zn) (i : Nat) : Int := if i = 0 then z.base else (chN z.cs (i - 1)).of_
def okC (z : Zn) (i : Nat) : Bool :=
  decide (0 ≤ (chN z.cs i).at_) && decide ((chN z.cs i).at_ ≤ 52595999) && (decide (i = 0) || decide (2880 ≤ (chN z.cs i).at_ - (chN z.cs (i - 1)).at_)) &&
  decide (-840 ≤ (chN z.cs i).of_) && decide ((chN z.cs i).of_ ≤ 840) && decide ((chN z.cs i).of_ - before z i ≤ 60) && decide (before z i - (chN z.cs i).of_ ≤ 60)
def validZ (z : Zn) : Bool := decide (z.cs.length ≤ 64) && decide (-840 ≤ z.base) && decide (z.base ≤ 840) && (List.range z.cs.length).all (okC z)
theorem validZ_false_at {z : Zn} {i : Nat} (hi : i < z.cs.length) (h : okC z i = false) : validZ z = false := by
  have : (List.range z.cs.length).all (okC z) = false := by
    rw [Bool.eq_false_iff]
    intro hh
    rw [List.all_eq_true] at hh
    rw [hh i (List.mem_range.2 hi)] at h; cases h
  simp [validZ, this]
theorem validZ_true {z : Zn} (h1 : z.cs.length ≤ 64) (h2 : -840 ≤ z.base) (h3 : z.base ≤ 840) (h4 : ∀ i, i < z.cs.length → okC z i = true) : validZ z = true := by
  have : (List.range z.cs.length).all (okC z) = true := by
    rw [List.all_eq_true]; intro i hi; exact h4 i (List.mem_range.1 hi)
  simp [validZ, this, h1, h2, h3]
theorem validZ_spec {z : Zn} (h : validZ z = true) : z.cs.length ≤ 64 ∧ (-840 ≤ z.base ∧ z.base ≤ 840) ∧ ∀ i, i < z.cs.length → okC z i = true := by
  simp only [validZ, bh, decide_eq_true_eq, List.all_eq_true, List.mem_range] at h
  exact ⟨h.1.1.1, ⟨h.1.1.2, h.1.2⟩, h.2⟩
theorem okC_spec {z : Zn} {i : Nat} (h : okC z i = true) : (0 ≤ (chN z.cs i).at_ ∧ (chN z.cs i).at_ ≤ 52595999) ∧ (i = 0 ∨ 2880 ≤ (chN z.cs i).at_ - (chN z.cs (i - 1)).at_) ∧ (-840 ≤ (chN z.cs i).of_ ∧ (chN z.cs i).of_ ≤ 840) ∧ (chN z.cs i).of_ - before z i ≤ 60 ∧ before z i - (chN z.cs i).of_ ≤ 60 := by
  simp only [okC, bh, decide_eq_true_eq] at h
  obtain ⟨⟨⟨⟨⟨⟨a, b⟩, c⟩, d⟩, e⟩, f⟩, g⟩ := h
  exact ⟨⟨a, b⟩, c, ⟨d, e⟩, f, g⟩
/-- The offset at a minute. -/
def off (z : Zn) (t : Int) : Int := offL z.base z.cs t
theorem off_bounds {z : Zn} (h : validZ z = true) (t : Int) : -840 ≤ off z t ∧ off z t ≤ 840 := by
  obtain ⟨_, h2, h3⟩ := validZ_spec h
  refine offL_all (p := fun o => -840 ≤ o ∧ o ≤ 840) z.cs z.base t h2 fun c hc => ?_
  obtain ⟨i, hi, rfl⟩ := List.getElem_of_mem hc
  have e : chN z.cs i = z.cs[i] := by simp [chN, List.getD_eq_getElem?_getD, hi]
  have := (okC_spec (h3 i hi)).2.2.1
  rw [e] at this; exact this
/-- The local minute. -/
def loc (z : Zn) (t : Int) : Int := t + off z t
/-- How many minutes of a stretch are on a local day. -/
def cnt (z : Zn) (a b d : Int) : Int := sumI (fun t => b1 (decide (loc z t / 1440 = d))) a b
theorem cnt_01 (z : Zn) (d t : Int) : 0 ≤ b1 (decide (loc z t / 1440 = d)) ∧ b1 (decide (loc z t / 1440 = d)) ≤ 1 := by
  unfold b1; split <;> omega
theorem cnt_nonneg (z : Zn) {a b : Int} (hab : a ≤ b) (d : Int) : 0 ≤ cnt z a b d ∧ cnt z a b d ≤ b - a := sumI_01 hab fun t _ _ => cnt_01 z d t
/-- How many minutes of a stretch are in a window. -/
def win (z : Zn) (a b f g : Int) : Int := sumI (fun t => b1 (inW f g (loc z t % 1440))) a b
theorem win_nonneg (z : Zn) {a b : Int} (hab : a ≤ b) (f g : Int) : 0 ≤ win z a b f g ∧ win z a b f g ≤ b - a := sumI_01 hab fun t _ _ => by unfold b1; split <;> omega
/-- The days of a stretch, with their minutes. -/
def dayL (z : Zn) (a b : Int) : List Int := filI (fun d => decide (0 < cnt z a b d)) ((a - 840) / 1440) ((b + 840) / 1440 + 1)
theorem mem_dayL {z : Zn} (h : validZ z = true) {a b d : Int} : d ∈ dayL z a b ↔ 0 < cnt z a b d := by
  unfold dayL
  rw [mem_filI]
  simp only [decide_eq_true_eq]
  refine ⟨fun ⟨_, _, h3⟩ => h3, fun h3 => ?_⟩
  obtain ⟨t, h4, h5, h6⟩ := sumI_ex (fun t _ _ => by have := cnt_01 z d t; omega) h3
  have hb := off_bounds h t
  have h7 : loc z t / 1440 = d := by
    unfold b1 at h6
    split at h6
    · rename_i e; simpa using e
    · cases h6
  unfold loc at h7
  exact ⟨by omega, by omega, h3⟩
def portF (z : Zn) (a b : Int) : List (Int × Int) := (dayL z a b).map fun d => (d, cnt z a b d)
/-- The instants of a local minute. -/
def instF (z : Zn) (n : Int) : List Int := filI (fun t => decide (0 ≤ t ∧ t ≤ 52595999) && decide (loc z t = n)) (n - 840) (n + 841)
theorem instF_eq {z : Zn} (h : validZ z = true) (n : Int) : filI (fun t => decide (loc z t = n)) 0 52596000 = instF z n := by
  refine asc_eq (filI_asc _ _ _) (filI_asc _ _ _) fun x => ?_
  rw [mem_filI]
  unfold instF
  rw [mem_filI]
  have hb := off_bounds h x
  constructor
  · rintro ⟨h1, h2, h3⟩
    have h4 : x + off z x = n := of_decide_eq_true h3
    refine ⟨by omega, by omega, ?_⟩
    rw [Bool.and_eq_true]
    exact ⟨decide_eq_true ⟨h1, by omega⟩, h3⟩
  · rintro ⟨_, _, h3⟩
    rw [Bool.and_eq_true] at h3
    have h4 := of_decide_eq_true h3.1
    exact ⟨h4.1, by omega, h3.2⟩
end Go.Zo
