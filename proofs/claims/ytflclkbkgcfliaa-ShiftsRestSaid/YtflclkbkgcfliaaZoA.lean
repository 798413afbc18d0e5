/- Part of a proof about the given program: contracts of its functions (see the comment of the last text). -/
import Derived.Test.YtflclkbkgcfliaaEngG6
import Derived.Test.YtflclkbkgcfliaaZpG
import Derived.Test.YtflclkbkgcfliaaProg
import Derived.KernelRfl
namespace Go.Proofs.Ytflclkbkgcfliaa
open Go.Eng Go.Proofs Go.Zo
set_option linter.unusedSimpArgs false
set_option linter.unusedVariables false
attribute [local irreducible] AOps AOpsX AOps2 AOpsS AWP

def T : Tab
  | 3 => some ⟨.int .i64, 1, 8, .int .i64 0⟩
  | 4 => some ⟨.bool, 1, 1, .bool false⟩
  | 9 => some ⟨.str, 1, 16, .string ⟨#[]⟩⟩
  | 22 => some ⟨.sl 52, 1, 24, .slice none 0 0⟩
  | 24 => some ⟨.st false [(0, 9), (1, 3), (2, 22)], 3, 48, .agg #[.string ⟨#[]⟩, .int .i64 0, .slice none 0 0]⟩
  | 26 => some ⟨.st true [(0, 3), (1, 3)], 2, 16, .agg #[.int .i64 0, .int .i64 0]⟩
  | 30 => some ⟨.int .i64, 1, 8, .int .i64 0⟩
  | 34 => some ⟨.sl 46, 1, 24, .slice none 0 0⟩
  | 41 => some ⟨.sl 3, 1, 24, .slice none 0 0⟩
  | 46 => some ⟨.st true [(0, 3), (1, 3)], 2, 16, .agg #[.int .i64 0, .int .i64 0]⟩
  | 52 => some ⟨.st true [(0, 3), (1, 3)], 2, 16, .agg #[.int .i64 0, .int .i64 0]⟩
  | 55 => some ⟨.st true [(0, 3), (1, 3), (2, 3)], 3, 24, .agg #[.int .i64 0, .int .i64 0, .int .i64 0]⟩
  | 56 => some ⟨.sl 68, 1, 24, .slice none 0 0⟩
  | 58 => some ⟨.sl 24, 1, 24, .slice none 0 0⟩
  | 60 => some ⟨.sl 55, 1, 24, .slice none 0 0⟩
  | 68 => some ⟨.arr 2 3, 2, 16, .agg #[.int .i64 0, .int .i64 0]⟩
  | 73 => some ⟨.arr 3 3, 3, 24, .agg #[.int .i64 0, .int .i64 0, .int .i64 0]⟩
  | 74 => some ⟨.arr 3 55, 9, 72, .agg #[.int .i64 0, .int .i64 0, .int .i64 0, .int .i64 0, .int .i64 0, .int .i64 0, .int .i64 0, .int .i64 0, .int .i64 0]⟩
  | 81 => some ⟨.mapt 3 3, 1, 8, .map none⟩
  | 93 => some ⟨.arr 2 3, 2, 16, .agg #[.int .i64 0, .int .i64 0]⟩
  | _ => none
attribute [push_cast] T
theorem hT : T.ok Try.prog := by
  intro t i h
  unfold T at h
  split at h
  · cases h; exact ti_ok (by kernel_rfl) Try.underlying3
  · cases h; exact ti_ok (by kernel_rfl) Try.underlying4
  · cases h; exact ti_ok (by kernel_rfl) Try.underlying9
  · cases h; exact ti_ok (by kernel_rfl) Try.underlying22
  · cases h; exact ti_ok (by kernel_rfl) ⟨_, Try.underlying24, rfl, fun h => by cases h⟩
  · cases h; exact ti_ok (by kernel_rfl) ⟨_, Try.underlying26, rfl, fun _ => ⟨by kernel_rfl, by kernel_rfl, by kernel_rfl⟩⟩
  · cases h; exact ti_ok (by kernel_rfl) Try.underlying30
  · cases h; exact ti_ok (by kernel_rfl) Try.underlying34
  · cases h; exact ti_ok (by kernel_rfl) Try.underlying41
  · cases h; exact ti_ok (by kernel_rfl) ⟨_, Try.underlying46, rfl, fun _ => ⟨by kernel_rfl, by kernel_rfl, by kernel_rfl⟩⟩
  · cases h; exact ti_ok (by kernel_rfl) ⟨_, Try.underlying52, rfl, fun _ => ⟨by kernel_rfl, by kernel_rfl, by kernel_rfl⟩⟩
  · cases h; exact ti_ok (by kernel_rfl) ⟨_, Try.underlying55, rfl, fun _ => ⟨by kernel_rfl, by kernel_rfl, by kernel_rfl⟩⟩
  · cases h; exact ti_ok (by kernel_rfl) Try.underlying56
  · cases h; exact ti_ok (by kernel_rfl) Try.underlying58
  · cases h; exact ti_ok (by kernel_rfl) Try.underlying60
  · cases h; exact ti_ok (by kernel_rfl) Try.underlying68
  · cases h; exact ti_ok (by kernel_rfl) Try.underlying73
  · cases h; exact ti_ok (by kernel_rfl) Try.underlying74
  · cases h; exact ti_ok (by kernel_rfl) Try.underlying81
  · cases h; exact ti_ok (by kernel_rfl) Try.underlying93
  · cases h
theorem hm : Try.prog.follows .mixedOrders = true := by kernel_rfl

/-- int's range. -/
def In64 (n : Int) : Prop := -9223372036854775808 ≤ n ∧ n ≤ 9223372036854775807
abbrev STR (s : ByteArray) : AV := .v (.string s)
def avC (c : Ch) : List AV := [I64 c.at_, I64 c.of_]
attribute [push_cast] avC
abbrev avCs (l : List Ch) : AV := avSl avC 2 l
def avZ (z : Zn) : List AV := [STR z.nm, I64 z.base, avCs z.cs]
attribute [push_cast] avZ
def okCh (c : Ch) : Prop := In64 c.at_ ∧ In64 c.of_
def okZ (z : Zn) : Prop := z.nm.size ≤ 9223372036854775807 ∧ In64 z.base ∧ (∀ c ∈ z.cs, okCh c) ∧ z.cs.length ≤ 9223372036854775807
theorem readsC : Reads Try.prog 52 avC okCh :=
  (reads_struct Try.underlying52 rfl (by kernel_rfl) (readsF_cons (k := 1) (by kernel_rfl) (reads_int Try.underlying3) (readsF_cons (k := 1) (by kernel_rfl) (reads_int Try.underlying3) readsF_nil))).map (fun a => ⟨a.1, a.2.1⟩) (fun _ => rfl) (fun a h => ⟨wf64 h.1, wf64 h.2.1⟩)
theorem readsCs : Reads Try.prog 22 (fun ps => [avCs ps]) (fun l => (∀ c ∈ l, okCh c) ∧ l.length ≤ 9223372036854775807) := reads_slice Try.underlying22 (by kernel_rfl) (by decide) readsC
theorem readsZ : Reads Try.prog 24 avZ okZ :=
  (reads_struct Try.underlying24 rfl (by kernel_rfl) (readsF_cons (k := 1) (by kernel_rfl) (reads_str Try.underlying9) (readsF_cons (k := 1) (by kernel_rfl) (reads_int Try.underlying3) (readsF_cons (k := 1) (by kernel_rfl) readsCs readsF_nil)))).map (fun a => ⟨a.1, a.2.1, a.2.2.1⟩) (fun _ => rfl) (fun a h => ⟨h.1, wf64 h.2.1, h.2.2.1⟩)
theorem okCh_nth {z : Zn} (h : okZ z) {i : Nat} (hi : i < z.cs.length) : okCh (z.cs.getD i default) := by
  have : z.cs.getD i default = z.cs[i] := by simp [List.getD_eq_getElem?_getD, hi]
  rw [this]; exact h.2.2.1 _ (List.getElem_mem hi)
end Go.Proofs.Ytflclkbkgcfliaa
