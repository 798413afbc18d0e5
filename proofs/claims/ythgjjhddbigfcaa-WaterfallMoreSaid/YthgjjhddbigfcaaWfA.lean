/- Part of a proof about the given program: contracts of its functions (see the comment of the last text). -/
import Derived.Test.YthgjjhddbigfcaaEng5
import Derived.Test.YthgjjhddbigfcaaEng6
import Derived.Test.YthgjjhddbigfcaaPl2
import Derived.Test.YthgjjhddbigfcaaProg
import Derived.KernelRfl
namespace Go.Proofs.Ythgjjhddbigfcaa
open Go.Eng Go.Proofs Go.Wf
set_option linter.unusedSimpArgs false
set_option linter.unusedVariables false
attribute [local irreducible] AOps AOpsX AOps2 AOpsS AWP
def T : Tab
  | 3 => some ⟨.int .i64, 1, 8, .int .i64 0⟩
  | 4 => some ⟨.bool, 1, 1, .bool false⟩
  | 5 => some ⟨.int .u8, 1, 1, .int .u8 0⟩
  | 22 => some ⟨.sl 44, 1, 24, .slice none 0 0⟩
  | 23 => some ⟨.sl 41, 1, 24, .slice none 0 0⟩
  | 24 => some ⟨.sl 3, 1, 24, .slice none 0 0⟩
  | 25 => some ⟨.sl 24, 1, 24, .slice none 0 0⟩
  | 27 => some ⟨.st false [(0, 24), (1, 25)], 2, 48, .agg #[.slice none 0 0, .slice none 0 0]⟩
  | 30 => some ⟨.int .i64, 1, 8, .int .i64 0⟩
  | 33 => some ⟨.sl 4, 1, 24, .slice none 0 0⟩
  | 41 => some ⟨.st true [(0, 3), (1, 3), (2, 4)], 3, 24, .agg #[.int .i64 0, .int .i64 0, .bool false]⟩
  | 44 => some ⟨.st true [(0, 3), (1, 4)], 2, 16, .agg #[.int .i64 0, .bool false]⟩
  | 47 => some ⟨.int .u32, 1, 4, .int .u32 0⟩
  | 70 => some ⟨.mapt 3 24, 1, 8, .map none⟩
  | 84 => some ⟨.st true [], 0, 0, .agg #[]⟩
  | 85 => some ⟨.st true [], 0, 0, .agg #[]⟩
  | 95 => some ⟨.int .u64, 1, 8, .int .u64 0⟩
  | _ => none
attribute [push_cast] T
theorem hT : T.ok Try.prog := by
  intro t i h
  unfold T at h
  split at h
  · cases h; exact ti_ok (by kernel_rfl) Try.underlying3
  · cases h; exact ti_ok (by kernel_rfl) Try.underlying4
  · cases h; exact ti_ok (by kernel_rfl) Try.underlying5
  · cases h; exact ti_ok (by kernel_rfl) Try.underlying22
  · cases h; exact ti_ok (by kernel_rfl) Try.underlying23
  · cases h; exact ti_ok (by kernel_rfl) Try.underlying24
  · cases h; exact ti_ok (by kernel_rfl) Try.underlying25
  · cases h; exact ti_ok (by kernel_rfl) ⟨_, Try.underlying27, rfl, fun h => by cases h⟩
  · cases h; exact ti_ok (by kernel_rfl) Try.underlying30
  · cases h; exact ti_ok (by kernel_rfl) Try.underlying33
  · cases h; exact ti_ok (by kernel_rfl) ⟨_, Try.underlying41, rfl, fun _ => ⟨by kernel_rfl, by kernel_rfl, by kernel_rfl⟩⟩
  · cases h; exact ti_ok (by kernel_rfl) ⟨_, Try.underlying44, rfl, fun _ => ⟨by kernel_rfl, by kernel_rfl, by kernel_rfl⟩⟩
  · cases h; exact ti_ok (by kernel_rfl) Try.underlying47
  · cases h; exact ti_ok (by kernel_rfl) Try.underlying70
  · cases h; exact ti_ok (by kernel_rfl) ⟨_, Try.underlying84, rfl, fun _ => ⟨by kernel_rfl, by kernel_rfl, by kernel_rfl⟩⟩
  · cases h; exact ti_ok (by kernel_rfl) ⟨_, Try.underlying85, rfl, fun _ => ⟨by kernel_rfl, by kernel_rfl, by kernel_rfl⟩⟩
  · cases h; exact ti_ok (by kernel_rfl) Try.underlying95
  · cases h
theorem hm : Try.prog.follows .mixedOrders = true := by kernel_rfl

/-- int's range. -/
def In64 (n : Int) : Prop := -9223372036854775808 ≤ n ∧ n ≤ 9223372036854775807
def avP (p : Po) : List AV := [I64 p.c, BL p.f]
def avC (c : Cl) : List AV := [I64 c.r, I64 c.c, BL c.f]
attribute [push_cast] avP avC
abbrev avPs (l : List Po) : AV := avSl avP 2 l
abbrev avCs (l : List Cl) : AV := avSl avC 3 l
/-- Lists of lists. -/
abbrev avLL (l : List (List Int)) : AV := avSl (fun l => [ints l]) 1 l
/-- A division. -/
structure Gr where
  c : List Int
  fr : List (List Int)
  deriving Inhabited, DecidableEq
def avG (g : Gr) : List AV := [ints g.c, avLL g.fr]
attribute [push_cast] avG
def okPo (p : Po) : Prop := In64 p.c
def okC (c : Cl) : Prop := In64 c.r ∧ In64 c.c
def okPs (l : List Po) : Prop := (∀ p ∈ l, okPo p) ∧ l.length ≤ 9223372036854775807
def okCs (l : List Cl) : Prop := (∀ p ∈ l, okC p) ∧ l.length ≤ 9223372036854775807
def okI (l : List Int) : Prop := (∀ p ∈ l, In64 p) ∧ l.length ≤ 9223372036854775807
def okG (g : Gr) : Prop := okI g.c ∧ (∀ l ∈ g.fr, okI l) ∧ g.fr.length ≤ 9223372036854775807
theorem Reads.sub {t : TypeId} {α : Type} {av av' : α → List AV} {ok : α → Prop} (h : Reads Try.prog t av ok) (hs : ∀ a, SubL (av a) (av' a)) : Reads Try.prog t av' ok := by
  intro H enc W sp fuel cs x hx
  obtain ⟨a, h1, h2⟩ := h H enc W sp fuel cs x hx
  obtain ⟨e1, e2⟩ := (hs a).spec
  exact ⟨a, h1, by rw [e1]; exact h2.1, fun j hj => e2 j _ _ _ _ (h2.2 j (by rw [← e1]; exact hj))⟩
theorem readsP : Reads Try.prog 44 avP okPo :=
  (reads_struct Try.underlying44 rfl (by kernel_rfl) (readsF_cons (k := 1) (by kernel_rfl) (reads_int Try.underlying3) (readsF_cons (k := 1) (by kernel_rfl) (reads_bool Try.underlying4) readsF_nil))).map (fun a => ⟨a.1, a.2.1⟩) (fun _ => rfl) (fun a h => wf64 h.1)
theorem readsC : Reads Try.prog 41 avC okC :=
  (reads_struct Try.underlying41 rfl (by kernel_rfl) (readsF_cons (k := 1) (by kernel_rfl) (reads_int Try.underlying3) (readsF_cons (k := 1) (by kernel_rfl) (reads_int Try.underlying3) (readsF_cons (k := 1) (by kernel_rfl) (reads_bool Try.underlying4) readsF_nil)))).map (fun a => ⟨a.1, a.2.1, a.2.2.1⟩) (fun _ => rfl) (fun a h => ⟨wf64 h.1, wf64 h.2.1⟩)
theorem readsPs : Reads Try.prog 22 (fun l => [avPs l]) okPs := reads_slice Try.underlying22 (by kernel_rfl) (by decide) readsP
theorem readsCs : Reads Try.prog 23 (fun l => [avCs l]) okCs := reads_slice Try.underlying23 (by kernel_rfl) (by decide) readsC
theorem okP_nth {l : List Po} (h : okPs l) {i : Nat} (hi : i < l.length) : In64 (l.getD i default).c := h.1 _ (nth_mem hi)
theorem okC_nth {l : List Cl} (h : okCs l) {i : Nat} (hi : i < l.length) : okC (l.getD i default) := h.1 _ (nth_mem hi)
end Go.Proofs.Ythgjjhddbigfcaa
