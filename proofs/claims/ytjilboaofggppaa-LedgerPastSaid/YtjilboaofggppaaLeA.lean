/- Part of a proof about the given program: contracts of its functions (see the comment of the last text). -/
import Derived.Test.YtjilboaofggppaaEngY
import Derived.Test.YtjilboaofggppaaEngR2
import Derived.Test.YtjilboaofggppaaProg
import Derived.KernelRfl
namespace Go.Proofs.Ytjilboaofggppaa
open Go.Eng Go.Proofs
set_option linter.unusedSimpArgs false
set_option linter.unusedVariables false
attribute [local irreducible] AOps AOpsX AOps2 AOpsS AWP

def sE : Value := .agg #[.int .i64 0, .string ⟨#[]⟩, .string ⟨#[]⟩, .int .i64 0, .int .i64 0, .int .i64 0]
def T : Tab
  | 3 => some ⟨.int .i64, 1, 8, .int .i64 0⟩
  | 4 => some ⟨.bool, 1, 1, .bool false⟩
  | 5 => some ⟨.int .u8, 1, 1, .int .u8 0⟩
  | 9 => some ⟨.str, 1, 16, .string ⟨#[]⟩⟩
  | 22 => some ⟨.sl 26, 1, 24, .slice none 0 0⟩
  | 24 => some ⟨.st true [(0, 22)], 1, 24, .agg #[.slice none 0 0]⟩
  | 26 => some ⟨.st true [(0, 3), (1, 9), (2, 9), (3, 3), (4, 3), (5, 3)], 6, 64, .agg #[.int .i64 0, .string ⟨#[]⟩, .string ⟨#[]⟩, .int .i64 0, .int .i64 0, .int .i64 0]⟩
  | 28 => some ⟨.int .i64, 1, 8, .int .i64 0⟩
  | 35 => some ⟨.sl 9, 1, 24, .slice none 0 0⟩
  | 50 => some ⟨.mapt 3 4, 1, 8, .map none⟩
  | 54 => some ⟨.mapt 9 4, 1, 8, .map none⟩
  | _ => none
attribute [push_cast] T
theorem hT : T.ok Try.prog := by
  intro t i h
  unfold T at h
  split at h
  · cases h; exact ti_ok (by kernel_rfl) Try.underlying3
  · cases h; exact ti_ok (by kernel_rfl) Try.underlying4
  · cases h; exact ti_ok (by kernel_rfl) Try.underlying5
  · cases h; exact ti_ok (by kernel_rfl) Try.underlying9
  · cases h; exact ti_ok (by kernel_rfl) Try.underlying22
  · cases h; exact ti_ok (by kernel_rfl) ⟨_, Try.underlying24, rfl, fun _ => ⟨by kernel_rfl, by kernel_rfl, by kernel_rfl⟩⟩
  · cases h; exact ti_ok (by kernel_rfl) ⟨_, Try.underlying26, rfl, fun _ => ⟨by kernel_rfl, by kernel_rfl, by kernel_rfl⟩⟩
  · cases h; exact ti_ok (by kernel_rfl) Try.underlying28
  · cases h; exact ti_ok (by kernel_rfl) Try.underlying35
  · cases h; exact ti_ok (by kernel_rfl) Try.underlying50
  · cases h; exact ti_ok (by kernel_rfl) Try.underlying54
  · cases h
theorem hm : Try.prog.follows .mixedOrders = true := by kernel_rfl

/-- int's range. -/
def In64 (n : Int) : Prop := -9223372036854775808 ≤ n ∧ n ≤ 9223372036854775807
/-- An entry. -/
structure En where
  id : Int
  db : ByteArray
  cr : ByteArray
  ct : Int
  dy : Int
  bk : Int
  deriving Inhabited, DecidableEq
abbrev STR (s : ByteArray) : AV := .v (.string s)
def avE (x : En) : List AV := [I64 x.id, STR x.db, STR x.cr, I64 x.ct, I64 x.dy, I64 x.bk]
attribute [push_cast] avE
abbrev avEs (l : List En) : AV := avSl avE 6 l
def avL (l : List En) : List AV := [avEs l]
attribute [push_cast] avL
def okE (x : En) : Prop := In64 x.id ∧ x.db.size ≤ 9223372036854775807 ∧ x.cr.size ≤ 9223372036854775807 ∧ In64 x.ct ∧ In64 x.dy ∧ In64 x.bk
def okL (l : List En) : Prop := (∀ e ∈ l, okE e) ∧ l.length ≤ 9223372036854775807
theorem readsE : Reads Try.prog 26 avE okE :=
  (reads_struct Try.underlying26 rfl (by kernel_rfl) (readsF_cons (k := 1) (by kernel_rfl) (reads_int Try.underlying3) (readsF_cons (k := 1) (by kernel_rfl) (reads_str Try.underlying9) (readsF_cons (k := 1) (by kernel_rfl) (reads_str Try.underlying9) (readsF_cons (k := 1) (by kernel_rfl) (reads_int Try.underlying3) (readsF_cons (k := 1) (by kernel_rfl) (reads_int Try.underlying3) (readsF_cons (k := 1) (by kernel_rfl) (reads_int Try.underlying3) readsF_nil))))))).map (fun a => ⟨a.1, a.2.1, a.2.2.1, a.2.2.2.1, a.2.2.2.2.1, a.2.2.2.2.2.1⟩) (fun _ => rfl) (fun a h => ⟨wf64 h.1, h.2.1, h.2.2.1, wf64 h.2.2.2.1, wf64 h.2.2.2.2.1, wf64 h.2.2.2.2.2.1⟩)
theorem readsEs : Reads Try.prog 22 (fun ps => [avEs ps]) okL := reads_slice Try.underlying22 (by kernel_rfl) (by decide) readsE
theorem readsL : Reads Try.prog 24 avL okL :=
  (reads_struct Try.underlying24 rfl (by kernel_rfl) (readsF_cons (k := 1) (by kernel_rfl) readsEs readsF_nil)).map (fun a => a.1) (fun _ => rfl) (fun a h => h.1)

theorem str_eq (a b : ByteArray) : (a.toList == b.toList) = decide (a = b) := by
  by_cases h : a = b
  · subst h; simp
  · rw [decide_eq_false h]
    have : a.toList ≠ b.toList := fun e => h (by
      have h1 : a.data.toList = a.toList := by rw [ByteArray.toList_eq]
      have h2 : b.data.toList = b.toList := by rw [ByteArray.toList_eq]
      have : a.data = b.data := Array.toList_inj.1 (by rw [h1, h2, e])
      cases a; cases b; simp_all)
    simpa using this
theorem ba_eq (a b : ByteArray) : (a == b) = decide (a = b) := by
  obtain ⟨x⟩ := a
  obtain ⟨y⟩ := b
  have h1 : ((ByteArray.mk x) == (ByteArray.mk y)) = (x == y) := rfl
  rw [h1]
  by_cases h : x = y
  · subst h; simp
  · have : ByteArray.mk x ≠ ByteArray.mk y := fun e => h (by injection e)
    rw [decide_eq_false this]; simpa using h
attribute [push_cast] str_eq ba_eq
end Go.Proofs.Ytjilboaofggppaa
