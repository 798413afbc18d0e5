/- Part of a proof about the given program: contracts of its functions (see the comment of the last text). -/
import Derived.Test.YtgcomonjkcpkaaaQngY
import Derived.Test.YtgcomonjkcpkaaaQngZ3
import Derived.Test.YtgcomonjkcpkaaaProg
import Derived.KernelRfl
namespace Go.Proofs.Ytgcomonjkcpkaaa
open Go.Eng Go.Proofs
set_option linter.unusedSimpArgs false
set_option linter.unusedVariables false
attribute [local irreducible] AOps AOpsX AOps2 AWP

def zRow : Value := .agg (Array.replicate 61 (.int .i64 0))
def zTab : Value := .agg (Array.replicate 2989 (.int .i64 0))
def zFound : Value := .agg (Array.replicate 108 #[Value.int .i64 0, .bool false, .int .i64 0]).flatten
def T : Tab
  | 3 => some ⟨.int .i64, 1, 8, .int .i64 0⟩
  | 4 => some ⟨.bool, 1, 1, .bool false⟩
  | 5 => some ⟨.int .u8, 1, 1, .int .u8 0⟩
  | 22 => some ⟨.sl 48, 1, 24, .slice none 0 0⟩
  | 23 => some ⟨.sl 45, 1, 24, .slice none 0 0⟩
  | 24 => some ⟨.sl 57, 1, 24, .slice none 0 0⟩
  | 27 => some ⟨.int .i64, 1, 8, .int .i64 0⟩
  | 30 => some ⟨.sl 3, 1, 24, .slice none 0 0⟩
  | 36 => some ⟨.sl 5, 1, 24, .slice none 0 0⟩
  | 39 => some ⟨.sl 43, 1, 24, .slice none 0 0⟩
  | 43 => some ⟨.st true [(0, 3), (1, 4), (2, 3)], 3, 24, .agg #[.int .i64 0, .bool false, .int .i64 0]⟩
  | 45 => some ⟨.st true [(0, 3), (1, 4)], 2, 16, .agg #[.int .i64 0, .bool false]⟩
  | 48 => some ⟨.st true [(0, 3), (1, 3), (2, 3)], 3, 24, .agg #[.int .i64 0, .int .i64 0, .int .i64 0]⟩
  | 55 => some ⟨.sl 4, 1, 24, .slice none 0 0⟩
  | 57 => some ⟨.st true [(0, 3), (1, 4), (2, 3)], 3, 24, .agg #[.int .i64 0, .bool false, .int .i64 0]⟩
  | 60 => some ⟨.sl 67, 1, 24, .slice none 0 0⟩
  | 62 => some ⟨.ptr 75, 1, 8, .pointer none⟩
  | 64 => some ⟨.arr 61 3, 61, 488, zRow⟩
  | 67 => some ⟨.st true [(0, 3), (1, 4), (2, 3)], 3, 24, .agg #[.int .i64 0, .bool false, .int .i64 0]⟩
  | 69 => some ⟨.arr 108 57, 324, 2592, zFound⟩
  | 70 => some ⟨.sl 30, 1, 24, .slice none 0 0⟩
  | 75 => some ⟨.arr 49 64, 2989, 23912, zTab⟩
  | _ => none
attribute [push_cast] T
theorem hT : T.ok Try.prog := by
  intro t i h
  unfold T at h
  split at h
  · cases h; exact ti_ok (by kernel_rfl) Try.underlying3
  · cases h; exact ti_ok (by kernel_rfl) Try.underlying4
  · cases h; exact ti_ok (by kernel_rfl) Try.underlying5
  · cases h; exact ti_ok (by kernel_rfl) Try.underlying22
  · cases h; exact ti_ok (by kernel_rfl) Try.underlying23
  · cases h; exact ti_ok (by kernel_rfl) Try.underlying24
  · cases h; exact ti_ok (by kernel_rfl) Try.underlying27
  · cases h; exact ti_ok (by kernel_rfl) Try.underlying30
  · cases h; exact ti_ok (by kernel_rfl) Try.underlying36
  · cases h; exact ti_ok (by kernel_rfl) Try.underlying39
  · cases h; exact ti_ok (by kernel_rfl) ⟨_, Try.underlying43, rfl, fun _ => ⟨by kernel_rfl, by kernel_rfl, by kernel_rfl⟩⟩
  · cases h; exact ti_ok (by kernel_rfl) ⟨_, Try.underlying45, rfl, fun _ => ⟨by kernel_rfl, by kernel_rfl, by kernel_rfl⟩⟩
  · cases h; exact ti_ok (by kernel_rfl) ⟨_, Try.underlying48, rfl, fun _ => ⟨by kernel_rfl, by kernel_rfl, by kernel_rfl⟩⟩
  · cases h; exact ti_ok (by kernel_rfl) Try.underlying55
  · cases h; exact ti_ok (by kernel_rfl) ⟨_, Try.underlying57, rfl, fun _ => ⟨by kernel_rfl, by kernel_rfl, by kernel_rfl⟩⟩
  · cases h; exact ti_ok (by kernel_rfl) Try.underlying60
  · cases h; exact ti_ok (by kernel_rfl) Try.underlying62
  · cases h; exact ti_ok (by kernel_rfl) Try.underlying64
  · cases h; exact ti_ok (by kernel_rfl) ⟨_, Try.underlying67, rfl, fun _ => ⟨by kernel_rfl, by kernel_rfl, by kernel_rfl⟩⟩
  · cases h; exact ti_ok (by kernel_rfl) Try.underlying69
  · cases h; exact ti_ok (by kernel_rfl) Try.underlying70
  · cases h; exact ti_ok (by kernel_rfl) Try.underlying75
  · cases h
theorem hm : Try.prog.follows .mixedOrders = true := by kernel_rfl

/-- int's range. -/
def In64 (n : Int) : Prop := -9223372036854775808 ≤ n ∧ n ≤ 9223372036854775807
/-- A duty, a punch, a mark, a match. -/
structure Du where
  f : Int
  t : Int
  s : Int
  deriving Inhabited
structure Pn where
  a : Int
  i : Bool
  deriving Inhabited
structure Mk where
  d : Int
  i : Bool
  a : Int
  deriving Inhabited
structure Mt where
  d : Int
  i : Bool
  p : Int
  deriving Inhabited, DecidableEq
def avD (x : Du) : List AV := [I64 x.f, I64 x.t, I64 x.s]
def avP (x : Pn) : List AV := [I64 x.a, BL x.i]
def avK (x : Mk) : List AV := [I64 x.d, BL x.i, I64 x.a]
def avM (x : Mt) : List AV := [I64 x.d, BL x.i, I64 x.p]
attribute [push_cast] avD avP avK avM
abbrev avDs (l : List Du) : AV := avSl avD 3 l
abbrev avPs (l : List Pn) : AV := avSl avP 2 l
abbrev avKs (l : List Mk) : AV := avSl avK 3 l
abbrev avMs (l : List Mt) : AV := avSl avM 3 l
def okD (x : Du) : Prop := In64 x.f ∧ In64 x.t ∧ In64 x.s
def okP (x : Pn) : Prop := In64 x.a
def okM (x : Mt) : Prop := In64 x.d ∧ In64 x.p
theorem readsD : Reads Try.prog 48 avD okD :=
  (reads_struct Try.underlying48 rfl (by kernel_rfl) (readsF_cons (k := 1) (by kernel_rfl) (reads_int Try.underlying3) (readsF_cons (k := 1) (by kernel_rfl) (reads_int Try.underlying3) (readsF_cons (k := 1) (by kernel_rfl) (reads_int Try.underlying3) readsF_nil)))).map (fun a => ⟨a.1, a.2.1, a.2.2.1⟩) (fun _ => rfl) (fun a h => ⟨wf64 h.1, wf64 h.2.1, wf64 h.2.2.1⟩)
theorem readsDs : Reads Try.prog 22 (fun ps => [avDs ps]) (fun ps => (∀ p ∈ ps, okD p) ∧ ps.length ≤ maxLen) := reads_slice Try.underlying22 (by kernel_rfl) (by decide) readsD
theorem readsP : Reads Try.prog 45 avP okP :=
  (reads_struct Try.underlying45 rfl (by kernel_rfl) (readsF_cons (k := 1) (by kernel_rfl) (reads_int Try.underlying3) (readsF_cons (k := 1) (by kernel_rfl) (reads_bool Try.underlying4) readsF_nil))).map (fun a => ⟨a.1, a.2.1⟩) (fun _ => rfl) (fun a h => wf64 h.1)
theorem readsPs : Reads Try.prog 23 (fun ps => [avPs ps]) (fun ps => (∀ p ∈ ps, okP p) ∧ ps.length ≤ maxLen) := reads_slice Try.underlying23 (by kernel_rfl) (by decide) readsP

/-- A valid duty. -/
def VD (x : Du) : Prop := 0 ≤ x.f ∧ x.f < x.t ∧ x.t ≤ 52596000 ∧ x.t - x.f ≤ 1440 ∧ 0 ≤ x.s ∧ x.s ≤ 65535
instance (x : Du) : Decidable (VD x) := by unfold VD; infer_instance
end Go.Proofs.Ytgcomonjkcpkaaa
