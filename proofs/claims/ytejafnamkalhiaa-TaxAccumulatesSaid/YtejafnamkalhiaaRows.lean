/-
  No cell of these rows narrows 'for every input' (looked for: loops, veiled, ifaces, maps, wideKeys, modest, calm, conditions, laid).
  DERIVED. THE GIVEN ROWS OF THIS SEAT. 7 by the template 'for every input the law returns true; each argument reads behind the call as it read before'; 0 by the template 'total and deterministic' (their statements: YtejafnamkalhiaaTotals.lean).
  GIVEN WITH THE SEED: the statements are not yours to turn. If you find one false, say at which input.
  Laid BY PROGRAM, IN A SANDBOX (cutbox-rows.mjs): the forced cells as the released guide's own fill.sh prints them over the translation afcba1519179ba42… (all of the seat's roots in one cut). By AI agents, Wed Nov 11 2026. No macro, syntax, notation, axiom, sorry.
-/
import Derived.Test.YtejafnamkalhiaaChecked
import GoSem.Claim
import GoSem.ClaimJoined
import GoSem.ClaimMapViews
import Derived.JoinedTies
import Derived.KernelRfl
namespace Go.Proofs.Ytejafnamkalhiaa
/- THE CELL 'sum', in the pinned program and in every row, IS THE sha256 OF THE DUMP (.gsa) THAT YtejafnamkalhiaaProg.lean LOADS. Nothing in Lean hashes anything: it is a label: what it is worth is what the hold of that sum in a sandbox is worth. -/
noncomputable def Try.pinned : Pinned := { name := "ytejafnamkalhiaa", sum := "afcba1519179ba4213125af953dce16a35ec7ea90debe35f8ed7594ac4055714", checked := Try.checked }
namespace Rows
def none {H : Type} : Left H := { results := [], args := [] }

/-- 'wageofficelaw28.TaxMatchesReference': WHATEVER THE INPUT: true; the input reads as it did. -/
def taxMatchesReferenceSpec : ChangeSpec := { name := "taxMatchesReference", fn := fun _ => fun
  | [d1, d2, d3, d4, d5, d6] => { results := [.lit (.bool true)], args := [d1, d2, d3, d4, d5, d6] }
  | _ => none }
def taxMatchesReferenceRow : OpenClaim := { program := "ytejafnamkalhiaa", sum := "afcba1519179ba4213125af953dce16a35ec7ea90debe35f8ed7594ac4055714", func := "wageoffice/wageofficelaw28.TaxMatchesReference", spec := "taxMatchesReference", unfollowed := true, recurses := true, apart := false }
def TaxMatchesReferenceSaid : Prop := taxMatchesReferenceRow.holds Try.pinned (OpenSpec.ofChange taxMatchesReferenceSpec)

/-- ITS FALSE NEIGHBOUR: 'it returns false'. Refute it at one input. -/
def taxMatchesReferenceWrong : ChangeSpec := { name := "taxMatchesReference", fn := fun _ => fun
  | [d1, d2, d3, d4, d5, d6] => { results := [.lit (.bool false)], args := [d1, d2, d3, d4, d5, d6] }
  | _ => none }
def TaxMatchesReferenceWrongFalsely : Prop := taxMatchesReferenceRow.holds Try.pinned (OpenSpec.ofChange taxMatchesReferenceWrong)

/-- 'wageofficelaw28.TaxYears': WHATEVER THE INPUT: true; the input reads as it did. -/
def taxYearsSpec : ChangeSpec := { name := "taxYears", fn := fun _ => fun
  | [d1, d2] => { results := [.lit (.bool true)], args := [d1, d2] }
  | _ => none }
def taxYearsRow : OpenClaim := { program := "ytejafnamkalhiaa", sum := "afcba1519179ba4213125af953dce16a35ec7ea90debe35f8ed7594ac4055714", func := "wageoffice/wageofficelaw28.TaxYears", spec := "taxYears", unfollowed := true, recurses := true, apart := false }
def TaxYearsSaid : Prop := taxYearsRow.holds Try.pinned (OpenSpec.ofChange taxYearsSpec)

/-- ITS FALSE NEIGHBOUR: 'it returns false'. Refute it at one input. -/
def taxYearsWrong : ChangeSpec := { name := "taxYears", fn := fun _ => fun
  | [d1, d2] => { results := [.lit (.bool false)], args := [d1, d2] }
  | _ => none }
def TaxYearsWrongFalsely : Prop := taxYearsRow.holds Try.pinned (OpenSpec.ofChange taxYearsWrong)

/-- 'wageofficelaw28.TaxAccumulates': WHATEVER THE INPUT: true; the input reads as it did. -/
def taxAccumulatesSpec : ChangeSpec := { name := "taxAccumulates", fn := fun _ => fun
  | [d1, d2] => { results := [.lit (.bool true)], args := [d1, d2] }
  | _ => none }
def taxAccumulatesRow : OpenClaim := { program := "ytejafnamkalhiaa", sum := "afcba1519179ba4213125af953dce16a35ec7ea90debe35f8ed7594ac4055714", func := "wageoffice/wageofficelaw28.TaxAccumulates", spec := "taxAccumulates", unfollowed := true, recurses := true, apart := false }
def TaxAccumulatesSaid : Prop := taxAccumulatesRow.holds Try.pinned (OpenSpec.ofChange taxAccumulatesSpec)

/-- ITS FALSE NEIGHBOUR: 'it returns false'. Refute it at one input. -/
def taxAccumulatesWrong : ChangeSpec := { name := "taxAccumulates", fn := fun _ => fun
  | [d1, d2] => { results := [.lit (.bool false)], args := [d1, d2] }
  | _ => none }
def TaxAccumulatesWrongFalsely : Prop := taxAccumulatesRow.holds Try.pinned (OpenSpec.ofChange taxAccumulatesWrong)

/-- 'wageofficelaw28.TaxEmployers': WHATEVER THE INPUT: true; the input reads as it did. -/
def taxEmployersSpec : ChangeSpec := { name := "taxEmployers", fn := fun _ => fun
  | [d1, d2, d3] => { results := [.lit (.bool true)], args := [d1, d2, d3] }
  | _ => none }
def taxEmployersRow : OpenClaim := { program := "ytejafnamkalhiaa", sum := "afcba1519179ba4213125af953dce16a35ec7ea90debe35f8ed7594ac4055714", func := "wageoffice/wageofficelaw28.TaxEmployers", spec := "taxEmployers", unfollowed := true, recurses := true, apart := false }
def TaxEmployersSaid : Prop := taxEmployersRow.holds Try.pinned (OpenSpec.ofChange taxEmployersSpec)

/-- ITS FALSE NEIGHBOUR: 'it returns false'. Refute it at one input. -/
def taxEmployersWrong : ChangeSpec := { name := "taxEmployers", fn := fun _ => fun
  | [d1, d2, d3] => { results := [.lit (.bool false)], args := [d1, d2, d3] }
  | _ => none }
def TaxEmployersWrongFalsely : Prop := taxEmployersRow.holds Try.pinned (OpenSpec.ofChange taxEmployersWrong)

/-- 'wageofficelaw28.TaxMonotone': WHATEVER THE INPUT: true; the input reads as it did. -/
def taxMonotoneSpec : ChangeSpec := { name := "taxMonotone", fn := fun _ => fun
  | [d1, d2, d3] => { results := [.lit (.bool true)], args := [d1, d2, d3] }
  | _ => none }
def taxMonotoneRow : OpenClaim := { program := "ytejafnamkalhiaa", sum := "afcba1519179ba4213125af953dce16a35ec7ea90debe35f8ed7594ac4055714", func := "wageoffice/wageofficelaw28.TaxMonotone", spec := "taxMonotone", unfollowed := true, recurses := true, apart := false }
def TaxMonotoneSaid : Prop := taxMonotoneRow.holds Try.pinned (OpenSpec.ofChange taxMonotoneSpec)

/-- ITS FALSE NEIGHBOUR: 'it returns false'. Refute it at one input. -/
def taxMonotoneWrong : ChangeSpec := { name := "taxMonotone", fn := fun _ => fun
  | [d1, d2, d3] => { results := [.lit (.bool false)], args := [d1, d2, d3] }
  | _ => none }
def TaxMonotoneWrongFalsely : Prop := taxMonotoneRow.holds Try.pinned (OpenSpec.ofChange taxMonotoneWrong)

/-- 'wageofficelaw28.TaxCorrections': WHATEVER THE INPUT: true; the input reads as it did. -/
def taxCorrectionsSpec : ChangeSpec := { name := "taxCorrections", fn := fun _ => fun
  | [d1, d2, d3, d4] => { results := [.lit (.bool true)], args := [d1, d2, d3, d4] }
  | _ => none }
def taxCorrectionsRow : OpenClaim := { program := "ytejafnamkalhiaa", sum := "afcba1519179ba4213125af953dce16a35ec7ea90debe35f8ed7594ac4055714", func := "wageoffice/wageofficelaw28.TaxCorrections", spec := "taxCorrections", unfollowed := true, recurses := true, apart := false }
def TaxCorrectionsSaid : Prop := taxCorrectionsRow.holds Try.pinned (OpenSpec.ofChange taxCorrectionsSpec)

/-- ITS FALSE NEIGHBOUR: 'it returns false'. Refute it at one input. -/
def taxCorrectionsWrong : ChangeSpec := { name := "taxCorrections", fn := fun _ => fun
  | [d1, d2, d3, d4] => { results := [.lit (.bool false)], args := [d1, d2, d3, d4] }
  | _ => none }
def TaxCorrectionsWrongFalsely : Prop := taxCorrectionsRow.holds Try.pinned (OpenSpec.ofChange taxCorrectionsWrong)

/-- 'wageofficelaw28.TaxRounding': WHATEVER THE INPUT: true; the input reads as it did. -/
def taxRoundingSpec : ChangeSpec := { name := "taxRounding", fn := fun _ => fun
  | [d1, d2] => { results := [.lit (.bool true)], args := [d1, d2] }
  | _ => none }
def taxRoundingRow : OpenClaim := { program := "ytejafnamkalhiaa", sum := "afcba1519179ba4213125af953dce16a35ec7ea90debe35f8ed7594ac4055714", func := "wageoffice/wageofficelaw28.TaxRounding", spec := "taxRounding", unfollowed := true, recurses := true, apart := false }
def TaxRoundingSaid : Prop := taxRoundingRow.holds Try.pinned (OpenSpec.ofChange taxRoundingSpec)

/-- ITS FALSE NEIGHBOUR: 'it returns false'. Refute it at one input. -/
def taxRoundingWrong : ChangeSpec := { name := "taxRounding", fn := fun _ => fun
  | [d1, d2] => { results := [.lit (.bool false)], args := [d1, d2] }
  | _ => none }
def TaxRoundingWrongFalsely : Prop := taxRoundingRow.holds Try.pinned (OpenSpec.ofChange taxRoundingWrong)

/- THE SECOND FORM. 'bulk': how many values and letters a reading holds, each counted each time it is reached (what is shared counts as often as it is met; a slice's spare places count too). A statement '..UptoSaid' is the law's where the arguments, and the package variables that the reading takes, are together of bulk at most 1048576: NARROWER than '..Said'. Prove '..Said' where nothing that the law and all that it calls make is longer than what came in: it says more and counts as full. Else prove '..UptoSaid'. A law counts once. -/
mutual
def uptoBulk {H : Type} : DataW H → Nat
  | .lit (.string bytes) => bytes.length + 1
  | .lit _ => 1
  | .nil => 1
  | .ptr d => uptoBulk d + 1
  | .slice elems spare => uptoBulkAll elems + uptoBulkAll spare + 1
  | .agg parts => uptoBulkAll parts + 1
  | .iface _ d => uptoBulk d + 1
  | .map entries => uptoBulkEntries entries + 1
  | .held _ => 1
def uptoBulkAll {H : Type} : List (DataW H) → Nat
  | [] => 0
  | d :: r => uptoBulk d + uptoBulkAll r
def uptoBulkEntries {H : Type} : List (Lit × DataW H) → Nat
  | [] => 0
  | x :: r => uptoBulkEntry x + uptoBulkEntries r
def uptoBulkEntry {H : Type} : Lit × DataW H → Nat
  | (.string bytes, d) => bytes.length + uptoBulk d + 1
  | (_, d) => uptoBulk d + 1
 end
def uptoSmall : (H : Type) → List (DataW H) → Bool := fun _ ds => decide (uptoBulkAll ds ≤ 1048576)
def OpenSpec.upto (s : _root_.Go.ChangeSpec) : _root_.Go.OpenSpec := { _root_.Go.OpenSpec.ofChange s with cond := some uptoSmall }

/-- 'wageofficelaw28.TaxMatchesReference', WHERE WHAT IT READS IS OF BULK AT MOST 1048576: true; the input reads as it did. -/
def taxMatchesReferenceUptoRow : OpenClaim := { program := "ytejafnamkalhiaa", sum := "afcba1519179ba4213125af953dce16a35ec7ea90debe35f8ed7594ac4055714", func := "wageoffice/wageofficelaw28.TaxMatchesReference", spec := "taxMatchesReference", unfollowed := true, recurses := true, apart := false, narrowed := true }
def TaxMatchesReferenceUptoSaid : Prop := taxMatchesReferenceUptoRow.holds Try.pinned (OpenSpec.upto taxMatchesReferenceSpec)

/-- 'wageofficelaw28.TaxYears', WHERE WHAT IT READS IS OF BULK AT MOST 1048576: true; the input reads as it did. -/
def taxYearsUptoRow : OpenClaim := { program := "ytejafnamkalhiaa", sum := "afcba1519179ba4213125af953dce16a35ec7ea90debe35f8ed7594ac4055714", func := "wageoffice/wageofficelaw28.TaxYears", spec := "taxYears", unfollowed := true, recurses := true, apart := false, narrowed := true }
def TaxYearsUptoSaid : Prop := taxYearsUptoRow.holds Try.pinned (OpenSpec.upto taxYearsSpec)

/-- 'wageofficelaw28.TaxAccumulates', WHERE WHAT IT READS IS OF BULK AT MOST 1048576: true; the input reads as it did. -/
def taxAccumulatesUptoRow : OpenClaim := { program := "ytejafnamkalhiaa", sum := "afcba1519179ba4213125af953dce16a35ec7ea90debe35f8ed7594ac4055714", func := "wageoffice/wageofficelaw28.TaxAccumulates", spec := "taxAccumulates", unfollowed := true, recurses := true, apart := false, narrowed := true }
def TaxAccumulatesUptoSaid : Prop := taxAccumulatesUptoRow.holds Try.pinned (OpenSpec.upto taxAccumulatesSpec)

/-- 'wageofficelaw28.TaxEmployers', WHERE WHAT IT READS IS OF BULK AT MOST 1048576: true; the input reads as it did. -/
def taxEmployersUptoRow : OpenClaim := { program := "ytejafnamkalhiaa", sum := "afcba1519179ba4213125af953dce16a35ec7ea90debe35f8ed7594ac4055714", func := "wageoffice/wageofficelaw28.TaxEmployers", spec := "taxEmployers", unfollowed := true, recurses := true, apart := false, narrowed := true }
def TaxEmployersUptoSaid : Prop := taxEmployersUptoRow.holds Try.pinned (OpenSpec.upto taxEmployersSpec)

/-- 'wageofficelaw28.TaxMonotone', WHERE WHAT IT READS IS OF BULK AT MOST 1048576: true; the input reads as it did. -/
def taxMonotoneUptoRow : OpenClaim := { program := "ytejafnamkalhiaa", sum := "afcba1519179ba4213125af953dce16a35ec7ea90debe35f8ed7594ac4055714", func := "wageoffice/wageofficelaw28.TaxMonotone", spec := "taxMonotone", unfollowed := true, recurses := true, apart := false, narrowed := true }
def TaxMonotoneUptoSaid : Prop := taxMonotoneUptoRow.holds Try.pinned (OpenSpec.upto taxMonotoneSpec)

/-- 'wageofficelaw28.TaxCorrections', WHERE WHAT IT READS IS OF BULK AT MOST 1048576: true; the input reads as it did. -/
def taxCorrectionsUptoRow : OpenClaim := { program := "ytejafnamkalhiaa", sum := "afcba1519179ba4213125af953dce16a35ec7ea90debe35f8ed7594ac4055714", func := "wageoffice/wageofficelaw28.TaxCorrections", spec := "taxCorrections", unfollowed := true, recurses := true, apart := false, narrowed := true }
def TaxCorrectionsUptoSaid : Prop := taxCorrectionsUptoRow.holds Try.pinned (OpenSpec.upto taxCorrectionsSpec)

/-- 'wageofficelaw28.TaxRounding', WHERE WHAT IT READS IS OF BULK AT MOST 1048576: true; the input reads as it did. -/
def taxRoundingUptoRow : OpenClaim := { program := "ytejafnamkalhiaa", sum := "afcba1519179ba4213125af953dce16a35ec7ea90debe35f8ed7594ac4055714", func := "wageoffice/wageofficelaw28.TaxRounding", spec := "taxRounding", unfollowed := true, recurses := true, apart := false, narrowed := true }
def TaxRoundingUptoSaid : Prop := taxRoundingUptoRow.holds Try.pinned (OpenSpec.upto taxRoundingSpec)

end Rows
end Go.Proofs.Ytejafnamkalhiaa
