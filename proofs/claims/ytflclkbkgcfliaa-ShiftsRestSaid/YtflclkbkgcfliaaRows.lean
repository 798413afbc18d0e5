/-
  No cell of these rows narrows 'for every input' (looked for: loops, veiled, ifaces, maps, wideKeys, modest, calm, conditions, laid).
  DERIVED. THE GIVEN ROWS OF THIS SEAT. 14 by the template 'for every input the law returns true; each argument reads behind the call as it read before'; 0 by the template 'total and deterministic' (their statements: YtflclkbkgcfliaaTotals.lean).
  GIVEN WITH THE SEED: the statements are not yours to turn. If you find one false, say at which input.
  Laid BY PROGRAM, IN A SANDBOX (cutbox-rows.mjs): the forced cells as the released guide's own fill.sh prints them over the translation 2ca4972715a91083… (all of the seat's roots in one cut). By AI agents, Wed Nov 11 2026. No macro, syntax, notation, axiom, sorry.
-/
import Derived.Test.YtflclkbkgcfliaaChecked
import GoSem.Claim
import GoSem.ClaimJoined
import GoSem.ClaimMapViews
import Derived.JoinedTies
import Derived.KernelRfl
namespace Go.Proofs.Ytflclkbkgcfliaa
/- THE CELL 'sum', in the pinned program and in every row, IS THE sha256 OF THE DUMP (.gsa) THAT YtflclkbkgcfliaaProg.lean LOADS. Nothing in Lean hashes anything: it is a label: what it is worth is what the hold of that sum in a sandbox is worth. -/
noncomputable def Try.pinned : Pinned := { name := "ytflclkbkgcfliaa", sum := "2ca4972715a91083f85467e8c13dbc4e8bd0b534ac9930034347b80c5df5f9f7", checked := Try.checked }
namespace Rows
def none {H : Type} : Left H := { results := [], args := [] }

/-- 'wageofficelaw03.ZoneMatchesReference': WHATEVER THE INPUT: true; the input reads as it did. -/
def zoneMatchesReferenceSpec : ChangeSpec := { name := "zoneMatchesReference", fn := fun _ => fun
  | [d1, d2, d3, d4, d5, d6, d7] => { results := [.lit (.bool true)], args := [d1, d2, d3, d4, d5, d6, d7] }
  | _ => none }
def zoneMatchesReferenceRow : OpenClaim := { program := "ytflclkbkgcfliaa", sum := "2ca4972715a91083f85467e8c13dbc4e8bd0b534ac9930034347b80c5df5f9f7", func := "wageoffice/wageofficelaw03.ZoneMatchesReference", spec := "zoneMatchesReference", unfollowed := true, recurses := true, apart := false }
def ZoneMatchesReferenceSaid : Prop := zoneMatchesReferenceRow.holds Try.pinned (OpenSpec.ofChange zoneMatchesReferenceSpec)

/-- ITS FALSE NEIGHBOUR: 'it returns false'. Refute it at one input. -/
def zoneMatchesReferenceWrong : ChangeSpec := { name := "zoneMatchesReference", fn := fun _ => fun
  | [d1, d2, d3, d4, d5, d6, d7] => { results := [.lit (.bool false)], args := [d1, d2, d3, d4, d5, d6, d7] }
  | _ => none }
def ZoneMatchesReferenceWrongFalsely : Prop := zoneMatchesReferenceRow.holds Try.pinned (OpenSpec.ofChange zoneMatchesReferenceWrong)

/-- 'wageofficelaw03.ZoneInverse': WHATEVER THE INPUT: true; the input reads as it did. -/
def zoneInverseSpec : ChangeSpec := { name := "zoneInverse", fn := fun _ => fun
  | [d1, d2, d3, d4] => { results := [.lit (.bool true)], args := [d1, d2, d3, d4] }
  | _ => none }
def zoneInverseRow : OpenClaim := { program := "ytflclkbkgcfliaa", sum := "2ca4972715a91083f85467e8c13dbc4e8bd0b534ac9930034347b80c5df5f9f7", func := "wageoffice/wageofficelaw03.ZoneInverse", spec := "zoneInverse", unfollowed := true, recurses := true, apart := false }
def ZoneInverseSaid : Prop := zoneInverseRow.holds Try.pinned (OpenSpec.ofChange zoneInverseSpec)

/-- ITS FALSE NEIGHBOUR: 'it returns false'. Refute it at one input. -/
def zoneInverseWrong : ChangeSpec := { name := "zoneInverse", fn := fun _ => fun
  | [d1, d2, d3, d4] => { results := [.lit (.bool false)], args := [d1, d2, d3, d4] }
  | _ => none }
def ZoneInverseWrongFalsely : Prop := zoneInverseRow.holds Try.pinned (OpenSpec.ofChange zoneInverseWrong)

/-- 'wageofficelaw03.ZoneDivision': WHATEVER THE INPUT: true; the input reads as it did. -/
def zoneDivisionSpec : ChangeSpec := { name := "zoneDivision", fn := fun _ => fun
  | [d1, d2, d3, d4] => { results := [.lit (.bool true)], args := [d1, d2, d3, d4] }
  | _ => none }
def zoneDivisionRow : OpenClaim := { program := "ytflclkbkgcfliaa", sum := "2ca4972715a91083f85467e8c13dbc4e8bd0b534ac9930034347b80c5df5f9f7", func := "wageoffice/wageofficelaw03.ZoneDivision", spec := "zoneDivision", unfollowed := true, recurses := true, apart := false }
def ZoneDivisionSaid : Prop := zoneDivisionRow.holds Try.pinned (OpenSpec.ofChange zoneDivisionSpec)

/-- ITS FALSE NEIGHBOUR: 'it returns false'. Refute it at one input. -/
def zoneDivisionWrong : ChangeSpec := { name := "zoneDivision", fn := fun _ => fun
  | [d1, d2, d3, d4] => { results := [.lit (.bool false)], args := [d1, d2, d3, d4] }
  | _ => none }
def ZoneDivisionWrongFalsely : Prop := zoneDivisionRow.holds Try.pinned (OpenSpec.ofChange zoneDivisionWrong)

/-- 'wageofficelaw03.ZoneLengths': WHATEVER THE INPUT: true; the input reads as it did. -/
def zoneLengthsSpec : ChangeSpec := { name := "zoneLengths", fn := fun _ => fun
  | [d1, d2] => { results := [.lit (.bool true)], args := [d1, d2] }
  | _ => none }
def zoneLengthsRow : OpenClaim := { program := "ytflclkbkgcfliaa", sum := "2ca4972715a91083f85467e8c13dbc4e8bd0b534ac9930034347b80c5df5f9f7", func := "wageoffice/wageofficelaw03.ZoneLengths", spec := "zoneLengths", unfollowed := true, recurses := true, apart := false }
def ZoneLengthsSaid : Prop := zoneLengthsRow.holds Try.pinned (OpenSpec.ofChange zoneLengthsSpec)

/-- ITS FALSE NEIGHBOUR: 'it returns false'. Refute it at one input. -/
def zoneLengthsWrong : ChangeSpec := { name := "zoneLengths", fn := fun _ => fun
  | [d1, d2] => { results := [.lit (.bool false)], args := [d1, d2] }
  | _ => none }
def ZoneLengthsWrongFalsely : Prop := zoneLengthsRow.holds Try.pinned (OpenSpec.ofChange zoneLengthsWrong)

/-- 'wageofficelaw03.ZoneWindows': WHATEVER THE INPUT: true; the input reads as it did. -/
def zoneWindowsSpec : ChangeSpec := { name := "zoneWindows", fn := fun _ => fun
  | [d1, d2, d3, d4, d5] => { results := [.lit (.bool true)], args := [d1, d2, d3, d4, d5] }
  | _ => none }
def zoneWindowsRow : OpenClaim := { program := "ytflclkbkgcfliaa", sum := "2ca4972715a91083f85467e8c13dbc4e8bd0b534ac9930034347b80c5df5f9f7", func := "wageoffice/wageofficelaw03.ZoneWindows", spec := "zoneWindows", unfollowed := true, recurses := true, apart := false }
def ZoneWindowsSaid : Prop := zoneWindowsRow.holds Try.pinned (OpenSpec.ofChange zoneWindowsSpec)

/-- ITS FALSE NEIGHBOUR: 'it returns false'. Refute it at one input. -/
def zoneWindowsWrong : ChangeSpec := { name := "zoneWindows", fn := fun _ => fun
  | [d1, d2, d3, d4, d5] => { results := [.lit (.bool false)], args := [d1, d2, d3, d4, d5] }
  | _ => none }
def ZoneWindowsWrongFalsely : Prop := zoneWindowsRow.holds Try.pinned (OpenSpec.ofChange zoneWindowsWrong)

/-- 'wageofficelaw03.ZoneFixed': WHATEVER THE INPUT: true; the input reads as it did. -/
def zoneFixedSpec : ChangeSpec := { name := "zoneFixed", fn := fun _ => fun
  | [d1, d2, d3, d4] => { results := [.lit (.bool true)], args := [d1, d2, d3, d4] }
  | _ => none }
def zoneFixedRow : OpenClaim := { program := "ytflclkbkgcfliaa", sum := "2ca4972715a91083f85467e8c13dbc4e8bd0b534ac9930034347b80c5df5f9f7", func := "wageoffice/wageofficelaw03.ZoneFixed", spec := "zoneFixed", unfollowed := true, recurses := true, apart := false }
def ZoneFixedSaid : Prop := zoneFixedRow.holds Try.pinned (OpenSpec.ofChange zoneFixedSpec)

/-- ITS FALSE NEIGHBOUR: 'it returns false'. Refute it at one input. -/
def zoneFixedWrong : ChangeSpec := { name := "zoneFixed", fn := fun _ => fun
  | [d1, d2, d3, d4] => { results := [.lit (.bool false)], args := [d1, d2, d3, d4] }
  | _ => none }
def ZoneFixedWrongFalsely : Prop := zoneFixedRow.holds Try.pinned (OpenSpec.ofChange zoneFixedWrong)

/-- 'wageofficelaw03.ZoneShifting': WHATEVER THE INPUT: true; the input reads as it did. -/
def zoneShiftingSpec : ChangeSpec := { name := "zoneShifting", fn := fun _ => fun
  | [d1, d2, d3] => { results := [.lit (.bool true)], args := [d1, d2, d3] }
  | _ => none }
def zoneShiftingRow : OpenClaim := { program := "ytflclkbkgcfliaa", sum := "2ca4972715a91083f85467e8c13dbc4e8bd0b534ac9930034347b80c5df5f9f7", func := "wageoffice/wageofficelaw03.ZoneShifting", spec := "zoneShifting", unfollowed := true, recurses := true, apart := false }
def ZoneShiftingSaid : Prop := zoneShiftingRow.holds Try.pinned (OpenSpec.ofChange zoneShiftingSpec)

/-- ITS FALSE NEIGHBOUR: 'it returns false'. Refute it at one input. -/
def zoneShiftingWrong : ChangeSpec := { name := "zoneShifting", fn := fun _ => fun
  | [d1, d2, d3] => { results := [.lit (.bool false)], args := [d1, d2, d3] }
  | _ => none }
def ZoneShiftingWrongFalsely : Prop := zoneShiftingRow.holds Try.pinned (OpenSpec.ofChange zoneShiftingWrong)

/-- 'wageofficelaw03.ZoneRunning': WHATEVER THE INPUT: true; the input reads as it did. -/
def zoneRunningSpec : ChangeSpec := { name := "zoneRunning", fn := fun _ => fun
  | [d1, d2] => { results := [.lit (.bool true)], args := [d1, d2] }
  | _ => none }
def zoneRunningRow : OpenClaim := { program := "ytflclkbkgcfliaa", sum := "2ca4972715a91083f85467e8c13dbc4e8bd0b534ac9930034347b80c5df5f9f7", func := "wageoffice/wageofficelaw03.ZoneRunning", spec := "zoneRunning", unfollowed := true, recurses := true, apart := false }
def ZoneRunningSaid : Prop := zoneRunningRow.holds Try.pinned (OpenSpec.ofChange zoneRunningSpec)

/-- ITS FALSE NEIGHBOUR: 'it returns false'. Refute it at one input. -/
def zoneRunningWrong : ChangeSpec := { name := "zoneRunning", fn := fun _ => fun
  | [d1, d2] => { results := [.lit (.bool false)], args := [d1, d2] }
  | _ => none }
def ZoneRunningWrongFalsely : Prop := zoneRunningRow.holds Try.pinned (OpenSpec.ofChange zoneRunningWrong)

/-- 'wageofficelaw17.ShiftsMatchesReference': WHATEVER THE INPUT: true; the input reads as it did. -/
def shiftsMatchesReferenceSpec : ChangeSpec := { name := "shiftsMatchesReference", fn := fun _ => fun
  | [d1, d2, d3, d4, d5] => { results := [.lit (.bool true)], args := [d1, d2, d3, d4, d5] }
  | _ => none }
def shiftsMatchesReferenceRow : OpenClaim := { program := "ytflclkbkgcfliaa", sum := "2ca4972715a91083f85467e8c13dbc4e8bd0b534ac9930034347b80c5df5f9f7", func := "wageoffice/wageofficelaw17.ShiftsMatchesReference", spec := "shiftsMatchesReference", unfollowed := true, recurses := true, apart := false }
def ShiftsMatchesReferenceSaid : Prop := shiftsMatchesReferenceRow.holds Try.pinned (OpenSpec.ofChange shiftsMatchesReferenceSpec)

/-- ITS FALSE NEIGHBOUR: 'it returns false'. Refute it at one input. -/
def shiftsMatchesReferenceWrong : ChangeSpec := { name := "shiftsMatchesReference", fn := fun _ => fun
  | [d1, d2, d3, d4, d5] => { results := [.lit (.bool false)], args := [d1, d2, d3, d4, d5] }
  | _ => none }
def ShiftsMatchesReferenceWrongFalsely : Prop := shiftsMatchesReferenceRow.holds Try.pinned (OpenSpec.ofChange shiftsMatchesReferenceWrong)

/-- 'wageofficelaw17.ShiftsDays': WHATEVER THE INPUT: true; the input reads as it did. -/
def shiftsDaysSpec : ChangeSpec := { name := "shiftsDays", fn := fun _ => fun
  | [d1, d2, d3, d4, d5] => { results := [.lit (.bool true)], args := [d1, d2, d3, d4, d5] }
  | _ => none }
def shiftsDaysRow : OpenClaim := { program := "ytflclkbkgcfliaa", sum := "2ca4972715a91083f85467e8c13dbc4e8bd0b534ac9930034347b80c5df5f9f7", func := "wageoffice/wageofficelaw17.ShiftsDays", spec := "shiftsDays", unfollowed := true, recurses := true, apart := false }
def ShiftsDaysSaid : Prop := shiftsDaysRow.holds Try.pinned (OpenSpec.ofChange shiftsDaysSpec)

/-- ITS FALSE NEIGHBOUR: 'it returns false'. Refute it at one input. -/
def shiftsDaysWrong : ChangeSpec := { name := "shiftsDays", fn := fun _ => fun
  | [d1, d2, d3, d4, d5] => { results := [.lit (.bool false)], args := [d1, d2, d3, d4, d5] }
  | _ => none }
def ShiftsDaysWrongFalsely : Prop := shiftsDaysRow.holds Try.pinned (OpenSpec.ofChange shiftsDaysWrong)

/-- 'wageofficelaw17.ShiftsNight': WHATEVER THE INPUT: true; the input reads as it did. -/
def shiftsNightSpec : ChangeSpec := { name := "shiftsNight", fn := fun _ => fun
  | [d1, d2, d3, d4, d5, d6] => { results := [.lit (.bool true)], args := [d1, d2, d3, d4, d5, d6] }
  | _ => none }
def shiftsNightRow : OpenClaim := { program := "ytflclkbkgcfliaa", sum := "2ca4972715a91083f85467e8c13dbc4e8bd0b534ac9930034347b80c5df5f9f7", func := "wageoffice/wageofficelaw17.ShiftsNight", spec := "shiftsNight", unfollowed := true, recurses := true, apart := false }
def ShiftsNightSaid : Prop := shiftsNightRow.holds Try.pinned (OpenSpec.ofChange shiftsNightSpec)

/-- ITS FALSE NEIGHBOUR: 'it returns false'. Refute it at one input. -/
def shiftsNightWrong : ChangeSpec := { name := "shiftsNight", fn := fun _ => fun
  | [d1, d2, d3, d4, d5, d6] => { results := [.lit (.bool false)], args := [d1, d2, d3, d4, d5, d6] }
  | _ => none }
def ShiftsNightWrongFalsely : Prop := shiftsNightRow.holds Try.pinned (OpenSpec.ofChange shiftsNightWrong)

/-- 'wageofficelaw17.ShiftsParts': WHATEVER THE INPUT: true; the input reads as it did. -/
def shiftsPartsSpec : ChangeSpec := { name := "shiftsParts", fn := fun _ => fun
  | [d1, d2, d3, d4, d5, d6, d7] => { results := [.lit (.bool true)], args := [d1, d2, d3, d4, d5, d6, d7] }
  | _ => none }
def shiftsPartsRow : OpenClaim := { program := "ytflclkbkgcfliaa", sum := "2ca4972715a91083f85467e8c13dbc4e8bd0b534ac9930034347b80c5df5f9f7", func := "wageoffice/wageofficelaw17.ShiftsParts", spec := "shiftsParts", unfollowed := true, recurses := true, apart := false }
def ShiftsPartsSaid : Prop := shiftsPartsRow.holds Try.pinned (OpenSpec.ofChange shiftsPartsSpec)

/-- ITS FALSE NEIGHBOUR: 'it returns false'. Refute it at one input. -/
def shiftsPartsWrong : ChangeSpec := { name := "shiftsParts", fn := fun _ => fun
  | [d1, d2, d3, d4, d5, d6, d7] => { results := [.lit (.bool false)], args := [d1, d2, d3, d4, d5, d6, d7] }
  | _ => none }
def ShiftsPartsWrongFalsely : Prop := shiftsPartsRow.holds Try.pinned (OpenSpec.ofChange shiftsPartsWrong)

/-- 'wageofficelaw17.ShiftsRest': WHATEVER THE INPUT: true; the input reads as it did. -/
def shiftsRestSpec : ChangeSpec := { name := "shiftsRest", fn := fun _ => fun
  | [d1, d2] => { results := [.lit (.bool true)], args := [d1, d2] }
  | _ => none }
def shiftsRestRow : OpenClaim := { program := "ytflclkbkgcfliaa", sum := "2ca4972715a91083f85467e8c13dbc4e8bd0b534ac9930034347b80c5df5f9f7", func := "wageoffice/wageofficelaw17.ShiftsRest", spec := "shiftsRest", unfollowed := true, recurses := true, apart := false }
def ShiftsRestSaid : Prop := shiftsRestRow.holds Try.pinned (OpenSpec.ofChange shiftsRestSpec)

/-- ITS FALSE NEIGHBOUR: 'it returns false'. Refute it at one input. -/
def shiftsRestWrong : ChangeSpec := { name := "shiftsRest", fn := fun _ => fun
  | [d1, d2] => { results := [.lit (.bool false)], args := [d1, d2] }
  | _ => none }
def ShiftsRestWrongFalsely : Prop := shiftsRestRow.holds Try.pinned (OpenSpec.ofChange shiftsRestWrong)

/-- 'wageofficelaw17.ShiftsShifted': WHATEVER THE INPUT: true; the input reads as it did. -/
def shiftsShiftedSpec : ChangeSpec := { name := "shiftsShifted", fn := fun _ => fun
  | [d1, d2, d3, d4, d5] => { results := [.lit (.bool true)], args := [d1, d2, d3, d4, d5] }
  | _ => none }
def shiftsShiftedRow : OpenClaim := { program := "ytflclkbkgcfliaa", sum := "2ca4972715a91083f85467e8c13dbc4e8bd0b534ac9930034347b80c5df5f9f7", func := "wageoffice/wageofficelaw17.ShiftsShifted", spec := "shiftsShifted", unfollowed := true, recurses := true, apart := false }
def ShiftsShiftedSaid : Prop := shiftsShiftedRow.holds Try.pinned (OpenSpec.ofChange shiftsShiftedSpec)

/-- ITS FALSE NEIGHBOUR: 'it returns false'. Refute it at one input. -/
def shiftsShiftedWrong : ChangeSpec := { name := "shiftsShifted", fn := fun _ => fun
  | [d1, d2, d3, d4, d5] => { results := [.lit (.bool false)], args := [d1, d2, d3, d4, d5] }
  | _ => none }
def ShiftsShiftedWrongFalsely : Prop := shiftsShiftedRow.holds Try.pinned (OpenSpec.ofChange shiftsShiftedWrong)

/- THE SECOND FORM. 'bulk': how many values and letters a reading holds, each counted each time it is reached (what is shared counts as often as it is met; a slice's spare places count too). A statement '..UptoSaid' is the law's where the arguments, and the package variables that the reading takes, are together of bulk at most 1048576: NARROWER than '..Said'. Prove '..Said' where nothing that the law and all that it calls make is longer than what came in: it says more and counts as full. Else prove '..UptoSaid'. A law counts once. -/
mutual
def uptoBulk {H : Type} : DataW H → Nat
  | .lit (.string bytes) => bytes.length + 1
  | .lit _ => 1
  | .nil => 1
  | .ptr d => uptoBulk d + 1
  | .slice elems spare => uptoBulkAll elems + uptoBulkAll spare + 1
  | .agg parts => uptoBulkAll parts + 1
  | .iface _ d => uptoBulk d + 1
  | .map entries => uptoBulkEntries entries + 1
  | .held _ => 1
def uptoBulkAll {H : Type} : List (DataW H) → Nat
  | [] => 0
  | d :: r => uptoBulk d + uptoBulkAll r
def uptoBulkEntries {H : Type} : List (Lit × DataW H) → Nat
  | [] => 0
  | x :: r => uptoBulkEntry x + uptoBulkEntries r
def uptoBulkEntry {H : Type} : Lit × DataW H → Nat
  | (.string bytes, d) => bytes.length + uptoBulk d + 1
  | (_, d) => uptoBulk d + 1
 end
def uptoSmall : (H : Type) → List (DataW H) → Bool := fun _ ds => decide (uptoBulkAll ds ≤ 1048576)
def OpenSpec.upto (s : _root_.Go.ChangeSpec) : _root_.Go.OpenSpec := { _root_.Go.OpenSpec.ofChange s with cond := some uptoSmall }

/-- 'wageofficelaw03.ZoneMatchesReference', WHERE WHAT IT READS IS OF BULK AT MOST 1048576: true; the input reads as it did. -/
def zoneMatchesReferenceUptoRow : OpenClaim := { program := "ytflclkbkgcfliaa", sum := "2ca4972715a91083f85467e8c13dbc4e8bd0b534ac9930034347b80c5df5f9f7", func := "wageoffice/wageofficelaw03.ZoneMatchesReference", spec := "zoneMatchesReference", unfollowed := true, recurses := true, apart := false, narrowed := true }
def ZoneMatchesReferenceUptoSaid : Prop := zoneMatchesReferenceUptoRow.holds Try.pinned (OpenSpec.upto zoneMatchesReferenceSpec)

/-- 'wageofficelaw03.ZoneInverse', WHERE WHAT IT READS IS OF BULK AT MOST 1048576: true; the input reads as it did. -/
def zoneInverseUptoRow : OpenClaim := { program := "ytflclkbkgcfliaa", sum := "2ca4972715a91083f85467e8c13dbc4e8bd0b534ac9930034347b80c5df5f9f7", func := "wageoffice/wageofficelaw03.ZoneInverse", spec := "zoneInverse", unfollowed := true, recurses := true, apart := false, narrowed := true }
def ZoneInverseUptoSaid : Prop := zoneInverseUptoRow.holds Try.pinned (OpenSpec.upto zoneInverseSpec)

/-- 'wageofficelaw03.ZoneDivision', WHERE WHAT IT READS IS OF BULK AT MOST 1048576: true; the input reads as it did. -/
def zoneDivisionUptoRow : OpenClaim := { program := "ytflclkbkgcfliaa", sum := "2ca4972715a91083f85467e8c13dbc4e8bd0b534ac9930034347b80c5df5f9f7", func := "wageoffice/wageofficelaw03.ZoneDivision", spec := "zoneDivision", unfollowed := true, recurses := true, apart := false, narrowed := true }
def ZoneDivisionUptoSaid : Prop := zoneDivisionUptoRow.holds Try.pinned (OpenSpec.upto zoneDivisionSpec)

/-- 'wageofficelaw03.ZoneLengths', WHERE WHAT IT READS IS OF BULK AT MOST 1048576: true; the input reads as it did. -/
def zoneLengthsUptoRow : OpenClaim := { program := "ytflclkbkgcfliaa", sum := "2ca4972715a91083f85467e8c13dbc4e8bd0b534ac9930034347b80c5df5f9f7", func := "wageoffice/wageofficelaw03.ZoneLengths", spec := "zoneLengths", unfollowed := true, recurses := true, apart := false, narrowed := true }
def ZoneLengthsUptoSaid : Prop := zoneLengthsUptoRow.holds Try.pinned (OpenSpec.upto zoneLengthsSpec)

/-- 'wageofficelaw03.ZoneWindows', WHERE WHAT IT READS IS OF BULK AT MOST 1048576: true; the input reads as it did. -/
def zoneWindowsUptoRow : OpenClaim := { program := "ytflclkbkgcfliaa", sum := "2ca4972715a91083f85467e8c13dbc4e8bd0b534ac9930034347b80c5df5f9f7", func := "wageoffice/wageofficelaw03.ZoneWindows", spec := "zoneWindows", unfollowed := true, recurses := true, apart := false, narrowed := true }
def ZoneWindowsUptoSaid : Prop := zoneWindowsUptoRow.holds Try.pinned (OpenSpec.upto zoneWindowsSpec)

/-- 'wageofficelaw03.ZoneFixed', WHERE WHAT IT READS IS OF BULK AT MOST 1048576: true; the input reads as it did. -/
def zoneFixedUptoRow : OpenClaim := { program := "ytflclkbkgcfliaa", sum := "2ca4972715a91083f85467e8c13dbc4e8bd0b534ac9930034347b80c5df5f9f7", func := "wageoffice/wageofficelaw03.ZoneFixed", spec := "zoneFixed", unfollowed := true, recurses := true, apart := false, narrowed := true }
def ZoneFixedUptoSaid : Prop := zoneFixedUptoRow.holds Try.pinned (OpenSpec.upto zoneFixedSpec)

/-- 'wageofficelaw03.ZoneShifting', WHERE WHAT IT READS IS OF BULK AT MOST 1048576: true; the input reads as it did. -/
def zoneShiftingUptoRow : OpenClaim := { program := "ytflclkbkgcfliaa", sum := "2ca4972715a91083f85467e8c13dbc4e8bd0b534ac9930034347b80c5df5f9f7", func := "wageoffice/wageofficelaw03.ZoneShifting", spec := "zoneShifting", unfollowed := true, recurses := true, apart := false, narrowed := true }
def ZoneShiftingUptoSaid : Prop := zoneShiftingUptoRow.holds Try.pinned (OpenSpec.upto zoneShiftingSpec)

/-- 'wageofficelaw03.ZoneRunning', WHERE WHAT IT READS IS OF BULK AT MOST 1048576: true; the input reads as it did. -/
def zoneRunningUptoRow : OpenClaim := { program := "ytflclkbkgcfliaa", sum := "2ca4972715a91083f85467e8c13dbc4e8bd0b534ac9930034347b80c5df5f9f7", func := "wageoffice/wageofficelaw03.ZoneRunning", spec := "zoneRunning", unfollowed := true, recurses := true, apart := false, narrowed := true }
def ZoneRunningUptoSaid : Prop := zoneRunningUptoRow.holds Try.pinned (OpenSpec.upto zoneRunningSpec)

/-- 'wageofficelaw17.ShiftsMatchesReference', WHERE WHAT IT READS IS OF BULK AT MOST 1048576: true; the input reads as it did. -/
def shiftsMatchesReferenceUptoRow : OpenClaim := { program := "ytflclkbkgcfliaa", sum := "2ca4972715a91083f85467e8c13dbc4e8bd0b534ac9930034347b80c5df5f9f7", func := "wageoffice/wageofficelaw17.ShiftsMatchesReference", spec := "shiftsMatchesReference", unfollowed := true, recurses := true, apart := false, narrowed := true }
def ShiftsMatchesReferenceUptoSaid : Prop := shiftsMatchesReferenceUptoRow.holds Try.pinned (OpenSpec.upto shiftsMatchesReferenceSpec)

/-- 'wageofficelaw17.ShiftsDays', WHERE WHAT IT READS IS OF BULK AT MOST 1048576: true; the input reads as it did. -/
def shiftsDaysUptoRow : OpenClaim := { program := "ytflclkbkgcfliaa", sum := "2ca4972715a91083f85467e8c13dbc4e8bd0b534ac9930034347b80c5df5f9f7", func := "wageoffice/wageofficelaw17.ShiftsDays", spec := "shiftsDays", unfollowed := true, recurses := true, apart := false, narrowed := true }
def ShiftsDaysUptoSaid : Prop := shiftsDaysUptoRow.holds Try.pinned (OpenSpec.upto shiftsDaysSpec)

/-- 'wageofficelaw17.ShiftsNight', WHERE WHAT IT READS IS OF BULK AT MOST 1048576: true; the input reads as it did. -/
def shiftsNightUptoRow : OpenClaim := { program := "ytflclkbkgcfliaa", sum := "2ca4972715a91083f85467e8c13dbc4e8bd0b534ac9930034347b80c5df5f9f7", func := "wageoffice/wageofficelaw17.ShiftsNight", spec := "shiftsNight", unfollowed := true, recurses := true, apart := false, narrowed := true }
def ShiftsNightUptoSaid : Prop := shiftsNightUptoRow.holds Try.pinned (OpenSpec.upto shiftsNightSpec)

/-- 'wageofficelaw17.ShiftsParts', WHERE WHAT IT READS IS OF BULK AT MOST 1048576: true; the input reads as it did. -/
def shiftsPartsUptoRow : OpenClaim := { program := "ytflclkbkgcfliaa", sum := "2ca4972715a91083f85467e8c13dbc4e8bd0b534ac9930034347b80c5df5f9f7", func := "wageoffice/wageofficelaw17.ShiftsParts", spec := "shiftsParts", unfollowed := true, recurses := true, apart := false, narrowed := true }
def ShiftsPartsUptoSaid : Prop := shiftsPartsUptoRow.holds Try.pinned (OpenSpec.upto shiftsPartsSpec)

/-- 'wageofficelaw17.ShiftsRest', WHERE WHAT IT READS IS OF BULK AT MOST 1048576: true; the input reads as it did. -/
def shiftsRestUptoRow : OpenClaim := { program := "ytflclkbkgcfliaa", sum := "2ca4972715a91083f85467e8c13dbc4e8bd0b534ac9930034347b80c5df5f9f7", func := "wageoffice/wageofficelaw17.ShiftsRest", spec := "shiftsRest", unfollowed := true, recurses := true, apart := false, narrowed := true }
def ShiftsRestUptoSaid : Prop := shiftsRestUptoRow.holds Try.pinned (OpenSpec.upto shiftsRestSpec)

/-- 'wageofficelaw17.ShiftsShifted', WHERE WHAT IT READS IS OF BULK AT MOST 1048576: true; the input reads as it did. -/
def shiftsShiftedUptoRow : OpenClaim := { program := "ytflclkbkgcfliaa", sum := "2ca4972715a91083f85467e8c13dbc4e8bd0b534ac9930034347b80c5df5f9f7", func := "wageoffice/wageofficelaw17.ShiftsShifted", spec := "shiftsShifted", unfollowed := true, recurses := true, apart := false, narrowed := true }
def ShiftsShiftedUptoSaid : Prop := shiftsShiftedUptoRow.holds Try.pinned (OpenSpec.upto shiftsShiftedSpec)

end Rows
end Go.Proofs.Ytflclkbkgcfliaa
