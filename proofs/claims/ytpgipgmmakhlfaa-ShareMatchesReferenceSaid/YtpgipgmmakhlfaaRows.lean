/-
  No cell of these rows narrows 'for every input' (looked for: loops, veiled, ifaces, maps, wideKeys, modest, calm, conditions, laid).
  DERIVED. THE GIVEN ROWS OF THIS SEAT. 5 by the template 'for every input the law returns true; each argument reads behind the call as it read before'; 0 by the template 'total and deterministic' (their statements: YtpgipgmmakhlfaaTotals.lean).
  GIVEN WITH THE SEED: the statements are not yours to turn. If you find one false, say at which input.
  Laid BY PROGRAM, IN A SANDBOX (cutbox-rows.mjs): the forced cells as the released guide's own fill.sh prints them over the translation df9e5157f42600a0… (all of the seat's roots in one cut). By AI agents, Wed Nov 11 2026. No macro, syntax, notation, axiom, sorry.
-/
import Derived.Test.YtpgipgmmakhlfaaChecked
import GoSem.Claim
import GoSem.ClaimJoined
import GoSem.ClaimMapViews
import Derived.JoinedTies
import Derived.KernelRfl
namespace Go.Proofs.Ytpgipgmmakhlfaa
/- THE CELL 'sum', in the pinned program and in every row, IS THE sha256 OF THE DUMP (.gsa) THAT YtpgipgmmakhlfaaProg.lean LOADS. Nothing in Lean hashes anything: it is a label: what it is worth is what the hold of that sum in a sandbox is worth. -/
noncomputable def Try.pinned : Pinned := { name := "ytpgipgmmakhlfaa", sum := "df9e5157f42600a0ddf787615881cb7c0abe40a1712cbf0e91c10c86ae469b98", checked := Try.checked }
namespace Rows
def none {H : Type} : Left H := { results := [], args := [] }

/-- 'wageofficelaw32.ShareMatchesReference': WHATEVER THE INPUT: true; the input reads as it did. -/
def shareMatchesReferenceSpec : ChangeSpec := { name := "shareMatchesReference", fn := fun _ => fun
  | [d1, d2, d3, d4] => { results := [.lit (.bool true)], args := [d1, d2, d3, d4] }
  | _ => none }
def shareMatchesReferenceRow : OpenClaim := { program := "ytpgipgmmakhlfaa", sum := "df9e5157f42600a0ddf787615881cb7c0abe40a1712cbf0e91c10c86ae469b98", func := "wageoffice/wageofficelaw32.ShareMatchesReference", spec := "shareMatchesReference", unfollowed := true, recurses := true, apart := false }
def ShareMatchesReferenceSaid : Prop := shareMatchesReferenceRow.holds Try.pinned (OpenSpec.ofChange shareMatchesReferenceSpec)

/-- ITS FALSE NEIGHBOUR: 'it returns false'. Refute it at one input. -/
def shareMatchesReferenceWrong : ChangeSpec := { name := "shareMatchesReference", fn := fun _ => fun
  | [d1, d2, d3, d4] => { results := [.lit (.bool false)], args := [d1, d2, d3, d4] }
  | _ => none }
def ShareMatchesReferenceWrongFalsely : Prop := shareMatchesReferenceRow.holds Try.pinned (OpenSpec.ofChange shareMatchesReferenceWrong)

/-- 'wageofficelaw32.ShareDivides': WHATEVER THE INPUT: true; the input reads as it did. -/
def shareDividesSpec : ChangeSpec := { name := "shareDivides", fn := fun _ => fun
  | [d1, d2, d3] => { results := [.lit (.bool true)], args := [d1, d2, d3] }
  | _ => none }
def shareDividesRow : OpenClaim := { program := "ytpgipgmmakhlfaa", sum := "df9e5157f42600a0ddf787615881cb7c0abe40a1712cbf0e91c10c86ae469b98", func := "wageoffice/wageofficelaw32.ShareDivides", spec := "shareDivides", unfollowed := true, recurses := true, apart := false }
def ShareDividesSaid : Prop := shareDividesRow.holds Try.pinned (OpenSpec.ofChange shareDividesSpec)

/-- ITS FALSE NEIGHBOUR: 'it returns false'. Refute it at one input. -/
def shareDividesWrong : ChangeSpec := { name := "shareDivides", fn := fun _ => fun
  | [d1, d2, d3] => { results := [.lit (.bool false)], args := [d1, d2, d3] }
  | _ => none }
def ShareDividesWrongFalsely : Prop := shareDividesRow.holds Try.pinned (OpenSpec.ofChange shareDividesWrong)

/-- 'wageofficelaw32.ShareFairest': WHATEVER THE INPUT: true; the input reads as it did. -/
def shareFairestSpec : ChangeSpec := { name := "shareFairest", fn := fun _ => fun
  | [d1, d2, d3, d4] => { results := [.lit (.bool true)], args := [d1, d2, d3, d4] }
  | _ => none }
def shareFairestRow : OpenClaim := { program := "ytpgipgmmakhlfaa", sum := "df9e5157f42600a0ddf787615881cb7c0abe40a1712cbf0e91c10c86ae469b98", func := "wageoffice/wageofficelaw32.ShareFairest", spec := "shareFairest", unfollowed := true, recurses := true, apart := false }
def ShareFairestSaid : Prop := shareFairestRow.holds Try.pinned (OpenSpec.ofChange shareFairestSpec)

/-- ITS FALSE NEIGHBOUR: 'it returns false'. Refute it at one input. -/
def shareFairestWrong : ChangeSpec := { name := "shareFairest", fn := fun _ => fun
  | [d1, d2, d3, d4] => { results := [.lit (.bool false)], args := [d1, d2, d3, d4] }
  | _ => none }
def ShareFairestWrongFalsely : Prop := shareFairestRow.holds Try.pinned (OpenSpec.ofChange shareFairestWrong)

/-- 'wageofficelaw32.ShareGrows': WHATEVER THE INPUT: true; the input reads as it did. -/
def shareGrowsSpec : ChangeSpec := { name := "shareGrows", fn := fun _ => fun
  | [d1, d2, d3, d4, d5] => { results := [.lit (.bool true)], args := [d1, d2, d3, d4, d5] }
  | _ => none }
def shareGrowsRow : OpenClaim := { program := "ytpgipgmmakhlfaa", sum := "df9e5157f42600a0ddf787615881cb7c0abe40a1712cbf0e91c10c86ae469b98", func := "wageoffice/wageofficelaw32.ShareGrows", spec := "shareGrows", unfollowed := true, recurses := true, apart := false }
def ShareGrowsSaid : Prop := shareGrowsRow.holds Try.pinned (OpenSpec.ofChange shareGrowsSpec)

/-- ITS FALSE NEIGHBOUR: 'it returns false'. Refute it at one input. -/
def shareGrowsWrong : ChangeSpec := { name := "shareGrows", fn := fun _ => fun
  | [d1, d2, d3, d4, d5] => { results := [.lit (.bool false)], args := [d1, d2, d3, d4, d5] }
  | _ => none }
def ShareGrowsWrongFalsely : Prop := shareGrowsRow.holds Try.pinned (OpenSpec.ofChange shareGrowsWrong)

/-- 'wageofficelaw32.ShareOthers': WHATEVER THE INPUT: true; the input reads as it did. -/
def shareOthersSpec : ChangeSpec := { name := "shareOthers", fn := fun _ => fun
  | [d1, d2, d3, d4] => { results := [.lit (.bool true)], args := [d1, d2, d3, d4] }
  | _ => none }
def shareOthersRow : OpenClaim := { program := "ytpgipgmmakhlfaa", sum := "df9e5157f42600a0ddf787615881cb7c0abe40a1712cbf0e91c10c86ae469b98", func := "wageoffice/wageofficelaw32.ShareOthers", spec := "shareOthers", unfollowed := true, recurses := true, apart := false }
def ShareOthersSaid : Prop := shareOthersRow.holds Try.pinned (OpenSpec.ofChange shareOthersSpec)

/-- ITS FALSE NEIGHBOUR: 'it returns false'. Refute it at one input. -/
def shareOthersWrong : ChangeSpec := { name := "shareOthers", fn := fun _ => fun
  | [d1, d2, d3, d4] => { results := [.lit (.bool false)], args := [d1, d2, d3, d4] }
  | _ => none }
def ShareOthersWrongFalsely : Prop := shareOthersRow.holds Try.pinned (OpenSpec.ofChange shareOthersWrong)

/- THE SECOND FORM. 'bulk': how many values and letters a reading holds, each counted each time it is reached (what is shared counts as often as it is met; a slice's spare places count too). A statement '..UptoSaid' is the law's where the arguments, and the package variables that the reading takes, are together of bulk at most 1048576: NARROWER than '..Said'. Prove '..Said' where nothing that the law and all that it calls make is longer than what came in: it says more and counts as full. Else prove '..UptoSaid'. A law counts once. -/
mutual
def uptoBulk {H : Type} : DataW H → Nat
  | .lit (.string bytes) => bytes.length + 1
  | .lit _ => 1
  | .nil => 1
  | .ptr d => uptoBulk d + 1
  | .slice elems spare => uptoBulkAll elems + uptoBulkAll spare + 1
  | .agg parts => uptoBulkAll parts + 1
  | .iface _ d => uptoBulk d + 1
  | .map entries => uptoBulkEntries entries + 1
  | .held _ => 1
def uptoBulkAll {H : Type} : List (DataW H) → Nat
  | [] => 0
  | d :: r => uptoBulk d + uptoBulkAll r
def uptoBulkEntries {H : Type} : List (Lit × DataW H) → Nat
  | [] => 0
  | x :: r => uptoBulkEntry x + uptoBulkEntries r
def uptoBulkEntry {H : Type} : Lit × DataW H → Nat
  | (.string bytes, d) => bytes.length + uptoBulk d + 1
  | (_, d) => uptoBulk d + 1
 end
def uptoSmall : (H : Type) → List (DataW H) → Bool := fun _ ds => decide (uptoBulkAll ds ≤ 1048576)
def OpenSpec.upto (s : _root_.Go.ChangeSpec) : _root_.Go.OpenSpec := { _root_.Go.OpenSpec.ofChange s with cond := some uptoSmall }

/-- 'wageofficelaw32.ShareMatchesReference', WHERE WHAT IT READS IS OF BULK AT MOST 1048576: true; the input reads as it did. -/
def shareMatchesReferenceUptoRow : OpenClaim := { program := "ytpgipgmmakhlfaa", sum := "df9e5157f42600a0ddf787615881cb7c0abe40a1712cbf0e91c10c86ae469b98", func := "wageoffice/wageofficelaw32.ShareMatchesReference", spec := "shareMatchesReference", unfollowed := true, recurses := true, apart := false, narrowed := true }
def ShareMatchesReferenceUptoSaid : Prop := shareMatchesReferenceUptoRow.holds Try.pinned (OpenSpec.upto shareMatchesReferenceSpec)

/-- 'wageofficelaw32.ShareDivides', WHERE WHAT IT READS IS OF BULK AT MOST 1048576: true; the input reads as it did. -/
def shareDividesUptoRow : OpenClaim := { program := "ytpgipgmmakhlfaa", sum := "df9e5157f42600a0ddf787615881cb7c0abe40a1712cbf0e91c10c86ae469b98", func := "wageoffice/wageofficelaw32.ShareDivides", spec := "shareDivides", unfollowed := true, recurses := true, apart := false, narrowed := true }
def ShareDividesUptoSaid : Prop := shareDividesUptoRow.holds Try.pinned (OpenSpec.upto shareDividesSpec)

/-- 'wageofficelaw32.ShareFairest', WHERE WHAT IT READS IS OF BULK AT MOST 1048576: true; the input reads as it did. -/
def shareFairestUptoRow : OpenClaim := { program := "ytpgipgmmakhlfaa", sum := "df9e5157f42600a0ddf787615881cb7c0abe40a1712cbf0e91c10c86ae469b98", func := "wageoffice/wageofficelaw32.ShareFairest", spec := "shareFairest", unfollowed := true, recurses := true, apart := false, narrowed := true }
def ShareFairestUptoSaid : Prop := shareFairestUptoRow.holds Try.pinned (OpenSpec.upto shareFairestSpec)

/-- 'wageofficelaw32.ShareGrows', WHERE WHAT IT READS IS OF BULK AT MOST 1048576: true; the input reads as it did. -/
def shareGrowsUptoRow : OpenClaim := { program := "ytpgipgmmakhlfaa", sum := "df9e5157f42600a0ddf787615881cb7c0abe40a1712cbf0e91c10c86ae469b98", func := "wageoffice/wageofficelaw32.ShareGrows", spec := "shareGrows", unfollowed := true, recurses := true, apart := false, narrowed := true }
def ShareGrowsUptoSaid : Prop := shareGrowsUptoRow.holds Try.pinned (OpenSpec.upto shareGrowsSpec)

/-- 'wageofficelaw32.ShareOthers', WHERE WHAT IT READS IS OF BULK AT MOST 1048576: true; the input reads as it did. -/
def shareOthersUptoRow : OpenClaim := { program := "ytpgipgmmakhlfaa", sum := "df9e5157f42600a0ddf787615881cb7c0abe40a1712cbf0e91c10c86ae469b98", func := "wageoffice/wageofficelaw32.ShareOthers", spec := "shareOthers", unfollowed := true, recurses := true, apart := false, narrowed := true }
def ShareOthersUptoSaid : Prop := shareOthersUptoRow.holds Try.pinned (OpenSpec.upto shareOthersSpec)

end Rows
end Go.Proofs.Ytpgipgmmakhlfaa
