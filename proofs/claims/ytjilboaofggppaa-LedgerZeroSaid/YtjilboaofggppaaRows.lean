/-
  No cell of these rows narrows 'for every input' (looked for: loops, veiled, ifaces, maps, wideKeys, modest, calm, conditions, laid).
  DERIVED. THE GIVEN ROWS OF THIS SEAT. 8 by the template 'for every input the law returns true; each argument reads behind the call as it read before'; 0 by the template 'total and deterministic' (their statements: YtjilboaofggppaaTotals.lean).
  GIVEN WITH THE SEED: the statements are not yours to turn. If you find one false, say at which input.
  Laid BY PROGRAM, IN A SANDBOX (cutbox-rows.mjs): the forced cells as the released guide's own fill.sh prints them over the translation d7fc79feaf59fea8… (all of the seat's roots in one cut). By AI agents, Wed Nov 11 2026. No macro, syntax, notation, axiom, sorry.
-/
import Derived.Test.YtjilboaofggppaaChecked
import GoSem.Claim
import GoSem.ClaimJoined
import GoSem.ClaimMapViews
import Derived.JoinedTies
import Derived.KernelRfl
namespace Go.Proofs.Ytjilboaofggppaa
/- THE CELL 'sum', in the pinned program and in every row, IS THE sha256 OF THE DUMP (.gsa) THAT YtjilboaofggppaaProg.lean LOADS. Nothing in Lean hashes anything: it is a label: what it is worth is what the hold of that sum in a sandbox is worth. -/
noncomputable def Try.pinned : Pinned := { name := "ytjilboaofggppaa", sum := "d7fc79feaf59fea87f4e9fd728392c4b1ed797573c7e6318f51e841ce92cfa9c", checked := Try.checked }
namespace Rows
def none {H : Type} : Left H := { results := [], args := [] }

/-- 'wageofficelaw39.LedgerMatchesReference': WHATEVER THE INPUT: true; the input reads as it did. -/
def ledgerMatchesReferenceSpec : ChangeSpec := { name := "ledgerMatchesReference", fn := fun _ => fun
  | [d1, d2, d3, d4, d5] => { results := [.lit (.bool true)], args := [d1, d2, d3, d4, d5] }
  | _ => none }
def ledgerMatchesReferenceRow : OpenClaim := { program := "ytjilboaofggppaa", sum := "d7fc79feaf59fea87f4e9fd728392c4b1ed797573c7e6318f51e841ce92cfa9c", func := "wageoffice/wageofficelaw39.LedgerMatchesReference", spec := "ledgerMatchesReference", unfollowed := true, recurses := true, apart := false }
def LedgerMatchesReferenceSaid : Prop := ledgerMatchesReferenceRow.holds Try.pinned (OpenSpec.ofChange ledgerMatchesReferenceSpec)

/-- ITS FALSE NEIGHBOUR: 'it returns false'. Refute it at one input. -/
def ledgerMatchesReferenceWrong : ChangeSpec := { name := "ledgerMatchesReference", fn := fun _ => fun
  | [d1, d2, d3, d4, d5] => { results := [.lit (.bool false)], args := [d1, d2, d3, d4, d5] }
  | _ => none }
def LedgerMatchesReferenceWrongFalsely : Prop := ledgerMatchesReferenceRow.holds Try.pinned (OpenSpec.ofChange ledgerMatchesReferenceWrong)

/-- 'wageofficelaw39.LedgerZero': WHATEVER THE INPUT: true; the input reads as it did. -/
def ledgerZeroSpec : ChangeSpec := { name := "ledgerZero", fn := fun _ => fun
  | [d1, d2, d3, d4] => { results := [.lit (.bool true)], args := [d1, d2, d3, d4] }
  | _ => none }
def ledgerZeroRow : OpenClaim := { program := "ytjilboaofggppaa", sum := "d7fc79feaf59fea87f4e9fd728392c4b1ed797573c7e6318f51e841ce92cfa9c", func := "wageoffice/wageofficelaw39.LedgerZero", spec := "ledgerZero", unfollowed := true, recurses := true, apart := false }
def LedgerZeroSaid : Prop := ledgerZeroRow.holds Try.pinned (OpenSpec.ofChange ledgerZeroSpec)

/-- ITS FALSE NEIGHBOUR: 'it returns false'. Refute it at one input. -/
def ledgerZeroWrong : ChangeSpec := { name := "ledgerZero", fn := fun _ => fun
  | [d1, d2, d3, d4] => { results := [.lit (.bool false)], args := [d1, d2, d3, d4] }
  | _ => none }
def LedgerZeroWrongFalsely : Prop := ledgerZeroRow.holds Try.pinned (OpenSpec.ofChange ledgerZeroWrong)

/-- 'wageofficelaw39.LedgerPosting': WHATEVER THE INPUT: true; the input reads as it did. -/
def ledgerPostingSpec : ChangeSpec := { name := "ledgerPosting", fn := fun _ => fun
  | [d1, d2, d3, d4, d5] => { results := [.lit (.bool true)], args := [d1, d2, d3, d4, d5] }
  | _ => none }
def ledgerPostingRow : OpenClaim := { program := "ytjilboaofggppaa", sum := "d7fc79feaf59fea87f4e9fd728392c4b1ed797573c7e6318f51e841ce92cfa9c", func := "wageoffice/wageofficelaw39.LedgerPosting", spec := "ledgerPosting", unfollowed := true, recurses := true, apart := false }
def LedgerPostingSaid : Prop := ledgerPostingRow.holds Try.pinned (OpenSpec.ofChange ledgerPostingSpec)

/-- ITS FALSE NEIGHBOUR: 'it returns false'. Refute it at one input. -/
def ledgerPostingWrong : ChangeSpec := { name := "ledgerPosting", fn := fun _ => fun
  | [d1, d2, d3, d4, d5] => { results := [.lit (.bool false)], args := [d1, d2, d3, d4, d5] }
  | _ => none }
def LedgerPostingWrongFalsely : Prop := ledgerPostingRow.holds Try.pinned (OpenSpec.ofChange ledgerPostingWrong)

/-- 'wageofficelaw39.LedgerOnce': WHATEVER THE INPUT: true; the input reads as it did. -/
def ledgerOnceSpec : ChangeSpec := { name := "ledgerOnce", fn := fun _ => fun
  | [d1, d2, d3, d4] => { results := [.lit (.bool true)], args := [d1, d2, d3, d4] }
  | _ => none }
def ledgerOnceRow : OpenClaim := { program := "ytjilboaofggppaa", sum := "d7fc79feaf59fea87f4e9fd728392c4b1ed797573c7e6318f51e841ce92cfa9c", func := "wageoffice/wageofficelaw39.LedgerOnce", spec := "ledgerOnce", unfollowed := true, recurses := true, apart := false }
def LedgerOnceSaid : Prop := ledgerOnceRow.holds Try.pinned (OpenSpec.ofChange ledgerOnceSpec)

/-- ITS FALSE NEIGHBOUR: 'it returns false'. Refute it at one input. -/
def ledgerOnceWrong : ChangeSpec := { name := "ledgerOnce", fn := fun _ => fun
  | [d1, d2, d3, d4] => { results := [.lit (.bool false)], args := [d1, d2, d3, d4] }
  | _ => none }
def LedgerOnceWrongFalsely : Prop := ledgerOnceRow.holds Try.pinned (OpenSpec.ofChange ledgerOnceWrong)

/-- 'wageofficelaw39.LedgerPast': WHATEVER THE INPUT: true; the input reads as it did. -/
def ledgerPastSpec : ChangeSpec := { name := "ledgerPast", fn := fun _ => fun
  | [d1, d2, d3, d4, d5] => { results := [.lit (.bool true)], args := [d1, d2, d3, d4, d5] }
  | _ => none }
def ledgerPastRow : OpenClaim := { program := "ytjilboaofggppaa", sum := "d7fc79feaf59fea87f4e9fd728392c4b1ed797573c7e6318f51e841ce92cfa9c", func := "wageoffice/wageofficelaw39.LedgerPast", spec := "ledgerPast", unfollowed := true, recurses := true, apart := false }
def LedgerPastSaid : Prop := ledgerPastRow.holds Try.pinned (OpenSpec.ofChange ledgerPastSpec)

/-- ITS FALSE NEIGHBOUR: 'it returns false'. Refute it at one input. -/
def ledgerPastWrong : ChangeSpec := { name := "ledgerPast", fn := fun _ => fun
  | [d1, d2, d3, d4, d5] => { results := [.lit (.bool false)], args := [d1, d2, d3, d4, d5] }
  | _ => none }
def LedgerPastWrongFalsely : Prop := ledgerPastRow.holds Try.pinned (OpenSpec.ofChange ledgerPastWrong)

/-- 'wageofficelaw39.LedgerOrder': WHATEVER THE INPUT: true; the input reads as it did. -/
def ledgerOrderSpec : ChangeSpec := { name := "ledgerOrder", fn := fun _ => fun
  | [d1, d2, d3, d4, d5, d6] => { results := [.lit (.bool true)], args := [d1, d2, d3, d4, d5, d6] }
  | _ => none }
def ledgerOrderRow : OpenClaim := { program := "ytjilboaofggppaa", sum := "d7fc79feaf59fea87f4e9fd728392c4b1ed797573c7e6318f51e841ce92cfa9c", func := "wageoffice/wageofficelaw39.LedgerOrder", spec := "ledgerOrder", unfollowed := true, recurses := true, apart := false }
def LedgerOrderSaid : Prop := ledgerOrderRow.holds Try.pinned (OpenSpec.ofChange ledgerOrderSpec)

/-- ITS FALSE NEIGHBOUR: 'it returns false'. Refute it at one input. -/
def ledgerOrderWrong : ChangeSpec := { name := "ledgerOrder", fn := fun _ => fun
  | [d1, d2, d3, d4, d5, d6] => { results := [.lit (.bool false)], args := [d1, d2, d3, d4, d5, d6] }
  | _ => none }
def LedgerOrderWrongFalsely : Prop := ledgerOrderRow.holds Try.pinned (OpenSpec.ofChange ledgerOrderWrong)

/-- 'wageofficelaw39.LedgerDifferences': WHATEVER THE INPUT: true; the input reads as it did. -/
def ledgerDifferencesSpec : ChangeSpec := { name := "ledgerDifferences", fn := fun _ => fun
  | [d1, d2, d3, d4, d5] => { results := [.lit (.bool true)], args := [d1, d2, d3, d4, d5] }
  | _ => none }
def ledgerDifferencesRow : OpenClaim := { program := "ytjilboaofggppaa", sum := "d7fc79feaf59fea87f4e9fd728392c4b1ed797573c7e6318f51e841ce92cfa9c", func := "wageoffice/wageofficelaw39.LedgerDifferences", spec := "ledgerDifferences", unfollowed := true, recurses := true, apart := false }
def LedgerDifferencesSaid : Prop := ledgerDifferencesRow.holds Try.pinned (OpenSpec.ofChange ledgerDifferencesSpec)

/-- ITS FALSE NEIGHBOUR: 'it returns false'. Refute it at one input. -/
def ledgerDifferencesWrong : ChangeSpec := { name := "ledgerDifferences", fn := fun _ => fun
  | [d1, d2, d3, d4, d5] => { results := [.lit (.bool false)], args := [d1, d2, d3, d4, d5] }
  | _ => none }
def LedgerDifferencesWrongFalsely : Prop := ledgerDifferencesRow.holds Try.pinned (OpenSpec.ofChange ledgerDifferencesWrong)

/-- 'wageofficelaw39.LedgerCorrections': WHATEVER THE INPUT: true; the input reads as it did. -/
def ledgerCorrectionsSpec : ChangeSpec := { name := "ledgerCorrections", fn := fun _ => fun
  | [d1, d2, d3, d4, d5] => { results := [.lit (.bool true)], args := [d1, d2, d3, d4, d5] }
  | _ => none }
def ledgerCorrectionsRow : OpenClaim := { program := "ytjilboaofggppaa", sum := "d7fc79feaf59fea87f4e9fd728392c4b1ed797573c7e6318f51e841ce92cfa9c", func := "wageoffice/wageofficelaw39.LedgerCorrections", spec := "ledgerCorrections", unfollowed := true, recurses := true, apart := false }
def LedgerCorrectionsSaid : Prop := ledgerCorrectionsRow.holds Try.pinned (OpenSpec.ofChange ledgerCorrectionsSpec)

/-- ITS FALSE NEIGHBOUR: 'it returns false'. Refute it at one input. -/
def ledgerCorrectionsWrong : ChangeSpec := { name := "ledgerCorrections", fn := fun _ => fun
  | [d1, d2, d3, d4, d5] => { results := [.lit (.bool false)], args := [d1, d2, d3, d4, d5] }
  | _ => none }
def LedgerCorrectionsWrongFalsely : Prop := ledgerCorrectionsRow.holds Try.pinned (OpenSpec.ofChange ledgerCorrectionsWrong)

/- THE SECOND FORM. 'bulk': how many values and letters a reading holds, each counted each time it is reached (what is shared counts as often as it is met; a slice's spare places count too). A statement '..UptoSaid' is the law's where the arguments, and the package variables that the reading takes, are together of bulk at most 1048576: NARROWER than '..Said'. Prove '..Said' where nothing that the law and all that it calls make is longer than what came in: it says more and counts as full. Else prove '..UptoSaid'. A law counts once. -/
mutual
def uptoBulk {H : Type} : DataW H → Nat
  | .lit (.string bytes) => bytes.length + 1
  | .lit _ => 1
  | .nil => 1
  | .ptr d => uptoBulk d + 1
  | .slice elems spare => uptoBulkAll elems + uptoBulkAll spare + 1
  | .agg parts => uptoBulkAll parts + 1
  | .iface _ d => uptoBulk d + 1
  | .map entries => uptoBulkEntries entries + 1
  | .held _ => 1
def uptoBulkAll {H : Type} : List (DataW H) → Nat
  | [] => 0
  | d :: r => uptoBulk d + uptoBulkAll r
def uptoBulkEntries {H : Type} : List (Lit × DataW H) → Nat
  | [] => 0
  | x :: r => uptoBulkEntry x + uptoBulkEntries r
def uptoBulkEntry {H : Type} : Lit × DataW H → Nat
  | (.string bytes, d) => bytes.length + uptoBulk d + 1
  | (_, d) => uptoBulk d + 1
 end
def uptoSmall : (H : Type) → List (DataW H) → Bool := fun _ ds => decide (uptoBulkAll ds ≤ 1048576)
def OpenSpec.upto (s : _root_.Go.ChangeSpec) : _root_.Go.OpenSpec := { _root_.Go.OpenSpec.ofChange s with cond := some uptoSmall }

/-- 'wageofficelaw39.LedgerMatchesReference', WHERE WHAT IT READS IS OF BULK AT MOST 1048576: true; the input reads as it did. -/
def ledgerMatchesReferenceUptoRow : OpenClaim := { program := "ytjilboaofggppaa", sum := "d7fc79feaf59fea87f4e9fd728392c4b1ed797573c7e6318f51e841ce92cfa9c", func := "wageoffice/wageofficelaw39.LedgerMatchesReference", spec := "ledgerMatchesReference", unfollowed := true, recurses := true, apart := false, narrowed := true }
def LedgerMatchesReferenceUptoSaid : Prop := ledgerMatchesReferenceUptoRow.holds Try.pinned (OpenSpec.upto ledgerMatchesReferenceSpec)

/-- 'wageofficelaw39.LedgerZero', WHERE WHAT IT READS IS OF BULK AT MOST 1048576: true; the input reads as it did. -/
def ledgerZeroUptoRow : OpenClaim := { program := "ytjilboaofggppaa", sum := "d7fc79feaf59fea87f4e9fd728392c4b1ed797573c7e6318f51e841ce92cfa9c", func := "wageoffice/wageofficelaw39.LedgerZero", spec := "ledgerZero", unfollowed := true, recurses := true, apart := false, narrowed := true }
def LedgerZeroUptoSaid : Prop := ledgerZeroUptoRow.holds Try.pinned (OpenSpec.upto ledgerZeroSpec)

/-- 'wageofficelaw39.LedgerPosting', WHERE WHAT IT READS IS OF BULK AT MOST 1048576: true; the input reads as it did. -/
def ledgerPostingUptoRow : OpenClaim := { program := "ytjilboaofggppaa", sum := "d7fc79feaf59fea87f4e9fd728392c4b1ed797573c7e6318f51e841ce92cfa9c", func := "wageoffice/wageofficelaw39.LedgerPosting", spec := "ledgerPosting", unfollowed := true, recurses := true, apart := false, narrowed := true }
def LedgerPostingUptoSaid : Prop := ledgerPostingUptoRow.holds Try.pinned (OpenSpec.upto ledgerPostingSpec)

/-- 'wageofficelaw39.LedgerOnce', WHERE WHAT IT READS IS OF BULK AT MOST 1048576: true; the input reads as it did. -/
def ledgerOnceUptoRow : OpenClaim := { program := "ytjilboaofggppaa", sum := "d7fc79feaf59fea87f4e9fd728392c4b1ed797573c7e6318f51e841ce92cfa9c", func := "wageoffice/wageofficelaw39.LedgerOnce", spec := "ledgerOnce", unfollowed := true, recurses := true, apart := false, narrowed := true }
def LedgerOnceUptoSaid : Prop := ledgerOnceUptoRow.holds Try.pinned (OpenSpec.upto ledgerOnceSpec)

/-- 'wageofficelaw39.LedgerPast', WHERE WHAT IT READS IS OF BULK AT MOST 1048576: true; the input reads as it did. -/
def ledgerPastUptoRow : OpenClaim := { program := "ytjilboaofggppaa", sum := "d7fc79feaf59fea87f4e9fd728392c4b1ed797573c7e6318f51e841ce92cfa9c", func := "wageoffice/wageofficelaw39.LedgerPast", spec := "ledgerPast", unfollowed := true, recurses := true, apart := false, narrowed := true }
def LedgerPastUptoSaid : Prop := ledgerPastUptoRow.holds Try.pinned (OpenSpec.upto ledgerPastSpec)

/-- 'wageofficelaw39.LedgerOrder', WHERE WHAT IT READS IS OF BULK AT MOST 1048576: true; the input reads as it did. -/
def ledgerOrderUptoRow : OpenClaim := { program := "ytjilboaofggppaa", sum := "d7fc79feaf59fea87f4e9fd728392c4b1ed797573c7e6318f51e841ce92cfa9c", func := "wageoffice/wageofficelaw39.LedgerOrder", spec := "ledgerOrder", unfollowed := true, recurses := true, apart := false, narrowed := true }
def LedgerOrderUptoSaid : Prop := ledgerOrderUptoRow.holds Try.pinned (OpenSpec.upto ledgerOrderSpec)

/-- 'wageofficelaw39.LedgerDifferences', WHERE WHAT IT READS IS OF BULK AT MOST 1048576: true; the input reads as it did. -/
def ledgerDifferencesUptoRow : OpenClaim := { program := "ytjilboaofggppaa", sum := "d7fc79feaf59fea87f4e9fd728392c4b1ed797573c7e6318f51e841ce92cfa9c", func := "wageoffice/wageofficelaw39.LedgerDifferences", spec := "ledgerDifferences", unfollowed := true, recurses := true, apart := false, narrowed := true }
def LedgerDifferencesUptoSaid : Prop := ledgerDifferencesUptoRow.holds Try.pinned (OpenSpec.upto ledgerDifferencesSpec)

/-- 'wageofficelaw39.LedgerCorrections', WHERE WHAT IT READS IS OF BULK AT MOST 1048576: true; the input reads as it did. -/
def ledgerCorrectionsUptoRow : OpenClaim := { program := "ytjilboaofggppaa", sum := "d7fc79feaf59fea87f4e9fd728392c4b1ed797573c7e6318f51e841ce92cfa9c", func := "wageoffice/wageofficelaw39.LedgerCorrections", spec := "ledgerCorrections", unfollowed := true, recurses := true, apart := false, narrowed := true }
def LedgerCorrectionsUptoSaid : Prop := ledgerCorrectionsUptoRow.holds Try.pinned (OpenSpec.upto ledgerCorrectionsSpec)

end Rows
end Go.Proofs.Ytjilboaofggppaa
