/-
  No cell of these rows narrows 'for every input' (looked for: loops, veiled, ifaces, maps, wideKeys, modest, calm, conditions, laid).
  DERIVED. THE GIVEN ROWS OF THIS SEAT. 8 by the template 'for every input the law returns true; each argument reads behind the call as it read before'; 0 by the template 'total and deterministic' (their statements: YthgjjhddbigfcaaTotals.lean).
  GIVEN WITH THE SEED: the statements are not yours to turn. If you find one false, say at which input.
  Laid BY PROGRAM, IN A SANDBOX (cutbox-rows.mjs): the forced cells as the released guide's own fill.sh prints them over the translation 587b3b1595626d10… (all of the seat's roots in one cut). By AI agents, Wed Nov 11 2026. No macro, syntax, notation, axiom, sorry.
-/
import Derived.Test.YthgjjhddbigfcaaChecked
import GoSem.Claim
import GoSem.ClaimJoined
import GoSem.ClaimMapViews
import Derived.JoinedTies
import Derived.KernelRfl
namespace Go.Proofs.Ythgjjhddbigfcaa
/- THE CELL 'sum', in the pinned program and in every row, IS THE sha256 OF THE DUMP (.gsa) THAT YthgjjhddbigfcaaProg.lean LOADS. Nothing in Lean hashes anything: it is a label: what it is worth is what the hold of that sum in a sandbox is worth. -/
noncomputable def Try.pinned : Pinned := { name := "ythgjjhddbigfcaa", sum := "587b3b1595626d10cad438e09cbdad168c9ee78c42578b1bf37fe0a33ff75f40", checked := Try.checked }
namespace Rows
def none {H : Type} : Left H := { results := [], args := [] }

/-- 'wageofficelaw33.WaterfallMatchesReference': WHATEVER THE INPUT: true; the input reads as it did. -/
def waterfallMatchesReferenceSpec : ChangeSpec := { name := "waterfallMatchesReference", fn := fun _ => fun
  | [d1, d2, d3, d4] => { results := [.lit (.bool true)], args := [d1, d2, d3, d4] }
  | _ => none }
def waterfallMatchesReferenceRow : OpenClaim := { program := "ythgjjhddbigfcaa", sum := "587b3b1595626d10cad438e09cbdad168c9ee78c42578b1bf37fe0a33ff75f40", func := "wageoffice/wageofficelaw33.WaterfallMatchesReference", spec := "waterfallMatchesReference", unfollowed := true, recurses := true, apart := false }
def WaterfallMatchesReferenceSaid : Prop := waterfallMatchesReferenceRow.holds Try.pinned (OpenSpec.ofChange waterfallMatchesReferenceSpec)

/-- ITS FALSE NEIGHBOUR: 'it returns false'. Refute it at one input. -/
def waterfallMatchesReferenceWrong : ChangeSpec := { name := "waterfallMatchesReference", fn := fun _ => fun
  | [d1, d2, d3, d4] => { results := [.lit (.bool false)], args := [d1, d2, d3, d4] }
  | _ => none }
def WaterfallMatchesReferenceWrongFalsely : Prop := waterfallMatchesReferenceRow.holds Try.pinned (OpenSpec.ofChange waterfallMatchesReferenceWrong)

/-- 'wageofficelaw33.WaterfallConservation': WHATEVER THE INPUT: true; the input reads as it did. -/
def waterfallConservationSpec : ChangeSpec := { name := "waterfallConservation", fn := fun _ => fun
  | [d1, d2] => { results := [.lit (.bool true)], args := [d1, d2] }
  | _ => none }
def waterfallConservationRow : OpenClaim := { program := "ythgjjhddbigfcaa", sum := "587b3b1595626d10cad438e09cbdad168c9ee78c42578b1bf37fe0a33ff75f40", func := "wageoffice/wageofficelaw33.WaterfallConservation", spec := "waterfallConservation", unfollowed := true, recurses := true, apart := false }
def WaterfallConservationSaid : Prop := waterfallConservationRow.holds Try.pinned (OpenSpec.ofChange waterfallConservationSpec)

/-- ITS FALSE NEIGHBOUR: 'it returns false'. Refute it at one input. -/
def waterfallConservationWrong : ChangeSpec := { name := "waterfallConservation", fn := fun _ => fun
  | [d1, d2] => { results := [.lit (.bool false)], args := [d1, d2] }
  | _ => none }
def WaterfallConservationWrongFalsely : Prop := waterfallConservationRow.holds Try.pinned (OpenSpec.ofChange waterfallConservationWrong)

/-- 'wageofficelaw33.WaterfallPriority': WHATEVER THE INPUT: true; the input reads as it did. -/
def waterfallPrioritySpec : ChangeSpec := { name := "waterfallPriority", fn := fun _ => fun
  | [d1, d2] => { results := [.lit (.bool true)], args := [d1, d2] }
  | _ => none }
def waterfallPriorityRow : OpenClaim := { program := "ythgjjhddbigfcaa", sum := "587b3b1595626d10cad438e09cbdad168c9ee78c42578b1bf37fe0a33ff75f40", func := "wageoffice/wageofficelaw33.WaterfallPriority", spec := "waterfallPriority", unfollowed := true, recurses := true, apart := false }
def WaterfallPrioritySaid : Prop := waterfallPriorityRow.holds Try.pinned (OpenSpec.ofChange waterfallPrioritySpec)

/-- ITS FALSE NEIGHBOUR: 'it returns false'. Refute it at one input. -/
def waterfallPriorityWrong : ChangeSpec := { name := "waterfallPriority", fn := fun _ => fun
  | [d1, d2] => { results := [.lit (.bool false)], args := [d1, d2] }
  | _ => none }
def WaterfallPriorityWrongFalsely : Prop := waterfallPriorityRow.holds Try.pinned (OpenSpec.ofChange waterfallPriorityWrong)

/-- 'wageofficelaw33.WaterfallCuts': WHATEVER THE INPUT: true; the input reads as it did. -/
def waterfallCutsSpec : ChangeSpec := { name := "waterfallCuts", fn := fun _ => fun
  | [d1, d2, d3, d4] => { results := [.lit (.bool true)], args := [d1, d2, d3, d4] }
  | _ => none }
def waterfallCutsRow : OpenClaim := { program := "ythgjjhddbigfcaa", sum := "587b3b1595626d10cad438e09cbdad168c9ee78c42578b1bf37fe0a33ff75f40", func := "wageoffice/wageofficelaw33.WaterfallCuts", spec := "waterfallCuts", unfollowed := true, recurses := true, apart := false }
def WaterfallCutsSaid : Prop := waterfallCutsRow.holds Try.pinned (OpenSpec.ofChange waterfallCutsSpec)

/-- ITS FALSE NEIGHBOUR: 'it returns false'. Refute it at one input. -/
def waterfallCutsWrong : ChangeSpec := { name := "waterfallCuts", fn := fun _ => fun
  | [d1, d2, d3, d4] => { results := [.lit (.bool false)], args := [d1, d2, d3, d4] }
  | _ => none }
def WaterfallCutsWrongFalsely : Prop := waterfallCutsRow.holds Try.pinned (OpenSpec.ofChange waterfallCutsWrong)

/-- 'wageofficelaw33.WaterfallFairness': WHATEVER THE INPUT: true; the input reads as it did. -/
def waterfallFairnessSpec : ChangeSpec := { name := "waterfallFairness", fn := fun _ => fun
  | [d1, d2] => { results := [.lit (.bool true)], args := [d1, d2] }
  | _ => none }
def waterfallFairnessRow : OpenClaim := { program := "ythgjjhddbigfcaa", sum := "587b3b1595626d10cad438e09cbdad168c9ee78c42578b1bf37fe0a33ff75f40", func := "wageoffice/wageofficelaw33.WaterfallFairness", spec := "waterfallFairness", unfollowed := true, recurses := true, apart := false }
def WaterfallFairnessSaid : Prop := waterfallFairnessRow.holds Try.pinned (OpenSpec.ofChange waterfallFairnessSpec)

/-- ITS FALSE NEIGHBOUR: 'it returns false'. Refute it at one input. -/
def waterfallFairnessWrong : ChangeSpec := { name := "waterfallFairness", fn := fun _ => fun
  | [d1, d2] => { results := [.lit (.bool false)], args := [d1, d2] }
  | _ => none }
def WaterfallFairnessWrongFalsely : Prop := waterfallFairnessRow.holds Try.pinned (OpenSpec.ofChange waterfallFairnessWrong)

/-- 'wageofficelaw33.WaterfallChecking': WHATEVER THE INPUT: true; the input reads as it did. -/
def waterfallCheckingSpec : ChangeSpec := { name := "waterfallChecking", fn := fun _ => fun
  | [d1, d2, d3] => { results := [.lit (.bool true)], args := [d1, d2, d3] }
  | _ => none }
def waterfallCheckingRow : OpenClaim := { program := "ythgjjhddbigfcaa", sum := "587b3b1595626d10cad438e09cbdad168c9ee78c42578b1bf37fe0a33ff75f40", func := "wageoffice/wageofficelaw33.WaterfallChecking", spec := "waterfallChecking", unfollowed := true, recurses := true, apart := false }
def WaterfallCheckingSaid : Prop := waterfallCheckingRow.holds Try.pinned (OpenSpec.ofChange waterfallCheckingSpec)

/-- ITS FALSE NEIGHBOUR: 'it returns false'. Refute it at one input. -/
def waterfallCheckingWrong : ChangeSpec := { name := "waterfallChecking", fn := fun _ => fun
  | [d1, d2, d3] => { results := [.lit (.bool false)], args := [d1, d2, d3] }
  | _ => none }
def WaterfallCheckingWrongFalsely : Prop := waterfallCheckingRow.holds Try.pinned (OpenSpec.ofChange waterfallCheckingWrong)

/-- 'wageofficelaw33.WaterfallMore': WHATEVER THE INPUT: true; the input reads as it did. -/
def waterfallMoreSpec : ChangeSpec := { name := "waterfallMore", fn := fun _ => fun
  | [d1, d2, d3, d4] => { results := [.lit (.bool true)], args := [d1, d2, d3, d4] }
  | _ => none }
def waterfallMoreRow : OpenClaim := { program := "ythgjjhddbigfcaa", sum := "587b3b1595626d10cad438e09cbdad168c9ee78c42578b1bf37fe0a33ff75f40", func := "wageoffice/wageofficelaw33.WaterfallMore", spec := "waterfallMore", unfollowed := true, recurses := true, apart := false }
def WaterfallMoreSaid : Prop := waterfallMoreRow.holds Try.pinned (OpenSpec.ofChange waterfallMoreSpec)

/-- ITS FALSE NEIGHBOUR: 'it returns false'. Refute it at one input. -/
def waterfallMoreWrong : ChangeSpec := { name := "waterfallMore", fn := fun _ => fun
  | [d1, d2, d3, d4] => { results := [.lit (.bool false)], args := [d1, d2, d3, d4] }
  | _ => none }
def WaterfallMoreWrongFalsely : Prop := waterfallMoreRow.holds Try.pinned (OpenSpec.ofChange waterfallMoreWrong)

/-- 'wageofficelaw33.WaterfallOrder': WHATEVER THE INPUT: true; the input reads as it did. -/
def waterfallOrderSpec : ChangeSpec := { name := "waterfallOrder", fn := fun _ => fun
  | [d1, d2, d3] => { results := [.lit (.bool true)], args := [d1, d2, d3] }
  | _ => none }
def waterfallOrderRow : OpenClaim := { program := "ythgjjhddbigfcaa", sum := "587b3b1595626d10cad438e09cbdad168c9ee78c42578b1bf37fe0a33ff75f40", func := "wageoffice/wageofficelaw33.WaterfallOrder", spec := "waterfallOrder", unfollowed := true, recurses := true, apart := false }
def WaterfallOrderSaid : Prop := waterfallOrderRow.holds Try.pinned (OpenSpec.ofChange waterfallOrderSpec)

/-- ITS FALSE NEIGHBOUR: 'it returns false'. Refute it at one input. -/
def waterfallOrderWrong : ChangeSpec := { name := "waterfallOrder", fn := fun _ => fun
  | [d1, d2, d3] => { results := [.lit (.bool false)], args := [d1, d2, d3] }
  | _ => none }
def WaterfallOrderWrongFalsely : Prop := waterfallOrderRow.holds Try.pinned (OpenSpec.ofChange waterfallOrderWrong)

/- THE SECOND FORM. 'bulk': how many values and letters a reading holds, each counted each time it is reached (what is shared counts as often as it is met; a slice's spare places count too). A statement '..UptoSaid' is the law's where the arguments, and the package variables that the reading takes, are together of bulk at most 1048576: NARROWER than '..Said'. Prove '..Said' where nothing that the law and all that it calls make is longer than what came in: it says more and counts as full. Else prove '..UptoSaid'. A law counts once. -/
mutual
def uptoBulk {H : Type} : DataW H → Nat
  | .lit (.string bytes) => bytes.length + 1
  | .lit _ => 1
  | .nil => 1
  | .ptr d => uptoBulk d + 1
  | .slice elems spare => uptoBulkAll elems + uptoBulkAll spare + 1
  | .agg parts => uptoBulkAll parts + 1
  | .iface _ d => uptoBulk d + 1
  | .map entries => uptoBulkEntries entries + 1
  | .held _ => 1
def uptoBulkAll {H : Type} : List (DataW H) → Nat
  | [] => 0
  | d :: r => uptoBulk d + uptoBulkAll r
def uptoBulkEntries {H : Type} : List (Lit × DataW H) → Nat
  | [] => 0
  | x :: r => uptoBulkEntry x + uptoBulkEntries r
def uptoBulkEntry {H : Type} : Lit × DataW H → Nat
  | (.string bytes, d) => bytes.length + uptoBulk d + 1
  | (_, d) => uptoBulk d + 1
 end
def uptoSmall : (H : Type) → List (DataW H) → Bool := fun _ ds => decide (uptoBulkAll ds ≤ 1048576)
def OpenSpec.upto (s : _root_.Go.ChangeSpec) : _root_.Go.OpenSpec := { _root_.Go.OpenSpec.ofChange s with cond := some uptoSmall }

/-- 'wageofficelaw33.WaterfallMatchesReference', WHERE WHAT IT READS IS OF BULK AT MOST 1048576: true; the input reads as it did. -/
def waterfallMatchesReferenceUptoRow : OpenClaim := { program := "ythgjjhddbigfcaa", sum := "587b3b1595626d10cad438e09cbdad168c9ee78c42578b1bf37fe0a33ff75f40", func := "wageoffice/wageofficelaw33.WaterfallMatchesReference", spec := "waterfallMatchesReference", unfollowed := true, recurses := true, apart := false, narrowed := true }
def WaterfallMatchesReferenceUptoSaid : Prop := waterfallMatchesReferenceUptoRow.holds Try.pinned (OpenSpec.upto waterfallMatchesReferenceSpec)

/-- 'wageofficelaw33.WaterfallConservation', WHERE WHAT IT READS IS OF BULK AT MOST 1048576: true; the input reads as it did. -/
def waterfallConservationUptoRow : OpenClaim := { program := "ythgjjhddbigfcaa", sum := "587b3b1595626d10cad438e09cbdad168c9ee78c42578b1bf37fe0a33ff75f40", func := "wageoffice/wageofficelaw33.WaterfallConservation", spec := "waterfallConservation", unfollowed := true, recurses := true, apart := false, narrowed := true }
def WaterfallConservationUptoSaid : Prop := waterfallConservationUptoRow.holds Try.pinned (OpenSpec.upto waterfallConservationSpec)

/-- 'wageofficelaw33.WaterfallPriority', WHERE WHAT IT READS IS OF BULK AT MOST 1048576: true; the input reads as it did. -/
def waterfallPriorityUptoRow : OpenClaim := { program := "ythgjjhddbigfcaa", sum := "587b3b1595626d10cad438e09cbdad168c9ee78c42578b1bf37fe0a33ff75f40", func := "wageoffice/wageofficelaw33.WaterfallPriority", spec := "waterfallPriority", unfollowed := true, recurses := true, apart := false, narrowed := true }
def WaterfallPriorityUptoSaid : Prop := waterfallPriorityUptoRow.holds Try.pinned (OpenSpec.upto waterfallPrioritySpec)

/-- 'wageofficelaw33.WaterfallCuts', WHERE WHAT IT READS IS OF BULK AT MOST 1048576: true; the input reads as it did. -/
def waterfallCutsUptoRow : OpenClaim := { program := "ythgjjhddbigfcaa", sum := "587b3b1595626d10cad438e09cbdad168c9ee78c42578b1bf37fe0a33ff75f40", func := "wageoffice/wageofficelaw33.WaterfallCuts", spec := "waterfallCuts", unfollowed := true, recurses := true, apart := false, narrowed := true }
def WaterfallCutsUptoSaid : Prop := waterfallCutsUptoRow.holds Try.pinned (OpenSpec.upto waterfallCutsSpec)

/-- 'wageofficelaw33.WaterfallFairness', WHERE WHAT IT READS IS OF BULK AT MOST 1048576: true; the input reads as it did. -/
def waterfallFairnessUptoRow : OpenClaim := { program := "ythgjjhddbigfcaa", sum := "587b3b1595626d10cad438e09cbdad168c9ee78c42578b1bf37fe0a33ff75f40", func := "wageoffice/wageofficelaw33.WaterfallFairness", spec := "waterfallFairness", unfollowed := true, recurses := true, apart := false, narrowed := true }
def WaterfallFairnessUptoSaid : Prop := waterfallFairnessUptoRow.holds Try.pinned (OpenSpec.upto waterfallFairnessSpec)

/-- 'wageofficelaw33.WaterfallChecking', WHERE WHAT IT READS IS OF BULK AT MOST 1048576: true; the input reads as it did. -/
def waterfallCheckingUptoRow : OpenClaim := { program := "ythgjjhddbigfcaa", sum := "587b3b1595626d10cad438e09cbdad168c9ee78c42578b1bf37fe0a33ff75f40", func := "wageoffice/wageofficelaw33.WaterfallChecking", spec := "waterfallChecking", unfollowed := true, recurses := true, apart := false, narrowed := true }
def WaterfallCheckingUptoSaid : Prop := waterfallCheckingUptoRow.holds Try.pinned (OpenSpec.upto waterfallCheckingSpec)

/-- 'wageofficelaw33.WaterfallMore', WHERE WHAT IT READS IS OF BULK AT MOST 1048576: true; the input reads as it did. -/
def waterfallMoreUptoRow : OpenClaim := { program := "ythgjjhddbigfcaa", sum := "587b3b1595626d10cad438e09cbdad168c9ee78c42578b1bf37fe0a33ff75f40", func := "wageoffice/wageofficelaw33.WaterfallMore", spec := "waterfallMore", unfollowed := true, recurses := true, apart := false, narrowed := true }
def WaterfallMoreUptoSaid : Prop := waterfallMoreUptoRow.holds Try.pinned (OpenSpec.upto waterfallMoreSpec)

/-- 'wageofficelaw33.WaterfallOrder', WHERE WHAT IT READS IS OF BULK AT MOST 1048576: true; the input reads as it did. -/
def waterfallOrderUptoRow : OpenClaim := { program := "ythgjjhddbigfcaa", sum := "587b3b1595626d10cad438e09cbdad168c9ee78c42578b1bf37fe0a33ff75f40", func := "wageoffice/wageofficelaw33.WaterfallOrder", spec := "waterfallOrder", unfollowed := true, recurses := true, apart := false, narrowed := true }
def WaterfallOrderUptoSaid : Prop := waterfallOrderUptoRow.holds Try.pinned (OpenSpec.upto waterfallOrderSpec)

end Rows
end Go.Proofs.Ythgjjhddbigfcaa
