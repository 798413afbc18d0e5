/-
  DERIVED. GIVEN WITH THE SEED: THE CARDS: each row of YthemnhjojaehhaaGreatDoorRows.lean that lists a variable, with what it lists TIED to the program's text (the seventh form; the later family's looks); each row that meets fmt, with fmt's text TOLD by the authors' own Lean function (tested against real Go, not proved from fmt's source: count such statements apart). THE CARD IS WHAT COUNTS. Prove the row's statement (the work); the ties are given (YthemnhjojaehhaaGreatDoorTie.lean); close each card by the builder's one call (the guide's Derived/Test/ToyasCard.lean, 'card_holds'). Laid BY PROGRAM, IN A SANDBOX (cutbox-door.mjs). By AI agents, Wed Nov 11 2026. No macro, syntax, notation, axiom, sorry.
-/
import Derived.Test.YthemnhjojaehhaaGreatDoorRows
import GoSem.ClaimSeven
namespace Go.Proofs.YthemnhjojaehhaaGreatDoor
namespace Rows

/-- THE TIED CARD OF 'wageofficetop.TopPrintCompiles'. -/
def topPrintCompilesCard : Claim7 := { stood := { row := topPrintCompilesRow, standIns := [], harness := (true, "0e4e1325ace01c8f3376a7dd9191e0749c77309f7df7adec6f1139a8cebdf9d5"), looks := true }, kinds := [], alts := [], laidByText := true, laidKinds := [.data, .data, .data, .data, .sentinel, .sentinel, .data, .data, .data, .data, .data, .data, .pinned], laidTests := true, laidLooks := .later }
def TopPrintCompilesCardSaid : Prop := Claim7.holds Tryz.pinned (.plain (OpenSpec.ofChange topPrintCompilesSpec)) topPrintCompilesCard

/-- THE SECOND FORM's CARD OF 'wageofficetop.TopPrintCompiles'. -/
def topPrintCompilesUptoCard : Claim7 := { stood := { row := topPrintCompilesUptoRow, standIns := [], harness := (true, "0e4e1325ace01c8f3376a7dd9191e0749c77309f7df7adec6f1139a8cebdf9d5"), looks := true }, kinds := [], alts := [], laidByText := true, laidKinds := [.data, .data, .data, .data, .sentinel, .sentinel, .data, .data, .data, .data, .data, .data, .pinned], laidTests := true, laidLooks := .later }
def TopPrintCompilesUptoCardSaid : Prop := Claim7.holds Tryz.pinned (.plain (OpenSpec.upto topPrintCompilesSpec)) topPrintCompilesUptoCard
end Rows
end Go.Proofs.YthemnhjojaehhaaGreatDoor
