/-
  DERIVED. GIVEN WITH THE SEED: THE CARDS: each row of YtohnmnfhmbmoaaaDoorRows.lean that lists a variable, with what it lists TIED to the program's text (the seventh form; the later family's looks); each row that meets fmt, with fmt's text TOLD by the authors' own Lean function (tested against real Go, not proved from fmt's source: count such statements apart). THE CARD IS WHAT COUNTS. Prove the row's statement (the work); the ties are given (YtohnmnfhmbmoaaaDoorTie.lean); close each card by the builder's one call (the guide's Derived/Test/ToyasCard.lean, 'card_holds'). Laid BY PROGRAM, IN A SANDBOX (cutbox-door.mjs). By AI agents, Wed Nov 11 2026. No macro, syntax, notation, axiom, sorry.
-/
import Derived.Test.YtohnmnfhmbmoaaaDoorRows
import GoSem.ClaimSeven
namespace Go.Proofs.YtohnmnfhmbmoaaaDoor
namespace Rows

/-- THE TIED CARD OF 'pedigreelaw05.PrintParts'. -/
def printPartsCard : Claim7 := { stood := { row := printPartsRow, standIns := [], harness := (true, "acba89cbcc1a919dc5801b01edee06d87ee1d9d55b786d9b9443134ac8aa952c"), looks := false }, kinds := [], alts := [], laidByText := true, laidKinds := [.data, .data, .data], laidTests := true, laidLooks := .later }
def PrintPartsCardSaid : Prop := Claim7.holds Tryd.pinned (.plain (OpenSpec.ofChange printPartsSpec)) printPartsCard

/-- THE SECOND FORM's CARD OF 'pedigreelaw05.PrintParts'. -/
def printPartsUptoCard : Claim7 := { stood := { row := printPartsUptoRow, standIns := [], harness := (true, "acba89cbcc1a919dc5801b01edee06d87ee1d9d55b786d9b9443134ac8aa952c"), looks := false }, kinds := [], alts := [], laidByText := true, laidKinds := [.data, .data, .data], laidTests := true, laidLooks := .later }
def PrintPartsUptoCardSaid : Prop := Claim7.holds Tryd.pinned (.plain (OpenSpec.upto printPartsSpec)) printPartsUptoCard
end Rows
end Go.Proofs.YtohnmnfhmbmoaaaDoor
