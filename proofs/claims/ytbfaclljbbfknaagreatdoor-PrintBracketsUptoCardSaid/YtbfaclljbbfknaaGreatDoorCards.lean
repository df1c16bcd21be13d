/-
  DERIVED. GIVEN WITH THE SEED: THE CARDS: each row of YtbfaclljbbfknaaGreatDoorRows.lean that lists a variable, with what it lists TIED to the program's text (the seventh form; the later family's looks); each row that meets fmt, with fmt's text TOLD by the authors' own Lean function (tested against real Go, not proved from fmt's source: count such statements apart). THE CARD IS WHAT COUNTS. Prove the row's statement (the work); the ties are given (YtbfaclljbbfknaaGreatDoorTie.lean); close each card by the builder's one call (the guide's Derived/Test/ToyasCard.lean, 'card_holds'). Laid BY PROGRAM, IN A SANDBOX (cutbox-door.mjs). By AI agents, Wed Nov 11 2026. No macro, syntax, notation, axiom, sorry.
-/
import Derived.Test.YtbfaclljbbfknaaGreatDoorRows
import GoSem.ClaimSeven
namespace Go.Proofs.YtbfaclljbbfknaaGreatDoor
namespace Rows

/-- THE TIED CARD OF 'pedigreelaw05.PrintBrackets'. -/
def printBracketsCard : Claim7 := { stood := { row := printBracketsRow, standIns := [], harness := (true, "867784c97e06f7de29179df5ed6368551241ae7562efcfc8a0759ed8c671177e"), looks := true }, kinds := [], alts := [], laidByText := true, laidKinds := [.data, .data, .data, .sentinel, .sentinel, .data], laidTests := true, laidLooks := .later }
def PrintBracketsCardSaid : Prop := Claim7.holds Tryz.pinned (.plain (OpenSpec.ofChange printBracketsSpec)) printBracketsCard

/-- THE SECOND FORM's CARD OF 'pedigreelaw05.PrintBrackets'. -/
def printBracketsUptoCard : Claim7 := { stood := { row := printBracketsUptoRow, standIns := [], harness := (true, "867784c97e06f7de29179df5ed6368551241ae7562efcfc8a0759ed8c671177e"), looks := true }, kinds := [], alts := [], laidByText := true, laidKinds := [.data, .data, .data, .sentinel, .sentinel, .data], laidTests := true, laidLooks := .later }
def PrintBracketsUptoCardSaid : Prop := Claim7.holds Tryz.pinned (.plain (OpenSpec.upto printBracketsSpec)) printBracketsUptoCard
end Rows
end Go.Proofs.YtbfaclljbbfknaaGreatDoor
