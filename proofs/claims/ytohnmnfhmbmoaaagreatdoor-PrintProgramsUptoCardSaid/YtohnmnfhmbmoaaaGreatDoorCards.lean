/-
  DERIVED. GIVEN WITH THE SEED: THE CARDS: each row of YtohnmnfhmbmoaaaGreatDoorRows.lean that lists a variable, with what it lists TIED to the program's text (the seventh form; the later family's looks); each row that meets fmt, with fmt's text TOLD by the authors' own Lean function (tested against real Go, not proved from fmt's source: count such statements apart). THE CARD IS WHAT COUNTS. Prove the row's statement (the work); the ties are given (YtohnmnfhmbmoaaaGreatDoorTie.lean); close each card by the builder's one call (the guide's Derived/Test/ToyasCard.lean, 'card_holds'). Laid BY PROGRAM, IN A SANDBOX (cutbox-door.mjs). By AI agents, Wed Nov 11 2026. No macro, syntax, notation, axiom, sorry.
-/
import Derived.Test.YtohnmnfhmbmoaaaGreatDoorRows
import GoSem.ClaimSeven
namespace Go.Proofs.YtohnmnfhmbmoaaaGreatDoor
namespace Rows

/-- THE TIED CARD OF 'pedigreelaw05.PrintPrograms'. -/
def printProgramsCard : Claim7 := { stood := { row := printProgramsRow, standIns := [], harness := (true, "0c573a4fa09ab648e6518747e5c582b60758b9aa6f1f37591e36354af0868f36"), looks := true }, kinds := [], alts := [], laidByText := true, laidKinds := [.data, .data, .data], laidTests := true, laidLooks := .later }
def PrintProgramsCardSaid : Prop := Claim7.holds Tryz.pinned (.plain (OpenSpec.ofChange printProgramsSpec)) printProgramsCard

/-- THE TIED CARD OF 'pedigreelaw05.PrintBrackets'. -/
def printBracketsCard : Claim7 := { stood := { row := printBracketsRow, standIns := [], harness := (true, "0c573a4fa09ab648e6518747e5c582b60758b9aa6f1f37591e36354af0868f36"), looks := true }, kinds := [], alts := [], laidByText := true, laidKinds := [.data, .data, .data, .sentinel, .sentinel, .data], laidTests := true, laidLooks := .later }
def PrintBracketsCardSaid : Prop := Claim7.holds Tryz.pinned (.plain (OpenSpec.ofChange printBracketsSpec)) printBracketsCard

/-- THE TIED CARD OF 'pedigreelaw05.PrintFix'. -/
def printFixCard : Claim7 := { stood := { row := printFixRow, standIns := [], harness := (true, "0c573a4fa09ab648e6518747e5c582b60758b9aa6f1f37591e36354af0868f36"), looks := true }, kinds := [], alts := [], laidByText := true, laidKinds := [.data, .data, .data, .sentinel, .sentinel, .data], laidTests := true, laidLooks := .later }
def PrintFixCardSaid : Prop := Claim7.holds Tryz.pinned (.plain (OpenSpec.ofChange printFixSpec)) printFixCard

/-- THE TIED CARD OF 'pedigreelaw05.PrintBack'. -/
def printBackCard : Claim7 := { stood := { row := printBackRow, standIns := [], harness := (true, "0c573a4fa09ab648e6518747e5c582b60758b9aa6f1f37591e36354af0868f36"), looks := true }, kinds := [], alts := [], laidByText := true, laidKinds := [.data, .data, .data, .sentinel, .sentinel, .data], laidTests := true, laidLooks := .later }
def PrintBackCardSaid : Prop := Claim7.holds Tryz.pinned (.plain (OpenSpec.ofChange printBackSpec)) printBackCard

/-- THE SECOND FORM's CARD OF 'pedigreelaw05.PrintPrograms'. -/
def printProgramsUptoCard : Claim7 := { stood := { row := printProgramsUptoRow, standIns := [], harness := (true, "0c573a4fa09ab648e6518747e5c582b60758b9aa6f1f37591e36354af0868f36"), looks := true }, kinds := [], alts := [], laidByText := true, laidKinds := [.data, .data, .data], laidTests := true, laidLooks := .later }
def PrintProgramsUptoCardSaid : Prop := Claim7.holds Tryz.pinned (.plain (OpenSpec.upto printProgramsSpec)) printProgramsUptoCard

/-- THE SECOND FORM's CARD OF 'pedigreelaw05.PrintBrackets'. -/
def printBracketsUptoCard : Claim7 := { stood := { row := printBracketsUptoRow, standIns := [], harness := (true, "0c573a4fa09ab648e6518747e5c582b60758b9aa6f1f37591e36354af0868f36"), looks := true }, kinds := [], alts := [], laidByText := true, laidKinds := [.data, .data, .data, .sentinel, .sentinel, .data], laidTests := true, laidLooks := .later }
def PrintBracketsUptoCardSaid : Prop := Claim7.holds Tryz.pinned (.plain (OpenSpec.upto printBracketsSpec)) printBracketsUptoCard

/-- THE SECOND FORM's CARD OF 'pedigreelaw05.PrintFix'. -/
def printFixUptoCard : Claim7 := { stood := { row := printFixUptoRow, standIns := [], harness := (true, "0c573a4fa09ab648e6518747e5c582b60758b9aa6f1f37591e36354af0868f36"), looks := true }, kinds := [], alts := [], laidByText := true, laidKinds := [.data, .data, .data, .sentinel, .sentinel, .data], laidTests := true, laidLooks := .later }
def PrintFixUptoCardSaid : Prop := Claim7.holds Tryz.pinned (.plain (OpenSpec.upto printFixSpec)) printFixUptoCard

/-- THE SECOND FORM's CARD OF 'pedigreelaw05.PrintBack'. -/
def printBackUptoCard : Claim7 := { stood := { row := printBackUptoRow, standIns := [], harness := (true, "0c573a4fa09ab648e6518747e5c582b60758b9aa6f1f37591e36354af0868f36"), looks := true }, kinds := [], alts := [], laidByText := true, laidKinds := [.data, .data, .data, .sentinel, .sentinel, .data], laidTests := true, laidLooks := .later }
def PrintBackUptoCardSaid : Prop := Claim7.holds Tryz.pinned (.plain (OpenSpec.upto printBackSpec)) printBackUptoCard
end Rows
end Go.Proofs.YtohnmnfhmbmoaaaGreatDoor
