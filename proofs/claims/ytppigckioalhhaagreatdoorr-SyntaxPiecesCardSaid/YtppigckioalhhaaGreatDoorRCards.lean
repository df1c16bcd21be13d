/-
  DERIVED. GIVEN WITH THE SEED: THE CARDS: each row of YtppigckioalhhaaGreatDoorRRows.lean that lists a variable, with what it lists TIED to the program's text (the seventh form; the later family's looks); each row that meets fmt, with fmt's text TOLD by the authors' own Lean function (tested against real Go, not proved from fmt's source: count such statements apart). THE CARD IS WHAT COUNTS. Prove the row's statement (the work); the ties are given (YtppigckioalhhaaGreatDoorRTie.lean); close each card by the builder's one call (the guide's Derived/Test/ToyasCard.lean, 'card_holds'). Laid BY PROGRAM, IN A SANDBOX (cutbox-door.mjs). By AI agents, Wed Nov 11 2026. No macro, syntax, notation, axiom, sorry.
-/
import Derived.Test.YtppigckioalhhaaGreatDoorRRows
import GoSem.ClaimSeven
namespace Go.Proofs.YtppigckioalhhaaGreatDoorR
namespace Rows

/-- THE TIED CARD OF 'pedigreelaw04.SyntaxReads'. -/
def syntaxReadsCard : Claim7 := { stood := { row := syntaxReadsRow, standIns := [], harness := (true, "3a3ea2a9d5fb3f5fa1bf79ac3a8f9902573e6baca65e037ab30e91939721d7e9"), looks := true }, kinds := [], alts := [], laidByText := true, laidKinds := [.data, .data, .data, .sentinel, .sentinel, .data], laidTests := true, laidLooks := .later }
def SyntaxReadsCardSaid : Prop := Claim7.holds Tryz.pinned (.plain (OpenSpec.ofChange syntaxReadsSpec)) syntaxReadsCard

/-- THE TIED CARD OF 'pedigreelaw04.SyntaxDeep'. -/
def syntaxDeepCard : Claim7 := { stood := { row := syntaxDeepRow, standIns := [], harness := (true, "3a3ea2a9d5fb3f5fa1bf79ac3a8f9902573e6baca65e037ab30e91939721d7e9"), looks := true }, kinds := [], alts := [], laidByText := true, laidKinds := [.data, .data, .data, .sentinel, .sentinel, .data], laidTests := true, laidLooks := .later }
def SyntaxDeepCardSaid : Prop := Claim7.holds Tryz.pinned (.plain (OpenSpec.ofChange syntaxDeepSpec)) syntaxDeepCard

/-- THE TIED CARD OF 'pedigreelaw04.SyntaxParts'. -/
def syntaxPartsCard : Claim7 := { stood := { row := syntaxPartsRow, standIns := [], harness := (true, "3a3ea2a9d5fb3f5fa1bf79ac3a8f9902573e6baca65e037ab30e91939721d7e9"), looks := true }, kinds := [], alts := [], laidByText := true, laidKinds := [.data, .data, .data, .sentinel, .sentinel, .data], laidTests := true, laidLooks := .later }
def SyntaxPartsCardSaid : Prop := Claim7.holds Tryz.pinned (.plain (OpenSpec.ofChange syntaxPartsSpec)) syntaxPartsCard

/-- THE TIED CARD OF 'pedigreelaw04.SyntaxBlanks'. -/
def syntaxBlanksCard : Claim7 := { stood := { row := syntaxBlanksRow, standIns := [], harness := (true, "3a3ea2a9d5fb3f5fa1bf79ac3a8f9902573e6baca65e037ab30e91939721d7e9"), looks := true }, kinds := [], alts := [], laidByText := true, laidKinds := [.data, .data, .data, .sentinel, .sentinel, .data], laidTests := true, laidLooks := .later }
def SyntaxBlanksCardSaid : Prop := Claim7.holds Tryz.pinned (.plain (OpenSpec.ofChange syntaxBlanksSpec)) syntaxBlanksCard

/-- THE TIED CARD OF 'pedigreelaw04.SyntaxCut'. -/
def syntaxCutCard : Claim7 := { stood := { row := syntaxCutRow, standIns := [], harness := (true, "3a3ea2a9d5fb3f5fa1bf79ac3a8f9902573e6baca65e037ab30e91939721d7e9"), looks := true }, kinds := [], alts := [], laidByText := true, laidKinds := [.data, .data, .data, .sentinel, .sentinel, .data], laidTests := true, laidLooks := .later }
def SyntaxCutCardSaid : Prop := Claim7.holds Tryz.pinned (.plain (OpenSpec.ofChange syntaxCutSpec)) syntaxCutCard

/-- THE TIED CARD OF 'pedigreelaw04.SyntaxPieces'. -/
def syntaxPiecesCard : Claim7 := { stood := { row := syntaxPiecesRow, standIns := [], harness := (true, "3a3ea2a9d5fb3f5fa1bf79ac3a8f9902573e6baca65e037ab30e91939721d7e9"), looks := true }, kinds := [], alts := [], laidByText := true, laidKinds := [.data, .data, .data, .sentinel, .sentinel, .data], laidTests := true, laidLooks := .later }
def SyntaxPiecesCardSaid : Prop := Claim7.holds Tryz.pinned (.plain (OpenSpec.ofChange syntaxPiecesSpec)) syntaxPiecesCard

/-- THE SECOND FORM's CARD OF 'pedigreelaw04.SyntaxReads'. -/
def syntaxReadsUptoCard : Claim7 := { stood := { row := syntaxReadsUptoRow, standIns := [], harness := (true, "3a3ea2a9d5fb3f5fa1bf79ac3a8f9902573e6baca65e037ab30e91939721d7e9"), looks := true }, kinds := [], alts := [], laidByText := true, laidKinds := [.data, .data, .data, .sentinel, .sentinel, .data], laidTests := true, laidLooks := .later }
def SyntaxReadsUptoCardSaid : Prop := Claim7.holds Tryz.pinned (.plain (OpenSpec.upto syntaxReadsSpec)) syntaxReadsUptoCard

/-- THE SECOND FORM's CARD OF 'pedigreelaw04.SyntaxDeep'. -/
def syntaxDeepUptoCard : Claim7 := { stood := { row := syntaxDeepUptoRow, standIns := [], harness := (true, "3a3ea2a9d5fb3f5fa1bf79ac3a8f9902573e6baca65e037ab30e91939721d7e9"), looks := true }, kinds := [], alts := [], laidByText := true, laidKinds := [.data, .data, .data, .sentinel, .sentinel, .data], laidTests := true, laidLooks := .later }
def SyntaxDeepUptoCardSaid : Prop := Claim7.holds Tryz.pinned (.plain (OpenSpec.upto syntaxDeepSpec)) syntaxDeepUptoCard

/-- THE SECOND FORM's CARD OF 'pedigreelaw04.SyntaxParts'. -/
def syntaxPartsUptoCard : Claim7 := { stood := { row := syntaxPartsUptoRow, standIns := [], harness := (true, "3a3ea2a9d5fb3f5fa1bf79ac3a8f9902573e6baca65e037ab30e91939721d7e9"), looks := true }, kinds := [], alts := [], laidByText := true, laidKinds := [.data, .data, .data, .sentinel, .sentinel, .data], laidTests := true, laidLooks := .later }
def SyntaxPartsUptoCardSaid : Prop := Claim7.holds Tryz.pinned (.plain (OpenSpec.upto syntaxPartsSpec)) syntaxPartsUptoCard

/-- THE SECOND FORM's CARD OF 'pedigreelaw04.SyntaxBlanks'. -/
def syntaxBlanksUptoCard : Claim7 := { stood := { row := syntaxBlanksUptoRow, standIns := [], harness := (true, "3a3ea2a9d5fb3f5fa1bf79ac3a8f9902573e6baca65e037ab30e91939721d7e9"), looks := true }, kinds := [], alts := [], laidByText := true, laidKinds := [.data, .data, .data, .sentinel, .sentinel, .data], laidTests := true, laidLooks := .later }
def SyntaxBlanksUptoCardSaid : Prop := Claim7.holds Tryz.pinned (.plain (OpenSpec.upto syntaxBlanksSpec)) syntaxBlanksUptoCard

/-- THE SECOND FORM's CARD OF 'pedigreelaw04.SyntaxCut'. -/
def syntaxCutUptoCard : Claim7 := { stood := { row := syntaxCutUptoRow, standIns := [], harness := (true, "3a3ea2a9d5fb3f5fa1bf79ac3a8f9902573e6baca65e037ab30e91939721d7e9"), looks := true }, kinds := [], alts := [], laidByText := true, laidKinds := [.data, .data, .data, .sentinel, .sentinel, .data], laidTests := true, laidLooks := .later }
def SyntaxCutUptoCardSaid : Prop := Claim7.holds Tryz.pinned (.plain (OpenSpec.upto syntaxCutSpec)) syntaxCutUptoCard

/-- THE SECOND FORM's CARD OF 'pedigreelaw04.SyntaxPieces'. -/
def syntaxPiecesUptoCard : Claim7 := { stood := { row := syntaxPiecesUptoRow, standIns := [], harness := (true, "3a3ea2a9d5fb3f5fa1bf79ac3a8f9902573e6baca65e037ab30e91939721d7e9"), looks := true }, kinds := [], alts := [], laidByText := true, laidKinds := [.data, .data, .data, .sentinel, .sentinel, .data], laidTests := true, laidLooks := .later }
def SyntaxPiecesUptoCardSaid : Prop := Claim7.holds Tryz.pinned (.plain (OpenSpec.upto syntaxPiecesSpec)) syntaxPiecesUptoCard
end Rows
end Go.Proofs.YtppigckioalhhaaGreatDoorR
