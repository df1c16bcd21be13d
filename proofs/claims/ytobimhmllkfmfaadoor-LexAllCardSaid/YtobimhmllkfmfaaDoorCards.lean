/-
  DERIVED. GIVEN WITH THE SEED: THE CARDS: each row of YtobimhmllkfmfaaDoorRows.lean that lists a variable, with what it lists TIED to the program's text (the seventh form; the later family's looks); each row that meets fmt, with fmt's text TOLD by the authors' own Lean function (tested against real Go, not proved from fmt's source: count such statements apart). THE CARD IS WHAT COUNTS. Prove the row's statement (the work); the ties are given (YtobimhmllkfmfaaDoorTie.lean); close each card by the builder's one call (the guide's Derived/Test/ToyasCard.lean, 'card_holds'). Laid BY PROGRAM, IN A SANDBOX (cutbox-door.mjs). By AI agents, Wed Nov 11 2026. No macro, syntax, notation, axiom, sorry.
-/
import Derived.Test.YtobimhmllkfmfaaDoorRows
import GoSem.ClaimSeven
namespace Go.Proofs.YtobimhmllkfmfaaDoor
namespace Rows

/-- THE TIED CARD OF 'pedigreelaw03.LexTokens'. -/
def lexTokensCard : Claim7 := { stood := { row := lexTokensRow, standIns := [], harness := (true, "cc1d3d36c9016eb726ff6e430be19cd0cdd472a5cf55cf5947640a265ea2b1d4"), looks := true }, kinds := [], alts := [], laidByText := true, laidKinds := [.data, .data, .data, .sentinel, .sentinel, .data], laidTests := true, laidLooks := .later }
def LexTokensCardSaid : Prop := Claim7.holds Tryd.pinned (.plain (OpenSpec.ofChange lexTokensSpec)) lexTokensCard

/-- THE TIED CARD OF 'pedigreelaw03.LexScans'. -/
def lexScansCard : Claim7 := { stood := { row := lexScansRow, standIns := [], harness := (true, "cc1d3d36c9016eb726ff6e430be19cd0cdd472a5cf55cf5947640a265ea2b1d4"), looks := true }, kinds := [], alts := [], laidByText := true, laidKinds := [.data, .data, .data, .sentinel, .sentinel, .data], laidTests := true, laidLooks := .later }
def LexScansCardSaid : Prop := Claim7.holds Tryd.pinned (.plain (OpenSpec.ofChange lexScansSpec)) lexScansCard

/-- THE TIED CARD OF 'pedigreelaw03.LexReserved'. -/
def lexReservedCard : Claim7 := { stood := { row := lexReservedRow, standIns := [], harness := (true, "cc1d3d36c9016eb726ff6e430be19cd0cdd472a5cf55cf5947640a265ea2b1d4"), looks := true }, kinds := [], alts := [], laidByText := true, laidKinds := [.data, .data, .data, .sentinel, .sentinel, .data], laidTests := true, laidLooks := .later }
def LexReservedCardSaid : Prop := Claim7.holds Tryd.pinned (.plain (OpenSpec.ofChange lexReservedSpec)) lexReservedCard

/-- THE TIED CARD OF 'pedigreelaw03.LexStands'. -/
def lexStandsCard : Claim7 := { stood := { row := lexStandsRow, standIns := [], harness := (true, "cc1d3d36c9016eb726ff6e430be19cd0cdd472a5cf55cf5947640a265ea2b1d4"), looks := true }, kinds := [], alts := [], laidByText := true, laidKinds := [.data, .data, .data, .sentinel, .sentinel, .data], laidTests := true, laidLooks := .later }
def LexStandsCardSaid : Prop := Claim7.holds Tryd.pinned (.plain (OpenSpec.ofChange lexStandsSpec)) lexStandsCard

/-- THE TIED CARD OF 'pedigreelaw03.LexJoins'. -/
def lexJoinsCard : Claim7 := { stood := { row := lexJoinsRow, standIns := [], harness := (true, "cc1d3d36c9016eb726ff6e430be19cd0cdd472a5cf55cf5947640a265ea2b1d4"), looks := true }, kinds := [], alts := [], laidByText := true, laidKinds := [.data, .data, .data, .sentinel, .sentinel, .data], laidTests := true, laidLooks := .later }
def LexJoinsCardSaid : Prop := Claim7.holds Tryd.pinned (.plain (OpenSpec.ofChange lexJoinsSpec)) lexJoinsCard

/-- THE TIED CARD OF 'pedigreelaw03.LexMemory'. -/
def lexMemoryCard : Claim7 := { stood := { row := lexMemoryRow, standIns := [], harness := (true, "cc1d3d36c9016eb726ff6e430be19cd0cdd472a5cf55cf5947640a265ea2b1d4"), looks := true }, kinds := [], alts := [], laidByText := true, laidKinds := [.data, .data, .data, .sentinel, .sentinel, .data], laidTests := true, laidLooks := .later }
def LexMemoryCardSaid : Prop := Claim7.holds Tryd.pinned (.plain (OpenSpec.ofChange lexMemorySpec)) lexMemoryCard

/-- THE TIED CARD OF 'pedigreelaw03.LexAll'. -/
def lexAllCard : Claim7 := { stood := { row := lexAllRow, standIns := [], harness := (true, "cc1d3d36c9016eb726ff6e430be19cd0cdd472a5cf55cf5947640a265ea2b1d4"), looks := true }, kinds := [], alts := [], laidByText := true, laidKinds := [.data, .data, .data, .sentinel, .sentinel, .data], laidTests := true, laidLooks := .later }
def LexAllCardSaid : Prop := Claim7.holds Tryd.pinned (.plain (OpenSpec.ofChange lexAllSpec)) lexAllCard

/-- THE SECOND FORM's CARD OF 'pedigreelaw03.LexTokens'. -/
def lexTokensUptoCard : Claim7 := { stood := { row := lexTokensUptoRow, standIns := [], harness := (true, "cc1d3d36c9016eb726ff6e430be19cd0cdd472a5cf55cf5947640a265ea2b1d4"), looks := true }, kinds := [], alts := [], laidByText := true, laidKinds := [.data, .data, .data, .sentinel, .sentinel, .data], laidTests := true, laidLooks := .later }
def LexTokensUptoCardSaid : Prop := Claim7.holds Tryd.pinned (.plain (OpenSpec.upto lexTokensSpec)) lexTokensUptoCard

/-- THE SECOND FORM's CARD OF 'pedigreelaw03.LexScans'. -/
def lexScansUptoCard : Claim7 := { stood := { row := lexScansUptoRow, standIns := [], harness := (true, "cc1d3d36c9016eb726ff6e430be19cd0cdd472a5cf55cf5947640a265ea2b1d4"), looks := true }, kinds := [], alts := [], laidByText := true, laidKinds := [.data, .data, .data, .sentinel, .sentinel, .data], laidTests := true, laidLooks := .later }
def LexScansUptoCardSaid : Prop := Claim7.holds Tryd.pinned (.plain (OpenSpec.upto lexScansSpec)) lexScansUptoCard

/-- THE SECOND FORM's CARD OF 'pedigreelaw03.LexReserved'. -/
def lexReservedUptoCard : Claim7 := { stood := { row := lexReservedUptoRow, standIns := [], harness := (true, "cc1d3d36c9016eb726ff6e430be19cd0cdd472a5cf55cf5947640a265ea2b1d4"), looks := true }, kinds := [], alts := [], laidByText := true, laidKinds := [.data, .data, .data, .sentinel, .sentinel, .data], laidTests := true, laidLooks := .later }
def LexReservedUptoCardSaid : Prop := Claim7.holds Tryd.pinned (.plain (OpenSpec.upto lexReservedSpec)) lexReservedUptoCard

/-- THE SECOND FORM's CARD OF 'pedigreelaw03.LexStands'. -/
def lexStandsUptoCard : Claim7 := { stood := { row := lexStandsUptoRow, standIns := [], harness := (true, "cc1d3d36c9016eb726ff6e430be19cd0cdd472a5cf55cf5947640a265ea2b1d4"), looks := true }, kinds := [], alts := [], laidByText := true, laidKinds := [.data, .data, .data, .sentinel, .sentinel, .data], laidTests := true, laidLooks := .later }
def LexStandsUptoCardSaid : Prop := Claim7.holds Tryd.pinned (.plain (OpenSpec.upto lexStandsSpec)) lexStandsUptoCard

/-- THE SECOND FORM's CARD OF 'pedigreelaw03.LexJoins'. -/
def lexJoinsUptoCard : Claim7 := { stood := { row := lexJoinsUptoRow, standIns := [], harness := (true, "cc1d3d36c9016eb726ff6e430be19cd0cdd472a5cf55cf5947640a265ea2b1d4"), looks := true }, kinds := [], alts := [], laidByText := true, laidKinds := [.data, .data, .data, .sentinel, .sentinel, .data], laidTests := true, laidLooks := .later }
def LexJoinsUptoCardSaid : Prop := Claim7.holds Tryd.pinned (.plain (OpenSpec.upto lexJoinsSpec)) lexJoinsUptoCard

/-- THE SECOND FORM's CARD OF 'pedigreelaw03.LexMemory'. -/
def lexMemoryUptoCard : Claim7 := { stood := { row := lexMemoryUptoRow, standIns := [], harness := (true, "cc1d3d36c9016eb726ff6e430be19cd0cdd472a5cf55cf5947640a265ea2b1d4"), looks := true }, kinds := [], alts := [], laidByText := true, laidKinds := [.data, .data, .data, .sentinel, .sentinel, .data], laidTests := true, laidLooks := .later }
def LexMemoryUptoCardSaid : Prop := Claim7.holds Tryd.pinned (.plain (OpenSpec.upto lexMemorySpec)) lexMemoryUptoCard

/-- THE SECOND FORM's CARD OF 'pedigreelaw03.LexAll'. -/
def lexAllUptoCard : Claim7 := { stood := { row := lexAllUptoRow, standIns := [], harness := (true, "cc1d3d36c9016eb726ff6e430be19cd0cdd472a5cf55cf5947640a265ea2b1d4"), looks := true }, kinds := [], alts := [], laidByText := true, laidKinds := [.data, .data, .data, .sentinel, .sentinel, .data], laidTests := true, laidLooks := .later }
def LexAllUptoCardSaid : Prop := Claim7.holds Tryd.pinned (.plain (OpenSpec.upto lexAllSpec)) lexAllUptoCard
end Rows
end Go.Proofs.YtobimhmllkfmfaaDoor
