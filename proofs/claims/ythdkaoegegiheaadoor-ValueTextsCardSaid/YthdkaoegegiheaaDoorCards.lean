/-
  DERIVED. GIVEN WITH THE SEED: THE CARDS: each row of YthdkaoegegiheaaDoorRows.lean that lists a variable, with what it lists TIED to the program's text (the seventh form; the later family's looks); each row that meets fmt, with fmt's text TOLD by the authors' own Lean function (tested against real Go, not proved from fmt's source: count such statements apart). THE CARD IS WHAT COUNTS. Prove the row's statement (the work); the ties are given (YthdkaoegegiheaaDoorTie.lean); close each card by the builder's one call (the guide's Derived/Test/ToyasCard.lean, 'card_holds'). Laid BY PROGRAM, IN A SANDBOX (cutbox-door.mjs). By AI agents, Wed Nov 11 2026. No macro, syntax, notation, axiom, sorry.
-/
import Derived.Test.YthdkaoegegiheaaDoorRows
import GoSem.ClaimSeven
namespace Go.Proofs.YthdkaoegegiheaaDoor
namespace Rows

/-- THE TIED CARD OF 'pedigreelaw02.ValueTextBack'. -/
def valueTextBackCard : Claim7 := { stood := { row := valueTextBackRow, standIns := [], harness := (true, "cf0b4800bbad225df79ce3355e3e538b776466a03cfe5951089116ea06799429"), looks := true }, kinds := [], alts := [], laidByText := true, laidKinds := [.data, .data, .data, .sentinel, .sentinel], laidTests := true, laidLooks := .later }
def ValueTextBackCardSaid : Prop := Claim7.holds Tryd.pinned (.plain (OpenSpec.ofChange valueTextBackSpec)) valueTextBackCard

/-- THE TIED CARD OF 'pedigreelaw02.ValueMayBe'. -/
def valueMayBeCard : Claim7 := { stood := { row := valueMayBeRow, standIns := [], harness := (true, "cf0b4800bbad225df79ce3355e3e538b776466a03cfe5951089116ea06799429"), looks := true }, kinds := [], alts := [], laidByText := true, laidKinds := [.data, .data, .data, .sentinel, .sentinel], laidTests := true, laidLooks := .later }
def ValueMayBeCardSaid : Prop := Claim7.holds Tryd.pinned (.plain (OpenSpec.ofChange valueMayBeSpec)) valueMayBeCard

/-- THE TIED CARD OF 'pedigreelaw02.ValueOrders'. -/
def valueOrdersCard : Claim7 := { stood := { row := valueOrdersRow, standIns := [], harness := (true, "cf0b4800bbad225df79ce3355e3e538b776466a03cfe5951089116ea06799429"), looks := true }, kinds := [], alts := [], laidByText := true, laidKinds := [.data, .data, .data, .sentinel, .sentinel], laidTests := true, laidLooks := .later }
def ValueOrdersCardSaid : Prop := Claim7.holds Tryd.pinned (.plain (OpenSpec.ofChange valueOrdersSpec)) valueOrdersCard

/-- THE TIED CARD OF 'pedigreelaw02.ValueOrder'. -/
def valueOrderCard : Claim7 := { stood := { row := valueOrderRow, standIns := [], harness := (true, "cf0b4800bbad225df79ce3355e3e538b776466a03cfe5951089116ea06799429"), looks := true }, kinds := [], alts := [], laidByText := true, laidKinds := [.data, .data, .data, .sentinel, .sentinel], laidTests := true, laidLooks := .later }
def ValueOrderCardSaid : Prop := Claim7.holds Tryd.pinned (.plain (OpenSpec.ofChange valueOrderSpec)) valueOrderCard

/-- THE TIED CARD OF 'pedigreelaw02.ValueTables'. -/
def valueTablesCard : Claim7 := { stood := { row := valueTablesRow, standIns := [], harness := (true, "cf0b4800bbad225df79ce3355e3e538b776466a03cfe5951089116ea06799429"), looks := true }, kinds := [], alts := [], laidByText := true, laidKinds := [.data, .data, .data, .sentinel, .sentinel], laidTests := true, laidLooks := .later }
def ValueTablesCardSaid : Prop := Claim7.holds Tryd.pinned (.plain (OpenSpec.ofChange valueTablesSpec)) valueTablesCard

/-- THE TIED CARD OF 'pedigreelaw02.ValueTexts'. -/
def valueTextsCard : Claim7 := { stood := { row := valueTextsRow, standIns := [], harness := (true, "cf0b4800bbad225df79ce3355e3e538b776466a03cfe5951089116ea06799429"), looks := true }, kinds := [], alts := [], laidByText := true, laidKinds := [.data, .data, .data, .sentinel, .sentinel], laidTests := true, laidLooks := .later }
def ValueTextsCardSaid : Prop := Claim7.holds Tryd.pinned (.plain (OpenSpec.ofChange valueTextsSpec)) valueTextsCard

/-- THE TIED CARD OF 'pedigreelaw02.ValueBytesBack'. -/
def valueBytesBackCard : Claim7 := { stood := { row := valueBytesBackRow, standIns := [], harness := (true, "cf0b4800bbad225df79ce3355e3e538b776466a03cfe5951089116ea06799429"), looks := true }, kinds := [], alts := [], laidByText := true, laidKinds := [.data, .data, .data, .sentinel, .sentinel], laidTests := true, laidLooks := .later }
def ValueBytesBackCardSaid : Prop := Claim7.holds Tryd.pinned (.plain (OpenSpec.ofChange valueBytesBackSpec)) valueBytesBackCard

/-- THE TIED CARD OF 'pedigreelaw02.ValueSorts'. -/
def valueSortsCard : Claim7 := { stood := { row := valueSortsRow, standIns := [], harness := (true, "cf0b4800bbad225df79ce3355e3e538b776466a03cfe5951089116ea06799429"), looks := true }, kinds := [], alts := [], laidByText := true, laidKinds := [.data, .data, .data, .sentinel, .sentinel], laidTests := true, laidLooks := .later }
def ValueSortsCardSaid : Prop := Claim7.holds Tryd.pinned (.plain (OpenSpec.ofChange valueSortsSpec)) valueSortsCard

/-- THE TIED CARD OF 'pedigreelaw02.ValueSortsAny'. -/
def valueSortsAnyCard : Claim7 := { stood := { row := valueSortsAnyRow, standIns := [], harness := (true, "cf0b4800bbad225df79ce3355e3e538b776466a03cfe5951089116ea06799429"), looks := true }, kinds := [], alts := [], laidByText := true, laidKinds := [.data, .data, .data, .sentinel, .sentinel], laidTests := true, laidLooks := .later }
def ValueSortsAnyCardSaid : Prop := Claim7.holds Tryd.pinned (.plain (OpenSpec.ofChange valueSortsAnySpec)) valueSortsAnyCard

/-- THE SECOND FORM's CARD OF 'pedigreelaw02.ValueTextBack'. -/
def valueTextBackUptoCard : Claim7 := { stood := { row := valueTextBackUptoRow, standIns := [], harness := (true, "cf0b4800bbad225df79ce3355e3e538b776466a03cfe5951089116ea06799429"), looks := true }, kinds := [], alts := [], laidByText := true, laidKinds := [.data, .data, .data, .sentinel, .sentinel], laidTests := true, laidLooks := .later }
def ValueTextBackUptoCardSaid : Prop := Claim7.holds Tryd.pinned (.plain (OpenSpec.upto valueTextBackSpec)) valueTextBackUptoCard

/-- THE SECOND FORM's CARD OF 'pedigreelaw02.ValueMayBe'. -/
def valueMayBeUptoCard : Claim7 := { stood := { row := valueMayBeUptoRow, standIns := [], harness := (true, "cf0b4800bbad225df79ce3355e3e538b776466a03cfe5951089116ea06799429"), looks := true }, kinds := [], alts := [], laidByText := true, laidKinds := [.data, .data, .data, .sentinel, .sentinel], laidTests := true, laidLooks := .later }
def ValueMayBeUptoCardSaid : Prop := Claim7.holds Tryd.pinned (.plain (OpenSpec.upto valueMayBeSpec)) valueMayBeUptoCard

/-- THE SECOND FORM's CARD OF 'pedigreelaw02.ValueOrders'. -/
def valueOrdersUptoCard : Claim7 := { stood := { row := valueOrdersUptoRow, standIns := [], harness := (true, "cf0b4800bbad225df79ce3355e3e538b776466a03cfe5951089116ea06799429"), looks := true }, kinds := [], alts := [], laidByText := true, laidKinds := [.data, .data, .data, .sentinel, .sentinel], laidTests := true, laidLooks := .later }
def ValueOrdersUptoCardSaid : Prop := Claim7.holds Tryd.pinned (.plain (OpenSpec.upto valueOrdersSpec)) valueOrdersUptoCard

/-- THE SECOND FORM's CARD OF 'pedigreelaw02.ValueOrder'. -/
def valueOrderUptoCard : Claim7 := { stood := { row := valueOrderUptoRow, standIns := [], harness := (true, "cf0b4800bbad225df79ce3355e3e538b776466a03cfe5951089116ea06799429"), looks := true }, kinds := [], alts := [], laidByText := true, laidKinds := [.data, .data, .data, .sentinel, .sentinel], laidTests := true, laidLooks := .later }
def ValueOrderUptoCardSaid : Prop := Claim7.holds Tryd.pinned (.plain (OpenSpec.upto valueOrderSpec)) valueOrderUptoCard

/-- THE SECOND FORM's CARD OF 'pedigreelaw02.ValueTables'. -/
def valueTablesUptoCard : Claim7 := { stood := { row := valueTablesUptoRow, standIns := [], harness := (true, "cf0b4800bbad225df79ce3355e3e538b776466a03cfe5951089116ea06799429"), looks := true }, kinds := [], alts := [], laidByText := true, laidKinds := [.data, .data, .data, .sentinel, .sentinel], laidTests := true, laidLooks := .later }
def ValueTablesUptoCardSaid : Prop := Claim7.holds Tryd.pinned (.plain (OpenSpec.upto valueTablesSpec)) valueTablesUptoCard

/-- THE SECOND FORM's CARD OF 'pedigreelaw02.ValueTexts'. -/
def valueTextsUptoCard : Claim7 := { stood := { row := valueTextsUptoRow, standIns := [], harness := (true, "cf0b4800bbad225df79ce3355e3e538b776466a03cfe5951089116ea06799429"), looks := true }, kinds := [], alts := [], laidByText := true, laidKinds := [.data, .data, .data, .sentinel, .sentinel], laidTests := true, laidLooks := .later }
def ValueTextsUptoCardSaid : Prop := Claim7.holds Tryd.pinned (.plain (OpenSpec.upto valueTextsSpec)) valueTextsUptoCard

/-- THE SECOND FORM's CARD OF 'pedigreelaw02.ValueBytesBack'. -/
def valueBytesBackUptoCard : Claim7 := { stood := { row := valueBytesBackUptoRow, standIns := [], harness := (true, "cf0b4800bbad225df79ce3355e3e538b776466a03cfe5951089116ea06799429"), looks := true }, kinds := [], alts := [], laidByText := true, laidKinds := [.data, .data, .data, .sentinel, .sentinel], laidTests := true, laidLooks := .later }
def ValueBytesBackUptoCardSaid : Prop := Claim7.holds Tryd.pinned (.plain (OpenSpec.upto valueBytesBackSpec)) valueBytesBackUptoCard

/-- THE SECOND FORM's CARD OF 'pedigreelaw02.ValueSorts'. -/
def valueSortsUptoCard : Claim7 := { stood := { row := valueSortsUptoRow, standIns := [], harness := (true, "cf0b4800bbad225df79ce3355e3e538b776466a03cfe5951089116ea06799429"), looks := true }, kinds := [], alts := [], laidByText := true, laidKinds := [.data, .data, .data, .sentinel, .sentinel], laidTests := true, laidLooks := .later }
def ValueSortsUptoCardSaid : Prop := Claim7.holds Tryd.pinned (.plain (OpenSpec.upto valueSortsSpec)) valueSortsUptoCard

/-- THE SECOND FORM's CARD OF 'pedigreelaw02.ValueSortsAny'. -/
def valueSortsAnyUptoCard : Claim7 := { stood := { row := valueSortsAnyUptoRow, standIns := [], harness := (true, "cf0b4800bbad225df79ce3355e3e538b776466a03cfe5951089116ea06799429"), looks := true }, kinds := [], alts := [], laidByText := true, laidKinds := [.data, .data, .data, .sentinel, .sentinel], laidTests := true, laidLooks := .later }
def ValueSortsAnyUptoCardSaid : Prop := Claim7.holds Tryd.pinned (.plain (OpenSpec.upto valueSortsAnySpec)) valueSortsAnyUptoCard
end Rows
end Go.Proofs.YthdkaoegegiheaaDoor
