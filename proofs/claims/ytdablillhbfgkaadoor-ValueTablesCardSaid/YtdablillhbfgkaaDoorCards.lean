/-
  DERIVED. GIVEN WITH THE SEED: THE CARDS: each row of YtdablillhbfgkaaDoorRows.lean that lists a variable, with what it lists TIED to the program's text (the seventh form; the later family's looks); each row that meets fmt, with fmt's text TOLD by the authors' own Lean function (tested against real Go, not proved from fmt's source: count such statements apart). THE CARD IS WHAT COUNTS. Prove the row's statement (the work); the ties are given (YtdablillhbfgkaaDoorTie.lean); close each card by the builder's one call (the guide's Derived/Test/ToyasCard.lean, 'card_holds'). Laid BY PROGRAM, IN A SANDBOX (cutbox-door.mjs). By AI agents, Wed Nov 11 2026. No macro, syntax, notation, axiom, sorry.
-/
import Derived.Test.YtdablillhbfgkaaDoorRows
import GoSem.ClaimSeven
namespace Go.Proofs.YtdablillhbfgkaaDoor
namespace Rows

/-- THE TIED CARD OF 'pedigreelaw02.ValueTables'. -/
def valueTablesCard : Claim7 := { stood := { row := valueTablesRow, standIns := [], harness := (true, "17370535e8670796678f1e9c0b2875d3087471a9c6220299e9d06726b12265de"), looks := true }, kinds := [], alts := [], laidByText := true, laidKinds := [.data, .data, .data, .sentinel, .sentinel], laidTests := true, laidLooks := .later }
def ValueTablesCardSaid : Prop := Claim7.holds Tryd.pinned (.plain (OpenSpec.ofChange valueTablesSpec)) valueTablesCard

/-- THE TIED CARD OF 'pedigreelaw02.ValueSorts'. -/
def valueSortsCard : Claim7 := { stood := { row := valueSortsRow, standIns := [], harness := (true, "17370535e8670796678f1e9c0b2875d3087471a9c6220299e9d06726b12265de"), looks := true }, kinds := [], alts := [], laidByText := true, laidKinds := [.data, .data, .data, .sentinel, .sentinel], laidTests := true, laidLooks := .later }
def ValueSortsCardSaid : Prop := Claim7.holds Tryd.pinned (.plain (OpenSpec.ofChange valueSortsSpec)) valueSortsCard

/-- THE TIED CARD OF 'pedigreelaw02.ValueSortsAny'. -/
def valueSortsAnyCard : Claim7 := { stood := { row := valueSortsAnyRow, standIns := [], harness := (true, "17370535e8670796678f1e9c0b2875d3087471a9c6220299e9d06726b12265de"), looks := true }, kinds := [], alts := [], laidByText := true, laidKinds := [.data, .data, .data, .sentinel, .sentinel], laidTests := true, laidLooks := .later }
def ValueSortsAnyCardSaid : Prop := Claim7.holds Tryd.pinned (.plain (OpenSpec.ofChange valueSortsAnySpec)) valueSortsAnyCard

/-- THE SECOND FORM's CARD OF 'pedigreelaw02.ValueTables'. -/
def valueTablesUptoCard : Claim7 := { stood := { row := valueTablesUptoRow, standIns := [], harness := (true, "17370535e8670796678f1e9c0b2875d3087471a9c6220299e9d06726b12265de"), looks := true }, kinds := [], alts := [], laidByText := true, laidKinds := [.data, .data, .data, .sentinel, .sentinel], laidTests := true, laidLooks := .later }
def ValueTablesUptoCardSaid : Prop := Claim7.holds Tryd.pinned (.plain (OpenSpec.upto valueTablesSpec)) valueTablesUptoCard

/-- THE SECOND FORM's CARD OF 'pedigreelaw02.ValueSorts'. -/
def valueSortsUptoCard : Claim7 := { stood := { row := valueSortsUptoRow, standIns := [], harness := (true, "17370535e8670796678f1e9c0b2875d3087471a9c6220299e9d06726b12265de"), looks := true }, kinds := [], alts := [], laidByText := true, laidKinds := [.data, .data, .data, .sentinel, .sentinel], laidTests := true, laidLooks := .later }
def ValueSortsUptoCardSaid : Prop := Claim7.holds Tryd.pinned (.plain (OpenSpec.upto valueSortsSpec)) valueSortsUptoCard

/-- THE SECOND FORM's CARD OF 'pedigreelaw02.ValueSortsAny'. -/
def valueSortsAnyUptoCard : Claim7 := { stood := { row := valueSortsAnyUptoRow, standIns := [], harness := (true, "17370535e8670796678f1e9c0b2875d3087471a9c6220299e9d06726b12265de"), looks := true }, kinds := [], alts := [], laidByText := true, laidKinds := [.data, .data, .data, .sentinel, .sentinel], laidTests := true, laidLooks := .later }
def ValueSortsAnyUptoCardSaid : Prop := Claim7.holds Tryd.pinned (.plain (OpenSpec.upto valueSortsAnySpec)) valueSortsAnyUptoCard
end Rows
end Go.Proofs.YtdablillhbfgkaaDoor
