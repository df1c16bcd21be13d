/-
  DERIVED. GIVEN WITH THE SEED: THE CARDS: each row of YtcalbbfkgdfidaaDoorRows.lean that lists a variable, with what it lists TIED to the program's text (the seventh form; the later family's looks); each row that meets fmt, with fmt's text TOLD by the authors' own Lean function (tested against real Go, not proved from fmt's source: count such statements apart). THE CARD IS WHAT COUNTS. Prove the row's statement (the work); the ties are given (YtcalbbfkgdfidaaDoorTie.lean); close each card by the builder's one call (the guide's Derived/Test/ToyasCard.lean, 'card_holds'). Laid BY PROGRAM, IN A SANDBOX (cutbox-door.mjs). By AI agents, Wed Nov 11 2026. No macro, syntax, notation, axiom, sorry.
-/
import Derived.Test.YtcalbbfkgdfidaaDoorRows
import GoSem.ClaimSeven
namespace Go.Proofs.YtcalbbfkgdfidaaDoor
namespace Rows

/-- THE TIED CARD OF 'pedigreelaw02.ValueSorts'. -/
def valueSortsCard : Claim7 := { stood := { row := valueSortsRow, standIns := [], harness := (true, "4fbb45414cad6e8c7b6409b1e075ceae3baa231775a7293af6be8dbd82b1be58"), looks := true }, kinds := [], alts := [], laidByText := true, laidKinds := [.data, .data, .data, .sentinel, .sentinel], laidTests := true, laidLooks := .later }
def ValueSortsCardSaid : Prop := Claim7.holds Tryd.pinned (.plain (OpenSpec.ofChange valueSortsSpec)) valueSortsCard

/-- THE TIED CARD OF 'pedigreelaw02.ValueSortsAny'. -/
def valueSortsAnyCard : Claim7 := { stood := { row := valueSortsAnyRow, standIns := [], harness := (true, "4fbb45414cad6e8c7b6409b1e075ceae3baa231775a7293af6be8dbd82b1be58"), looks := true }, kinds := [], alts := [], laidByText := true, laidKinds := [.data, .data, .data, .sentinel, .sentinel], laidTests := true, laidLooks := .later }
def ValueSortsAnyCardSaid : Prop := Claim7.holds Tryd.pinned (.plain (OpenSpec.ofChange valueSortsAnySpec)) valueSortsAnyCard

/-- THE SECOND FORM's CARD OF 'pedigreelaw02.ValueSorts'. -/
def valueSortsUptoCard : Claim7 := { stood := { row := valueSortsUptoRow, standIns := [], harness := (true, "4fbb45414cad6e8c7b6409b1e075ceae3baa231775a7293af6be8dbd82b1be58"), looks := true }, kinds := [], alts := [], laidByText := true, laidKinds := [.data, .data, .data, .sentinel, .sentinel], laidTests := true, laidLooks := .later }
def ValueSortsUptoCardSaid : Prop := Claim7.holds Tryd.pinned (.plain (OpenSpec.upto valueSortsSpec)) valueSortsUptoCard

/-- THE SECOND FORM's CARD OF 'pedigreelaw02.ValueSortsAny'. -/
def valueSortsAnyUptoCard : Claim7 := { stood := { row := valueSortsAnyUptoRow, standIns := [], harness := (true, "4fbb45414cad6e8c7b6409b1e075ceae3baa231775a7293af6be8dbd82b1be58"), looks := true }, kinds := [], alts := [], laidByText := true, laidKinds := [.data, .data, .data, .sentinel, .sentinel], laidTests := true, laidLooks := .later }
def ValueSortsAnyUptoCardSaid : Prop := Claim7.holds Tryd.pinned (.plain (OpenSpec.upto valueSortsAnySpec)) valueSortsAnyUptoCard
end Rows
end Go.Proofs.YtcalbbfkgdfidaaDoor
