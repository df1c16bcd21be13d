/- WHAT ALL WALKS OF THIS SEAT SHARE: a slice of bytes in memory, read as a list of numbers. -/
import Derived.Test.YtcalbbfkgdfidaaDoorRows
import Derived.WalkKit
import Derived.Lib.Hide
namespace Go.Proofs.YtcalbbfkgdfidaaDoor
open Go.RowKit

theorem ret_int {k : IntKind} {a b : Int} (h : a = b) : Ending.returned (.int k a) = .returned (.int k b) := by rw [h]

/-- the slice v reads as the bytes l -/
def Reads (w : World) (v : Value) (l : List Nat) : Prop :=
  (∀ c ∈ l, c < 256) ∧ l.length ≤ 140737488355328 ∧
  ((∃ x c, v = .slice x 0 c ∧ l = []) ∨
   ∃ b off cap, v = .slice (some ⟨b, off, none⟩) l.length cap ∧ ∀ i, i < l.length → w.cell? ⟨b, off + i, none⟩ = some (.int .u8 (l.getD i 0 : Nat)))

theorem getD_lt {l : List Nat} (h : ∀ c ∈ l, c < 256) (i : Nat) : l.getD i 0 < 256 := by
  rcases Nat.lt_or_ge i l.length with hi | hi
  · rw [List.getD_eq_getElem?_getD, List.getElem?_eq_getElem hi]
    exact h _ (List.getElem_mem hi)
  · rw [List.getD_eq_getElem?_getD, List.getElem?_eq_none hi]
    decide

theorem take_snoc {α : Type} (l : List α) (d : α) (k : Nat) (h : k < l.length) : l.take (k + 1) = l.take k ++ [l.getD k d] := by
  rw [List.take_succ_eq_append_getElem h, List.getD_eq_getElem?_getD, List.getElem?_eq_getElem h]; rfl
end Go.Proofs.YtcalbbfkgdfidaaDoor
