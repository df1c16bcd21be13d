/- PLAIN: the document's examples of texts. -/
import Derived.Test.YtbmmdficdeakfaaDoorPrProg2
namespace Go.Proofs.YtbmmdficdeakfaaDoor
open Go.RowKit
set_option linter.unusedVariables false
set_option linter.unusedSimpArgs false
set_option maxRecDepth 100000

def xOne : Pr.Ex := .mk 2 { data := #[] } ⟨1, 1, []⟩ 0 []
def xName (s : ByteArray) : Pr.Ex := .mk 1 s Va.zero 0 []
def xNeg : Pr.Ex := .mk 4 { data := #[] } Va.zero 6 [xOne]
def xAdd : Pr.Ex := .mk 4 { data := #[] } Va.zero 1 [xName { data := #[89] }, xOne]
def xMul : Pr.Ex := .mk 4 { data := #[] } Va.zero 3 [xName { data := #[88] }, xAdd]
def xProg : Pr.Prog := ⟨[⟨{ data := #[112] }, [1, 2], 0, 0⟩], [⟨⟨{ data := #[113] }, []⟩, [], 0, 0⟩]⟩
def xSum : Pr.Atom := ⟨{ data := #[115, 117, 109] }, []⟩
theorem text_one : Va.text ⟨1, 1, []⟩ = [49] := by
  unfold Va.text Va.itoa Lib.itoa
  rw [if_pos rfl, if_neg (by decide)]
  simp [Lib.decDigits]
theorem pE_one (k : Nat) : Pr.pE (k + 1) xOne = some [49] := by
  rw [Pr.pE_val _ _ rfl]
  show (if _ then some (Va.text ⟨1, 1, []⟩) else none) = _
  rw [text_one]
  decide
theorem pE_X (k : Nat) (s : ByteArray) (h : Va.variable_ (Cod.str s) = true) : Pr.pE (k + 1) (xName s) = some (Cod.str s) := by
  rw [Pr.pE_var _ _ rfl]
  exact if_pos ⟨h, rfl, rfl, rfl⟩
theorem pE_neg : Pr.pE 17 xNeg = some [45, 40, 49, 41] := by
  rw [Pr.pE_op _ _ rfl]
  show (if _ then Pr.pO 16 xNeg else none) = _
  rw [if_pos (by decide)]
  have : Pr.pO 16 xNeg = (if Pr.binds xOne < 3 ∨ (xOne.k = 2 ∧ xOne.x.k = 1 ∧ 0 < xOne.x.n) then (Pr.pE 15 xOne).map (fun t => 40 :: (t ++ [41])) else Pr.pE 16 xOne).map
          (fun t => 45 :: ((if xOne.k = 2 ∧ xOne.x.k = 1 ∧ xOne.x.n = 0 then [45] else []) ++ t)) := by rfl
  rw [this, if_pos (show Pr.binds xOne < 3 ∨ (xOne.k = 2 ∧ xOne.x.k = 1 ∧ 0 < xOne.x.n) by decide), if_neg (show ¬ (xOne.k = 2 ∧ xOne.x.k = 1 ∧ xOne.x.n = 0) by decide), pE_one]
  rfl
theorem pE_add (k : Nat) : Pr.pE (k + 2) xAdd = some [89, 32, 43, 32, 49] := by
  rw [Pr.pE_op _ _ rfl, if_pos (by decide)]
  show Pr.pO (k + 1) (.mk 4 _ _ 1 [xName { data := #[89] }, xOne]) = _
  rw [pO_two _ _ _ _ _ _ _ (by decide), if_neg (by decide), if_neg (by decide), pE_X _ _ (by decide), pE_one]
  rfl
theorem pE_mul : Pr.pE 17 xMul = some [88, 32, 42, 32, 40, 89, 32, 43, 32, 49, 41] := by
  rw [Pr.pE_op _ _ rfl, if_pos (by decide)]
  show Pr.pO (15 + 1) (.mk 4 _ _ 3 [xName { data := #[88] }, xAdd]) = _
  rw [pO_two _ _ _ _ _ _ _ (by decide), if_neg (by decide), if_pos (by decide), pE_X _ _ (by decide), pE_add]
  rfl
theorem pP_prog : Pr.pP xProg = some [114, 101, 108, 97, 116, 105, 111, 110, 32, 112, 40, 110, 117, 109, 44, 32, 115, 121, 109, 41, 46, 10, 113, 40, 41, 46, 10] := by
  have h1 : Pr.pD ⟨{ data := #[112] }, [1, 2], 0, 0⟩ = some [114, 101, 108, 97, 116, 105, 111, 110, 32, 112, 40, 110, 117, 109, 44, 32, 115, 121, 109, 41] := by decide
  have h2 : Pr.pA ⟨{ data := #[113] }, []⟩ = some [113, 40, 41] := by decide
  have h3 : Pr.pR ⟨⟨{ data := #[113] }, []⟩, [], 0, 0⟩ = some [113, 40, 41] := by rw [pR_eq]; rw [h2]; rfl
  unfold Pr.pP xProg
  simp only [List.map_cons, List.map_nil, h1, h3]
  rfl
theorem pA_sum : Pr.pA xSum = none := by decide
end Go.Proofs.YtbmmdficdeakfaaDoor
