/- HOW ARGUMENTS ARE OPENED: a slice of values, a slice of bytes that came in. -/
import Derived.Test.YthdkaoegegiheaaDoorVaOpen
import Derived.Test.YthdkaoegegiheaaDoorOpen
namespace Go.Proofs.YthdkaoegegiheaaDoor
open Go.ChangeShapes Go.WideShapes Go.ChangeAt Go.RowKit
set_option linter.unusedVariables false
set_option linter.unusedSimpArgs false
set_option maxRecDepth 100000

theorem open_vals {H : Type} {enc : TypeId × Value → H} {W : World} {a : Option Addr} {len cap : Nat} {d : DataW H} {p : List MemPlace}
    (h : DataW.Trod enc Tryd.prog W 0 (fun _ => true) true 32 (.slice a len cap) d p) :
    ∃ ts : List Va.Val, ts.length = len ∧ VRow W (.slice a len cap) ts ∧ (∀ v ∈ ts, v.Ok ∧ v.s.length ≤ 9223372036854775807) ∧ (len = 0 ∨ ∃ els sp, d = .slice els sp ∧ els.length = len) := by
  obtain ⟨fuel, hf⟩ := h
  obtain ⟨u, ts, e, hr, hok, hd⟩ := open_row_cells hf
  simp [Value.cells] at e
  subst e
  obtain ⟨a', c', e⟩ := hr.lit
  simp only [Value.slice.injEq] at e
  obtain ⟨rfl, rfl, rfl⟩ := e
  exact ⟨ts, rfl, hr, hok, hd⟩
end Go.Proofs.YthdkaoegegiheaaDoor
