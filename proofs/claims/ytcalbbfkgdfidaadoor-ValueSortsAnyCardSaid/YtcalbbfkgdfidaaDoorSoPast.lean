/- REGIONS THAT DRAW, READ AND CALL WHAT TURNS NOTHING: the class of the worlds that are past one. -/
import Derived.Test.YtcalbbfkgdfidaaDoorSoRow
import Derived.Deep.QuietTactic
namespace Go.Proofs.YtcalbbfkgdfidaaDoor
open Go.RowKit Go.Sort Go.Lib
set_option linter.unusedVariables false

/-- a world past W: what was there is there -/
structure Past (W : World) where
  w : World
  m : Mod [] W w
theorem past_one (W : World) : Nonempty (Past W) := ⟨⟨W, Mod.refl _ _⟩⟩
theorem region_past {P : Program} {id : Nat} {Q : Exit → Act → World → Prop} {a : Act} {W : World} {l : List Oper} (hm : P.follows .mixedOrders = true) (hB : Region.lexB .any l.toArray = true)
    (h : wpQuiet P l.toArray (fun w' => ∃ p : Past W, w' = p.w) (fun a' => ∀ w', (∃ p : Past W, w' = p.w) → Q .normal a' w') l a) : (Code.region id l.toArray true).wp P Q a W :=
  wp_region_quiet (C := fun w' => ∃ p : Past W, w' = p.w) hm hB ⟨⟨W.drew, (Mod.refl [] W).drew⟩, rfl⟩ (by simpa using h)
theorem past_call {P : Program} {f : FuncId} {args : Array Value} {W : World} {p : Past W} {v : Value}
    (h : Calls P f args p.w fun e w' => e = .returned v ∧ Mod [] p.w w') : Calls P f args p.w fun e w'' => e = .returned v ∧ ∃ q : Past W, w'' = q.w :=
  h.mono fun _ w' ⟨he, hm⟩ => ⟨he, ⟨w', p.m.trans hm (by simp)⟩, rfl⟩
/-- an order that is told by a function, in all worlds in which the sort's row alone has turned -/
def CmpOk (c : FuncId) (enc : Nat → List Value) (f : Nat → Nat → Int) (W : World) (g : Nat) : Prop :=
  ∀ W', Mod [g] W W' → ∀ x y, Calls Tryd.prog c #[.agg (enc x).toArray, .agg (enc y).toArray] W' fun e W'' => e = .returned (.int .i64 (f x y)) ∧ Mod [] W' W''
theorem CmpOk.past {c : FuncId} {enc : Nat → List Value} {f : Nat → Nat → Int} {W W' : World} {g : Nat} (h : CmpOk c enc f W g) (hm : Mod [g] W W') : CmpOk c enc f W' g :=
  fun V hV => h V (hm.trans hV (fun t ht => .inl ht))
theorem CmpOk.call {c : FuncId} {enc : Nat → List Value} {f : Nat → Nat → Int} {W : World} {g : Nat} (h : CmpOk c enc f W g) (x y : Nat) {X Y : List Value} (hx : enc x = X) (hy : enc y = Y) :
    ∀ p : Past W, Calls Tryd.prog c #[.agg X.toArray, .agg Y.toArray] p.w fun e W'' => e = .returned (.int .i64 (f x y)) ∧ Mod [] p.w W'' := fun p => by
  subst hx hy
  exact h p.w (p.m.mono (by simp)) x y
theorem past_cell {W : World} {a : Addr} {v : Value} (h : W.cell? a = some v) : ∀ p : Past W, p.w.cell? a = some v := fun p => p.m.cell h (by simp)
theorem Row.past {enc : Nat → List Value} {k : Nat} {W W' : World} {g : Nat} {l : List Nat} (h : Row enc k W g l) (hm : Mod [] W W') (hl : g < W.heap.size) : Row enc k W' g l := h.keep hm (by simp) hl
end Go.Proofs.YtcalbbfkgdfidaaDoor
