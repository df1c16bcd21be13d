/- the test of value.Sorted: two things that an order takes for one. (Th) -/
import Derived.Test.YtcalbbfkgdfidaaDoorSoPast
namespace Go.Proofs.YtcalbbfkgdfidaaDoor
open Go.RowKit Go.Sort Go.Lib
set_option linter.unusedVariables false
set_option linter.unusedSimpArgs false
set_option maxRecDepth 100000


/-- a test of two things, in all worlds in which the sort's row alone has turned -/
def EqOkTh (enc : Nat → List Value) (f : Nat → Nat → Int) (W : World) (g p : Nat) : Prop :=
  ∀ W', Mod [g] W W' → ∀ x y, Calls Tryd.prog 31 #[.agg (enc x).toArray, .agg (enc y).toArray, .pointer (some ⟨p, 0, none⟩)] W' fun e W'' => e = .returned (.bool (decide (f x y = 0))) ∧ Mod [] W' W''
theorem EqOkTh.past {enc : Nat → List Value} {f : Nat → Nat → Int} {W W' : World} {g p : Nat} (h : EqOkTh enc f W g p) (hm : Mod [g] W W') : EqOkTh enc f W' g p :=
  fun V hV => h V (hm.trans hV (fun t ht => .inl ht))
theorem EqOkTh.call {enc : Nat → List Value} {f : Nat → Nat → Int} {W : World} {g p : Nat} (h : EqOkTh enc f W g p) (x y : Nat) {X Y : List Value} (hx : enc x = X) (hy : enc y = Y) :
    ∀ q : Past W, Calls Tryd.prog 31 #[.agg X.toArray, .agg Y.toArray, .pointer (some ⟨p, 0, none⟩)] q.w fun e W'' => e = .returned (.bool (decide (f x y = 0))) ∧ Mod [] q.w W'' := fun q => by
  subst hx hy
  exact h q.w (q.m.mono (by simp)) x y
set_option maxHeartbeats 4000000 in
theorem eqTh_any {enc : Nat → List Value} {f : Nat → Nat → Int} (E : Enc enc 2) (g p : Nat) (W : World) (hC : CmpOk 11 enc f W g) (hp : W.cell? ⟨p, 0, none⟩ = some (.func (.func 11) #[] #[])) (hpg : p ≠ g) : EqOkTh enc f W g p := by
  intro w hm x y
  have hc := hm.cell hp (by simpa using hpg)
  obtain ⟨x0, x1, hx⟩ := E.two x
  obtain ⟨y0, y1, hy⟩ := E.two y
  have H1 := (((Mod.refl [] w).alloc (Obj.cells #[x0, x1] 37)).alloc (Obj.cells #[y0, y1] 37))
  have hC2 := (hC.past hm).past (H1.mono (by simp)) _ (Mod.refl _ _) x y
  have hc2 := H1.cell hc (by simp)
  rw [hx, hy] at hC2 ⊢
  have HC := Lib.hid hC2; have M1 := Lib.hid H1
  obtain ⟨r, hr⟩ : ∃ r, f x y = r := ⟨_, rfl⟩
  rw [hr] at HC ⊢
  have hlt := hm.size
  clear hC hp hm hc hC2 H1 hx hy hr
  go_enter Tryd.func31, Tryd.ntmps31
  go_wp2_with fail
  refine Calls.mono HC.out ?_
  rintro e2 w2 ⟨rfl, m2⟩
  have M2 := Lib.hid (M1.out.trans m2 (by simp))
  clear HC M1 m2
  by_cases h0 : r = 0
  · subst h0
    go_wp2_with fail
    go_ret
    exact ⟨rfl, M2.out⟩
  · have h1 : (r == 0) = false := by rw [beq_eq_false_iff_ne]; exact h0
    have h2 : decide (r = 0) = false := decide_eq_false h0
    have H2 := Lib.hid h2
    clear h2
    go_wp2_with fail
    go_ret
    exact ⟨by rw [H2.out]; rfl, M2.out⟩
end Go.Proofs.YtcalbbfkgdfidaaDoor
