/- ValueSortsAny: the order of things by their low bits. -/
import Derived.Test.YtcalbbfkgdfidaaDoorSoPast
namespace Go.Proofs.YtcalbbfkgdfidaaDoor
open Go.RowKit Go.Sort Go.Lib
set_option linter.unusedVariables false
set_option linter.unusedSimpArgs false
set_option maxRecDepth 100000

structure Thg where
  n : Int
  odd : Bool
def thL (t : Thg) : List Value := [.int .i64 t.n, .bool t.odd]
/-- the ten lowest bits -/
def msk (n : Int) : Int := Go.bits BinOp.and IntKind.i64 n 1023
theorem msk_le (n : Int) : 0 ≤ msk n ∧ msk n ≤ 1023 := by
  unfold msk
  simp only [Go.bits]
  have h : (BitVec.ofInt IntKind.i64.bits n &&& BitVec.ofInt IntKind.i64.bits 1023).toNat ≤ 1023 := by
    show (BitVec.ofInt 64 n &&& BitVec.ofInt 64 1023).toNat ≤ 1023
    rw [BitVec.toNat_and]
    exact Nat.and_le_right
  rw [IntKind.wrap_i64]; omega
/-- what is told of two things of which one is odd -/
def oddR (n m : Int) : Int := (wrap64 ((wrap64 (n - m)).tmod 3 + 3)).tmod 3
def oddI (n m : Int) : Int := if oddR n m = 0 then 0 else if oddR n m = 1 then -1 else 1
def lowI (a b : Thg) : Int := if a.odd || b.odd then oddI a.n b.n else msk a.n - msk b.n
theorem low_even (n m : Int) (w : World) : Calls Tryd.prog 11 #[.agg #[.int .i64 n, .bool false], .agg #[.int .i64 m, .bool false]] w fun e w' => e = .returned (.int .i64 (msk n - msk m)) ∧ Mod [] w w' := by
  have h := msk_le n; have h2 := msk_le m
  have hw : wrap64 (msk n - msk m) = msk n - msk m := by unfold wrap64; omega
  have H := Lib.hid hw
  clear h h2 hw
  go_enter Tryd.func11, Tryd.ntmps11
  go_wp2_with fail
  go_ret
  exact ⟨by rw [← H.out]; rfl, ((Mod.refl [] w).alloc _).alloc _⟩
theorem low_odd (n m : Int) (o p : Bool) (hop : (o || p) = true) (w : World) : Calls Tryd.prog 11 #[.agg #[.int .i64 n, .bool o], .agg #[.int .i64 m, .bool p]] w fun e w' => e = .returned (.int .i64 (oddI n m)) ∧ Mod [] w w' := by
  obtain ⟨r, hr⟩ : ∃ r, oddR n m = r := ⟨_, rfl⟩
  have HR := Lib.hid hr
  have HO : Hid (oddI n m = if r = 0 then 0 else if r = 1 then -1 else 1) := Lib.hid (by unfold oddI; rw [hr])
  have hr2 := hr
  unfold oddR at hr2
  obtain ⟨fl, hfl⟩ : ∃ fl : Bool, fl = decide (r = 0) := ⟨_, rfl⟩
  by_cases h0 : r = 0
  · have e0 : ((wrap64 ((wrap64 (n - m)).tmod 3 + 3)).tmod 3 == 0) = true := by rw [hr2, h0]; rfl
    have e : oddI n m = 0 := by rw [HO.out, if_pos h0]
    have E := Lib.hid e
    clear h0 e hr hr2 hfl HR HO
    cases o <;> cases p
    · cases hop
    all_goals
      clear hop
      go_enter Tryd.func11, Tryd.ntmps11
      go_wp2_with fail
      go_ret
      exact ⟨by rw [E.out]; rfl, ((Mod.refl [] w).alloc _).alloc _⟩
  · have e0 : ((wrap64 ((wrap64 (n - m)).tmod 3 + 3)).tmod 3 == 0) = false := by rw [hr2, beq_eq_false_iff_ne]; exact h0
    by_cases h1 : r = 1
    · have e1 : ((wrap64 ((wrap64 (n - m)).tmod 3 + 3)).tmod 3 == 1) = true := by rw [hr2, h1]; rfl
      have e : oddI n m = -1 := by rw [HO.out, if_neg h0, if_pos h1]
      have E := Lib.hid e
      clear h0 h1 e hr hr2 hfl HR HO
      cases o <;> cases p
      · cases hop
      all_goals
        clear hop
        go_enter Tryd.func11, Tryd.ntmps11
        go_wp2_with fail
        go_ret
        exact ⟨by rw [E.out]; rfl, ((Mod.refl [] w).alloc _).alloc _⟩
    · have e1 : ((wrap64 ((wrap64 (n - m)).tmod 3 + 3)).tmod 3 == 1) = false := by rw [hr2, beq_eq_false_iff_ne]; exact h1
      have e : oddI n m = 1 := by rw [HO.out, if_neg h0, if_neg h1]
      have E := Lib.hid e
      clear h0 h1 e hr hr2 hfl HR HO
      cases o <;> cases p
      · cases hop
      all_goals
        clear hop
        go_enter Tryd.func11, Tryd.ntmps11
        go_wp2_with fail
        go_ret
        exact ⟨by rw [E.out]; rfl, ((Mod.refl [] w).alloc _).alloc _⟩
/-- things told by their numbers: their cells, their order -/
def encT (T : Nat → Thg) (i : Nat) : List Value := thL (T i)
def lowT (T : Nat → Thg) (i j : Nat) : Int := lowI (T i) (T j)
theorem encT_enc (T : Nat → Thg) : Enc (encT T) 2 := ⟨fun _ => rfl, fun x v hv => by
  simp only [encT, thL, List.mem_cons, List.not_mem_nil, or_false] at hv
  rcases hv with rfl | rfl <;> rfl⟩
theorem low_cmp (T : Nat → Thg) (W : World) (g : Nat) : CmpOk 11 (encT T) (lowT T) W g := by
  intro w hm x y
  unfold lowT lowI
  show Calls _ _ #[.agg #[.int .i64 (T x).n, .bool (T x).odd], .agg #[.int .i64 (T y).n, .bool (T y).odd]] _ _
  cases h : ((T x).odd || (T y).odd) with
  | true => simpa using low_odd (T x).n (T y).n (T x).odd (T y).odd h w
  | false =>
    obtain ⟨h1, h2⟩ := Bool.or_eq_false_iff.1 h
    rw [h1, h2]
    simpa using low_even (T x).n (T y).n w
theorem low_ord (T : Nat → Thg) (h : ∀ i, (T i).odd = false) : So.Ord (lowT T) := by
  refine ⟨fun x y => ?_, fun x y z => ?_⟩
  all_goals simp only [lowT, lowI, h, Bool.or_self, Bool.false_eq_true, if_false]; omega
end Go.Proofs.YtcalbbfkgdfidaaDoor
