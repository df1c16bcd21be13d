/- VALUES: the order of tuples and facts: the program's. -/
import Derived.Test.YthdkaoegegiheaaDoorVaCmp
namespace Go.Proofs.YthdkaoegegiheaaDoor
open Go.RowKit
set_option linter.unusedVariables false
set_option linter.unusedSimpArgs false
set_option maxRecDepth 100000

theorem bneI {a b : Int} (h : a ≠ b) : (a != b) = true := by rw [bne_iff_ne]; exact h
set_option maxHeartbeats 2000000 in
theorem CompareFunc_any (v u : Value) (xs ys : List Va.Val) (hx : ∀ x ∈ xs, VL x) (hy : ∀ y ∈ ys, VL y) (hl : xs.length ≤ 140737488355328) (hl2 : ys.length ≤ 140737488355328) (w : World) (h : VRow w v xs) (h2 : VRow w u ys) :
    Calls Tryd.prog 66 #[v, u, .func (.func 25) #[] #[]] w fun e w' => e = .returned (.int .i64 (Va.cmpT xs ys)) ∧ Mod [] w w' := by
  have he := enter_of Tryd.func25 (by kernel_rfl) rfl
  obtain ⟨a, c, rfl⟩ := h.lit
  obtain ⟨a2, c2, rfl⟩ := h2.lit
  have H := Lib.hid h; have H2 := Lib.hid h2
  clear h h2
  go_enter Tryd.func66, Tryd.ntmps66
  go_wp2_with fail
  go_loopw [13] (fun iv wr => ∃ k : Nat, k ≤ xs.length ∧ k ≤ ys.length ∧ iv = .int .i64 (k : Nat) ∧ Mod [] w wr ∧ xs.take k = ys.take k) (fun iv _ => xs.length - (intOf iv).toNat)
  case atStart => exact ⟨0, by omega, by omega, rfl, Mod.refl _ _, rfl⟩
  case round =>
    obtain ⟨k, hk, hk2, rfl, hmr, hal⟩ := hrel
    by_cases hlt : k < xs.length
    · have hkI : (k : Int) < (xs.length : Int) := by omega
      have hk0 : (0 : Int) ≤ (k : Int) := by omega
      obtain ⟨b, off, rfl, hv⟩ := (H.out.past hmr (by simp)).at k hlt
      obtain ⟨c00, c01, c02⟩ := hv
      by_cases hlt2 : k < ys.length
      · have hkJ : ¬ (ys.length : Int) ≤ (k : Int) := by omega
        have hkJ2 : (k : Int) < (ys.length : Int) := by omega
        obtain ⟨b2, off2, rfl, hv2⟩ := (H2.out.past hmr (by simp)).at k hlt2
        obtain ⟨c10, c11, c12⟩ := hv2
        have hc := fun w => Compare_any xs[k] ys[k] (hx _ (List.getElem_mem hlt)).1 (hy _ (List.getElem_mem hlt2)).1 w
        have hsn : Va.cmpV xs[k] ys[k] = 0 → xs.take (k + 1) = ys.take (k + 1) := fun e => by
          rw [List.take_succ_eq_append_getElem hlt, List.take_succ_eq_append_getElem hlt2, hal, (Va.ordV.zero _ _).1 e]
        have hno : Va.cmpV xs[k] ys[k] ≠ 0 → Va.cmpT xs ys = Va.cmpV xs[k] ys[k] := fun e => Va.lexi_at Va.ordV.self k _ _ hlt hlt2 hal e
        unfold valV at hc
        generalize xs[k] = x at *
        generalize ys[k] = y at *
        generalize Va.cmpV x y = cv at *
        have HC := Lib.hid hc
        have HM := Lib.hid hmr
        have hma := (Mod.refl [] wr).alloc (Obj.cells #[Value.int IntKind.i64 x.k, Value.int IntKind.i64 x.n, Value.string (Lx.ofS x.s)] 23)
        have q0 := hma.cell c10 (by simp)
        have q1 := hma.cell c11 (by simp)
        have q2 := hma.cell c12 (by simp)
        clear hc hmr hal hma c10 c11 c12
        by_cases e : cv = 0
        · have HS := Lib.hid (hsn e)
          subst e
          clear hsn hno
          go_wp2_with fail
          refine (HC.out _).mono ?_
          rintro e w1 ⟨rfl, m1⟩
          go_wp2_with fail
          go_roundw
          case rel => exact ⟨k + 1, by omega, by omega, by go_num, ((HM.out.alloc _).alloc _).trans m1 (by simp), HS.out⟩
          case measure => simp [intOf]; omega
        · have HE := Lib.hid (hno e)
          have nB := bneI e
          clear hsn hno
          go_wp2_with fail
          refine (HC.out _).mono ?_
          rintro e w1 ⟨rfl, m1⟩
          go_wp2_with fail
          go_ret
          exact ⟨by rw [HE.out]; rfl, ((HM.out.alloc _).alloc _).trans m1 (by simp)⟩
      · have hkJ : (ys.length : Int) ≤ (k : Int) := by omega
        have HE : Hid (Va.cmpT xs ys = 1) := Lib.hid (by
          rw [show Va.cmpT xs ys = _ from Va.lexi_end Va.ordV.self k _ _ (by omega) (by omega) hal (.inr (by omega))]
          simp [Va.cmpI]; omega)
        have HM := Lib.hid hmr
        clear hal hmr
        go_wp2_with fail
        go_ret
        exact ⟨by rw [HE.out]; rfl, HM.out.alloc _⟩
    · obtain rfl : k = xs.length := by omega
      have hkI : ¬ (xs.length : Int) < (xs.length : Int) := by omega
      have hE : Va.cmpT xs ys = Va.cmpI xs.length ys.length := Va.lexi_end Va.ordV.self xs.length _ _ (by omega) (by omega) hal (.inl rfl)
      have HM := Lib.hid hmr
      clear hal hmr
      by_cases h3 : xs.length < ys.length
      · have h3I : (xs.length : Int) < (ys.length : Int) := by omega
        have HE := Lib.hid (hE.trans (if_pos h3I))
        clear hE
        go_wp2_with fail
        go_ret
        exact ⟨by rw [HE.out]; rfl, HM.out⟩
      · have h3I : ¬ (xs.length : Int) < (ys.length : Int) := by omega
        have HE := Lib.hid (hE.trans ((if_neg h3I).trans (if_neg (by omega))))
        clear hE
        go_wp2_with fail
        go_ret
        exact ⟨by rw [HE.out]; rfl, HM.out⟩
theorem CompareTuples_any (v u : Value) (xs ys : List Va.Val) (hx : ∀ x ∈ xs, VL x) (hy : ∀ y ∈ ys, VL y) (hl : xs.length ≤ 140737488355328) (hl2 : ys.length ≤ 140737488355328) (w : World) (h : VRow w v xs) (h2 : VRow w u ys) :
    Calls Tryd.prog 26 #[v, u] w fun e w' => e = .returned (.int .i64 (Va.cmpT xs ys)) ∧ Mod [] w w' := by
  have HC := Lib.hid (CompareFunc_any v u xs ys hx hy hl hl2 w h h2)
  clear h h2 hx hy
  generalize Va.cmpT xs ys = t at *
  go_enter Tryd.func26, Tryd.ntmps26
  go_wp2_with fail
  refine HC.out.mono ?_
  rintro e w1 ⟨rfl, m1⟩
  go_wp2_with fail
  go_ret
  exact ⟨rfl, m1⟩

/-- two boxes: two facts -/
structure FFBox (w : World) (b d : Nat) (r : ByteArray) (u : Value) (q : ByteArray) (v : Value) : Prop where
  c0 : w.cell? ⟨b, 0, none⟩ = some (.string r)
  c1 : w.cell? ⟨b, 1, none⟩ = some u
  d0 : w.cell? ⟨d, 0, none⟩ = some (.string q)
  d1 : w.cell? ⟨d, 1, none⟩ = some v
theorem FFBox.past {w w' : World} {b d : Nat} {r q : ByteArray} {u v : Value} (h : FFBox w b d r u q v) (hm : Mod [] w w') : FFBox w' b d r u q v :=
  ⟨hm.cell h.c0 (by simp), hm.cell h.c1 (by simp), hm.cell h.d0 (by simp), hm.cell h.d1 (by simp)⟩
theorem FFBox.new (w : World) (r : ByteArray) (u : Value) (q : ByteArray) (v : Value) (T1 T2 : TypeId) : FFBox ((w.alloc (Obj.cells #[.string r, u] T1)).alloc (Obj.cells #[.string q, v] T2)) w.heap.size (w.heap.size + 1) r u q v := by
  have h1 := two_at w (Obj.cells #[.string r, u] T1) (Obj.cells #[.string q, v] T2)
  have h2 := heap_alloc_new (w.alloc (Obj.cells #[.string r, u] T1)) (Obj.cells #[.string q, v] T2)
  have hs : (w.alloc (Obj.cells #[.string r, u] T1)).heap.size = w.heap.size + 1 := by simp
  rw [hs] at h2
  constructor <;> simp only [World.cell?, h1, h2] <;> rfl
theorem SameFact_any (r q : ByteArray) (u v : Value) (xs ys : List Va.Val) (hx : ∀ x ∈ xs, VB x) (hy : ∀ y ∈ ys, VB y) (hl : xs.length ≤ 140737488355328) (hl2 : ys.length ≤ 140737488355328) (w : World) (h : VRow w u xs) (h2 : VRow w v ys) :
    Calls Tryd.prog 31 #[.agg #[.string r, u], .agg #[.string q, v]] w fun e w' => e = .returned (.bool (decide (r = q) && decide (xs = ys))) ∧ Mod [] w w' := by
  have HS := Lib.hid (fun w h h2 => sameTuple_any u v xs ys hx hy hl hl2 w h h2)
  have HR := Lib.hid h; have HR2 := Lib.hid h2
  have HM0 := Lib.hid (((Mod.refl [] w).alloc (Obj.cells #[.string r, u] 34)).alloc (Obj.cells #[.string q, v] 34))
  clear h h2 hx hy
  have hsb := str_beq r q
  generalize decide (xs = ys) = t at *
  by_cases e : r = q
  · rw [decide_eq_true e] at hsb ⊢
    have hsb' := hsb
    clear hsb
    subst e
    go_enter Tryd.func31, Tryd.ntmps31
    go_wp2_with fail
    refine (HS.out _ (HR.out.past HM0.out (by simp)) (HR2.out.past HM0.out (by simp))).mono ?_
    rintro e w1 ⟨rfl, m1⟩
    go_wp2_with fail
    go_ret
    exact ⟨rfl, HM0.out.trans m1 (by simp)⟩
  · rw [decide_eq_false e] at hsb ⊢
    clear e
    go_enter Tryd.func31, Tryd.ntmps31
    go_wp2_with fail
    go_ret
    exact ⟨rfl, HM0.out⟩
end Go.Proofs.YthdkaoegegiheaaDoor
