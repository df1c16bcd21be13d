/- VALUES: the order: the program's. -/
import Derived.Test.YthdkaoegegiheaaDoorVaSame
import Derived.Test.YthdkaoegegiheaaDoorVaOrdPlain
import Derived.Deep.RegionHeld3
namespace Go.Proofs.YthdkaoegegiheaaDoor
open Go.RowKit
set_option linter.unusedVariables false
set_option linter.unusedSimpArgs false
set_option maxRecDepth 100000

def VL (v : Va.Val) : Prop := VB v ∧ v.s.length ≤ 9223372036854775807
theorem isNaN_any (a : Int) (w : World) : Calls Tryd.prog 117 #[.int .i64 a] w fun e w' => e = .returned (.bool false) ∧ w' = w := by
  go_enter Tryd.func117, Tryd.ntmps117
  go_wp2
  go_ret
  exact ⟨by simp, rfl⟩
theorem cmpI_any (a b : Int) (w : World) : Calls Tryd.prog 64 #[.int .i64 a, .int .i64 b] w fun e w' => e = .returned (.int .i64 (Va.cmpI a b)) ∧ w' = w := by
  have HN := Lib.hid (fun a w => isNaN_any a w)
  have hc1 : Hid (a < b → Va.cmpI a b = -1) := Lib.hid (fun h => if_pos h)
  have hc2 : Hid (¬ a < b → b < a → Va.cmpI a b = 1) := Lib.hid (fun h k => (if_neg h).trans (if_pos k))
  have hc3 : Hid (¬ a < b → ¬ b < a → Va.cmpI a b = 0) := Lib.hid (fun h k => (if_neg h).trans (if_neg k))
  by_cases h1 : a < b
  · go_enter Tryd.func64, Tryd.ntmps64
    go_wp2_with (go_at_call 117; refine (HN.out _ _).mono ?_; rintro e w' ⟨rfl, rfl⟩)
    go_ret
    exact ⟨by rw [hc1.out h1]; rfl, rfl⟩
  · by_cases h2 : b < a
    · go_enter Tryd.func64, Tryd.ntmps64
      go_wp2_with (go_at_call 117; refine (HN.out _ _).mono ?_; rintro e w' ⟨rfl, rfl⟩)
      go_ret
      exact ⟨by rw [hc2.out (by omega) h2]; rfl, rfl⟩
    · go_enter Tryd.func64, Tryd.ntmps64
      go_wp2_with (go_at_call 117; refine (HN.out _ _).mono ?_; rintro e w' ⟨rfl, rfl⟩)
      go_ret
      exact ⟨by rw [hc3.out (by omega) (by omega)]; rfl, rfl⟩
theorem cmpS_any (a b : ByteArray) (w : World) : Calls Tryd.prog 65 #[.string a, .string b] w fun e w' => e = .returned (.int .i64 (Va.cmpS (Cod.str a) (Cod.str b))) ∧ w' = w := by
  refine (Tryd.strings_Compare a b w).mono ?_
  rintro e w' ⟨rfl, rfl⟩
  exact ⟨by rw [Va.compareBytes_eq]; rfl, rfl⟩

def orL : List Int → Int
  | [] => 0
  | x :: xs => Va.orI x (orL xs)
theorem orL_at : ∀ (xs : List Int) (k : Nat) (hk : k < xs.length), (∀ i (h : i < xs.length), i < k → xs[i] = 0) → xs[k] ≠ 0 → orL xs = xs[k]
  | x :: xs, 0, _, _, h => by simp only [orL, Va.orI, List.getElem_cons_zero] at h ⊢; rw [if_neg h]
  | x :: xs, k + 1, hk, h0, h => by
    have hx : x = 0 := h0 0 (by simp) (by omega)
    simp only [orL, Va.orI, List.getElem_cons_succ] at h ⊢
    rw [if_pos hx]
    exact orL_at xs k (by simpa using hk) (fun i hi hik => h0 (i + 1) (by simpa using hi) (by omega)) h
theorem orL_zero : ∀ (xs : List Int), (∀ i (h : i < xs.length), xs[i] = 0) → orL xs = 0
  | [], _ => rfl
  | x :: xs, h => by
    have hx : x = 0 := h 0 (by simp)
    simp only [orL, Va.orI]
    rw [if_pos hx]
    exact orL_zero xs (fun i hi => h (i + 1) (by simpa using hi))
theorem orI_zero (b : Int) : Va.orI b 0 = b := by unfold Va.orI; split <;> omega
theorem orL_two (a b : Int) : orL [a, b] = Va.orI a b := by show Va.orI a (Va.orI b 0) = _; rw [orI_zero]
theorem orL_three (a b c : Int) : orL [a, b, c] = Va.orI a (Va.orI b c) := by show Va.orI a (Va.orI b (Va.orI c 0)) = _; rw [orI_zero]
set_option maxHeartbeats 1000000 in
theorem or_any (b : Nat) (xs : List Int) (hl : xs.length ≤ 1000) (w : World) (h : ∀ i (hi : i < xs.length), w.cell? ⟨b, i, none⟩ = some (.int .i64 xs[i])) :
    Calls Tryd.prog 63 #[.slice (some ⟨b, 0, none⟩) xs.length xs.length] w fun e w' => e = .returned (.int .i64 (orL xs)) ∧ w' = w := by
  have H := Lib.hid h
  clear h
  go_enter Tryd.func63, Tryd.ntmps63
  go_wp2_with fail
  go_loopw [8] (fun iv wr => ∃ k : Nat, k ≤ xs.length ∧ iv = .int .i64 (k : Nat) ∧ wr = w ∧ ∀ i (h : i < xs.length), i < k → xs[i] = 0) (fun iv _ => xs.length - (intOf iv).toNat)
  case atStart => exact ⟨0, Nat.zero_le _, rfl, rfl, fun i h hi => by omega⟩
  case round =>
    obtain ⟨k, hk, rfl, rfl, h0⟩ := hrel
    by_cases hlt : k < xs.length
    · have hkI : (k : Int) < (xs.length : Int) := by omega
      have hk0 : (0 : Int) ≤ (k : Int) := by omega
      have hc := H.out k hlt
      by_cases hx : xs[k] = 0
      · have HS : Hid (∀ i (h : i < xs.length), i < k + 1 → xs[i] = 0) := Lib.hid (fun i h hi => by
          by_cases e : i = k
          · subst e; exact hx
          · exact h0 i h (by omega))
        have hxB : (xs[k] != 0) = false := by rw [hx]; rfl
        generalize xs[k] = x at hc hx hxB
        subst hx
        clear h0 hxB
        go_wp2_with fail
        go_roundw
        case rel => exact ⟨k + 1, by omega, by go_num, by trivial, HS.out⟩
        case measure => simp [intOf]; omega
      · have HE := Lib.hid (orL_at xs k hlt h0 hx)
        have hxB : (xs[k] != 0) = true := by rw [bne_iff_ne]; exact hx
        have hxB2 : (xs[k] == 0) = false := by rw [beq_eq_false_iff_ne]; exact hx
        clear h0
        generalize xs[k] = x at *
        go_wp2_with fail
        go_ret
        exact ⟨by rw [HE.out]; rfl, rfl⟩
    · obtain rfl : k = xs.length := by omega
      have hkI : ¬ (xs.length : Int) < (xs.length : Int) := by omega
      have HE := Lib.hid (orL_zero xs (fun i h => h0 i h h))
      clear h0
      go_wp2_with fail
      go_ret
      exact ⟨by rw [HE.out]; rfl, rfl⟩

/-- two boxes: two values -/
structure VVBox (w : World) (b d : Nat) (x y : Va.Val) : Prop where
  c0 : w.cell? ⟨b, 0, none⟩ = some (.int .i64 x.k)
  c1 : w.cell? ⟨b, 1, none⟩ = some (.int .i64 x.n)
  c2 : w.cell? ⟨b, 2, none⟩ = some (.string (Lx.ofS x.s))
  d0 : w.cell? ⟨d, 0, none⟩ = some (.int .i64 y.k)
  d1 : w.cell? ⟨d, 1, none⟩ = some (.int .i64 y.n)
  d2 : w.cell? ⟨d, 2, none⟩ = some (.string (Lx.ofS y.s))
theorem VVBox.past {w w' : World} {b d : Nat} {x y : Va.Val} (h : VVBox w b d x y) (hm : Mod [] w w') : VVBox w' b d x y :=
  ⟨hm.cell h.c0 (by simp), hm.cell h.c1 (by simp), hm.cell h.c2 (by simp), hm.cell h.d0 (by simp), hm.cell h.d1 (by simp), hm.cell h.d2 (by simp)⟩
theorem VVBox.new (w : World) (x y : Va.Val) (T1 T2 : TypeId) : VVBox ((w.alloc (Obj.cells #[Value.int IntKind.i64 x.k, Value.int IntKind.i64 x.n, Value.string (Lx.ofS x.s)] T1)).alloc (Obj.cells #[Value.int IntKind.i64 y.k, Value.int IntKind.i64 y.n, Value.string (Lx.ofS y.s)] T2)) w.heap.size (w.heap.size + 1) x y := by
  have h1 := two_at w (Obj.cells #[Value.int IntKind.i64 x.k, Value.int IntKind.i64 x.n, Value.string (Lx.ofS x.s)] T1) (Obj.cells #[Value.int IntKind.i64 y.k, Value.int IntKind.i64 y.n, Value.string (Lx.ofS y.s)] T2)
  have h2 := heap_alloc_new (w.alloc (Obj.cells #[Value.int IntKind.i64 x.k, Value.int IntKind.i64 x.n, Value.string (Lx.ofS x.s)] T1)) (Obj.cells #[Value.int IntKind.i64 y.k, Value.int IntKind.i64 y.n, Value.string (Lx.ofS y.s)] T2)
  have hs : (w.alloc (Obj.cells #[Value.int IntKind.i64 x.k, Value.int IntKind.i64 x.n, Value.string (Lx.ofS x.s)] T1)).heap.size = w.heap.size + 1 := by simp
  rw [hs] at h2
  constructor <;> simp only [World.cell?, h1, h2] <;> rfl
theorem or3_cells {w0 : World} {a1 a2 a3 : Int} {T : TypeId} : ∀ i (hi : i < [a1, a2, a3].length), (w0.alloc (Obj.cells #[Value.int .i64 a1, Value.int .i64 a2, Value.int .i64 a3] T)).drew.cell? ⟨w0.heap.size, i, none⟩ = some (.int .i64 [a1, a2, a3][i]) := by
  intro i hi
  have hat : (w0.alloc (Obj.cells #[Value.int .i64 a1, Value.int .i64 a2, Value.int .i64 a3] T)).drew.heap[w0.heap.size]? = _ := heap_alloc_new w0 _
  simp only [World.cell?, hat]
  have : i = 0 ∨ i = 1 ∨ i = 2 := by simp at hi; omega
  rcases this with rfl | rfl | rfl <;> rfl
theorem or2_cells {w0 : World} {a1 a2 : Int} {T : TypeId} : ∀ i (hi : i < [a1, a2].length), (w0.alloc (Obj.cells #[Value.int .i64 a1, Value.int .i64 a2] T)).drew.cell? ⟨w0.heap.size, i, none⟩ = some (.int .i64 [a1, a2][i]) := by
  intro i hi
  have hat : (w0.alloc (Obj.cells #[Value.int .i64 a1, Value.int .i64 a2] T)).drew.heap[w0.heap.size]? = _ := heap_alloc_new w0 _
  simp only [World.cell?, hat]
  have : i = 0 ∨ i = 1 := by simp at hi; omega
  rcases this with rfl | rfl <;> rfl

set_option maxHeartbeats 2000000 in
theorem Compare_any (x y : Va.Val) (hx : VB x) (hy : VB y) (w : World) :
    Calls Tryd.prog 25 #[.agg (valV x), .agg (valV y)] w fun e w' => e = .returned (.int .i64 (Va.cmpV x y)) ∧ Mod [] w w' := by
  have h1 := fun w => cmpI_any x.k y.k w
  have h2 := fun w => cmpI_any x.n y.n w
  have h3 := fun w => cmpS_any (Lx.ofS x.s) (Lx.ofS y.s) w
  rw [Lx.str_ofS hx, Lx.str_ofS hy] at h3
  have HE : Hid (Va.cmpV x y = orL [Va.cmpI x.k y.k, Va.cmpI x.n y.n, Va.cmpS x.s y.s]) := Lib.hid (by rw [orL_three]; rfl)
  have HO := Lib.hid (fun b xs hl w h => or_any b xs hl w h)
  have HB0 := Lib.hid (VVBox.new w x y 23 23)
  have HM0 := Lib.hid (((Mod.refl [] w).alloc (Obj.cells #[Value.int IntKind.i64 x.k, Value.int IntKind.i64 x.n, Value.string (Lx.ofS x.s)] 23)).alloc (Obj.cells #[Value.int IntKind.i64 y.k, Value.int IntKind.i64 y.n, Value.string (Lx.ofS y.s)] 23))
  have hxx : valV x = #[.int .i64 x.k, .int .i64 x.n, .string (Lx.ofS x.s)] := rfl
  have hyy : valV y = #[.int .i64 y.k, .int .i64 y.n, .string (Lx.ofS y.s)] := rfl
  rw [hxx, hyy]
  clear hxx hyy
  generalize Va.cmpI x.k y.k = a1 at *
  generalize Va.cmpI x.n y.n = a2 at *
  generalize Va.cmpS x.s y.s = a3 at *
  have H1 := Lib.hid h1; have H2 := Lib.hid h2; have H3 := Lib.hid h3
  clear h1 h2 h3
  go_enter Tryd.func25, Tryd.ntmps25
  go_wp2_with fail
  generalize (w.alloc (Obj.cells #[Value.int IntKind.i64 x.k, Value.int IntKind.i64 x.n, Value.string (Lx.ofS x.s)] 23)).alloc (Obj.cells #[Value.int IntKind.i64 y.k, Value.int IntKind.i64 y.n, Value.string (Lx.ofS y.s)] 23) = w2 at *
  have HC0 := Lib.hid (show VVBox w2.drew w.heap.size (w.heap.size + 1) x y from HB0.out.past (Mod.refl [] w2).drew)
  have HC1 : Hid (∀ o, VVBox (w2.alloc o).drew w.heap.size (w.heap.size + 1) x y) := Lib.hid (fun o => HB0.out.past ((Mod.refl [] w2).alloc o).drew)
  refine wp_region_held_drew (S := (fun w' : World => w'.cell? ⟨w.heap.size, 0, none⟩ = some (.int .i64 x.k) ∧ w'.cell? ⟨w.heap.size, 1, none⟩ = some (.int .i64 x.n) ∧ w'.cell? ⟨w.heap.size, 2, none⟩ = some (.string (Lx.ofS x.s)) ∧ w'.cell? ⟨w.heap.size + 1, 0, none⟩ = some (.int .i64 y.k) ∧ w'.cell? ⟨w.heap.size + 1, 1, none⟩ = some (.int .i64 y.n) ∧ w'.cell? ⟨w.heap.size + 1, 2, none⟩ = some (.string (Lx.ofS y.s)))) (by kernel_rfl) (by (try dsimp only); exact ⟨HC0.out.c0, HC0.out.c1, HC0.out.c2, HC0.out.d0, HC0.out.d1, HC0.out.d2⟩) (fun hHeld => ?_)
  refine wpAnyH_take (i := 0) (oi := ?_) (v := ?_) ?_ ?_ ?_ ?_ ?_ ?_ (by assumption) ?_
  rotate_left 2
  · (simp only [List.getElem?_toArray, List.getElem?_cons_succ, List.getElem?_cons_zero]) <;> rfl
  · kernel_rfl
  · kernel_rfl
  · kernel_rfl
  rotate_left 1
  · refine Or.inl ⟨by rfl, ?_⟩
    intro w hSw
    (try dsimp only at hSw)
    go_simp
    all_goals with_reducible rfl
  rotate_left 1
  · exact fun _ _ _ h => h
  try simp only [Act.put, List.setIfInBounds_toArray, List.set_cons_zero, List.set_cons_succ]
  refine wpAnyH_take (i := 1) (oi := ?_) (v := ?_) ?_ ?_ ?_ ?_ ?_ ?_ (by assumption) ?_
  rotate_left 2
  · (simp only [List.getElem?_toArray, List.getElem?_cons_succ, List.getElem?_cons_zero]) <;> rfl
  · kernel_rfl
  · kernel_rfl
  · kernel_rfl
  rotate_left 1
  · refine Or.inl ⟨by rfl, ?_⟩
    intro w hSw
    (try dsimp only at hSw)
    go_simp
    all_goals with_reducible rfl
  rotate_left 1
  · exact fun _ _ _ h => h
  try simp only [Act.put, List.setIfInBounds_toArray, List.set_cons_zero, List.set_cons_succ]
  refine wpAnyH_take (i := 2) (oi := ?_) (v := ?_) ?_ ?_ ?_ ?_ ?_ ?_ (by assumption) ?_
  rotate_left 2
  · (simp only [List.getElem?_toArray, List.getElem?_cons_succ, List.getElem?_cons_zero]) <;> rfl
  · kernel_rfl
  · kernel_rfl
  · kernel_rfl
  rotate_left 1
  · refine Or.inl ⟨by rfl, ?_⟩
    intro w hSw
    (try dsimp only at hSw)
    go_simp
    all_goals with_reducible rfl
  rotate_left 1
  · exact fun _ _ _ h => h
  try simp only [Act.put, List.setIfInBounds_toArray, List.set_cons_zero, List.set_cons_succ]
  refine wpAnyH_take (i := 3) (oi := ?_) (v := ?_) ?_ ?_ ?_ ?_ ?_ ?_ (by assumption) ?_
  rotate_left 2
  · (simp only [List.getElem?_toArray, List.getElem?_cons_succ, List.getElem?_cons_zero]) <;> rfl
  · kernel_rfl
  · kernel_rfl
  · kernel_rfl
  rotate_left 1
  · refine Or.inl ⟨by rfl, ?_⟩
    intro w hSw
    (try dsimp only at hSw)
    go_simp
    all_goals with_reducible rfl
  rotate_left 1
  · exact fun _ _ _ h => h
  try simp only [Act.put, List.setIfInBounds_toArray, List.set_cons_zero, List.set_cons_succ]
  refine wpAnyH_take (i := 5) (oi := ?_) (v := ?_) ?_ ?_ ?_ ?_ ?_ ?_ (by assumption) ?_
  rotate_left 2
  · (simp only [List.getElem?_toArray, List.getElem?_cons_succ, List.getElem?_cons_zero]) <;> rfl
  · kernel_rfl
  · kernel_rfl
  · kernel_rfl
  rotate_left 1
  · refine Or.inl ⟨by rfl, ?_⟩
    intro w hSw
    (try dsimp only at hSw)
    go_simp
    all_goals with_reducible rfl
  rotate_left 1
  · exact fun _ _ _ h => h
  try simp only [Act.put, List.setIfInBounds_toArray, List.set_cons_zero, List.set_cons_succ]
  refine wpAnyH_take (i := 6) (oi := ?_) (v := ?_) ?_ ?_ ?_ ?_ ?_ ?_ (by assumption) ?_
  rotate_left 2
  · (simp only [List.getElem?_toArray, List.getElem?_cons_succ, List.getElem?_cons_zero]) <;> rfl
  · kernel_rfl
  · kernel_rfl
  · kernel_rfl
  rotate_left 1
  · refine Or.inl ⟨by rfl, ?_⟩
    intro w hSw
    (try dsimp only at hSw)
    go_simp
    all_goals with_reducible rfl
  rotate_left 1
  · exact fun _ _ _ h => h
  try simp only [Act.put, List.setIfInBounds_toArray, List.set_cons_zero, List.set_cons_succ]
  refine wpAnyH_take (i := 7) (oi := ?_) (v := ?_) ?_ ?_ ?_ ?_ ?_ ?_ (by assumption) ?_
  rotate_left 2
  · (simp only [List.getElem?_toArray, List.getElem?_cons_succ, List.getElem?_cons_zero]) <;> rfl
  · kernel_rfl
  · kernel_rfl
  · kernel_rfl
  rotate_left 1
  · refine Or.inl ⟨by rfl, ?_⟩
    intro w hSw
    (try dsimp only at hSw)
    go_simp
    all_goals with_reducible rfl
  rotate_left 1
  · exact fun _ _ _ h => h
  try simp only [Act.put, List.setIfInBounds_toArray, List.set_cons_zero, List.set_cons_succ]
  refine wpAnyH_take (i := 8) (oi := ?_) (v := ?_) ?_ ?_ ?_ ?_ ?_ ?_ (by assumption) ?_
  rotate_left 2
  · (simp only [List.getElem?_toArray, List.getElem?_cons_succ, List.getElem?_cons_zero]) <;> rfl
  · kernel_rfl
  · kernel_rfl
  · kernel_rfl
  rotate_left 1
  · refine Or.inl ⟨by rfl, ?_⟩
    intro w hSw
    (try dsimp only at hSw)
    go_simp
    all_goals with_reducible rfl
  rotate_left 1
  · exact fun _ _ _ h => h
  try simp only [Act.put, List.setIfInBounds_toArray, List.set_cons_zero, List.set_cons_succ]
  refine wpAnyH_take (i := 10) (oi := ?_) (v := ?_) ?_ ?_ ?_ ?_ ?_ ?_ (by assumption) ?_
  rotate_left 2
  · (simp only [List.getElem?_toArray, List.getElem?_cons_succ, List.getElem?_cons_zero]) <;> rfl
  · kernel_rfl
  · kernel_rfl
  · kernel_rfl
  rotate_left 1
  · refine Or.inl ⟨by rfl, ?_⟩
    intro w hSw
    (try dsimp only at hSw)
    go_simp
    all_goals with_reducible rfl
  rotate_left 1
  · exact fun _ _ _ h => h
  try simp only [Act.put, List.setIfInBounds_toArray, List.set_cons_zero, List.set_cons_succ]
  refine wpAnyH_take (i := 11) (oi := ?_) (v := ?_) ?_ ?_ ?_ ?_ ?_ ?_ (by assumption) ?_
  rotate_left 2
  · (simp only [List.getElem?_toArray, List.getElem?_cons_succ, List.getElem?_cons_zero]) <;> rfl
  · kernel_rfl
  · kernel_rfl
  · kernel_rfl
  rotate_left 1
  · refine Or.inl ⟨by rfl, ?_⟩
    intro w hSw
    (try dsimp only at hSw)
    go_simp
    all_goals with_reducible rfl
  rotate_left 1
  · exact fun _ _ _ h => h
  try simp only [Act.put, List.setIfInBounds_toArray, List.set_cons_zero, List.set_cons_succ]
  refine wpAnyH_take (i := 12) (oi := ?_) (v := ?_) ?_ ?_ ?_ ?_ ?_ ?_ (by assumption) ?_
  rotate_left 2
  · (simp only [List.getElem?_toArray, List.getElem?_cons_succ, List.getElem?_cons_zero]) <;> rfl
  · kernel_rfl
  · kernel_rfl
  · kernel_rfl
  rotate_left 1
  · refine Or.inl ⟨by rfl, ?_⟩
    intro w hSw
    (try dsimp only at hSw)
    go_simp
    all_goals with_reducible rfl
  rotate_left 1
  · exact fun _ _ _ h => h
  try simp only [Act.put, List.setIfInBounds_toArray, List.set_cons_zero, List.set_cons_succ]
  refine wpAnyH_take (i := 13) (oi := ?_) (v := ?_) ?_ ?_ ?_ ?_ ?_ ?_ (by assumption) ?_
  rotate_left 2
  · (simp only [List.getElem?_toArray, List.getElem?_cons_succ, List.getElem?_cons_zero]) <;> rfl
  · kernel_rfl
  · kernel_rfl
  · kernel_rfl
  rotate_left 1
  · refine Or.inl ⟨by rfl, ?_⟩
    intro w hSw
    (try dsimp only at hSw)
    go_simp
    all_goals with_reducible rfl
  rotate_left 1
  · exact fun _ _ _ h => h
  try simp only [Act.put, List.setIfInBounds_toArray, List.set_cons_zero, List.set_cons_succ]
  refine wpAnyH_ready (rs := [4]) (by kernel_rfl) (by simp) ?_
  refine AllReadyH.cons (o := ?_) ?_ ?_ AllReadyH.nil
  rotate_left 1
  · (simp only [List.getElem?_toArray, List.getElem?_cons_succ, List.getElem?_cons_zero]) <;> rfl
  intro K hK
  go_simp
  refine (H1.out _).mono ?_
  rintro e w' ⟨rfl, rfl⟩
  refine hK.out _ _ (by (try dsimp only); exact ⟨HC0.out.c0, HC0.out.c1, HC0.out.c2, HC0.out.d0, HC0.out.d1, HC0.out.d2⟩) (fun hHeld => ?_)
  clear hK K
  try simp only [Act.put, List.setIfInBounds_toArray, List.set_cons_zero, List.set_cons_succ]
  refine wpAnyH_ready (rs := [9]) (by kernel_rfl) (by simp) ?_
  refine AllReadyH.cons (o := ?_) ?_ ?_ AllReadyH.nil
  rotate_left 1
  · (simp only [List.getElem?_toArray, List.getElem?_cons_succ, List.getElem?_cons_zero]) <;> rfl
  intro K hK
  go_simp
  refine (H2.out _).mono ?_
  rintro e w' ⟨rfl, rfl⟩
  refine hK.out _ _ (by (try dsimp only); exact ⟨HC0.out.c0, HC0.out.c1, HC0.out.c2, HC0.out.d0, HC0.out.d1, HC0.out.d2⟩) (fun hHeld => ?_)
  clear hK K
  try simp only [Act.put, List.setIfInBounds_toArray, List.set_cons_zero, List.set_cons_succ]
  refine wpAnyH_ready (rs := [14]) (by kernel_rfl) (by simp) ?_
  refine AllReadyH.cons (o := ?_) ?_ ?_ AllReadyH.nil
  rotate_left 1
  · (simp only [List.getElem?_toArray, List.getElem?_cons_succ, List.getElem?_cons_zero]) <;> rfl
  intro K hK
  go_simp
  refine (H3.out _).mono ?_
  rintro e w' ⟨rfl, rfl⟩
  refine hK.out _ _ (by (try dsimp only); exact ⟨HC0.out.c0, HC0.out.c1, HC0.out.c2, HC0.out.d0, HC0.out.d1, HC0.out.d2⟩) (fun hHeld => ?_)
  clear hK K
  try simp only [Act.put, List.setIfInBounds_toArray, List.set_cons_zero, List.set_cons_succ]
  refine wpAnyH_ready (rs := [15]) (by kernel_rfl) (by simp) ?_
  refine AllReadyH.cons (o := ?_) ?_ ?_ AllReadyH.nil
  rotate_left 1
  · (simp only [List.getElem?_toArray, List.getElem?_cons_succ, List.getElem?_cons_zero]) <;> rfl
  intro K hK
  go_simp
  refine hK.out _ _ (by (try dsimp only); exact ⟨(HC1.out _).c0, (HC1.out _).c1, (HC1.out _).c2, (HC1.out _).d0, (HC1.out _).d1, (HC1.out _).d2⟩) (fun hHeld => ?_)
  clear hK K
  try simp only [Act.put, List.setIfInBounds_toArray, List.set_cons_zero, List.set_cons_succ]
  refine wpAnyH_ready (rs := [16]) (by kernel_rfl) (by simp) ?_
  refine AllReadyH.cons (o := ?_) ?_ ?_ AllReadyH.nil
  rotate_left 1
  · (simp only [List.getElem?_toArray, List.getElem?_cons_succ, List.getElem?_cons_zero]) <;> rfl
  intro K hK
  go_simp
  refine (HO.out _ [a1, a2, a3] (by simp) _ (or3_cells (w0 := w2) (T := 3))).mono ?_
  rintro e w' ⟨rfl, rfl⟩
  refine hK.out _ _ (by (try dsimp only); exact ⟨(HC1.out _).c0, (HC1.out _).c1, (HC1.out _).c2, (HC1.out _).d0, (HC1.out _).d1, (HC1.out _).d2⟩) (fun hHeld => ?_)
  clear hK K
  try simp only [Act.put, List.setIfInBounds_toArray, List.set_cons_zero, List.set_cons_succ]
  refine wpAnyH_take (i := 17) (oi := ?_) (v := ?_) ?_ ?_ ?_ ?_ ?_ ?_ (by assumption) ?_
  rotate_left 2
  · (simp only [List.getElem?_toArray, List.getElem?_cons_succ, List.getElem?_cons_zero]) <;> rfl
  · kernel_rfl
  · kernel_rfl
  · kernel_rfl
  rotate_left 1
  · refine Or.inl ⟨by rfl, ?_⟩
    intro w hSw
    (try dsimp only at hSw)
    go_simp
    all_goals with_reducible rfl
  rotate_left 1
  · exact fun _ _ _ h => h
  try simp only [Act.put, List.setIfInBounds_toArray, List.set_cons_zero, List.set_cons_succ]
  refine wpAnyH_done (by kernel_rfl) ?_ _
  go_wp2_with fail
  go_ret
  exact ⟨by rw [HE.out]; rfl, (HM0.out.alloc _).drew⟩
end Go.Proofs.YthdkaoegegiheaaDoor
