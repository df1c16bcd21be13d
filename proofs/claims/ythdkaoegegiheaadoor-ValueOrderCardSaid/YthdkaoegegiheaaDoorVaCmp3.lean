/- VALUES: the order of facts: the program's. -/
import Derived.Test.YthdkaoegegiheaaDoorVaCmp2
namespace Go.Proofs.YthdkaoegegiheaaDoor
open Go.RowKit
set_option linter.unusedVariables false
set_option linter.unusedSimpArgs false
set_option maxRecDepth 100000

theorem or2_cells' {w0 : World} {a1 a2 : Int} {T : TypeId} : ∀ i (hi : i < [a1, a2].length), (w0.alloc (Obj.cells #[Value.int .i64 a1, Value.int .i64 a2] T)).cell? ⟨w0.heap.size, i, none⟩ = some (.int .i64 [a1, a2][i]) := by
  intro i hi
  have hat := heap_alloc_new w0 (Obj.cells #[Value.int .i64 a1, Value.int .i64 a2] T)
  simp only [World.cell?, hat]
  have : i = 0 ∨ i = 1 := by simp at hi; omega
  rcases this with rfl | rfl <;> rfl
set_option maxHeartbeats 2000000 in
theorem CompareFacts_any (r q : ByteArray) (u v : Value) (xs ys : List Va.Val) (hx : ∀ x ∈ xs, VL x) (hy : ∀ y ∈ ys, VL y) (hl : xs.length ≤ 140737488355328) (hl2 : ys.length ≤ 140737488355328) (w : World) (h : VRow w u xs) (h2 : VRow w v ys) :
    Calls Tryd.prog 27 #[.agg #[.string r, u], .agg #[.string q, v]] w fun e w' => e = .returned (.int .i64 (Va.orI (Va.cmpS (Cod.str r) (Cod.str q)) (Va.cmpT xs ys))) ∧ Mod [] w w' := by
  have H1 := Lib.hid (fun w => cmpS_any r q w)
  have HT := Lib.hid (fun w h h2 => CompareTuples_any u v xs ys hx hy hl hl2 w h h2)
  have HO := Lib.hid (fun b xs hl w h => or_any b xs hl w h)
  have HB0 := Lib.hid (FFBox.new w r u q v 34 34)
  have HM0 := Lib.hid (((Mod.refl [] w).alloc (Obj.cells #[.string r, u] 34)).alloc (Obj.cells #[.string q, v] 34))
  have HR := Lib.hid (h.past HM0.out (by simp)); have HR2 := Lib.hid (h2.past HM0.out (by simp))
  clear h h2 hx hy
  generalize Va.cmpS (Cod.str r) (Cod.str q) = a1 at *
  generalize Va.cmpT xs ys = a2 at *
  have HE : Hid (Va.orI a1 a2 = orL [a1, a2]) := Lib.hid (orL_two a1 a2).symm
  go_enter Tryd.func27, Tryd.ntmps27
  go_wp2_with fail
  generalize (w.alloc (Obj.cells #[.string r, u] 34)).alloc (Obj.cells #[.string q, v] 34) = w2 at *
  have HC0 := Lib.hid (show FFBox w2.drew w.heap.size (w.heap.size + 1) r u q v from HB0.out.past (Mod.refl [] w2).drew)
  have HRD := Lib.hid (HR.out.past (Mod.refl [] w2).drew (by simp))
  have HRD2 := Lib.hid (HR2.out.past (Mod.refl [] w2).drew (by simp))
  have HMD := Lib.hid HM0.out.drew
  refine wp_region_held_drew (S := (fun w' : World => w'.cell? ⟨w.heap.size, 0, none⟩ = some (.string r) ∧ w'.cell? ⟨w.heap.size, 1, none⟩ = some u ∧ w'.cell? ⟨w.heap.size + 1, 0, none⟩ = some (.string q) ∧ w'.cell? ⟨w.heap.size + 1, 1, none⟩ = some v)) (by kernel_rfl) (by (try dsimp only); exact ⟨HC0.out.c0, HC0.out.c1, HC0.out.d0, HC0.out.d1⟩) (fun hHeld => ?_)
  refine wpAnyH_take (i := 0) (oi := ?_) (v := ?_) ?_ ?_ ?_ ?_ ?_ ?_ (by assumption) ?_
  rotate_left 2
  · (simp only [List.getElem?_toArray, List.getElem?_cons_succ, List.getElem?_cons_zero]) <;> rfl
  · kernel_rfl
  · kernel_rfl
  · kernel_rfl
  rotate_left 1
  · refine Or.inl ⟨by rfl, ?_⟩
    intro w hSw
    (try dsimp only at hSw)
    go_simp
    all_goals with_reducible rfl
  rotate_left 1
  · exact fun _ _ _ h => h
  try simp only [Act.put, List.setIfInBounds_toArray, List.set_cons_zero, List.set_cons_succ]
  refine wpAnyH_take (i := 1) (oi := ?_) (v := ?_) ?_ ?_ ?_ ?_ ?_ ?_ (by assumption) ?_
  rotate_left 2
  · (simp only [List.getElem?_toArray, List.getElem?_cons_succ, List.getElem?_cons_zero]) <;> rfl
  · kernel_rfl
  · kernel_rfl
  · kernel_rfl
  rotate_left 1
  · refine Or.inl ⟨by rfl, ?_⟩
    intro w hSw
    (try dsimp only at hSw)
    go_simp
    all_goals with_reducible rfl
  rotate_left 1
  · exact fun _ _ _ h => h
  try simp only [Act.put, List.setIfInBounds_toArray, List.set_cons_zero, List.set_cons_succ]
  refine wpAnyH_take (i := 2) (oi := ?_) (v := ?_) ?_ ?_ ?_ ?_ ?_ ?_ (by assumption) ?_
  rotate_left 2
  · (simp only [List.getElem?_toArray, List.getElem?_cons_succ, List.getElem?_cons_zero]) <;> rfl
  · kernel_rfl
  · kernel_rfl
  · kernel_rfl
  rotate_left 1
  · refine Or.inl ⟨by rfl, ?_⟩
    intro w hSw
    (try dsimp only at hSw)
    go_simp
    all_goals with_reducible rfl
  rotate_left 1
  · exact fun _ _ _ h => h
  try simp only [Act.put, List.setIfInBounds_toArray, List.set_cons_zero, List.set_cons_succ]
  refine wpAnyH_take (i := 3) (oi := ?_) (v := ?_) ?_ ?_ ?_ ?_ ?_ ?_ (by assumption) ?_
  rotate_left 2
  · (simp only [List.getElem?_toArray, List.getElem?_cons_succ, List.getElem?_cons_zero]) <;> rfl
  · kernel_rfl
  · kernel_rfl
  · kernel_rfl
  rotate_left 1
  · refine Or.inl ⟨by rfl, ?_⟩
    intro w hSw
    (try dsimp only at hSw)
    go_simp
    all_goals with_reducible rfl
  rotate_left 1
  · exact fun _ _ _ h => h
  try simp only [Act.put, List.setIfInBounds_toArray, List.set_cons_zero, List.set_cons_succ]
  refine wpAnyH_take (i := 5) (oi := ?_) (v := ?_) ?_ ?_ ?_ ?_ ?_ ?_ (by assumption) ?_
  rotate_left 2
  · (simp only [List.getElem?_toArray, List.getElem?_cons_succ, List.getElem?_cons_zero]) <;> rfl
  · kernel_rfl
  · kernel_rfl
  · kernel_rfl
  rotate_left 1
  · refine Or.inl ⟨by rfl, ?_⟩
    intro w hSw
    (try dsimp only at hSw)
    go_simp
    all_goals with_reducible rfl
  rotate_left 1
  · exact fun _ _ _ h => h
  try simp only [Act.put, List.setIfInBounds_toArray, List.set_cons_zero, List.set_cons_succ]
  refine wpAnyH_take (i := 6) (oi := ?_) (v := ?_) ?_ ?_ ?_ ?_ ?_ ?_ (by assumption) ?_
  rotate_left 2
  · (simp only [List.getElem?_toArray, List.getElem?_cons_succ, List.getElem?_cons_zero]) <;> rfl
  · kernel_rfl
  · kernel_rfl
  · kernel_rfl
  rotate_left 1
  · refine Or.inl ⟨by rfl, ?_⟩
    intro w hSw
    (try dsimp only at hSw)
    go_simp
    all_goals with_reducible rfl
  rotate_left 1
  · exact fun _ _ _ h => h
  try simp only [Act.put, List.setIfInBounds_toArray, List.set_cons_zero, List.set_cons_succ]
  refine wpAnyH_take (i := 7) (oi := ?_) (v := ?_) ?_ ?_ ?_ ?_ ?_ ?_ (by assumption) ?_
  rotate_left 2
  · (simp only [List.getElem?_toArray, List.getElem?_cons_succ, List.getElem?_cons_zero]) <;> rfl
  · kernel_rfl
  · kernel_rfl
  · kernel_rfl
  rotate_left 1
  · refine Or.inl ⟨by rfl, ?_⟩
    intro w hSw
    (try dsimp only at hSw)
    go_simp
    all_goals with_reducible rfl
  rotate_left 1
  · exact fun _ _ _ h => h
  try simp only [Act.put, List.setIfInBounds_toArray, List.set_cons_zero, List.set_cons_succ]
  refine wpAnyH_take (i := 8) (oi := ?_) (v := ?_) ?_ ?_ ?_ ?_ ?_ ?_ (by assumption) ?_
  rotate_left 2
  · (simp only [List.getElem?_toArray, List.getElem?_cons_succ, List.getElem?_cons_zero]) <;> rfl
  · kernel_rfl
  · kernel_rfl
  · kernel_rfl
  rotate_left 1
  · refine Or.inl ⟨by rfl, ?_⟩
    intro w hSw
    (try dsimp only at hSw)
    go_simp
    all_goals with_reducible rfl
  rotate_left 1
  · exact fun _ _ _ h => h
  try simp only [Act.put, List.setIfInBounds_toArray, List.set_cons_zero, List.set_cons_succ]
  refine wpAnyH_ready (rs := [4]) (by kernel_rfl) (by simp) ?_
  refine AllReadyH.cons (o := ?_) ?_ ?_ AllReadyH.nil
  rotate_left 1
  · (simp only [List.getElem?_toArray, List.getElem?_cons_succ, List.getElem?_cons_zero]) <;> rfl
  intro K hK
  go_simp
  refine (H1.out _).mono ?_
  rintro e w' ⟨rfl, rfl⟩
  refine hK.out _ _ (by (try dsimp only); exact ⟨HC0.out.c0, HC0.out.c1, HC0.out.d0, HC0.out.d1⟩) (fun hHeld => ?_)
  clear hK K
  try simp only [Act.put, List.setIfInBounds_toArray, List.set_cons_zero, List.set_cons_succ]
  refine wpAnyH_ready (rs := [9]) (by kernel_rfl) (by simp) ?_
  refine AllReadyH.cons (o := ?_) ?_ ?_ AllReadyH.nil
  rotate_left 1
  · (simp only [List.getElem?_toArray, List.getElem?_cons_succ, List.getElem?_cons_zero]) <;> rfl
  intro K hK
  go_simp
  refine (HT.out _ HRD.out HRD2.out).mono ?_
  rintro e w3 ⟨rfl, m3⟩
  have HC3 := Lib.hid (HC0.out.past m3)
  have M3 := Lib.hid (HMD.out.trans m3 (by simp))
  have HC4 : Hid (∀ o, FFBox (w3.alloc o) w.heap.size (w.heap.size + 1) r u q v) := Lib.hid (fun o => HC3.out.past ((Mod.refl [] w3).alloc o))
  clear m3
  refine hK.out _ _ (by (try dsimp only); exact ⟨HC3.out.c0, HC3.out.c1, HC3.out.d0, HC3.out.d1⟩) (fun hHeld => ?_)
  clear hK K
  try simp only [Act.put, List.setIfInBounds_toArray, List.set_cons_zero, List.set_cons_succ]
  refine wpAnyH_ready (rs := [10]) (by kernel_rfl) (by simp) ?_
  refine AllReadyH.cons (o := ?_) ?_ ?_ AllReadyH.nil
  rotate_left 1
  · (simp only [List.getElem?_toArray, List.getElem?_cons_succ, List.getElem?_cons_zero]) <;> rfl
  intro K hK
  go_simp
  refine hK.out _ _ (by (try dsimp only); exact ⟨(HC4.out _).c0, (HC4.out _).c1, (HC4.out _).d0, (HC4.out _).d1⟩) (fun hHeld => ?_)
  clear hK K
  try simp only [Act.put, List.setIfInBounds_toArray, List.set_cons_zero, List.set_cons_succ]
  refine wpAnyH_ready (rs := [11]) (by kernel_rfl) (by simp) ?_
  refine AllReadyH.cons (o := ?_) ?_ ?_ AllReadyH.nil
  rotate_left 1
  · (simp only [List.getElem?_toArray, List.getElem?_cons_succ, List.getElem?_cons_zero]) <;> rfl
  intro K hK
  go_simp
  refine (HO.out _ [a1, a2] (by simp) _ (or2_cells' (w0 := w3) (T := 3))).mono ?_
  rintro e w' ⟨rfl, rfl⟩
  refine hK.out _ _ (by (try dsimp only); exact ⟨(HC4.out _).c0, (HC4.out _).c1, (HC4.out _).d0, (HC4.out _).d1⟩) (fun hHeld => ?_)
  clear hK K
  try simp only [Act.put, List.setIfInBounds_toArray, List.set_cons_zero, List.set_cons_succ]
  refine wpAnyH_take (i := 12) (oi := ?_) (v := ?_) ?_ ?_ ?_ ?_ ?_ ?_ (by assumption) ?_
  rotate_left 2
  · (simp only [List.getElem?_toArray, List.getElem?_cons_succ, List.getElem?_cons_zero]) <;> rfl
  · kernel_rfl
  · kernel_rfl
  · kernel_rfl
  rotate_left 1
  · refine Or.inl ⟨by rfl, ?_⟩
    intro w hSw
    (try dsimp only at hSw)
    go_simp
    all_goals with_reducible rfl
  rotate_left 1
  · exact fun _ _ _ h => h
  try simp only [Act.put, List.setIfInBounds_toArray, List.set_cons_zero, List.set_cons_succ]
  refine wpAnyH_done (by kernel_rfl) ?_ _
  go_wp2_with fail
  go_ret
  exact ⟨by rw [HE.out]; rfl, M3.out.alloc _⟩
end Go.Proofs.YthdkaoegegiheaaDoor
