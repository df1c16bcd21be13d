/- THE WRITER: its text: String, told, value. Printed by wip/gen_told.py. -/
import Derived.Test.YtbmmdficdeakfaaDoorPrBuf
import Derived.Lib.UnsafeStr
import Derived.Deep.RegionHeld3
namespace Go.Proofs.YtbmmdficdeakfaaDoor
open Go.RowKit
set_option linter.unusedVariables false
set_option linter.unusedSimpArgs false
set_option maxRecDepth 100000

theorem mod_freeze {S : List Nat} {w w' : World} (h : Mod S w w') {g : Nat} (hg : g ∈ S) (n : Nat) : Mod S w (w'.freeze ⟨g, 0, none⟩ n) := by
  unfold World.freeze
  split
  · exact h
  · refine h.trans (T := [g]) ⟨rfl, rfl, rfl, by simp, fun k hk hn => ?_⟩ (by simp; exact .inl hg)
    simp only [Array.getElem?_modify]
    rw [if_neg (by simp at hn; exact fun e => hn e.symm)]

set_option maxHeartbeats 2000000 in
theorem String_any (p : Nat) (q v : Value) (l : List Nat) (bad : Bool) (br : Int) (w : World) (h : WrIs w p q v l bad br) (hlen : l.length ≤ 140737488355328) :
    Calls Tryd.prog 39 #[.pointer (some ⟨p, 0, none⟩)] w fun e w' => e = .returned (.string (Lx.ofS l)) ∧ Mod (fp v) w w' := by
  by_cases h0 : l = []
  · have hv := h.nil_ h0
    subst hv
    obtain ⟨c0, c1, c2, c3, fz⟩ := h.cells
    have D1 : Hid (w.drew.cell? ⟨p, 1, none⟩ = some (.slice none 0 0)) := Lib.hid c1
    have hSD : ∀ W : World, (Builtin.unsafeSliceData_ #[66] 111 #[.slice none 0 0]).run Tryd.prog W = .ok (.pointer none) W := fun W => rfl
    have hUS := fun W => Lib.run_unsafeString_none (P := Tryd.prog) W 111 3 9 none
    subst h0
    clear h
    go_enter Tryd.func39, Tryd.ntmps39
    go_wp2_with fail
    refine wp_region_held_drew (S := (fun w' : World => w'.cell? ⟨p, 1, none⟩ = some (.slice none 0 0))) (by kernel_rfl) (by (try dsimp only); exact D1.out) (fun hHeld => ?_)
    refine wpAnyH_take (i := 0) (oi := ?_) (v := ?_) ?_ ?_ ?_ ?_ ?_ ?_ (by assumption) ?_
    rotate_left 2
    · (simp only [List.getElem?_toArray, List.getElem?_cons_succ, List.getElem?_cons_zero]) <;> rfl
    · kernel_rfl
    · kernel_rfl
    · kernel_rfl
    rotate_left 1
    · refine Or.inl ⟨by rfl, ?_⟩
      intro w hSw
      (try dsimp only at hSw)
      go_simp
      all_goals with_reducible rfl
    rotate_left 1
    · exact fun _ _ _ h => h
    try simp only [Act.put, List.setIfInBounds_toArray, List.set_cons_zero, List.set_cons_succ]
    refine wpAnyH_take (i := 1) (oi := ?_) (v := ?_) ?_ ?_ ?_ ?_ ?_ ?_ (by assumption) ?_
    rotate_left 2
    · (simp only [List.getElem?_toArray, List.getElem?_cons_succ, List.getElem?_cons_zero]) <;> rfl
    · kernel_rfl
    · kernel_rfl
    · kernel_rfl
    rotate_left 1
    · refine Or.inl ⟨by rfl, ?_⟩
      intro w hSw
      (try dsimp only at hSw)
      go_simp
      all_goals with_reducible rfl
    rotate_left 1
    · exact fun _ _ _ h => h
    try simp only [Act.put, List.setIfInBounds_toArray, List.set_cons_zero, List.set_cons_succ]
    refine wpAnyH_take (i := 2) (oi := ?_) (v := ?_) ?_ ?_ ?_ ?_ ?_ ?_ (by assumption) ?_
    rotate_left 2
    · (simp only [List.getElem?_toArray, List.getElem?_cons_succ, List.getElem?_cons_zero]) <;> rfl
    · kernel_rfl
    · kernel_rfl
    · kernel_rfl
    rotate_left 1
    · refine Or.inl ⟨by rfl, ?_⟩
      intro w hSw
      (try dsimp only at hSw)
      go_simp
      all_goals with_reducible rfl
    rotate_left 1
    · exact fun _ _ _ h => h
    try simp only [Act.put, List.setIfInBounds_toArray, List.set_cons_zero, List.set_cons_succ]
    refine wpAnyH_take (i := 3) (oi := ?_) (v := ?_) ?_ ?_ ?_ ?_ ?_ ?_ (by assumption) ?_
    rotate_left 2
    · (simp only [List.getElem?_toArray, List.getElem?_cons_succ, List.getElem?_cons_zero]) <;> rfl
    · kernel_rfl
    · kernel_rfl
    · kernel_rfl
    rotate_left 1
    · refine Or.inl ⟨by rfl, ?_⟩
      intro w hSw
      (try dsimp only at hSw)
      go_simp
      all_goals with_reducible rfl
    rotate_left 1
    · exact fun _ _ _ h => h
    try simp only [Act.put, List.setIfInBounds_toArray, List.set_cons_zero, List.set_cons_succ]
    refine wpAnyH_take (i := 4) (oi := ?_) (v := ?_) ?_ ?_ ?_ ?_ ?_ ?_ (by assumption) ?_
    rotate_left 2
    · (simp only [List.getElem?_toArray, List.getElem?_cons_succ, List.getElem?_cons_zero]) <;> rfl
    · kernel_rfl
    · kernel_rfl
    · kernel_rfl
    rotate_left 1
    · refine Or.inl ⟨by rfl, ?_⟩
      intro w hSw
      (try dsimp only at hSw)
      go_simp
      all_goals with_reducible rfl
    rotate_left 1
    · exact fun _ _ _ h => h
    try simp only [Act.put, List.setIfInBounds_toArray, List.set_cons_zero, List.set_cons_succ]
    refine wpAnyH_take (i := 5) (oi := ?_) (v := ?_) ?_ ?_ ?_ ?_ ?_ ?_ (by assumption) ?_
    rotate_left 2
    · (simp only [List.getElem?_toArray, List.getElem?_cons_succ, List.getElem?_cons_zero]) <;> rfl
    · kernel_rfl
    · kernel_rfl
    · kernel_rfl
    rotate_left 1
    · refine Or.inl ⟨by rfl, ?_⟩
      intro w hSw
      (try dsimp only at hSw)
      go_simp
      all_goals with_reducible rfl
    rotate_left 1
    · exact fun _ _ _ h => h
    try simp only [Act.put, List.setIfInBounds_toArray, List.set_cons_zero, List.set_cons_succ]
    refine wpAnyH_take (i := 6) (oi := ?_) (v := ?_) ?_ ?_ ?_ ?_ ?_ ?_ (by assumption) ?_
    rotate_left 2
    · (simp only [List.getElem?_toArray, List.getElem?_cons_succ, List.getElem?_cons_zero]) <;> rfl
    · kernel_rfl
    · kernel_rfl
    · kernel_rfl
    rotate_left 1
    · refine Or.inl ⟨by rfl, ?_⟩
      intro w hSw
      (try dsimp only at hSw)
      go_simp
      all_goals with_reducible rfl
    rotate_left 1
    · exact fun _ _ _ h => h
    try simp only [Act.put, List.setIfInBounds_toArray, List.set_cons_zero, List.set_cons_succ]
    refine wpAnyH_take (i := 7) (oi := ?_) (v := ?_) ?_ ?_ ?_ ?_ ?_ ?_ (by assumption) ?_
    rotate_left 2
    · (simp only [List.getElem?_toArray, List.getElem?_cons_succ, List.getElem?_cons_zero]) <;> rfl
    · kernel_rfl
    · kernel_rfl
    · kernel_rfl
    rotate_left 1
    · refine Or.inl ⟨by rfl, ?_⟩
      intro w hSw
      (try dsimp only at hSw)
      go_simp
      all_goals with_reducible rfl
    rotate_left 1
    · exact fun _ _ _ h => h
    try simp only [Act.put, List.setIfInBounds_toArray, List.set_cons_zero, List.set_cons_succ]
    refine wpAnyH_take (i := 8) (oi := ?_) (v := ?_) ?_ ?_ ?_ ?_ ?_ ?_ (by assumption) ?_
    rotate_left 2
    · (simp only [List.getElem?_toArray, List.getElem?_cons_succ, List.getElem?_cons_zero]) <;> rfl
    · kernel_rfl
    · kernel_rfl
    · kernel_rfl
    rotate_left 1
    · refine Or.inl ⟨by rfl, ?_⟩
      intro w hSw
      (try dsimp only at hSw)
      go_simp
      all_goals with_reducible rfl
    rotate_left 1
    · exact fun _ _ _ h => h
    try simp only [Act.put, List.setIfInBounds_toArray, List.set_cons_zero, List.set_cons_succ]
    refine wpAnyH_take (i := 9) (oi := ?_) (v := ?_) ?_ ?_ ?_ ?_ ?_ ?_ (by assumption) ?_
    rotate_left 2
    · (simp only [List.getElem?_toArray, List.getElem?_cons_succ, List.getElem?_cons_zero]) <;> rfl
    · kernel_rfl
    · kernel_rfl
    · kernel_rfl
    rotate_left 1
    · refine Or.inl ⟨by rfl, ?_⟩
      intro w hSw
      (try dsimp only at hSw)
      go_simp
      all_goals with_reducible rfl
    rotate_left 1
    · exact fun _ _ _ h => h
    try simp only [Act.put, List.setIfInBounds_toArray, List.set_cons_zero, List.set_cons_succ]
    refine wpAnyH_take (i := 10) (oi := ?_) (v := ?_) ?_ ?_ ?_ ?_ ?_ ?_ (by assumption) ?_
    rotate_left 2
    · (simp only [List.getElem?_toArray, List.getElem?_cons_succ, List.getElem?_cons_zero]) <;> rfl
    · kernel_rfl
    · kernel_rfl
    · kernel_rfl
    rotate_left 1
    · refine Or.inl ⟨by rfl, ?_⟩
      intro w hSw
      (try dsimp only at hSw)
      go_simp
      all_goals with_reducible rfl
    rotate_left 1
    · exact fun _ _ _ h => h
    try simp only [Act.put, List.setIfInBounds_toArray, List.set_cons_zero, List.set_cons_succ]
    refine wpAnyH_take (i := 11) (oi := ?_) (v := ?_) ?_ ?_ ?_ ?_ ?_ ?_ (by assumption) ?_
    rotate_left 2
    · (simp only [List.getElem?_toArray, List.getElem?_cons_succ, List.getElem?_cons_zero]) <;> rfl
    · kernel_rfl
    · kernel_rfl
    · kernel_rfl
    rotate_left 1
    · refine Or.inl ⟨by rfl, ?_⟩
      intro w hSw
      (try dsimp only at hSw)
      go_simp
      all_goals with_reducible rfl
    rotate_left 1
    · exact fun _ _ _ h => h
    try simp only [Act.put, List.setIfInBounds_toArray, List.set_cons_zero, List.set_cons_succ]
    refine wpAnyH_done (by kernel_rfl) ?_ _
    go_wp2_with fail
    go_ret
    exact ⟨rfl, (Mod.refl _ _).drew⟩
  · obtain ⟨c0, c1, c2, c3, fz⟩ := h.cells
    have hl0 : l.length ≠ 0 := fun e => h0 (List.eq_nil_of_length_eq_zero e)
    have hown := h.row
    obtain ⟨g, cap, cur, rfl, hbg, hg, hnc, hcm, hcs, htake⟩ : ∃ g cap cur, v = .slice (some ⟨g, 0, none⟩) l.length cap ∧ 0 ≤ g ∧ w.heap[g]? = some (.cells cur 5 (0, 0)) ∧ l.length ≤ cap ∧ cap ≤ maxLen ∧ cur.size = cap * 1 ∧ _ := by
      rcases hown.2 with ⟨_, hz⟩ | ⟨g, cap, cur, hv, r⟩
      · exact absurd hz hl0
      · exact ⟨g, cap, cur, hv, r⟩
    have hc0 : cap ≠ 0 := by omega
    have D1 : Hid (w.drew.cell? ⟨p, 1, none⟩ = some (.slice (some ⟨g, 0, none⟩) l.length cap)) := Lib.hid c1
    have hSD : ∀ W : World, (Builtin.unsafeSliceData_ #[66] 111 #[.slice (some ⟨g, 0, none⟩) l.length cap]).run Tryd.prog W = .ok (.pointer (some ⟨g, 0, none⟩)) W := fun W => Lib.run_unsafeSliceData_row _ _ _ _ _ _ hc0
    have hbl : (l.map UInt8.ofNat).length = l.length := by simp
    have hUS := Lib.run_unsafeString_row w.drew 111 3 9 5 Tryd.underlying111 (by kernel_rfl) g cur.size (by have hg' : w.drew.heap[g]? = some (.cells cur 5 (0, 0)) := hg; simp [World.shape?, hg']) (l.map UInt8.ofNat) (by simpa using h0) (by rw [hbl]; omega) (by rw [hbl]; omega) (fun j x hx => by
      have hj : j < l.length := by
        obtain ⟨hh, -⟩ := List.getElem?_eq_some_iff.1 hx
        simpa using hh
      have hcell := hown.cells (g := g) rfl j _ (toCells_get l j hj)
      rw [List.getElem?_map, List.getElem?_eq_getElem hj] at hx
      simp only [Option.map_some, Option.some.injEq] at hx
      subst hx
      have hb := h.byte _ (List.getElem_mem hj)
      have e : (UInt8.ofNat l[j]).toNat = l.getD j 0 := by
        rw [List.getD_eq_getElem?_getD, List.getElem?_eq_getElem hj]
        simp; omega
      rw [e]
      exact hcell)
    rw [hbl] at hUS
    have HUS := Lib.hid hUS
    have MF : Hid (Mod [g] w (w.drew.freeze ⟨g, 0, none⟩ l.length)) := Lib.hid (mod_freeze (Mod.refl [g] w).drew (by simp) _)
    have hpg : p ≠ g := fun e => h.out (by simp [fp, e])
    have DF : Hid ((w.drew.freeze ⟨g, 0, none⟩ l.length).cell? ⟨p, 1, none⟩ = some (.slice (some ⟨g, 0, none⟩) l.length cap)) := Lib.hid (MF.out.cell c1 (by simpa using hpg))
    clear hUS hbl hown h0 htake h hnc hcs hcm hg
    go_enter Tryd.func39, Tryd.ntmps39
    go_wp2_with fail
    refine wp_region_held_drew (S := (fun w' : World => w'.cell? ⟨p, 1, none⟩ = some (.slice (some ⟨g, 0, none⟩) l.length cap))) (by kernel_rfl) (by (try dsimp only); exact D1.out) (fun hHeld => ?_)
    refine wpAnyH_take (i := 0) (oi := ?_) (v := ?_) ?_ ?_ ?_ ?_ ?_ ?_ (by assumption) ?_
    rotate_left 2
    · (simp only [List.getElem?_toArray, List.getElem?_cons_succ, List.getElem?_cons_zero]) <;> rfl
    · kernel_rfl
    · kernel_rfl
    · kernel_rfl
    rotate_left 1
    · refine Or.inl ⟨by rfl, ?_⟩
      intro w hSw
      (try dsimp only at hSw)
      go_simp
      all_goals with_reducible rfl
    rotate_left 1
    · exact fun _ _ _ h => h
    try simp only [Act.put, List.setIfInBounds_toArray, List.set_cons_zero, List.set_cons_succ]
    refine wpAnyH_take (i := 1) (oi := ?_) (v := ?_) ?_ ?_ ?_ ?_ ?_ ?_ (by assumption) ?_
    rotate_left 2
    · (simp only [List.getElem?_toArray, List.getElem?_cons_succ, List.getElem?_cons_zero]) <;> rfl
    · kernel_rfl
    · kernel_rfl
    · kernel_rfl
    rotate_left 1
    · refine Or.inl ⟨by rfl, ?_⟩
      intro w hSw
      (try dsimp only at hSw)
      go_simp
      all_goals with_reducible rfl
    rotate_left 1
    · exact fun _ _ _ h => h
    try simp only [Act.put, List.setIfInBounds_toArray, List.set_cons_zero, List.set_cons_succ]
    refine wpAnyH_take (i := 2) (oi := ?_) (v := ?_) ?_ ?_ ?_ ?_ ?_ ?_ (by assumption) ?_
    rotate_left 2
    · (simp only [List.getElem?_toArray, List.getElem?_cons_succ, List.getElem?_cons_zero]) <;> rfl
    · kernel_rfl
    · kernel_rfl
    · kernel_rfl
    rotate_left 1
    · refine Or.inl ⟨by rfl, ?_⟩
      intro w hSw
      (try dsimp only at hSw)
      go_simp
      all_goals with_reducible rfl
    rotate_left 1
    · exact fun _ _ _ h => h
    try simp only [Act.put, List.setIfInBounds_toArray, List.set_cons_zero, List.set_cons_succ]
    refine wpAnyH_take (i := 3) (oi := ?_) (v := ?_) ?_ ?_ ?_ ?_ ?_ ?_ (by assumption) ?_
    rotate_left 2
    · (simp only [List.getElem?_toArray, List.getElem?_cons_succ, List.getElem?_cons_zero]) <;> rfl
    · kernel_rfl
    · kernel_rfl
    · kernel_rfl
    rotate_left 1
    · refine Or.inl ⟨by rfl, ?_⟩
      intro w hSw
      (try dsimp only at hSw)
      go_simp
      all_goals with_reducible rfl
    rotate_left 1
    · exact fun _ _ _ h => h
    try simp only [Act.put, List.setIfInBounds_toArray, List.set_cons_zero, List.set_cons_succ]
    refine wpAnyH_take (i := 4) (oi := ?_) (v := ?_) ?_ ?_ ?_ ?_ ?_ ?_ (by assumption) ?_
    rotate_left 2
    · (simp only [List.getElem?_toArray, List.getElem?_cons_succ, List.getElem?_cons_zero]) <;> rfl
    · kernel_rfl
    · kernel_rfl
    · kernel_rfl
    rotate_left 1
    · refine Or.inl ⟨by rfl, ?_⟩
      intro w hSw
      (try dsimp only at hSw)
      go_simp
      all_goals with_reducible rfl
    rotate_left 1
    · exact fun _ _ _ h => h
    try simp only [Act.put, List.setIfInBounds_toArray, List.set_cons_zero, List.set_cons_succ]
    refine wpAnyH_take (i := 5) (oi := ?_) (v := ?_) ?_ ?_ ?_ ?_ ?_ ?_ (by assumption) ?_
    rotate_left 2
    · (simp only [List.getElem?_toArray, List.getElem?_cons_succ, List.getElem?_cons_zero]) <;> rfl
    · kernel_rfl
    · kernel_rfl
    · kernel_rfl
    rotate_left 1
    · refine Or.inl ⟨by rfl, ?_⟩
      intro w hSw
      (try dsimp only at hSw)
      go_simp
      all_goals with_reducible rfl
    rotate_left 1
    · exact fun _ _ _ h => h
    try simp only [Act.put, List.setIfInBounds_toArray, List.set_cons_zero, List.set_cons_succ]
    refine wpAnyH_take (i := 6) (oi := ?_) (v := ?_) ?_ ?_ ?_ ?_ ?_ ?_ (by assumption) ?_
    rotate_left 2
    · (simp only [List.getElem?_toArray, List.getElem?_cons_succ, List.getElem?_cons_zero]) <;> rfl
    · kernel_rfl
    · kernel_rfl
    · kernel_rfl
    rotate_left 1
    · refine Or.inl ⟨by rfl, ?_⟩
      intro w hSw
      (try dsimp only at hSw)
      go_simp
      all_goals with_reducible rfl
    rotate_left 1
    · exact fun _ _ _ h => h
    try simp only [Act.put, List.setIfInBounds_toArray, List.set_cons_zero, List.set_cons_succ]
    refine wpAnyH_take (i := 7) (oi := ?_) (v := ?_) ?_ ?_ ?_ ?_ ?_ ?_ (by assumption) ?_
    rotate_left 2
    · (simp only [List.getElem?_toArray, List.getElem?_cons_succ, List.getElem?_cons_zero]) <;> rfl
    · kernel_rfl
    · kernel_rfl
    · kernel_rfl
    rotate_left 1
    · refine Or.inl ⟨by rfl, ?_⟩
      intro w hSw
      (try dsimp only at hSw)
      go_simp
      all_goals with_reducible rfl
    rotate_left 1
    · exact fun _ _ _ h => h
    try simp only [Act.put, List.setIfInBounds_toArray, List.set_cons_zero, List.set_cons_succ]
    refine wpAnyH_take (i := 8) (oi := ?_) (v := ?_) ?_ ?_ ?_ ?_ ?_ ?_ (by assumption) ?_
    rotate_left 2
    · (simp only [List.getElem?_toArray, List.getElem?_cons_succ, List.getElem?_cons_zero]) <;> rfl
    · kernel_rfl
    · kernel_rfl
    · kernel_rfl
    rotate_left 1
    · refine Or.inl ⟨by rfl, ?_⟩
      intro w hSw
      (try dsimp only at hSw)
      go_simp
      all_goals with_reducible rfl
    rotate_left 1
    · exact fun _ _ _ h => h
    try simp only [Act.put, List.setIfInBounds_toArray, List.set_cons_zero, List.set_cons_succ]
    refine wpAnyH_take (i := 9) (oi := ?_) (v := ?_) ?_ ?_ ?_ ?_ ?_ ?_ (by assumption) ?_
    rotate_left 2
    · (simp only [List.getElem?_toArray, List.getElem?_cons_succ, List.getElem?_cons_zero]) <;> rfl
    · kernel_rfl
    · kernel_rfl
    · kernel_rfl
    rotate_left 1
    · refine Or.inl ⟨by rfl, ?_⟩
      intro w hSw
      (try dsimp only at hSw)
      go_simp
      all_goals with_reducible rfl
    rotate_left 1
    · exact fun _ _ _ h => h
    try simp only [Act.put, List.setIfInBounds_toArray, List.set_cons_zero, List.set_cons_succ]
    refine wpAnyH_ready (rs := [10]) (by kernel_rfl) (by simp) ?_
    refine AllReadyH.cons (o := ?_) ?_ ?_ AllReadyH.nil
    rotate_left 1
    · (simp only [List.getElem?_toArray, List.getElem?_cons_succ, List.getElem?_cons_zero]) <;> rfl
    intro K hK
    have hUS := HUS.out
    go_simp
    clear hUS
    refine hK.out _ _ (by (try dsimp only); exact DF.out) (fun hHeld => ?_)
    clear hK K
    try simp only [Act.put, List.setIfInBounds_toArray, List.set_cons_zero, List.set_cons_succ]
    refine wpAnyH_take (i := 11) (oi := ?_) (v := ?_) ?_ ?_ ?_ ?_ ?_ ?_ (by assumption) ?_
    rotate_left 2
    · (simp only [List.getElem?_toArray, List.getElem?_cons_succ, List.getElem?_cons_zero]) <;> rfl
    · kernel_rfl
    · kernel_rfl
    · kernel_rfl
    rotate_left 1
    · refine Or.inl ⟨by rfl, ?_⟩
      intro w hSw
      (try dsimp only at hSw)
      go_simp
      all_goals with_reducible rfl
    rotate_left 1
    · exact fun _ _ _ h => h
    try simp only [Act.put, List.setIfInBounds_toArray, List.set_cons_zero, List.set_cons_succ]
    refine wpAnyH_done (by kernel_rfl) ?_ _
    go_wp2_with fail
    go_ret
    exact ⟨rfl, MF.out⟩
end Go.Proofs.YtbmmdficdeakfaaDoor
