/- whole. -/
import Derived.Test.YthdkaoegegiheaaDoorVaSame
import Derived.Deep.RegionHeld3
namespace Go.Proofs.YthdkaoegegiheaaDoor
open Go.RowKit
set_option linter.unusedVariables false
set_option linter.unusedSimpArgs false
set_option maxRecDepth 100000

def BeyAt (w : World) (g n : Nat) : Prop := (w.cell? ⟨g, n * 3, none⟩ = some (.int .i64 2) ∧ w.cell? ⟨g, n * 3 + 1, none⟩ = some (.int .i64 0) ∧ w.cell? ⟨g, n * 3 + 2, none⟩ = some (.string { data := #[98, 101, 121, 111, 110, 100] })) ∧ (w.cell? ⟨g, (n + 1) * 3, none⟩ = some (.int .i64 2) ∧ w.cell? ⟨g, (n + 1) * 3 + 1, none⟩ = some (.int .i64 0) ∧ w.cell? ⟨g, (n + 1) * 3 + 2, none⟩ = some (.string { data := #[98, 101, 121, 111, 110, 100] }))
theorem beyAt_of {w : World} {g : Nat} {ts : List Va.Val} (h : HAt w g (ts ++ [bey, bey])) : BeyAt w g ts.length := by
  obtain ⟨c0, c1, c2⟩ := h.val ts.length (by simp)
  obtain ⟨d0, d1, d2⟩ := h.val (ts.length + 1) (by simp)
  simp only [List.getElem_append_right (Nat.le_refl _), Nat.sub_self, List.getElem_cons_zero, Nat.zero_add] at c0 c1 c2
  rw [List.getElem_append_right (by omega)] at d0 d1 d2
  simp only [Nat.add_sub_cancel_left, List.getElem_cons_succ, List.getElem_cons_zero, Nat.zero_add] at d0 d1 d2
  exact ⟨⟨c0, c1, c2⟩, d0, d1, d2⟩

theorem BeyAt.past {w w' : World} {g n : Nat} (h : BeyAt w g n) (hm : Mod [] w w') : BeyAt w' g n := by
  obtain ⟨⟨c0, c1, c2⟩, d0, d1, d2⟩ := h
  exact ⟨⟨hm.cell c0 (by simp), hm.cell c1 (by simp), hm.cell c2 (by simp)⟩, hm.cell d0 (by simp), hm.cell d1 (by simp), hm.cell d2 (by simp)⟩
set_option maxHeartbeats 2000000 in
theorem whole_any (g c : Nat) (a : Option Addr) (ts : List Va.Val) (hb : ∀ x ∈ ts, VB x) (hl : ts.length ≤ 140737488355320) (w : World) (hH : HAt w g (ts ++ [bey, bey])) (hR : VRow w (.slice a ts.length c) ts) :
    Calls Tryd.prog 18 #[.slice (some ⟨g, 0, none⟩) ts.length (ts.length + 2), .slice a ts.length c] w fun e w' => e = .returned (.bool true) ∧ Mod [g] w w' := by
  have hs := fun w h h2 => sameTuple_any (.slice (some ⟨g, 0, none⟩) ts.length (ts.length + 2)) (.slice a ts.length c) ts ts hb hb (by omega) (by omega) w h h2
  rw [decide_eq_true rfl] at hs
  have HS := Lib.hid hs; have HH := Lib.hid hH; have HR := Lib.hid hR
  clear hs hH hR
  have hnI : (ts.length : Int) < (ts.length + 2 : Int) := by omega
  have hnJ : (ts.length : Int) + 1 < (ts.length + 2 : Int) := by omega
  have hnn : ¬ ((ts.length : Int) + 1 < 0) := by omega
  have hn0 : (0 : Int) ≤ (ts.length : Int) := by omega
  have hnC : (ts.length : Int) ≤ (ts.length : Int) + 2 := by omega
  have hnC2 : (ts.length : Int) ≤ ((ts.length + 2 : Nat) : Int) := by omega
  have hw1 : IntKind.i64.wrap ((ts.length : Int) + 1) = (ts.length : Int) + 1 := by simp [IntKind.wrap, IntKind.bits, IntKind.signed]; omega
  have htn : ((ts.length : Int) + 1).toNat = ts.length + 1 := by omega
  go_enter Tryd.func18, Tryd.ntmps18
  go_wp2_with fail
  have HBD : Hid (BeyAt w.drew g ts.length) := Lib.hid (beyAt_of (w := w.drew) HH.out)
  have HVD : Hid (VRow w.drew (.slice (some ⟨g, 0, none⟩) ts.length (ts.length + 2)) ts) := Lib.hid (by have := HAt.vrow (w := w.drew) HH.out ts.length (ts.length + 2) (by simp); rwa [List.take_left] at this)
  have HRD : Hid (VRow w.drew (.slice a ts.length c) ts) := Lib.hid (HR.out.past (Mod.refl [] w).drew (by simp))
  have HMD : Hid (Mod [] w w.drew) := Lib.hid (Mod.refl [] w).drew
  go_region_held3 (fun w' => (w'.cell? ⟨g, ts.length * 3, none⟩ = some (.int .i64 2) ∧ w'.cell? ⟨g, ts.length * 3 + 1, none⟩ = some (.int .i64 0) ∧ w'.cell? ⟨g, ts.length * 3 + 2, none⟩ = some (.string { data := #[98, 101, 121, 111, 110, 100] })) ∧ (w'.cell? ⟨g, (ts.length + 1) * 3, none⟩ = some (.int .i64 2) ∧ w'.cell? ⟨g, (ts.length + 1) * 3 + 1, none⟩ = some (.int .i64 0) ∧ w'.cell? ⟨g, (ts.length + 1) * 3 + 2, none⟩ = some (.string { data := #[98, 101, 121, 111, 110, 100] })))
    (first | exact HB5.out | exact HB4.out | exact HBD.out)
    (first | (go_at_call 45; refine (HS.out _ HVD.out HRD.out).mono ?_; rintro e w4 ⟨rfl, m4⟩; have HB4 := Lib.hid (HBD.out.past m4); have HM4 := Lib.hid (HMD.out.trans m4 (by simp)); clear m4) | (go_at_call 52; refine (sym_any _ _).mono ?_; rintro e w5 ⟨rfl, m5⟩; have HB5 : Hid (BeyAt w5 g ts.length) := Lib.hid (by first | exact HB5.out.past m5 | exact HB4.out.past m5); have HM5 : Hid (Mod [] w w5) := Lib.hid (by first | exact HM5.out.trans m5 (by simp) | exact HM4.out.trans m5 (by simp)); clear m5))
  have H5 : Hid (HAt w5 g (ts ++ [bey, bey])) := Lib.hid (HH.out.keep HM5.out (by simp))
  have HL : Hid ((ts ++ [bey, bey]).length = ts.length + 2) := Lib.hid (by simp)
  clear HBD HVD HRD HMD HB4 HM4 HH HR HS
  go_wp2_with fail
  go_loopw [8] (fun iv wr => ∃ (k : Nat) (L : List Va.Val), k ≤ ts.length ∧ iv = .int .i64 (k : Nat) ∧ HAt wr g L ∧ L.length = ts.length + 2 ∧ Mod [g] w wr) (fun iv _ => ts.length - (intOf iv).toNat)
  case atStart => exact ⟨0, _, Nat.zero_le _, rfl, H5.out, HL.out, HM5.out.mono (by simp)⟩
  case round =>
    obtain ⟨k, L, hk, rfl, hL, hLl, hmr⟩ := hrel
    clear H5 HL HM5 HB5
    by_cases hlt : k < ts.length
    · have hkI : (k : Int) < (ts.length : Int) := by omega
      have hk0 : (0 : Int) ≤ (k : Int) := by omega
      have HL := Lib.hid hL
      have HMR := Lib.hid hmr
      have hLl' := Lib.hid hLl
      clear hL hmr hLl
      go_wp2_with fail
      refine (sym_any _ _).mono ?_
      rintro e w6 ⟨rfl, m6⟩
      have H6 := Lib.hid (HL.out.keep m6 (by simp))
      have M6 := Lib.hid (HMR.out.trans m6 (by simp))
      clear m6 HL HMR
      obtain ⟨c0, c1, c2⟩ := H6.out.val k (by have := hLl'.out; omega)
      have hfz := H6.out.free
      rw [Nat.zero_add] at c0 c1 c2
      generalize L[k]'(by have := hLl'.out; omega) = x at c0 c1 c2
      go_wp2_with fail
      go_roundw
      case rel =>
        refine ⟨k + 1, _, by omega, by go_num, H6.out.set k ⟨2, 0, [103, 111, 110, 101]⟩, by rw [List.length_set]; exact hLl'.out, ?_⟩
        exact mod_val M6.out (.inl (by simp)) _ _ _
      case measure => simp [intOf]; omega
    · obtain rfl : k = ts.length := by omega
      have hkI : ¬ (ts.length : Int) < (ts.length : Int) := by omega
      go_wp2_with fail
      go_ret
      exact ⟨rfl, hmr⟩
end Go.Proofs.YthdkaoegegiheaaDoor
