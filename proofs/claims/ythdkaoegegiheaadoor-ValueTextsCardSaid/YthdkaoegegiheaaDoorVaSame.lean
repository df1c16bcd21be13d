/- SameTuple; whole. -/
import Derived.Test.YthdkaoegegiheaaDoorVaLent
import Derived.Laws.StructEq
namespace Go.Proofs.YthdkaoegegiheaaDoor
open Go.RowKit
set_option linter.unusedVariables false
set_option linter.unusedSimpArgs false
set_option maxRecDepth 100000

theorem val_ext {x y : Va.Val} (h1 : x.k = y.k) (h2 : x.n = y.n) (h3 : x.s = y.s) : x = y := by
  obtain ⟨a, b, c⟩ := x; obtain ⟨d, e, f⟩ := y; simp_all
theorem ofS_inj {a b : List Nat} (ha : ∀ c ∈ a, c < 256) (hb : ∀ c ∈ b, c < 256) (h : Lx.ofS a = Lx.ofS b) : a = b := by
  rw [← Lx.str_ofS ha, ← Lx.str_ofS hb, h]
theorem ofS_beq {a b : List Nat} (ha : ∀ c ∈ a, c < 256) (hb : ∀ c ∈ b, c < 256) (h : a ≠ b) : ((Lx.ofS a).toList == (Lx.ofS b).toList) = false := by
  rw [str_beq, decide_eq_false (fun e => h (ofS_inj ha hb e))]

set_option maxHeartbeats 1000000 in
theorem sameTuple_any (v u : Value) (xs ys : List Va.Val) (hx : ∀ x ∈ xs, VB x) (hy : ∀ y ∈ ys, VB y) (hl : xs.length ≤ 140737488355328) (hl2 : ys.length ≤ 140737488355328) (w : World) (h : VRow w v xs) (h2 : VRow w u ys) :
    Calls Tryd.prog 45 #[v, u] w fun e w' => e = .returned (.bool (decide (xs = ys))) ∧ Mod [] w w' := by
  obtain ⟨a, c, rfl⟩ := h.lit
  obtain ⟨a2, c2, rfl⟩ := h2.lit
  by_cases hlen : xs.length = ys.length
  · rw [← hlen] at h2 ⊢
    have H := Lib.hid h; have H2 := Lib.hid h2; have HLE := Lib.hid hlen
    clear h h2 hl2
    go_enter Tryd.func45, Tryd.ntmps45
    go_wp2_with fail
    go_loopw [5] (fun iv wr => ∃ k : Nat, k ≤ xs.length ∧ iv = .int .i64 (k : Nat) ∧ xs.take k = ys.take k ∧ Mod [] w wr) (fun iv _ => xs.length - (intOf iv).toNat)
    case atStart => exact ⟨0, Nat.zero_le _, rfl, rfl, Mod.refl _ _⟩
    case round =>
      obtain ⟨k, hk, rfl, hal, hmr⟩ := hrel
      by_cases hlt : k < xs.length
      · have hlt2 : k < ys.length := by have := HLE.out; omega
        have hkI : (k : Int) < (xs.length : Int) := by omega
        have hk0 : (0 : Int) ≤ (k : Int) := by omega
        obtain ⟨b, off, rfl, hv⟩ := (H.out.past hmr (by simp)).at k hlt
        have hrow2 := H2.out.past hmr (by simp)
        rw [HLE.out] at hrow2
        obtain ⟨b2, off2, rfl, hv2⟩ := hrow2.at k hlt2
        obtain ⟨c00, c01, c02⟩ := hv
        obtain ⟨c10, c11, c12⟩ := hv2
        have hsn : xs[k] = ys[k] → xs.take (k + 1) = ys.take (k + 1) := fun e => by
          rw [List.take_succ_eq_append_getElem hlt, List.take_succ_eq_append_getElem hlt2, hal, e]
        have hno : xs[k] ≠ ys[k] → decide (xs = ys) = false := fun e => decide_eq_false (fun e' => e (by subst e'; rfl))
        have hxk := hx _ (List.getElem_mem hlt)
        have hyk := hy _ (List.getElem_mem hlt2)
        generalize xs[k] = x at *
        generalize ys[k] = y at *
        by_cases e : x = y
        · have HS := Lib.hid (hsn e)
          subst e
          clear hsn hno hxk hyk hal
          go_wp2_with fail
          go_quiet (fail)
          go_wp2_with fail
          go_roundw
          case rel => exact ⟨k + 1, by omega, by go_num, HS.out, by first | exact hmr.drewN _ | exact hmr.drew | exact hmr⟩
          case measure => simp [intOf]; omega
        · have HN := Lib.hid (hno e)
          have hne : ¬ (x.k = y.k ∧ x.n = y.n ∧ x.s = y.s) := fun hh => e (val_ext hh.1 hh.2.1 hh.2.2)
          clear hsn hno hal e
          by_cases e1 : x.k = y.k
          · by_cases e2 : x.n = y.n
            · have e3 := ofS_beq hxk hyk (fun e3 => hne ⟨e1, e2, e3⟩)
              rw [← e1] at c10
              rw [← e2] at c11
              clear e1 e2 hne hxk hyk
              go_wp2_with fail
              go_quiet (fail)
              go_wp2_with fail
              go_ret
              exact ⟨by rw [HN.out]; rfl, by first | exact hmr.drewN _ | exact hmr.drew | exact hmr⟩
            · have e3 : (x.n == y.n) = false := by rw [beq_eq_false_iff_ne]; exact e2
              rw [← e1] at c10
              clear e1 hne hxk hyk
              go_wp2_with fail
              go_quiet (fail)
              go_wp2_with fail
              go_ret
              exact ⟨by rw [HN.out]; rfl, by first | exact hmr.drewN _ | exact hmr.drew | exact hmr⟩
          · have e3 : (x.k == y.k) = false := by rw [beq_eq_false_iff_ne]; exact e1
            clear hne hxk hyk
            go_wp2_with fail
            go_quiet (fail)
            go_wp2_with fail
            go_ret
            exact ⟨by rw [HN.out]; rfl, by first | exact hmr.drewN _ | exact hmr.drew | exact hmr⟩
      · obtain rfl : k = xs.length := by omega
        have hkI : ¬ (xs.length : Int) < (xs.length : Int) := by omega
        have HA := Lib.hid (show decide (xs = ys) = true from decide_eq_true (by have h1 := hal; rw [List.take_length, List.take_of_length_le (by have := HLE.out; omega)] at h1; exact h1))
        clear hal
        go_wp2_with fail
        go_ret
        exact ⟨by rw [HA.out]; rfl, hmr⟩
  · have hne : ((xs.length : Int) == (ys.length : Int)) = false := by rw [beq_eq_false_iff_ne]; omega
    have hneI : ¬ ((xs.length : Int) = (ys.length : Int)) := by omega
    have HN := Lib.hid (show decide (xs = ys) = false from decide_eq_false (fun e => hlen (by rw [e])))
    clear h h2 hlen
    go_enter Tryd.func45, Tryd.ntmps45
    go_wp2_with fail
    go_ret
    exact ⟨by rw [HN.out]; rfl, Mod.refl _ _⟩
end Go.Proofs.YthdkaoegegiheaaDoor
