/- THE READER's METHODS, MORE: bytes and texts. -/
import Derived.Test.YthdkaoegegiheaaDoorVaRdM2
namespace Go.Proofs.YthdkaoegegiheaaDoor
open Go.RowKit
set_option linter.unusedVariables false
set_option maxRecDepth 100000

theorem RByte_any (b : Nat) (v : Value) (l : List Nat) (a f : Nat) (w : World) (h : RdIs w b v l a f) :
    Calls Tryd.prog 93 #[.pointer (some ⟨b, 0, none⟩)] w
      (Rd b v l (Cod.rByte l a f).2.1 (Cod.rByte l a f).2.2 (.int .u8 ((Cod.rByte l a f).1 : Nat)) w) := by
  by_cases hf : f = 0
  · subst hf
    by_cases hlt : l.length - a < 1
    · have hr : Cod.rByte l a 0 = (0, a, 10) := by simp [Cod.rByte]; omega
      rw [hr]
      clear hr
      have hcut := cut_any b v l a 1 w h (by omega)
      rw [cutL, cutA, cutF, if_neg (by omega), if_neg (by omega), if_neg (by omega)] at hcut
      have Hcut := Lib.hid hcut
      clear hcut
      go_enter Tryd.func93, Tryd.ntmps93
      go_wp2_with fail
      refine (well_any b v l a 0 w h true (by simp)).mono ?_
      rintro e w1 ⟨rfl, rfl⟩
      go_wp2_with fail
      refine Hcut.out.mono ?_
      rintro e w2 ⟨x, hx, rfl, hr, hm⟩
      obtain ⟨-, -, ⟨x, c, rfl, -⟩ | ⟨g, o, c, rfl, -⟩⟩ := hx
      all_goals
        go_wp2_with fail
        go_ret
        exact ⟨rfl, hr, hm⟩
    · have hr : Cod.rByte l a 0 = (l.getD a 0, a + 1, 0) := by simp [Cod.rByte]; omega
      rw [hr]
      clear hr
      have hcut := cut_any b v l a 1 w h (by omega)
      have hone : (l.drop a).take 1 = [l.getD a 0] := by
        rw [List.drop_eq_getElem_cons (show a < l.length by omega), List.take_succ_cons, List.take_zero, List.getD_eq_getElem?_getD, List.getElem?_eq_getElem (by omega)]; rfl
      rw [cutL, cutA, cutF, if_pos (by omega), if_pos (by omega), if_pos (by omega), hone] at hcut
      have Hcut := Lib.hid hcut
      clear hcut hone
      generalize l.getD a 0 = y at *
      go_enter Tryd.func93, Tryd.ntmps93
      go_wp2_with fail
      refine (well_any b v l a 0 w h true (by simp)).mono ?_
      rintro e w1 ⟨rfl, rfl⟩
      go_wp2_with fail
      refine Hcut.out.mono ?_
      rintro e w2 ⟨x, hx, rfl, hr, hm⟩
      obtain ⟨-, -, ⟨-, -, -, hx⟩ | ⟨g, o, c, rfl, hx⟩⟩ := hx
      · cases hx
      · have hc : w2.cell? ⟨g, o, none⟩ = some (.int .u8 (y : Int)) := by simpa using hx 0 (by simp)
        clear hx
        go_wp2_with fail
        go_ret
        exact ⟨rfl, hr, hm⟩
  · have hr : Cod.rByte l a f = (0, a, f) := by simp [Cod.rByte, hf]
    rw [hr]
    clear hr
    go_enter Tryd.func93, Tryd.ntmps93
    go_wp2_with fail
    refine (well_any b v l a f w h false (by simp [hf])).mono ?_
    rintro e w1 ⟨rfl, rfl⟩
    go_wp2_with fail
    go_ret
    exact ⟨rfl, h, Mod.refl _ _⟩

/-- a string of bytes -/
def ofStr (l : List Nat) : ByteArray := ⟨(l.map UInt8.ofNat).toArray⟩

theorem conv_readsT {w : World} {v : Value} {l : List Nat} (h : Reads w v l) : (convert 64 9 v).run Tryd.prog w = .ok (.string (ofStr l)) w := by
  obtain ⟨hb, hl, ⟨x, c, rfl, rfl⟩ | ⟨b, off, cap, rfl, hc⟩⟩ := h
  · cases x with
    | none => exact run_convert_bytes_nil w _ _ Tryd.underlying64 Tryd.underlying5 0 c _ Tryd.underlying9
    | some a =>
      rw [run_convert_bytes_string w _ _ _ _ _ _ Tryd.underlying64 Tryd.underlying5 Tryd.underlying9, run_bytesToString w a 0 c [] (run_loadCells_list w a [] (by simp))]
      rfl
  · have := run_convert_bytes_arg (P := Tryd.prog) w _ _ Tryd.underlying64 Tryd.underlying5 b off l.length cap (l.map fun (n : Nat) => (n : Int)) (by simp) (fun i hi => by
      rw [hc i hi]
      congr 2
      simp [List.getD_eq_getElem?_getD, List.getElem?_eq_getElem hi]) _ Tryd.underlying9
    rw [this]
    congr 2
    simp [strOfNums, ofStr, List.map_map, Function.comp_def]

theorem RText_any (b : Nat) (v : Value) (l : List Nat) (a f : Nat) (most : Int) (w : World) (h : RdIs w b v l a f) (hmost : most ≤ 9223372036854775807) :
    Calls Tryd.prog 96 #[.pointer (some ⟨b, 0, none⟩), .int .i64 most] w
      (Rd b v l (Cod.rText l a f most).2.1 (Cod.rText l a f most).2.2 (.string (ofStr (Cod.rText l a f most).1)) w) := by
  by_cases hf : f = 0
  · subst hf
    have hc1 := h.c1
    rcases nx_cases h.byte a with ⟨fl, hn, hfl⟩ | ⟨n, s, hn, hs1, hs2, hn64⟩
    · have hr : Cod.rText l a 0 most = ([], a, fl) := by simp [Cod.rText, hn, hfl]
      rw [hr]
      clear hr
      have hz : ((fl : Int) != 0) = true := by rw [bne_iff_ne]; omega
      go_enter Tryd.func96, Tryd.ntmps96
      go_wp2_with fail
      refine (well_any b v l a 0 w h true (by simp)).mono ?_
      rintro e w1 ⟨rfl, rfl⟩
      go_wp2_with fail
      refine (nextp h hn).mono ?_
      rintro e w2 ⟨rfl, hr, hm⟩
      have hc2 := hr.c2
      have Hn := Lib.hid hn
      clear hn
      go_wp2_with fail
      go_ret
      exact ⟨rfl, hr, hm⟩
    · have hlen := h.len
      have hin := h.in_
      by_cases hb : most < n
      · have hr : Cod.rText l a 0 most = ([], a, 12) := by simp [Cod.rText, hn, hb]
        rw [hr]
        clear hr
        have hb2 : most < 0 ∨ (0 ≤ most ∧ most < n) := by omega
        clear hb
        rcases hb2 with hb | ⟨hb1, hb⟩
        all_goals
          go_enter Tryd.func96, Tryd.ntmps96
          go_wp2_with fail
          refine (well_any b v l a 0 w h true (by simp)).mono ?_
          rintro e w1 ⟨rfl, rfl⟩
          go_wp2_with fail
          refine (nextp h hn).mono ?_
          rintro e w2 ⟨rfl, hr, hm⟩
          have Hn := Lib.hid hn
          clear hn
          go_wp2_with fail
          refine (fail_any b v l a 0 12 _ hr).mono ?_
          rintro e w3 ⟨rfl, hr3, hm3⟩
          have hc2 := hr3.c2
          have hff : ff 0 12 = 12 := rfl
          rw [hff] at hc2 hr3
          clear hff
          go_wp2_with fail
          go_ret
          exact ⟨rfl, hr3, hm.trans hm3 (fun t ht => .inl ht)⟩
      · have hb1 : (n : Int) ≤ most := by omega
        have hb2 : 0 ≤ most := by omega
        have hb3 : n ≤ 9223372036854775807 := by omega
        by_cases hcut : n ≤ l.length - (a + s)
        · have hr : Cod.rText l a 0 most = ((l.drop (a + s)).take n, a + s + n, 0) := by simp [Cod.rText, hn, hb]; omega
          rw [hr]
          clear hr hb
          go_enter Tryd.func96, Tryd.ntmps96
          go_wp2_with fail
          refine (well_any b v l a 0 w h true (by simp)).mono ?_
          rintro e w1 ⟨rfl, rfl⟩
          go_wp2_with fail
          refine (nextp h hn).mono ?_
          rintro e w2 ⟨rfl, hr, hm⟩
          have hc1 := hr.c1
          have hc2 := hr.c2
          have hfr := hr.free 1
          have Hn := Lib.hid hn
          clear hn
          go_wp2_with fail
          rw [show ((a : Int) + (s : Int)) = ((a + s : Nat) : Int) from by omega]
          have hset := set_at hr (a + s) (by omega)
          have hms := hm.trans (mod_one w2 b 1 (.int .i64 ((a + s : Nat) : Int))) (fun t ht => .inl ht)
          refine (cut_any b v l (a + s) n _ hset (by omega)).mono ?_
          rintro e w3 ⟨x, hx, rfl, hr3, hm3⟩
          rw [cutA, cutF, if_pos hcut, if_pos hcut] at hr3
          rw [cutL, if_pos hcut] at hx
          have hconv := conv_readsT hx
          have hc3 := hr3.c2
          clear hset hx
          go_wp2_with fail
          go_ret
          exact ⟨rfl, hr3, hms.trans hm3 (fun t ht => .inl ht)⟩
        · have hr : Cod.rText l a 0 most = ([], a, 10) := by simp [Cod.rText, hn, hb]; omega
          rw [hr]
          clear hr hb
          go_enter Tryd.func96, Tryd.ntmps96
          go_wp2_with fail
          refine (well_any b v l a 0 w h true (by simp)).mono ?_
          rintro e w1 ⟨rfl, rfl⟩
          go_wp2_with fail
          refine (nextp h hn).mono ?_
          rintro e w2 ⟨rfl, hr, hm⟩
          have hc1 := hr.c1
          have hc2 := hr.c2
          have hfr := hr.free 1
          have Hn := Lib.hid hn
          clear hn
          go_wp2_with fail
          rw [show ((a : Int) + (s : Int)) = ((a + s : Nat) : Int) from by omega]
          have hset := set_at hr (a + s) (by omega)
          have hms := hm.trans (mod_one w2 b 1 (.int .i64 ((a + s : Nat) : Int))) (fun t ht => .inl ht)
          refine (cut_any b v l (a + s) n _ hset (by omega)).mono ?_
          rintro e w3 ⟨x, hx, rfl, hr3, hm3⟩
          rw [cutA, cutF, if_neg hcut, if_neg hcut] at hr3
          rw [cutL, if_neg hcut] at hx
          have hconv := conv_readsT hx
          have hc3 := hr3.c2
          have hc4 := hr3.c1
          have hf3 := hr3.free 1
          clear hset hx
          go_wp2_with fail
          go_ret
          exact ⟨rfl, set_at hr3 a hin, (hms.trans hm3 (fun t ht => .inl ht)).trans (mod_one _ _ _ _) (fun t ht => .inl ht)⟩
  · have hr : Cod.rText l a f most = ([], a, f) := by simp [Cod.rText, hf]
    rw [hr]
    clear hr
    go_enter Tryd.func96, Tryd.ntmps96
    go_wp2_with fail
    refine (well_any b v l a f w h false (by simp [hf])).mono ?_
    rintro e w1 ⟨rfl, rfl⟩
    go_wp2_with fail
    go_ret
    exact ⟨rfl, h, Mod.refl _ _⟩

end Go.Proofs.YthdkaoegegiheaaDoor
