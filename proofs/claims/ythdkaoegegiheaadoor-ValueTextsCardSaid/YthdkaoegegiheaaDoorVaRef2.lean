/- VALUES: the reference's Name, Variable, Check, Tuple, CheckFact; the program's CheckFact (printed by gen_varef2.py). -/
import Derived.Test.YthdkaoegegiheaaDoorVaRef
namespace Go.Proofs.YthdkaoegegiheaaDoor
open Go.RowKit
set_option linter.unusedVariables false
set_option linter.unusedSimpArgs false
set_option maxRecDepth 100000

theorem name_ref (l : List Nat) : Va.name l = (rword l && (Lx.small (l.headD 0) && !Va.resW.contains l)) := by
  unfold Va.name
  rw [wordB_eq Lx.small (fun c h => by unfold Lx.goes; rw [h]; rfl)]
  cases rword l <;> cases Lx.small (l.headD 0) <;> cases Va.resW.contains l <;> rfl
theorem var_ref (l : List Nat) : Va.variable_ l = (rword l && Lx.capital (l.headD 0)) := by
  unfold Va.variable_
  rw [wordB_eq Lx.capital (fun c h => by unfold Lx.goes; rw [h]; cases Lx.small c <;> rfl)]

theorem rword_pos {s : ByteArray} (h : rword (Cod.str s) = true) : 0 < s.size := by
  unfold rword at h
  rw [Cod.str_len] at h
  simp only [Bool.and_eq_true, decide_eq_true_eq] at h
  omega
theorem vName_any (s : ByteArray) (hs : s.size ≤ 9223372036854775806) (w : World) :
    Calls Tryd.prog 23 #[.string s] w fun e w' => e = .returned (.bool (Va.name (Cod.str s))) ∧ w' = w := by
  have h1 := fun w => vword_any s hs w
  have h3 := fun w => vReserved_any s w
  rw [name_ref, res_str]
  cases hw : rword (Cod.str s)
  · rw [hw] at h1
    have H1 := Lib.hid h1
    clear h1 h3 hw
    rw [Bool.false_and]
    go_enter Tryd.func23, Tryd.ntmps23
    go_wp2_with fail
    refine (H1.out _).mono ?_
    rintro e w1 ⟨rfl, rfl⟩
    go_wp2_with fail
    go_ret
    exact ⟨rfl, rfl⟩
  · have hp := rword_pos hw
    obtain ⟨c, t, hct, h0, hc⟩ := str_cons hp
    rw [hw] at h1
    rw [hct, List.headD_cons, Bool.true_and]
    have H1 := Lib.hid h1; have H3 := Lib.hid h3
    have H2 := Lib.hid (fun w => vsmall_any c _ rfl w)
    have hpI : (0 : Int) < (s.size : Int) := by omega
    clear h1 h3 hct hw
    generalize Lx.small c = b at *
    generalize resW8.contains s.toList = r at *
    cases b
    · rw [Bool.false_and]
      go_enter Tryd.func23, Tryd.ntmps23
      go_wp2_with fail
      refine (H1.out _).mono ?_
      rintro e w1 ⟨rfl, rfl⟩
      go_wp2_with fail
      refine (H2.out _).mono ?_
      rintro e w1 ⟨rfl, rfl⟩
      go_wp2_with fail
      go_ret
      exact ⟨rfl, rfl⟩
    · rw [Bool.true_and]
      go_enter Tryd.func23, Tryd.ntmps23
      go_wp2_with fail
      refine (H1.out _).mono ?_
      rintro e w1 ⟨rfl, rfl⟩
      go_wp2_with fail
      refine (H2.out _).mono ?_
      rintro e w1 ⟨rfl, rfl⟩
      go_wp2_with fail
      refine (H3.out _).mono ?_
      rintro e w1 ⟨rfl, rfl⟩
      go_wp2_with fail
      go_ret
      exact ⟨rfl, rfl⟩
theorem vVariable_any (s : ByteArray) (hs : s.size ≤ 9223372036854775806) (w : World) :
    Calls Tryd.prog 24 #[.string s] w fun e w' => e = .returned (.bool (Va.variable_ (Cod.str s))) ∧ w' = w := by
  have h1 := fun w => vword_any s hs w
  rw [var_ref]
  cases hw : rword (Cod.str s)
  · rw [hw] at h1
    have H1 := Lib.hid h1
    clear h1 hw
    rw [Bool.false_and]
    go_enter Tryd.func24, Tryd.ntmps24
    go_wp2_with fail
    refine (H1.out _).mono ?_
    rintro e w1 ⟨rfl, rfl⟩
    go_wp2_with fail
    go_ret
    exact ⟨rfl, rfl⟩
  · have hp := rword_pos hw
    obtain ⟨c, t, hct, h0, hc⟩ := str_cons hp
    rw [hw] at h1
    rw [hct, List.headD_cons, Bool.true_and]
    have H1 := Lib.hid h1
    have H2 := Lib.hid (fun w => vcapital_any c _ rfl w)
    have hpI : (0 : Int) < (s.size : Int) := by omega
    clear h1 hct hw
    generalize Lx.capital c = b at *
    go_enter Tryd.func24, Tryd.ntmps24
    go_wp2_with fail
    refine (H1.out _).mono ?_
    rintro e w1 ⟨rfl, rfl⟩
    go_wp2_with fail
    refine (H2.out _).mono ?_
    rintro e w1 ⟨rfl, rfl⟩
    go_wp2_with fail
    go_ret
    exact ⟨rfl, rfl⟩

theorem vcheck_any (v : Va.Val) (w : World) :
    Calls Tryd.prog 21 #[.agg (valV v)] w fun e w' => e = .returned (.int .i64 (chk v)) ∧ Mod [] w w' := by
  obtain ⟨k, n, s⟩ := v
  unfold valV
  have hsz := ofS_size s
  have hem : (Lx.ofS s).toList.isEmpty = decide (s = []) := by
    rw [toList_isEmpty, hsz]
    cases s <;> simp
  by_cases k1 : k = 1
  · subst k1
    by_cases h1 : -2147483647 ≤ n
    · by_cases h2 : n ≤ 2147483647
      · by_cases hs : s = []
        · have e1 : (Lx.ofS s).toList.isEmpty = true := by rw [hem, decide_eq_true hs]
          have e : chk ⟨1, n, s⟩ = 0 := by unfold chk Va.may; rw [if_pos]; simp [hs, h1, h2]
          have E := Lib.hid e
          clear hem hsz e hs
          go_enter Tryd.func21, Tryd.ntmps21
          go_wp2_with fail
          go_ret
          exact ⟨by rw [E.out]; rfl, (Mod.refl [] w).alloc _⟩
        · have e1 : (Lx.ofS s).toList.isEmpty = false := by rw [hem, decide_eq_false hs]
          have e : chk ⟨1, n, s⟩ = 20 := by unfold chk Va.may; rw [if_neg]; simp [hs]
          have E := Lib.hid e
          clear hem hsz e hs
          go_enter Tryd.func21, Tryd.ntmps21
          go_wp2_with fail
          go_ret
          exact ⟨by rw [E.out]; rfl, (Mod.refl [] w).alloc _⟩
      · have h2N := h2
        have e : chk ⟨1, n, s⟩ = 20 := by unfold chk Va.may; rw [if_neg]; simp [h2]
        have E := Lib.hid e
        clear hem hsz e
        go_enter Tryd.func21, Tryd.ntmps21
        go_wp2_with fail
        go_ret
        exact ⟨by rw [E.out]; rfl, (Mod.refl [] w).alloc _⟩
    · have h1N := h1
      have e : chk ⟨1, n, s⟩ = 20 := by unfold chk Va.may; rw [if_neg]; simp [h1]
      have E := Lib.hid e
      clear hem hsz e
      go_enter Tryd.func21, Tryd.ntmps21
      go_wp2_with fail
      go_ret
      exact ⟨by rw [E.out]; rfl, (Mod.refl [] w).alloc _⟩
  · have k1B : (k == 1) = false := by rw [beq_eq_false_iff_ne]; exact k1
    by_cases k2 : k = 2
    · subst k2
      by_cases hn : n = 0
      · subst hn
        by_cases hl : s.length ≤ 64
        · have e2 : ((Lx.ofS s).size : Int) ≤ 64 := by omega
          have e : chk ⟨2, 0, s⟩ = 0 := by unfold chk Va.may; rw [if_pos]; simp [hl]
          have E := Lib.hid e
          clear hem hsz e
          go_enter Tryd.func21, Tryd.ntmps21
          go_wp2_with fail
          go_ret
          exact ⟨by rw [E.out]; rfl, (Mod.refl [] w).alloc _⟩
        · have e2 : ¬ ((Lx.ofS s).size : Int) ≤ 64 := by omega
          have e : chk ⟨2, 0, s⟩ = 20 := by unfold chk Va.may; rw [if_neg]; simp; omega
          have E := Lib.hid e
          clear hem hsz e
          go_enter Tryd.func21, Tryd.ntmps21
          go_wp2_with fail
          go_ret
          exact ⟨by rw [E.out]; rfl, (Mod.refl [] w).alloc _⟩
      · have nB : (n == 0) = false := by rw [beq_eq_false_iff_ne]; exact hn
        have e : chk ⟨2, n, s⟩ = 20 := by unfold chk Va.may; rw [if_neg]; simp [hn]
        have E := Lib.hid e
        clear hem hsz e
        go_enter Tryd.func21, Tryd.ntmps21
        go_wp2_with fail
        go_ret
        exact ⟨by rw [E.out]; rfl, (Mod.refl [] w).alloc _⟩
    · have k2B : (k == 2) = false := by rw [beq_eq_false_iff_ne]; exact k2
      have e : chk ⟨k, n, s⟩ = 20 := by unfold chk Va.may; rw [if_neg]; simp [k1, k2]
      have E := Lib.hid e
      clear hem hsz e
      go_enter Tryd.func21, Tryd.ntmps21
      go_wp2_with fail
      go_ret
      exact ⟨by rw [E.out]; rfl, (Mod.refl [] w).alloc _⟩

set_option maxHeartbeats 1000000 in
theorem vTuple_any (v : Value) (ts : List Va.Val) (hl : ts.length ≤ 140737488355328) (w : World) (h : VRow w v ts) :
    Calls Tryd.prog 58 #[v] w fun e w' => e = .returned (.bool (ts.all Va.may)) ∧ Mod [] w w' := by
  obtain ⟨a, c, rfl⟩ := h.lit
  have H := Lib.hid h
  clear h
  go_enter Tryd.func58, Tryd.ntmps58
  go_wp2_with fail
  go_loopw [3] (fun iv wr => ∃ k : Nat, k ≤ ts.length ∧ iv = .int .i64 (k : Nat) ∧ (ts.take k).all Va.may = true ∧ Mod [] w wr) (fun iv _ => ts.length - (intOf iv).toNat)
  case atStart => exact ⟨0, Nat.zero_le _, rfl, rfl, Mod.refl _ _⟩
  case round =>
    obtain ⟨k, hk, rfl, hal, hmr⟩ := hrel
    by_cases hlt : k < ts.length
    · have hkI : (k : Int) < (ts.length : Int) := by omega
      have hk0 : (0 : Int) ≤ (k : Int) := by omega
      obtain ⟨b, off, rfl, hv⟩ := (H.out.past hmr (by simp)).at k hlt
      obtain ⟨c0, c1, c2⟩ := hv
      have h1 := fun w => vcheck_any ts[k] w
      unfold valV chk at h1
      have hsn : (ts.take (k + 1)).all Va.may = Va.may ts[k] := by
        rw [List.take_succ_eq_append_getElem hlt, List.all_append, hal]; simp
      have hno : Va.may ts[k] = false → ts.all Va.may = false := fun hm => by
        rw [← Bool.not_eq_true, List.all_eq_true]
        intro hh
        have := hh _ (List.getElem_mem hlt)
        rw [hm] at this; cases this
      generalize ts[k] = x at *
      cases hm : Va.may x
      · rw [hm] at h1
        simp only [Bool.false_eq_true, if_false] at h1
        have HN := Lib.hid (hno hm)
        have H1 := Lib.hid h1
        clear h1 hno hsn hm hal
        go_wp2_with fail
        refine (H1.out _).mono ?_
        rintro e w1 ⟨rfl, hm1⟩
        go_wp2_with fail
        go_ret
        exact ⟨by rw [HN.out]; rfl, hmr.trans hm1 (by simp)⟩
      · rw [hm] at h1
        simp only [if_true] at h1
        have HS := Lib.hid (hsn.trans hm)
        have H1 := Lib.hid h1
        clear h1 hno hsn hm hal
        go_wp2_with fail
        refine (H1.out _).mono ?_
        rintro e w1 ⟨rfl, hm1⟩
        go_wp2_with fail
        go_roundw
        case rel => exact ⟨k + 1, by omega, by go_num, HS.out, hmr.trans hm1 (by simp)⟩
        case measure => simp [intOf]; omega
    · obtain rfl : k = ts.length := by omega
      have hkI : ¬ (ts.length : Int) < (ts.length : Int) := by omega
      rw [List.take_length] at hal
      have HA := Lib.hid hal
      clear hal
      go_wp2_with fail
      go_ret
      exact ⟨by rw [HA.out]; rfl, hmr⟩

/-- a fact: its relation, its values -/
def factB (r : ByteArray) (ts : List Va.Val) : Int := if Va.name (Cod.str r) && (decide (ts.length ≤ 8) && ts.all Va.may) then 0 else 20
def FactR (r : ByteArray) (ts : List Va.Val) (w : World) (e : Ending) (w' : World) : Prop := e = .returned (.int .i64 (factB r ts)) ∧ Mod [] w w'

theorem CheckFact_any (r : ByteArray) (v : Value) (ts : List Va.Val) (hr : r.size ≤ 9223372036854775806) (hl : ts.length ≤ 140737488355328) (w : World) (h : VRow w v ts) :
    Calls Tryd.prog 17 #[.agg #[.string r, v]] w (FactR r ts w) := by
  obtain ⟨a, c, rfl⟩ := h.lit
  have h1 := fun w => Name_any r (by omega) w
  have h2 := fun w h => vall_any (.slice a ts.length c) ts hl w h
  have H := Lib.hid h
  have hb : Hid (∀ (X : World) (vv : Value), X.heap[w.heap.size]? = some (.cells #[.string r, vv] 34 (0, 0)) → X.cell? ⟨w.heap.size, 0, none⟩ = some (.string r) ∧ X.cell? ⟨w.heap.size, 1, none⟩ = some vv) := Lib.hid (fun X vv h => by constructor <;> simp only [World.cell?, h] <;> rfl)
  clear h
  have M0 := Lib.hid ((Mod.refl [] w).alloc (Obj.cells #[.string r, .slice a ts.length c] 34))
  have B0 := Lib.hid (heap_alloc_new w (Obj.cells #[.string r, .slice a ts.length c] 34))
  have hfb : factB r ts = if Va.name (Cod.str r) && (decide (ts.length ≤ 8) && ts.all Va.may) then 0 else 20 := rfl
  cases hn : Va.name (Cod.str r)
  · rw [hn] at h1 hfb
    have E := Lib.hid (hfb.trans (if_neg (by simp)))
    have H1 := Lib.hid h1
    clear h1 h2 hn hfb
    go_enter Tryd.func17, Tryd.ntmps17
    go_wp2_with fail
    refine (H1.out _).mono ?_
    rintro e w1 ⟨rfl, m1⟩
    have M1 := Lib.hid (M0.out.trans m1 (by simp))
    clear m1
    go_wp2_with fail
    go_ret
    exact ⟨by rw [E.out]; rfl, M1.out⟩
  · rw [hn] at h1 hfb
    by_cases h8 : ts.length ≤ 8
    · have h8I : ¬ (8 : Int) < (ts.length : Int) := by omega
      rw [decide_eq_true h8] at hfb
      have H1 := Lib.hid h1; have H2 := Lib.hid h2; have E := Lib.hid hfb
      clear h1 h2 hn hfb
      go_enter Tryd.func17, Tryd.ntmps17
      go_wp2_with fail
      refine (H1.out _).mono ?_
      rintro e w1 ⟨rfl, m1⟩
      have M1 := Lib.hid (M0.out.trans m1 (by simp))
      obtain ⟨c0, c1⟩ := hb.out w1 _ (m1.at B0.out (by simp))
      clear m1
      go_wp2_with fail
      refine (H2.out _ (H.out.past M1.out (by simp))).mono ?_
      rintro e w2 ⟨rfl, m2⟩
      have M2 := Lib.hid (M1.out.trans m2 (by simp))
      clear m2
      cases hal : ts.all Va.may
      · have E' := Lib.hid (E.out.trans (if_neg (by simp [hal])))
        clear hal
        go_wp2_with fail
        go_ret
        exact ⟨by rw [E'.out]; rfl, M2.out⟩
      · have E' := Lib.hid (E.out.trans (if_pos (by simp [hal])))
        clear hal
        go_wp2_with fail
        go_ret
        exact ⟨by rw [E'.out]; rfl, M2.out⟩
    · have h8I : (8 : Int) < (ts.length : Int) := by omega
      rw [decide_eq_false h8] at hfb
      have H1 := Lib.hid h1; have E := Lib.hid (hfb.trans (if_neg (by simp)))
      clear h1 h2 hn hfb
      go_enter Tryd.func17, Tryd.ntmps17
      go_wp2_with fail
      refine (H1.out _).mono ?_
      rintro e w1 ⟨rfl, m1⟩
      have M1 := Lib.hid (M0.out.trans m1 (by simp))
      obtain ⟨c0, c1⟩ := hb.out w1 _ (m1.at B0.out (by simp))
      clear m1
      go_wp2_with fail
      go_ret
      exact ⟨by rw [E.out]; rfl, M1.out⟩
theorem vCheckFact_any (r : ByteArray) (v : Value) (ts : List Va.Val) (hr : r.size ≤ 9223372036854775806) (hl : ts.length ≤ 140737488355328) (w : World) (h : VRow w v ts) :
    Calls Tryd.prog 22 #[.agg #[.string r, v]] w (FactR r ts w) := by
  obtain ⟨a, c, rfl⟩ := h.lit
  have h1 := fun w => vName_any r hr w
  have h2 := fun w h => vTuple_any (.slice a ts.length c) ts hl w h
  have H := Lib.hid h
  have hb : Hid (∀ (X : World) (vv : Value), X.heap[w.heap.size]? = some (.cells #[.string r, vv] 34 (0, 0)) → X.cell? ⟨w.heap.size, 0, none⟩ = some (.string r) ∧ X.cell? ⟨w.heap.size, 1, none⟩ = some vv) := Lib.hid (fun X vv h => by constructor <;> simp only [World.cell?, h] <;> rfl)
  clear h
  have M0 := Lib.hid ((Mod.refl [] w).alloc (Obj.cells #[.string r, .slice a ts.length c] 34))
  have B0 := Lib.hid (heap_alloc_new w (Obj.cells #[.string r, .slice a ts.length c] 34))
  have hfb : factB r ts = if Va.name (Cod.str r) && (decide (ts.length ≤ 8) && ts.all Va.may) then 0 else 20 := rfl
  have H1 := Lib.hid h1; have H2 := Lib.hid h2; have E := Lib.hid hfb
  clear h1 h2 hfb
  go_enter Tryd.func22, Tryd.ntmps22
  go_wp2_with fail
  refine (H1.out _).mono ?_
  rintro e w1 ⟨rfl, rfl⟩
  obtain ⟨c0, c1⟩ := hb.out _ _ B0.out
  go_wp2_with fail
  refine (H2.out _ (H.out.past M0.out (by simp))).mono ?_
  rintro e w2 ⟨rfl, m2⟩
  have M2 := Lib.hid (M0.out.trans m2 (by simp))
  clear c0 c1
  obtain ⟨c0, c1⟩ := hb.out w2 _ (m2.at B0.out (by simp))
  clear m2
  cases hn : Va.name (Cod.str r)
  · have E' := Lib.hid (E.out.trans (if_neg (by simp [hn])))
    clear hn
    go_wp2_with fail
    go_ret
    exact ⟨by rw [E'.out]; rfl, M2.out⟩
  · cases hal : ts.all Va.may
    · have E' := Lib.hid (E.out.trans (if_neg (by simp [hn, hal])))
      clear hn hal
      go_wp2_with fail
      go_ret
      exact ⟨by rw [E'.out]; rfl, M2.out⟩
    · by_cases h8 : ts.length ≤ 8
      · have h8I : ¬ (8 : Int) < (ts.length : Int) := by omega
        have E' := Lib.hid (E.out.trans (if_pos (by rw [hn, hal, decide_eq_true h8]; rfl)))
        clear hn hal
        go_wp2_with fail
        go_ret
        exact ⟨by rw [E'.out]; rfl, M2.out⟩
      · have h8I : (8 : Int) < (ts.length : Int) := by omega
        have E' := Lib.hid (E.out.trans (if_neg (by rw [hn, hal, decide_eq_false h8]; simp)))
        clear hn hal
        go_wp2_with fail
        go_ret
        exact ⟨by rw [E'.out]; rfl, M2.out⟩
end Go.Proofs.YthdkaoegegiheaaDoor
