/- PRINT's law PrintLines: a program's text is its relations' lines and its rules' texts. -/
import Derived.Test.YtbmmdficdeakfaaDoorPrAwake
namespace Go.Proofs.YtbmmdficdeakfaaDoor
open Go.RowKit
set_option linter.unusedVariables false
set_option linter.unusedSimpArgs false
set_option maxRecDepth 100000

theorem ofS_append (a b : List Nat) : Lx.ofS (a ++ b) = Lx.ofS a ++ Lx.ofS b := by
  apply ByteArray.ext
  simp [Lx.ofS, ByteArray.data_append]
theorem linO_app {α : Type} (f : α → Option (List Nat)) (l m : List α) : linO f (l ++ m) = cat (linO f l) (linO f m) := by
  unfold linO
  rw [List.map_append, Pr.seqO_app]
  cases Pr.seqO (l.map f) <;> cases Pr.seqO (m.map f) <;> simp [Pr.lines]
theorem linO_le {α : Type} (f : α → Option (List Nat)) (l : List α) {b x : List Nat} (h : linO f l = some b) (k : Nat) (hx : linO f (l.take k) = some x) : x.length ≤ b.length := by
  rw [← List.take_append_drop k l, linO_app, hx] at h
  cases hd : linO f (l.drop k) with
  | none => rw [hd] at h; cases h
  | some y =>
    rw [hd] at h
    cases h
    simp
theorem linO_take {α : Type} (f : α → Option (List Nat)) (l : List α) {b : List Nat} (h : linO f l = some b) (k : Nat) (hk : k < l.length) :
    ∃ x u, linO f (l.take k) = some x ∧ f l[k] = some u ∧ linO f (l.take (k + 1)) = some (x ++ (u ++ [46, 10])) := by
  have hn : linO f (l.take (k + 1)) ≠ none := fun e => by
    unfold linO at e h
    rw [Option.map_eq_none_iff] at e
    rw [seqO_none_take f l (k + 1) e] at h
    cases h
  have hs := linO_snoc f (l.take k) l[k]
  rw [← List.take_succ_eq_append_getElem hk] at hs
  rw [hs] at hn ⊢
  cases hx : linO f (l.take k) with
  | none => rw [hx] at hn; simp at hn
  | some x =>
    rw [hx] at hn
    cases hu : f l[k] with
    | none => rw [hu] at hn; simp at hn
    | some u => exact ⟨x, u, rfl, rfl, by simp⟩
set_option maxHeartbeats 4000000 in
theorem PrintLines_any (P : Pr.Prog) (du ru : Value) (w : World) (hD : DsOk w P.rels du) (hR : RsOk w P.rules ru) (hG : GlobV w) (hlen : dsWt P.rels + rsWt P.rules ≤ 1000000000000) :
    Calls Tryd.prog 3 #[.agg #[du, ru]] w fun e w' => e = .returned (.bool true) ∧ Mod [] w w' := by
  obtain ⟨ds, rs⟩ := P
  dsimp only at *
  obtain ⟨da, dc, rfl⟩ := hD.lit
  obtain ⟨ra, rc, rfl⟩ := hR.lit
  have hrl : rs.length ≤ rsWt rs := sum_len _ (fun x => by omega) rs
  have HAW := Lib.hid (fun w hG => awake_any w hG)
  have HP1 := Lib.hid (fun w hD hR hG => Program_any ⟨ds, rs⟩ (.slice da ds.length dc) (.slice ra rs.length rc) w hD hR hG (by show dsWt ds + rsWt rs ≤ _; omega))
  have HP2 := Lib.hid (fun w hD hG => Program_any ⟨ds, []⟩ (.slice da ds.length dc) (.slice none 0 0) w hD .nil hG (by show dsWt ds + 0 ≤ _; omega))
  rw [pP_eq] at HP1 HP2
  dsimp only at HP1 HP2
  have hnil : linO Pr.pR [] = some [] := rfl
  have hw0 : rsWt [] = 0 := rfl
  rw [hnil, cat_nil', hw0, Nat.add_zero] at HP2
  clear hnil hw0
  have HD := Lib.hid hD
  have HR := Lib.hid hR
  have HG := Lib.hid hG
  clear hD hR hG
  have MA := Lib.hid ((Mod.refl [] w).alloc (Obj.cells #[.slice da ds.length dc, .slice ra rs.length rc] 25))
  have XA : Hid (CellsAt _ w.heap.size 0 #[.slice da ds.length dc, .slice ra rs.length rc]) := Lib.hid (CellsAt.of (heap_alloc_new w (Obj.cells #[.slice da ds.length dc, .slice ra rs.length rc] 25)))
  go_enter Tryd.func3, Tryd.ntmps3
  go_upto_region 1 with fail
  generalize w.alloc (Obj.cells #[Value.slice da ds.length dc, Value.slice ra rs.length rc] 25) = wA at *
  go_wp2_with fail
  refine (HAW.out _ (HG.out.past MA.out (by simp))).mono ?_
  rintro e1 w1 ⟨rfl, m1⟩
  have M1 := Lib.hid (MA.out.trans m1 (by simp))
  have X1 := Lib.hid (XA.out.past m1)
  clear m1 MA XA
  have x0 : w1.cell? ⟨w.heap.size, 0, none⟩ = some (.slice da ds.length dc) := X1.out.zero 0 _ rfl
  have x1 : w1.cell? ⟨w.heap.size, 1, none⟩ = some (.slice ra rs.length rc) := X1.out.zero 1 _ rfl
  go_wp2_with fail
  refine (HP1.out _ (HD.out.past M1.out) (HR.out.past M1.out) (HG.out.past M1.out (by simp))).mono ?_
  rintro e2 w2 ⟨rfl, m2, hl2⟩
  have M2 := Lib.hid (M1.out.trans m2 (by simp))
  have X2 := Lib.hid (X1.out.past m2)
  clear m2 x0 x1
  cases hb : linO Pr.pR rs with
  | none =>
    simp only [cat_none', tv]
    clear hl2
    go_wp2_with fail
    go_ret
    exact ⟨rfl, M2.out⟩
  | some b =>
    cases ha : linO Pr.pD ds with
    | none =>
      simp only [cat_none, tv]
      clear hl2
      go_wp2_with fail
      go_ret
      exact ⟨rfl, M2.out⟩
    | some a =>
      rw [ha] at HP2
      have hl3 := hl2 (a ++ b) (by rw [ha, hb]; rfl)
      clear hl2
      rw [List.length_append] at hl3
      simp only [cat_some, tv]
      have HA := Lib.hid ha
      have HB := Lib.hid hb
      clear ha hb
      have x0 : w2.cell? ⟨w.heap.size, 0, none⟩ = some (.slice da ds.length dc) := X2.out.zero 0 _ rfl
      go_wp2_with fail
      refine (HP2.out _ (HD.out.past M2.out) (HG.out.past M2.out (by simp))).mono ?_
      rintro e3 w3 ⟨rfl, m3, hl4⟩
      have M3 := Lib.hid (M2.out.trans m3 (by simp))
      have X3 := Lib.hid (X2.out.past m3)
      clear m3 hl4 x0
      simp only [tv]
      clear HP1 HP2 HAW
      go_wp2_with fail
      go_loopw [6, 8] (fun sv iv wr => ∃ (k : Nat) (x : List Nat), k ≤ rs.length ∧ iv = .int .i64 (k : Nat) ∧ sv = .string (Lx.ofS (a ++ x)) ∧ linO Pr.pR (rs.take k) = some x ∧ Mod [] w3 wr) (fun _ iv _ => rs.length - (intOf iv).toNat)
      case atStart => exact ⟨0, [], Nat.zero_le _, rfl, by rw [List.append_nil], rfl, Mod.refl _ _⟩
      case round =>
        obtain ⟨k, x, hk, rfl, rfl, hx, hm⟩ := hrel
        have x1 : wr.cell? ⟨w.heap.size, 1, none⟩ = some (.slice ra rs.length rc) := hm.cell (X3.out.zero 1 _ rfl) (by simp)
        by_cases hlt : k < rs.length
        · have hkI : (k : Int) < (rs.length : Int) := by omega
          have hk0 : (0 : Int) ≤ (k : Int) := by omega
          obtain ⟨x', u, h1, h2, h3⟩ := linO_take Pr.pR rs HB.out k hlt
          rw [hx] at h1
          cases h1
          have hle := linO_le Pr.pR rs HB.out (k + 1) h3
          simp only [List.length_append, List.length_cons, List.length_nil] at hle
          obtain ⟨bb, off, tu, bu, rfl, hc, ht, hbd⟩ := HR.out.at k hlt
          have hwt := sum_take (fun x => rWt x + 2) rs k hlt
          have hwl := sum_take_le (fun x => rWt x + 2) rs (k + 1)
          have e3 : rsWt rs = (rs.map fun x => rWt x + 2).sum := rfl
          rw [← e3, hwt] at hwl
          clear e3 hwt
          have MR := Lib.hid (M3.out.trans hm (by simp))
          have HM := Lib.hid hm
          have H3 := Lib.hid h3
          generalize rs[k] = r at *
          have HC := Lib.hid (Rule_any r tu bu wr (ht.past MR.out) (hbd.past MR.out) (HG.out.past MR.out (by simp)) (by omega))
          rw [h2] at HC
          obtain ⟨⟨nm, ty⟩, bd, ln, cl⟩ := r
          obtain ⟨ya, yc, rfl⟩ := ht.lit
          obtain ⟨za, zc, rfl⟩ := hbd.lit
          clear ht hbd h2 h3
          unfold ruV at *
          dsimp only at *
          have hc := hc.past MR.out
          have a0 : wr.cell? ⟨bb, off + k * 5, none⟩ = some (.string nm) := hc 0 _ rfl
          have a1 : wr.cell? ⟨bb, off + k * 5 + 1, none⟩ = some (.slice ya ty.length yc) := hc 1 _ rfl
          have a2 : wr.cell? ⟨bb, off + k * 5 + 2, none⟩ = some (.slice za bd.length zc) := hc 2 _ rfl
          have a3 : wr.cell? ⟨bb, off + k * 5 + 3, none⟩ = some (.int .i64 ln) := hc 3 _ rfl
          have a4 : wr.cell? ⟨bb, off + k * 5 + 4, none⟩ = some (.int .i64 cl) := hc 4 _ rfl
          clear hc hm hx
          obtain ⟨tB, htB⟩ : ∃ tB, Lx.ofS (a ++ x) = tB := ⟨_, rfl⟩
          obtain ⟨uB, huB⟩ : ∃ uB, Lx.ofS u = uB := ⟨_, rfl⟩
          have hts : tB.size = a.length + x.length := by rw [← htB, ofS_size, List.length_append]
          have hus : uB.size = u.length := by rw [← huB, ofS_size]
          rw [htB]
          have HTB := Lib.hid htB
          have HUB := Lib.hid huB
          clear htB huB
          go_wp2_with fail
          refine HC.out.mono ?_
          rintro e4 w4 ⟨rfl, m4, hl4⟩
          have M4 := Lib.hid (HM.out.trans m4 (by simp))
          clear m4 hl4 a0 a1 a2 a3 a4 x1
          simp only [tv]
          rw [HUB.out]
          go_wp2_with fail
          go_roundw
          case rel => exact ⟨k + 1, x ++ (u ++ [46, 10]), by omega, by go_num, by rw [← HTB.out, ← HUB.out, show a ++ (x ++ (u ++ [46, 10])) = ((a ++ x) ++ u) ++ [46, 10] by simp, ofS_append _ [46, 10], ofS_append (a ++ x) u]; rfl, H3.out, M4.out⟩
          case measure => simp [intOf]; omega
        · obtain rfl : k = rs.length := by omega
          have hkI : ¬ (rs.length : Int) < (rs.length : Int) := by omega
          rw [List.take_length, HB.out] at hx
          cases hx
          have M4 := Lib.hid (M3.out.trans hm (by simp))
          clear hm
          generalize Lx.ofS (a ++ b) = sB at *
          go_wp2_with fail
          go_ret
          exact ⟨by simp, M4.out⟩
theorem PrintLines_card (P : Pr.Prog) (du ru : Value) (hlen : dsWt P.rels + rsWt P.rules ≤ 1000000000000) (w : World) (hD : DsOk w P.rels du) (hR : RsOk w P.rules ru) (hG : GlobV w) :
    Calls Tryd.prog 3 #[.agg #[du, ru]] w fun e w' => e = .returned (.bool true) ∧ Mod [] w w' := PrintLines_any P du ru w hD hR hG hlen
end Go.Proofs.YtbmmdficdeakfaaDoor
