/- THE REFERENCE's TEXTS: Text, FactText. -/
import Derived.Test.YthdkaoegegiheaaDoorVaRefT1
import Derived.Test.YthdkaoegegiheaaDoorVaText
import Derived.Lib.Join
namespace Go.Proofs.YthdkaoegegiheaaDoor
open Go.RowKit
set_option linter.unusedVariables false
set_option linter.unusedSimpArgs false
set_option maxRecDepth 100000

theorem vText_any (v : Va.Val) (hv : v.Ok) (w : World) (hG : GlobV w) :
    Calls Tryd.prog 39 #[.agg (valV v)] w fun e w' => e = .returned (txtV v) ∧ Mod [] w w' := by
  have h1 := fun w => vcheck_any v w
  have hm0 := (Mod.refl [] w).alloc (Obj.cells (valV v) 23)
  have hB0 := heap_alloc_new w (Obj.cells (valV v) 23)
  unfold txtV
  cases hmv : Va.may v
  · have e : chk v = 20 := by unfold chk; rw [hmv]; rfl
    rw [e] at h1 ⊢
    have H1 := Lib.hid h1
    clear h1 hmv e hB0
    unfold valV at *
    go_enter Tryd.func39, Tryd.ntmps39
    go_wp2_with fail
    refine (H1.out _).mono ?_
    rintro e w1 ⟨rfl, hm⟩
    have HM := Lib.hid (hm0.trans hm (by simp))
    clear hm hm0
    go_wp2_with fail
    go_ret2
    exact ⟨rfl, HM.out⟩
  · have e : chk v = 0 := by unfold chk; rw [hmv]; rfl
    rw [e] at h1 ⊢
    have hsl := may_len hmv
    have hsz : (Lx.ofS v.s).size = v.s.length := ofS_size _
    have hst : Cod.str (Lx.ofS v.s) = v.s := Lx.str_ofS hv.byte
    have hi := fun w hG => itoa_any v.n hv.lo hv.hi w hG
    have hn := fun w => vName_any (Lx.ofS v.s) (by omega) w
    have hq := fun w => vQuoted_any (Lx.ofS v.s) (by omega) w
    rw [hst] at hn hq
    have hT1 : v.k = 1 → Va.text v = Va.itoa v.n := fun h => by unfold Va.text; rw [if_pos h]
    have hT2 : v.k ≠ 1 → Va.name v.s = true → Va.text v = v.s := fun h h2 => by unfold Va.text; rw [if_neg h, if_pos h2]
    have hT3 : v.k ≠ 1 → Va.name v.s = false → Va.text v = Va.quoted v.s := fun h h2 => by unfold Va.text; rw [if_neg h]; simp [h2]
    have H1 := Lib.hid h1; have HI := Lib.hid hi; have HQ := Lib.hid hq
    clear h1 hi hq hmv e hv hst hsz hsl
    unfold valV at *
    rw [if_pos rfl]
    by_cases k1 : v.k = 1
    · have HT := Lib.hid (hT1 k1)
      have kB : (v.k == 1) = true := by rw [beq_iff_eq]; exact k1
      clear hT1 hT2 hT3 k1 hn
      go_enter Tryd.func39, Tryd.ntmps39
      go_wp2_with fail
      refine (H1.out _).mono ?_
      rintro e w1 ⟨rfl, hm⟩
      have hB := hm.at hB0 (by simp)
      have c0 : w1.cell? ⟨w.heap.size, 0, none⟩ = some (.int .i64 v.k) := by simp [World.cell?, hB]
      have c1 : w1.cell? ⟨w.heap.size, 1, none⟩ = some (.int .i64 v.n) := by simp [World.cell?, hB]
      have HM := Lib.hid (hm0.trans hm (by simp))
      clear hm hm0 hB hB0
      go_wp2_with fail
      refine (HI.out _ (hG.past HM.out (by simp))).mono ?_
      rintro e w2 ⟨rfl, hm2⟩
      go_wp2_with fail
      go_ret2
      exact ⟨by rw [HT.out]; rfl, HM.out.trans hm2 (by simp)⟩
    · have kB : (v.k == 1) = false := by rw [beq_eq_false_iff_ne]; exact k1
      cases hnm : Va.name v.s
      · have HT := Lib.hid (hT3 k1 hnm)
        rw [hnm] at hn
        have HN := Lib.hid hn
        clear hT1 hT2 hT3 k1 hn hnm
        go_enter Tryd.func39, Tryd.ntmps39
        go_wp2_with fail
        refine (H1.out _).mono ?_
        rintro e w1 ⟨rfl, hm⟩
        have hB := hm.at hB0 (by simp)
        have c0 : w1.cell? ⟨w.heap.size, 0, none⟩ = some (.int .i64 v.k) := by simp [World.cell?, hB]
        have c2 : w1.cell? ⟨w.heap.size, 2, none⟩ = some (.string (Lx.ofS v.s)) := by simp [World.cell?, hB]
        have HM := Lib.hid (hm0.trans hm (by simp))
        clear hm hm0 hB hB0
        go_wp2_with fail
        refine (HN.out _).mono ?_
        rintro e w2 ⟨rfl, rfl⟩
        go_wp2_with fail
        refine (HQ.out _).mono ?_
        rintro e w2 ⟨rfl, rfl⟩
        go_wp2_with fail
        go_ret2
        exact ⟨by rw [HT.out]; rfl, HM.out⟩
      · have HT := Lib.hid (hT2 k1 hnm)
        rw [hnm] at hn
        have HN := Lib.hid hn
        clear hT1 hT2 hT3 k1 hn hnm
        go_enter Tryd.func39, Tryd.ntmps39
        go_wp2_with fail
        refine (H1.out _).mono ?_
        rintro e w1 ⟨rfl, hm⟩
        have hB := hm.at hB0 (by simp)
        have c0 : w1.cell? ⟨w.heap.size, 0, none⟩ = some (.int .i64 v.k) := by simp [World.cell?, hB]
        have c2 : w1.cell? ⟨w.heap.size, 2, none⟩ = some (.string (Lx.ofS v.s)) := by simp [World.cell?, hB]
        have HM := Lib.hid (hm0.trans hm (by simp))
        clear hm hm0 hB hB0
        go_wp2_with fail
        refine (HN.out _).mono ?_
        rintro e w2 ⟨rfl, rfl⟩
        go_wp2_with fail
        go_ret2
        exact ⟨by rw [HT.out]; rfl, HM.out⟩

/-- texts with commas between -/
def joinT (ls : List (List Nat)) : List Nat := [44, 32].intercalate ls
theorem joinT_nil : joinT [] = [] := rfl
theorem inter_snoc (s : List Nat) : ∀ (ls : List (List Nat)) (x : List Nat), ls ≠ [] → s.intercalate (ls ++ [x]) = s.intercalate ls ++ s ++ x
  | [a], x, _ => by simp [List.intercalate, List.intersperse]
  | a :: b :: r, x, _ => by
    have ih := inter_snoc s (b :: r) x (by simp)
    have e1 : ∀ (l : List (List Nat)), s.intercalate (a :: b :: l) = a ++ s ++ s.intercalate (b :: l) := fun l => by
      simp [List.intercalate, List.intersperse]
    rw [List.cons_append, List.cons_append, e1, e1, ← List.cons_append, ih]
    simp
theorem joinT_snoc (ls : List (List Nat)) (x : List Nat) : joinT (ls ++ [x]) = (if ls = [] then [] else joinT ls ++ [44, 32]) ++ x := by
  by_cases h : ls = []
  · subst h; simp [joinT, List.intercalate]
  · rw [if_neg h]; unfold joinT; rw [inter_snoc _ _ _ h]
theorem joinT_len : ∀ (ls : List (List Nat)), (∀ x ∈ ls, x.length ≤ 258) → (joinT ls).length ≤ 260 * ls.length
  | [], _ => by simp [joinT]
  | [a], h => by simp [joinT, List.intercalate]; have := h a (by simp); omega
  | a :: b :: r, h => by
    have ih := joinT_len (b :: r) (fun x hx => h x (by simp [hx]))
    have e1 : joinT (a :: b :: r) = a ++ [44, 32] ++ joinT (b :: r) := by unfold joinT; simp [List.intercalate, List.intersperse]
    have ha := h a (by simp)
    rw [e1]
    simp only [List.length_append, List.length_cons, List.length_nil] at ih ⊢
    omega
/-- a fact's text -/
def factT (r : ByteArray) (ts : List Va.Val) : List Nat := Cod.str r ++ (40 :: (joinT (ts.map Va.text) ++ [41]))
def factV (r : ByteArray) (ts : List Va.Val) : Value := .tuple #[.string (Lx.ofS (if factB r ts = 0 then factT r ts else [])), .int .i64 (factB r ts)]
theorem factB_ok {r : ByteArray} {ts : List Va.Val} (h : factB r ts = 0) : Va.name (Cod.str r) = true ∧ ts.length ≤ 8 ∧ ts.all Va.may = true := by
  unfold factB at h
  split at h
  · rename_i hh
    rw [Bool.and_eq_true, Bool.and_eq_true, decide_eq_true_eq] at hh
    exact ⟨hh.1, hh.2.1, hh.2.2⟩
  · simp at h
theorem factB_cases (r : ByteArray) (ts : List Va.Val) : factB r ts = 0 ∨ factB r ts = 20 := by
  unfold factB
  split
  · exact .inl rfl
  · exact .inr rfl
theorem name_len {l : List Nat} (h : Va.name l = true) : l.length ≤ 32 := by
  unfold Va.name Va.wordB at h
  simp only [Bool.and_eq_true, decide_eq_true_eq] at h
  exact h.2.2.1
theorem text_len2 {v : Va.Val} (hb : ∀ c ∈ v.s, c < 256) (h : Va.may v = true) : (Va.text v).length ≤ 258 := (Va.rguess_text hb h).2.1

set_option maxHeartbeats 4000000 in
theorem vFactText_any (r : ByteArray) (v : Value) (ts : List Va.Val) (hr : r.size ≤ 9223372036854775806) (hl : ts.length ≤ 140737488355328) (hok : ∀ x ∈ ts, x.Ok) (w : World) (h : VRow w v ts) (hG : GlobV w) :
    Calls Tryd.prog 40 #[.agg #[.string r, v]] w fun e w' => e = .returned (factV r ts) ∧ Mod [] w w' := by
  have hc := vCheckFact_any r v ts hr hl
  obtain ⟨a, c, rfl⟩ := h.lit
  have M0 := Lib.hid ((Mod.refl [] w).alloc (Obj.cells #[.string r, .slice a ts.length c] 34))
  have B0 := Lib.hid (heap_alloc_new w (Obj.cells #[.string r, .slice a ts.length c] 34))
  have HB : Hid (∀ (X : World) (vv : Value), X.heap[w.heap.size]? = some (.cells #[.string r, vv] 34 (0, 0)) → X.cell? ⟨w.heap.size, 0, none⟩ = some (.string r) ∧ X.cell? ⟨w.heap.size, 1, none⟩ = some vv) := Lib.hid (fun X vv h => by constructor <;> simp only [World.cell?, h] <;> rfl)
  have HR := Lib.hid h
  have HC := Lib.hid (hc _ (h.past M0.out (by simp)))
  unfold FactR at HC
  have hV : factV r ts = .tuple #[.string (Lx.ofS (if factB r ts = 0 then factT r ts else [])), .int .i64 (factB r ts)] := rfl
  have hk := fun h => factB_ok (r := r) (ts := ts) h
  have hcs := factB_cases r ts
  rw [hV]
  generalize factB r ts = fb at *
  clear h hc hV
  rcases hcs with rfl | rfl
  · rw [if_pos rfl]
    obtain ⟨hn, h8, hal⟩ := hk rfl
    have hrn := name_len hn
    have hr32 : r.size ≤ 32 := by rw [← Cod.str_len]; exact hrn
    clear hk hn hrn
    have HAL := Lib.hid (List.all_eq_true.1 hal); have HOK := Lib.hid hok
    clear hal hok
    go_enter Tryd.func40, Tryd.ntmps40
    go_wp2_with fail
    refine HC.out.mono ?_
    rintro e w1 ⟨rfl, m1⟩
    have M1 := Lib.hid (M0.out.trans m1 (by simp))
    have B1 := Lib.hid (m1.at B0.out (by simp))
    obtain ⟨c0, c1⟩ := HB.out _ _ B1.out
    clear m1 M0 B0 HC
    go_wp2_with fail
    go_loopw [5, 6] (fun ov iv wr => ∃ (o : ByteArray) (k : Nat), k ≤ ts.length ∧ ov = .string o ∧ iv = .int .i64 (k : Nat) ∧ Cod.str o = Cod.str r ++ (40 :: joinT ((ts.take k).map Va.text)) ∧ Mod [] w wr ∧ wr.heap[w.heap.size]? = some (.cells #[.string r, .slice a ts.length c] 34 (0, 0))) (fun _ iv _ => ts.length - (intOf iv).toNat)
    case atStart => exact ⟨_, 0, Nat.zero_le _, rfl, rfl, by rw [str_app]; rfl, M1.out, B1.out⟩
    case round =>
      obtain ⟨o, k, hk, rfl, rfl, ho, hmr, hbr⟩ := hrel
      have hos : o.size ≤ 5000 := by
        have h1 := congrArg List.length ho
        have h2 := joinT_len ((ts.take k).map Va.text) (fun x hx => by
          obtain ⟨y, hy, rfl⟩ := List.mem_map.1 hx
          have hy' := List.mem_of_mem_take hy
          exact text_len2 (HOK.out y hy').byte (HAL.out y hy'))
        rw [List.length_map, List.length_take] at h2
        rw [Cod.str_len, List.length_append, List.length_cons, Cod.str_len] at h1
        omega
      obtain ⟨d0, d1⟩ := HB.out _ _ hbr
      have HBR := Lib.hid hbr; have HMR := Lib.hid hmr
      clear hbr hmr c0 c1
      by_cases hlt : k < ts.length
      · have hkI : (k : Int) < (ts.length : Int) := by omega
        have hk0 : (0 : Int) ≤ (k : Int) := by omega
        obtain ⟨b, off, rfl, hv⟩ := (HR.out.past HMR.out (by simp)).at k hlt
        have hvo := HOK.out _ (List.getElem_mem hlt)
        have hvm := HAL.out _ (List.getElem_mem hlt)
        have htl := text_len2 hvo.byte hvm
        have hT := fun w hG => vText_any ts[k] hvo w hG
        have htx : txtV ts[k] = .tuple #[.string (Lx.ofS (Va.text ts[k])), .int .i64 0] := by unfold txtV chk; rw [hvm]; rfl
        have htlt : ∀ c ∈ Va.text ts[k], c < 256 := by
          intro c hc
          unfold Va.text at hc
          split at hc
          · exact Va.itoa_lt _ c hc
          · split at hc
            · exact hvo.byte c hc
            · unfold Va.quoted at hc
              rcases List.mem_cons.1 hc with rfl | hc
              · decide
              · rcases List.mem_append.1 hc with hc | hc
                · obtain ⟨d, hd, hcd⟩ := List.mem_flatMap.1 hc
                  exact qb_lt (hvo.byte d hd) c hcd
                · simp at hc; omega
        have hsn : joinT ((ts.take (k + 1)).map Va.text) = (if k = 0 then [] else joinT ((ts.take k).map Va.text) ++ [44, 32]) ++ Va.text ts[k] := by
          rw [List.take_succ_eq_append_getElem hlt, List.map_append, List.map_singleton, joinT_snoc]
          congr 1
          by_cases h : k = 0
          · subst h; simp
          · rw [if_neg h, if_neg (by
              intro he
              have := congrArg List.length he
              rw [List.length_map, List.length_take, List.length_nil] at this
              omega)]
        rw [htx] at hT
        unfold valV at hT
        obtain ⟨e0, e1, e2⟩ := hv
        generalize ts[k] = x at *
        generalize Va.text x = tx at *
        have hts : (Lx.ofS tx).size = tx.length := ofS_size _
        have HTS : Hid (Cod.str (Lx.ofS tx) = tx) := Lib.hid (Lx.str_ofS htlt)
        have HT := Lib.hid hT; have HSN := Lib.hid hsn; have HO := Lib.hid ho
        clear hT hsn ho htlt hvo hvm htx
        by_cases hk00 : k = 0
        · subst hk00
          simp only [Nat.zero_mul, Nat.zero_add, Nat.add_zero] at e0 e1 e2
          have hg := (hG.past HMR.out (by simp))
          have HGR := Lib.hid hg
          clear hg
          go_wp2_with fail
          refine (HT.out _ HGR.out).mono ?_
          rintro e w2 ⟨rfl, m2⟩
          have M2 := Lib.hid (HMR.out.trans m2 (by simp))
          have B2 := Lib.hid (m2.at HBR.out (by simp))
          clear m2
          go_wp2_with fail
          go_roundw
          case rel => exact ⟨_, 1, by omega, rfl, by go_num, by rw [str_app, HTS.out, HO.out, HSN.out]; simp [joinT], M2.out, B2.out⟩
          case measure => simp [intOf]; omega
        · have hkp : (k : Int) > 0 := by omega
          have HK0 := Lib.hid hk00
          have HGR := Lib.hid (hG.past HMR.out (by simp))
          clear hk00
          go_wp2_with fail
          refine (HT.out _ HGR.out).mono ?_
          rintro e w2 ⟨rfl, m2⟩
          have M2 := Lib.hid (HMR.out.trans m2 (by simp))
          have B2 := Lib.hid (m2.at HBR.out (by simp))
          clear m2
          go_wp2_with fail
          go_roundw
          case rel => exact ⟨_, k + 1, by omega, rfl, by go_num, by rw [str_app, str_app, HTS.out, HO.out, HSN.out, if_neg HK0.out]; simp; rfl, M2.out, B2.out⟩
          case measure => simp [intOf]; omega
      · obtain rfl : k = ts.length := by omega
        have hkI : ¬ (ts.length : Int) < (ts.length : Int) := by omega
        have HE : Hid (o ++ { data := #[41] } = Lx.ofS (factT r ts)) := Lib.hid (ofS_of (by
          rw [str_app, ho, List.take_length]
          unfold factT
          simp; rfl))
        clear ho
        go_wp2_with fail
        go_ret2
        exact ⟨by rw [← HE.out]; rfl, HMR.out⟩
  · rw [if_neg (by decide)]
    clear hk hok
    go_enter Tryd.func40, Tryd.ntmps40
    go_wp2_with fail
    refine HC.out.mono ?_
    rintro e w1 ⟨rfl, m1⟩
    go_wp2_with fail
    go_ret2
    exact ⟨rfl, M0.out.trans m1 (by simp)⟩
end Go.Proofs.YthdkaoegegiheaaDoor
