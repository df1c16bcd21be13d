/- THE REFERENCE's TEXTS: Parse. -/
import Derived.Test.YthdkaoegegiheaaDoorVaRefT2
import Derived.Test.YthdkaoegegiheaaDoorVaRefT3
import Derived.Test.YthdkaoegegiheaaDoorVaRefT4
import Derived.Test.YthdkaoegegiheaaDoorVaParse
import Derived.Deep.DeepCutAuto
import Derived.Test.YthdkaoegegiheaaDoorCodeR
namespace Go.Proofs.YthdkaoegegiheaaDoor
open Go.RowKit
set_option linter.unusedVariables false
set_option linter.unusedSimpArgs false
set_option maxRecDepth 100000

theorem rprs_none {l : List Nat} {v : Va.Val} (hg : Va.rguess l = some v) (h : ¬ (Va.may v = true ∧ Va.text v = l)) : Va.rparse l = none := by
  unfold Va.rparse
  split
  · rfl
  · rw [hg]; exact if_neg h
theorem rprs_some {l : List Nat} {v : Va.Val} (hl : ¬ (258 < l.length ∨ l = [])) (hg : Va.rguess l = some v) (h : Va.may v = true ∧ Va.text v = l) : Va.rparse l = some v := by
  unfold Va.rparse; rw [if_neg hl, hg]; exact if_pos h
theorem rprs_long {l : List Nat} (hl : 258 < l.length ∨ l = []) : Va.rparse l = none := by
  unfold Va.rparse; rw [if_pos hl]
theorem dec_rng : ∀ (l : List Nat) (i acc n : Nat), Va.dcF i acc l = some n → i ≤ 12 → acc < 10 ^ i → (∀ c ∈ l, c < 256) → n < 10 ^ 12
  | [], i, acc, n, h, hi, ha, _ => by
    simp only [Va.dcF, Option.some.injEq] at h
    subst h
    exact Nat.lt_of_lt_of_le ha (Nat.pow_le_pow_right (by decide) hi)
  | c :: r, i, acc, n, h, hi, ha, hb => by
    unfold Va.dcF at h
    split at h
    · rename_i hd
      have hc := (Va.digit_iff c).1 hd.1
      have hp : 10 ^ (i + 1) = 10 ^ i * 10 := Nat.pow_succ 10 i
      exact dec_rng r (i + 1) _ n h (by omega) (by omega) (fun x hx => hb x (by simp [hx]))
    · cases h
theorem dec_ok {l : List Nat} (hb : ∀ c ∈ l, c < 256) {n : Int} (h : Va.dec l = some n) : -9223372036854775808 ≤ n ∧ n ≤ 9223372036854775807 := by
  unfold Va.dec at h
  split at h
  · cases hd : Va.dcF 0 0 (l.drop 1) with
    | none => rw [hd] at h; cases h
    | some m =>
      rw [hd] at h
      have := dec_rng _ 0 0 m hd (by omega) (by decide) (fun c hc => hb c (List.mem_of_mem_drop hc))
      simp at h; omega
  · cases hd : Va.dcF 0 0 l with
    | none => rw [hd] at h; cases h
    | some m =>
      rw [hd] at h
      have := dec_rng _ 0 0 m hd (by omega) (by decide) hb
      simp at h; omega

set_option maxHeartbeats 8000000 in
theorem vParse_any (s : ByteArray) (hs : s.size ≤ 140737488355327) (w : World) (hG : GlobV w) :
    Calls Tryd.prog 41 #[.string s] w fun e w' => e = .returned (prsV (Va.rparse (Cod.str s))) ∧ Mod [] w w' := by
  have hln := Cod.str_len s
  have hem := toList_isEmpty s
  by_cases hbig : 258 < s.size
  · have hI : (258 : Int) < (s.size : Int) := by omega
    have HE := Lib.hid (rprs_long (l := Cod.str s) (.inl (by omega)))
    clear hln hem
    go_enter Tryd.func41, Tryd.ntmps41
    go_wp2_with fail
    refine bodyPost_ret (res_val rfl _ _ _ _ _ _ _ rfl rfl (heap_alloc_new w _) rfl) rfl ⟨by rw [HE.out]; rfl, (Mod.refl [] w).alloc _⟩
  · have hI : ¬ (258 : Int) < (s.size : Int) := by omega
    by_cases hz : s.size = 0
    · have HE := Lib.hid (rprs_long (l := Cod.str s) (.inr (List.eq_nil_of_length_eq_zero (by omega))))
      have hem2 : s.toList.isEmpty = true := by rw [hem, decide_eq_true hz]
      clear hln hem hz
      go_enter Tryd.func41, Tryd.ntmps41
      go_wp2_with fail
      refine bodyPost_ret (res_val rfl _ _ _ _ _ _ _ rfl rfl (heap_alloc_new w _) rfl) rfl ⟨by rw [HE.out]; rfl, (Mod.refl [] w).alloc _⟩
    · have hem2 : s.toList.isEmpty = false := by rw [hem, decide_eq_false hz]
      have hp0 : 0 < s.size := by omega
      have hp0I : (0 : Int) < (s.size : Int) := by omega
      have HL := Lib.hid (show ¬ (258 < (Cod.str s).length ∨ Cod.str s = []) from by
        rintro (h | h)
        · omega
        · rw [h] at hln; simp at hln; omega)
      have hl0 : 0 < (Cod.str s).length := by omega
      have hby : s[0].toNat = (Cod.str s).headD 0 := by
        have := Lx.get_str s 0 hp0
        rw [← this, List.getD_eq_getElem?_getD, List.headD_eq_head?_getD, List.head?_eq_getElem?]
      have hc0 : (Cod.str s).headD 0 < 256 := by
        rw [List.headD_eq_head?_getD, List.head?_eq_getElem?, List.getElem?_eq_getElem hl0]; exact Cod.str_lt s _ (List.getElem_mem _)
      have HDEC := Lib.hid (fun w => decimal_any s hp0 (by omega) w)
      have HUNQ := Lib.hid (fun w => vunquoted_any s (by omega) (by omega) w)
      have HBL := Lib.hid (Cod.str_lt s)
      have HOS := Lib.hid (Lx.ofS_str s)
      have HRG : Hid (Va.rguess (Cod.str s) = if (Cod.str s).headD 0 = 45 ∨ Lx.digit ((Cod.str s).headD 0) = true then (Va.dec (Cod.str s)).map (fun n => ⟨1, n, []⟩) else if (Cod.str s).headD 0 = 34 then some ⟨2, 0, Va.ruq (Cod.str s)⟩ else some ⟨2, 0, Cod.str s⟩) := Lib.hid rfl
      have HRN : Hid (Va.rguess (Cod.str s) = none → Va.rparse (Cod.str s) = none) := Lib.hid (fun h => by unfold Va.rparse; rw [h]; split <;> rfl)
      have HDOK := Lib.hid (fun n h => dec_ok (Cod.str_lt s) (n := n) h)
      have HRB : Hid (∀ c ∈ Va.ruq (Cod.str s), c < 256) := Lib.hid (Va.ruqF_lt _ _ (fun c hc => Cod.str_lt s c (List.mem_of_mem_drop hc)))
      generalize (Cod.str s).headD 0 = c0 at *
      have hP2 := heap_alloc_new w (Obj.cells #[Value.int IntKind.i64 0, Value.int IntKind.i64 0, Value.string { data := #[] }] 23)
      have hm2 := (Mod.refl [] w).alloc (Obj.cells #[Value.int IntKind.i64 0, Value.int IntKind.i64 0, Value.string { data := #[] }] 23)
      have hP4 := heap_alloc_new (w.alloc (Obj.cells #[Value.int IntKind.i64 0, Value.int IntKind.i64 0, Value.string { data := #[] }] 23)) (Obj.cells #[Value.int IntKind.i64 2, Value.int IntKind.i64 0, Value.string s] 23)
      have hm4 := (Mod.refl [] (w.alloc (Obj.cells #[Value.int IntKind.i64 0, Value.int IntKind.i64 0, Value.string { data := #[] }] 23))).alloc (Obj.cells #[Value.int IntKind.i64 2, Value.int IntKind.i64 0, Value.string s] 23)
      have hsz2 : (w.alloc (Obj.cells #[Value.int IntKind.i64 0, Value.int IntKind.i64 0, Value.string { data := #[] }] 23)).heap.size = w.heap.size + 1 := by simp
      rw [hsz2] at hP4
      have P2 := Lib.hid (hm4.at hP2 (by simp))
      have P4 := Lib.hid hP4
      have M4 := Lib.hid (hm2.trans hm4 (by simp))
      clear hln hem hz hbig hl0 hP2 hm2 hP4 hm4 hsz2
      go_enter Tryd.func41, Tryd.ntmps41
      go_upto_if 21 with fail
      generalize (w.alloc (Obj.cells #[Value.int IntKind.i64 0, Value.int IntKind.i64 0, Value.string { data := #[] }] 23)).alloc (Obj.cells #[Value.int IntKind.i64 2, Value.int IntKind.i64 0, Value.string s] 23) = w4 at *
      obtain ⟨uv, huv⟩ : ∃ uv : Va.Val, uv = if c0 = 34 then ⟨2, 0, Va.ruq (Cod.str s)⟩ else ⟨2, 0, Cod.str s⟩ := ⟨_, rfl⟩
      have HUV := Lib.hid huv
      clear huv
      go_cut [] (fun wx => wx.heap[w.heap.size + 1]? = some (.cells (valV uv) 23 (0, 0)) ∧ wx.heap[w.heap.size]? = some (Obj.cells #[Value.int IntKind.i64 0, Value.int IntKind.i64 0, Value.string { data := #[] }] 23 (0, 0)) ∧ Mod [] w wx)
      case first =>
        by_cases c34 : c0 = 34
        · have hB : ((c0 : Int) == 34) = true := by rw [c34]; rfl
          have HU := Lib.hid (HUV.out.trans (if_pos c34))
          clear c34
          go_wp2_with fail
          refine (HUNQ.out _).mono ?_
          rintro e w5 ⟨rfl, m5⟩
          have hX := m5.at P4.out (by simp)
          have P25 := Lib.hid (m5.at P2.out (by simp))
          have M5 := Lib.hid (M4.out.trans m5 (by simp))
          have fz : ∀ j, w5.frozen? ⟨w.heap.size + 1, j, none⟩ = false := fun j => by simp [World.frozen?, hX]
          have f0 : w5.cell? ⟨w.heap.size + 1, 2, none⟩ = some (.string s) := by simp only [World.cell?, hX]; rfl
          have hst := setCell_at hX 2 (.string (Lx.ofS (Va.ruq (Cod.str s))))
          have hms := mod_one w5 (w.heap.size + 1) 2 (.string (Lx.ofS (Va.ruq (Cod.str s))))
          have HST : Hid ((w5.setCell ⟨w.heap.size + 1, 2, none⟩ (.string (Lx.ofS (Va.ruq (Cod.str s))))).heap[w.heap.size + 1]? = some (.cells (valV uv) 23 (0, 0))) := Lib.hid (by rw [hst, HU.out]; rfl)
          have P26 := Lib.hid (hms.at P25.out (by simp))
          have M6 := Lib.hid (M5.out.trans hms (fun t ht => .inr (by simp at ht; omega)))
          clear hst hms m5 hX
          go_wp2_with fail
          go_meet
          exact ⟨HST.out, P26.out, M6.out⟩
        · have hB : ((c0 : Int) == 34) = false := by rw [beq_eq_false_iff_ne]; omega
          have HU := Lib.hid (HUV.out.trans (if_neg c34))
          clear c34
          go_wp2_with fail
          go_meet
          exact ⟨by rw [HU.out]; unfold valV; rw [HOS.out]; exact P4.out, P2.out, M4.out⟩
      case rest =>
        obtain ⟨hX, hz, hm⟩ := hcut
        have P4 := Lib.hid hX; have P2 := Lib.hid hz; have M5 := Lib.hid hm
        clear hX hz hm
        obtain ⟨m, hm⟩ : ∃ m : Bool, m = (decide (c0 = 45) || Lx.digit c0) := ⟨_, rfl⟩
        go_upto_region 6 with fail
        go_cut [32] (fun cv wx => cv = .bool m ∧ wx = wc)
        case first =>
          by_cases c45 : c0 = 45
          · have hB : ((c0 : Int) == 45) = true := by rw [c45]; rfl
            obtain rfl : m = true := by rw [hm, decide_eq_true c45]; rfl
            clear c45 hm
            go_wp2_with fail
            go_meet
            exact ⟨rfl, rfl⟩
          · have hB : ((c0 : Int) == 45) = false := by rw [beq_eq_false_iff_ne]; omega
            obtain rfl : m = Lx.digit c0 := by rw [hm, decide_eq_false c45]; rfl
            have HD := Lib.hid (fun b hb w => vdigit_any c0 b hb w)
            cases hd : Lx.digit c0
            · clear c45 hm
              go_wp2_with fail
              refine (HD.out _ hd _).mono ?_
              rintro e w5 ⟨rfl, rfl⟩
              have HDD := Lib.hid hd
              clear hd
              go_wp2_with fail
              go_meet
              exact ⟨by rw [HDD.out], rfl⟩
            · clear c45 hm
              go_wp2_with fail
              refine (HD.out _ hd _).mono ?_
              rintro e w5 ⟨rfl, rfl⟩
              have HDD := Lib.hid hd
              clear hd
              go_wp2_with fail
              go_meet
              exact ⟨by rw [HDD.out], rfl⟩
        case rest =>
         obtain ⟨rfl, rfl⟩ := hcut
         go_upto_if 32 with fail
         go_cut [] (fun wx => ∃ v : Va.Val, Va.rguess (Cod.str s) = some v ∧ v.Ok ∧ wx.heap[w.heap.size + 1]? = some (.cells (valV v) 23 (0, 0)) ∧ wx.heap[w.heap.size]? = some (Obj.cells #[Value.int IntKind.i64 0, Value.int IntKind.i64 0, Value.string { data := #[] }] 23 (0, 0)) ∧ Mod [] w wx)
         case first =>
          cases m
          · have hm2 := hm.symm
            rw [Bool.or_eq_false_iff, decide_eq_false_iff_not] at hm2
            obtain ⟨c45, hd⟩ := hm2
            have hr := HRG.out.trans (if_neg (by rw [hd]; simp; exact c45))
            have HR : Hid (Va.rguess (Cod.str s) = some uv ∧ uv.Ok) := Lib.hid (by
              by_cases c34 : c0 = 34
              · rw [if_pos c34] at hr
                rw [HUV.out, if_pos c34]
                exact ⟨hr, HRB.out, by simp, by simp⟩
              · rw [if_neg c34] at hr
                rw [HUV.out, if_neg c34]
                exact ⟨hr, HBL.out, by simp, by simp⟩)
            clear c45 hd hr hm
            go_wp2_with fail
            go_meet
            exact ⟨uv, HR.out.1, HR.out.2, P4.out, P2.out, M5.out⟩
          · have HR := Lib.hid (HRG.out.trans (if_pos (by
              have hm2 := hm.symm
              rw [Bool.or_eq_true, decide_eq_true_eq] at hm2
              exact hm2)))
            clear hm

            generalize Va.dec (Cod.str s) = dv at *
            cases dv with
            | none =>
              have HE := Lib.hid (HRN.out HR.out)
              have fz : ∀ j, wc.frozen? ⟨w.heap.size, j, none⟩ = false := fun j => by simp [World.frozen?, P2.out]
              have d0 : wc.cell? ⟨w.heap.size, 0, none⟩ = some (.int .i64 0) := by simp [World.cell?, P2.out]
              have d1 : wc.cell? ⟨w.heap.size, 1, none⟩ = some (.int .i64 0) := by simp [World.cell?, P2.out]
              have d2 : wc.cell? ⟨w.heap.size, 2, none⟩ = some (.string ⟨#[]⟩) := by simp [World.cell?, P2.out]
              go_wp2_with fail
              refine (HDEC.out _).mono ?_
              rintro e w5 ⟨rfl, rfl⟩
              rw [decV]
              go_wp2_with fail
              refine bodyPost_ret (res_val rfl _ _ _ _ _ _ _ rfl rfl (vstore3 P2.out _ _ _) rfl) rfl ⟨by rw [HE.out]; rfl, vmod3 M5.out (.inr (Nat.le_refl _)) _ _ _⟩
            | some n =>
              have hrn := HDOK.out n rfl
              have hX := P4.out
              have HVO : Hid ((⟨1, n, []⟩ : Va.Val).Ok) := Lib.hid ⟨by simp, hrn.1, hrn.2⟩
              have fz : ∀ j, wc.frozen? ⟨w.heap.size + 1, j, none⟩ = false := fun j => by simp [World.frozen?, hX]
              unfold valV at hX
              have d0 : wc.cell? ⟨w.heap.size + 1, 0, none⟩ = some (.int .i64 uv.k) := by simp [World.cell?, hX]
              have d1 : wc.cell? ⟨w.heap.size + 1, 1, none⟩ = some (.int .i64 uv.n) := by simp [World.cell?, hX]
              have d2 : wc.cell? ⟨w.heap.size + 1, 2, none⟩ = some (.string (Lx.ofS uv.s)) := by simp [World.cell?, hX]
              have HST := Lib.hid (vstore3 hX (.int .i64 1) (.int .i64 n) (.string { data := #[] }))
              have hms := vmod3 (b := w.heap.size + 1) (Mod.refl [w.heap.size + 1] wc) (.inl (by simp)) (.int .i64 1) (.int .i64 n) (.string { data := #[] })
              have P26 := Lib.hid (hms.at P2.out (by simp))
              have M6 := Lib.hid (M5.out.trans hms (fun t ht => .inr (by simp at ht; omega)))
              clear hms hX hrn
              go_wp2_with fail
              refine (HDEC.out _).mono ?_
              rintro e w5 ⟨rfl, rfl⟩
              rw [decV]
              go_wp2_with fail
              go_meet
              exact ⟨⟨1, n, []⟩, HR.out, HVO.out, HST.out, P26.out, M6.out⟩
         case rest =>
          obtain ⟨v, hrg, hvo, hX, hz, hm⟩ := hcut
          have HRG2 := Lib.hid hrg; have P4c := Lib.hid hX; have P2c := Lib.hid hz; have M6 := Lib.hid hm
          have hT := fun w hG => vText_any v hvo w hG
          have hvb := hvo.byte
          have hlen : Va.may v = true → (Va.text v).length ≤ 258 := fun h => text_len2 hvb h
          have c0' : wc.cell? ⟨w.heap.size + 1, 0, none⟩ = some (.int .i64 v.k) := by simp only [World.cell?, hX]; rfl
          have c1 : wc.cell? ⟨w.heap.size + 1, 1, none⟩ = some (.int .i64 v.n) := by simp only [World.cell?, hX]; rfl
          have c2 : wc.cell? ⟨w.heap.size + 1, 2, none⟩ = some (.string (Lx.ofS v.s)) := by simp only [World.cell?, hX]; rfl
          have hres : ∀ X : World, X.heap[w.heap.size]? = some (Obj.cells #[Value.int IntKind.i64 0, Value.int IntKind.i64 0, Value.string { data := #[] }] 23 (0, 0)) → (∀ j, X.frozen? ⟨w.heap.size, j, none⟩ = false) ∧ X.cell? ⟨w.heap.size, 0, none⟩ = some (.int .i64 0) ∧ X.cell? ⟨w.heap.size, 1, none⟩ = some (.int .i64 0) ∧ X.cell? ⟨w.heap.size, 2, none⟩ = some (.string ⟨#[]⟩) := fun X h => ⟨fun j => by simp [World.frozen?, h], by simp [World.cell?, h], by simp [World.cell?, h], by simp [World.cell?, h]⟩
          have HRES := Lib.hid hres
          unfold txtV at hT
          unfold valV at hT
          clear hrg hX hz hm hres hvo
          cases hmv : Va.may v
          · have hck : chk v = 20 := by unfold chk; rw [hmv]; rfl
            have HE := Lib.hid (rprs_none HRG2.out (by rw [hmv]; simp))
            rw [hck, hmv] at hT
            have HT := Lib.hid hT
            clear hT hck hmv hlen
            go_wp2_with fail
            refine (HT.out _ (hG.past M6.out (by simp))).mono ?_
            rintro e w5 ⟨rfl, m5⟩
            have P25 := Lib.hid (m5.at P2c.out (by simp))
            have M7 := Lib.hid (M6.out.trans m5 (by simp))
            obtain ⟨fz, d0, d1, d2⟩ := HRES.out _ P25.out
            clear m5 c0' c1 c2
            go_wp2_with fail
            refine bodyPost_ret (res_val rfl _ _ _ _ _ _ _ rfl rfl (vstore3 P25.out _ _ _) rfl) rfl ⟨by rw [HE.out]; rfl, vmod3 M7.out (.inr (Nat.le_refl _)) _ _ _⟩
          · have hck : chk v = 0 := by unfold chk; rw [hmv]; rfl
            have heq := ofS_eq (Va.text v) s (text_lt hvb)
            rw [hck, hmv, if_pos rfl] at hT
            have HT := Lib.hid hT
            clear hT hck hlen
            by_cases hte : Va.text v = Cod.str s
            · have HE := Lib.hid (rprs_some HL.out HRG2.out ⟨hmv, hte⟩)
              rw [decide_eq_true hte] at heq
              clear hmv hte
              go_wp2_with fail
              refine (HT.out _ (hG.past M6.out (by simp))).mono ?_
              rintro e w5 ⟨rfl, m5⟩
              replace c0' := m5.cell c0' (by simp)
              replace c1 := m5.cell c1 (by simp)
              replace c2 := m5.cell c2 (by simp)
              have P25 := Lib.hid (m5.at P2c.out (by simp))
              have M7 := Lib.hid (M6.out.trans m5 (by simp))
              obtain ⟨fz, d0, d1, d2⟩ := HRES.out _ P25.out
              clear m5
              go_wp2_with fail
              all_goals first
                | (refine bodyPost_ret (res_val rfl _ _ _ _ _ _ _ rfl rfl (vstore3 P25.out _ _ _) rfl) rfl ⟨by rw [HE.out]; rfl, vmod3 M7.out (.inr (Nat.le_refl _)) _ _ _⟩; done)
                | (exfalso; simp_all; done)
            · have HE := Lib.hid (rprs_none HRG2.out (fun h => hte h.2))
              rw [decide_eq_false hte] at heq
              clear hmv hte
              go_wp2_with fail
              refine (HT.out _ (hG.past M6.out (by simp))).mono ?_
              rintro e w5 ⟨rfl, m5⟩
              have P25 := Lib.hid (m5.at P2c.out (by simp))
              have M7 := Lib.hid (M6.out.trans m5 (by simp))
              obtain ⟨fz, d0, d1, d2⟩ := HRES.out _ P25.out
              clear m5 c0' c1 c2
              go_wp2_with fail
              refine bodyPost_ret (res_val rfl _ _ _ _ _ _ _ rfl rfl (vstore3 P25.out _ _ _) rfl) rfl ⟨by rw [HE.out]; rfl, vmod3 M7.out (.inr (Nat.le_refl _)) _ _ _⟩
end Go.Proofs.YthdkaoegegiheaaDoor
