/- value.FactText. -/
import Derived.Test.YthdkaoegegiheaaDoorVaRefT4
import Derived.Test.YthdkaoegegiheaaDoorVaLent
import Derived.Test.YthdkaoegegiheaaDoorShelf
import Derived.Deep.RegionHeld3
namespace Go.Proofs.YthdkaoegegiheaaDoor
open Go.RowKit
set_option linter.unusedVariables false
set_option linter.unusedSimpArgs false
set_option maxRecDepth 100000

theorem Tryd.infoStr : (Tryd.prog.info? 9).map (fun i => (i.zero, i.size, i.bytes)) = some (some (.string { data := #[] }), 1, 16) := by kernel_rfl
/-- texts as cells, the first k of them written -/
def tv (v : Va.Val) : Value := .string (Lx.ofS (Va.text v))
def strsA (ts : List Va.Val) (k : Nat) : List Value := (ts.take k).map tv ++ List.replicate (ts.length - k) (.string { data := #[] })
theorem strsA_zero (ts : List Va.Val) : strsA ts 0 = List.replicate ts.length (.string { data := #[] }) := by simp [strsA]
theorem strsA_len (ts : List Va.Val) (k : Nat) (hk : k ≤ ts.length) : (strsA ts k).length = ts.length := by simp [strsA]; omega
theorem strsA_set (ts : List Va.Val) (k : Nat) (hk : k < ts.length) : (strsA ts k).set k (tv ts[k]) = strsA ts (k + 1) := by
  unfold strsA
  have hl : ((ts.take k).map tv).length = k := by simp; omega
  rw [List.set_append_right _ _ (by omega), hl, Nat.sub_self, List.take_succ_eq_append_getElem hk, List.map_append, List.append_assoc]
  congr 1
  obtain ⟨m, hm⟩ : ∃ m, ts.length - k = m + 1 := ⟨ts.length - k - 1, by omega⟩
  rw [hm, List.replicate_succ, List.set_cons_zero, show ts.length - (k + 1) = m by omega]
  rfl
theorem strsA_full (ts : List Va.Val) : strsA ts ts.length = ts.map tv := by simp [strsA]
theorem strsA_at (ts : List Va.Val) (k : Nat) (hk : k < ts.length) : (strsA ts k)[k]? = some (.string { data := #[] }) := by
  unfold strsA
  have hl : ((ts.take k).map tv).length = k := by simp; omega
  rw [List.getElem?_append_right (by omega), hl, Nat.sub_self, List.getElem?_replicate, if_pos (by omega)]
theorem u8_back (l : List UInt8) : l.map UInt8.toNat = Cod.str ⟨l.toArray⟩ := by simp [Cod.str]
theorem made_one (x : Value) (n : Nat) : (madeCells #[x] n).toList = List.replicate n x := by
  apply List.ext_getElem?
  intro j
  rw [Array.getElem?_toList, List.getElem?_replicate]
  by_cases h : j < n
  · simp [madeCells, h, Nat.mod_one]
  · simp [madeCells, h]
/-- strings.Join over the texts -/
theorem join_any (g c : Nat) (ts : List Va.Val) (hok : ∀ x ∈ ts, ∀ b ∈ Va.text x, b < 256) (h8 : ts.length ≤ 8) (hlen : ∀ x ∈ ts, (Va.text x).length ≤ 258) (hc : ts.length ≤ c) (w : World) (h : w.heap[g]? = some (.cells (ts.map tv).toArray 9 (0, 0))) :
    Calls Tryd.prog 79 #[.slice (some ⟨g, 0, none⟩) ts.length c, .string { data := #[44, 32] }] w fun e w' => ∃ o, e = .returned (.string o) ∧ Cod.str o = joinT (ts.map Va.text) ∧ Mod [] w w' := by
  cases ts with
  | nil =>
    refine (Tryd.strings_Join_none (some ⟨g, 0, none⟩) c { data := #[44, 32] } w).mono ?_
    rintro e w' ⟨rfl, rfl⟩
    exact ⟨_, rfl, rfl, Mod.refl _ _⟩
  | cons t r =>
    have hmap : ∀ l : List Va.Val, (∀ x ∈ l, ∀ b ∈ Va.text x, b < 256) → (Lib.join ((l.map fun v => Lx.ofS (Va.text v)).map (·.data.toList)) [44, 32]).map UInt8.toNat = joinT (l.map Va.text) := by
      intro l hl
      unfold Lib.join joinT List.intercalate
      rw [List.map_flatten]
      congr 1
      induction l with
      | nil => rfl
      | cons x l ih =>
        have hx : ((Lx.ofS (Va.text x)).data.toList).map UInt8.toNat = Va.text x := Lx.str_ofS (hl x (by simp))
        cases l with
        | nil => simpa [List.intersperse] using hx
        | cons y l =>
          have ih' := ih (fun z hz => hl z (by simp [hz]))
          simp only [List.map_cons, List.intersperse] at ih' ⊢
          rw [hx, ih']
          rfl
    have hb := hmap (t :: r) hok
    have hlj : (Lib.join (((t :: r).map fun v => Lx.ofS (Va.text v)).map (·.data.toList)) [44, 32]).length ≤ 5000 := by
      have h1 := congrArg List.length hb
      have h2 := joinT_len ((t :: r).map Va.text) (fun x hx => by
        obtain ⟨y, hy, rfl⟩ := List.mem_map.1 hx
        exact hlen y hy)
      rw [List.length_map] at h1 h2
      omega
    have hJ := Tryd.strings_Join g 0 c ((t :: r).map fun v => Lx.ofS (Va.text v)) { data := #[44, 32] } w (fun j x hx => by
      rw [Nat.zero_add]
      simp only [World.cell?, h, List.getElem?_toArray]
      rw [List.getElem?_map] at hx ⊢
      cases hq : (t :: r)[j]? with
      | none => rw [hq] at hx; cases hx
      | some v => rw [hq] at hx; simp at hx; subst hx; rfl) (lt_of_block h) (by simp at h8 ⊢; omega) (by simpa using hc) (by
        show (Lib.join _ [44, 32]).length ≤ _
        omega)
    rw [List.length_map] at hJ
    refine hJ.mono ?_
    rintro e w' ⟨rfl, hb2⟩
    refine ⟨_, rfl, ?_, Mod.of_below hb2⟩
    rw [← u8_back]
    exact hb

set_option maxHeartbeats 8000000 in
theorem FactText_any (r : ByteArray) (v : Value) (ts : List Va.Val) (hr : r.size ≤ 9223372036854775806) (hl : ts.length ≤ 140737488355328) (hok : ∀ x ∈ ts, x.Ok) (w : World) (h : VRow w v ts) (hG : GlobV w) :
    Calls Tryd.prog 38 #[.agg #[.string r, v]] w fun e w' => e = .returned (factV r ts) ∧ Mod [] w w' := by
  obtain ⟨i0, hinf, hz0, hz1, hz2⟩ := info_parts Tryd.infoStr
  have hc := CheckFact_any r v ts hr hl
  obtain ⟨a, c, rfl⟩ := h.lit
  have M0 := Lib.hid ((Mod.refl [] w).alloc (Obj.cells #[.string r, .slice a ts.length c] 34))
  have B0 := Lib.hid (heap_alloc_new w (Obj.cells #[.string r, .slice a ts.length c] 34))
  have HB : Hid (∀ (X : World) (vv : Value), X.heap[w.heap.size]? = some (.cells #[.string r, vv] 34 (0, 0)) → X.cell? ⟨w.heap.size, 0, none⟩ = some (.string r) ∧ X.cell? ⟨w.heap.size, 1, none⟩ = some vv) := Lib.hid (fun X vv h => by constructor <;> simp only [World.cell?, h] <;> rfl)
  have HR := Lib.hid h
  have HC := Lib.hid (hc _ (h.past M0.out (by simp)))
  unfold FactR at HC
  have hV : factV r ts = .tuple #[.string (Lx.ofS (if factB r ts = 0 then factT r ts else [])), .int .i64 (factB r ts)] := rfl
  have hk := fun h => factB_ok (r := r) (ts := ts) h
  have hcs := factB_cases r ts
  rw [hV]
  generalize factB r ts = fb at *
  clear h hc hV
  rcases hcs with rfl | rfl
  · rw [if_pos rfl]
    obtain ⟨hn, h8, hal⟩ := hk rfl
    have hrn := name_len hn
    have hr32 : r.size ≤ 32 := by rw [← Cod.str_len]; exact hrn
    clear hk hn hrn
    have HAL := Lib.hid (List.all_eq_true.1 hal); have HOK := Lib.hid hok
    clear hal hok
    go_enter Tryd.func38, Tryd.ntmps38
    go_wp2_with fail
    refine HC.out.mono ?_
    rintro e w1 ⟨rfl, m1⟩
    have M1 := Lib.hid (M0.out.trans m1 (by simp))
    have B1 := Lib.hid (m1.at B0.out (by simp))
    obtain ⟨c0, c1⟩ := HB.out _ _ B1.out
    clear m1 M0 B0 HC
    go_wp2_with (at_make; refine wpList_make_full _ rfl _ _ 114 rfl 0 9 i0 (.string { data := #[] }) 1 Tryd.underlying114 hinf hz0 hz1 .i64 .i64 _ _ ts.length rfl rfl (by omega) (by omega) (by rw [hz2]; omega) (by unfold maxLen; omega) (Nat.zero_le _) ?_)
    intro w2 hown hg2
    have hat : w2.heap[w1.heap.size]? = some (.cells (strsA ts 0).toArray 9 (0, 0)) := by
      rcases hown.2 with ⟨hv, _⟩ | ⟨g', cap', cur, hv, _, hat, _, _, hcs, htk⟩
      · cases hv
      · cases hv
        rw [hat]
        congr 2
        apply Array.ext'
        have e1 : cur.toList.length = ts.length := Array.length_toList.trans (by omega)
        rw [made_one] at htk
        rw [strsA_zero]
        have e2 : cur.toList.take cur.toList.length = List.replicate ts.length (.string { data := #[] }) := by
          rw [e1]; simpa using htk
        rwa [List.take_length] at e2
    have m2 := (Mod.refl [] w1).grown hg2 (by simp)
    have M2 := Lib.hid (M1.out.trans m2 (by simp))
    have B2 := Lib.hid (m2.at B1.out (by simp))
    have A2 := Lib.hid hat
    have hgs : w.heap.size < w1.heap.size := lt_of_block B1.out
    clear hown hg2 hat m2 c0 c1
    obtain ⟨c0, c1⟩ := HB.out _ _ B2.out
    generalize w1.heap.size = g at *
    go_wp2_with fail
    go_loopw [20] (fun iv wr => ∃ k : Nat, k ≤ ts.length ∧ iv = .int .i64 (k : Nat) ∧ wr.heap[g]? = some (.cells (strsA ts k).toArray 9 (0, 0)) ∧ Mod [] w wr ∧ wr.heap[w.heap.size]? = some (.cells #[.string r, .slice a ts.length c] 34 (0, 0))) (fun iv _ => ts.length - (intOf iv).toNat)
    case atStart => exact ⟨0, Nat.zero_le _, rfl, A2.out, M2.out, B2.out⟩
    case round =>
      obtain ⟨k, hk, rfl, hA, hmr, hbr⟩ := hrel
      clear c0 c1
      obtain ⟨c0, c1⟩ := HB.out _ _ hbr
      have HBR := Lib.hid hbr; have HMR := Lib.hid hmr; have HA := Lib.hid hA
      clear hbr hmr hA
      by_cases hlt : k < ts.length
      · have hkI : (k : Int) < (ts.length : Int) := by omega
        have hk0 : (0 : Int) ≤ (k : Int) := by omega
        obtain ⟨b, off, rfl, hv⟩ := (HR.out.past HMR.out (by simp)).at k hlt
        have hvo := HOK.out _ (List.getElem_mem hlt)
        have hvm := HAL.out _ (List.getElem_mem hlt)
        have hT := fun w hG => text_any ts[k] hvo (by have := may_len hvm; omega) w hG
        have hset := strsA_set ts k hlt
        unfold tv at hset
        unfold valV at hT
        obtain ⟨e0, e1, e2⟩ := hv
        generalize ts[k] = x at *
        generalize Va.text x = tx at *
        have HT := Lib.hid hT; have HSET := Lib.hid hset
        have hma := (Mod.refl [] wr).alloc (Obj.cells #[Value.int IntKind.i64 x.k, Value.int IntKind.i64 x.n, Value.string (Lx.ofS x.s)] 23)
        have MA := Lib.hid (HMR.out.trans hma (by simp))
        have BA := Lib.hid (hma.at HBR.out (by simp))
        have AA := Lib.hid (hma.at HA.out (by simp))
        have GA := Lib.hid (hG.past MA.out (by simp))
        have hat0 := strsA_at ts k hlt
        clear hT hset hma hvo hvm
        go_wp2_with fail
        refine (HT.out _ GA.out).mono ?_
        rintro e w3 ⟨rfl, m3⟩
        have M3 := Lib.hid (MA.out.trans m3 (by simp))
        have B3 := Lib.hid (m3.at BA.out (by simp))
        have A3 := m3.at AA.out (by simp)
        have fz : ∀ j, w3.frozen? ⟨g, j, none⟩ = false := fun j => by simp [World.frozen?, A3]
        have f0 : w3.cell? ⟨g, k, none⟩ = some (.string { data := #[] }) := by simp only [World.cell?, A3, List.getElem?_toArray, hat0]; rfl
        have hst := setCell_at A3 k (.string (Lx.ofS tx))
        have hms := Mod.setCell (p := ⟨g, k, none⟩) (Mod.refl [g] w3) (.inl List.mem_cons_self) (.string (Lx.ofS tx))
        have A4 : Hid ((w3.setCell ⟨g, k, none⟩ (.string (Lx.ofS tx))).heap[g]? = some (.cells (strsA ts (k + 1)).toArray 9 (0, 0))) := Lib.hid (by
          rw [hst, List.setIfInBounds_toArray, HSET.out])
        have M4 := Lib.hid (M3.out.trans hms (fun t ht => .inr (by simp at ht; omega)))
        have B4 := Lib.hid (hms.at B3.out (by simp; omega))
        clear m3 hst hms A3 hat0 e0 e1 e2
        go_wp2_with fail
        go_roundw
        case rel => exact ⟨k + 1, by omega, by go_num, A4.out, M4.out, B4.out⟩
        case measure => simp [intOf]; omega
      · obtain rfl : k = ts.length := by omega
        have hkI : ¬ (ts.length : Int) < (ts.length : Int) := by omega
        have hA := HA.out
        rw [strsA_full] at hA
        have hJ := fun w h => join_any g ts.length ts (fun x hx => text_lt (HOK.out x hx).byte) h8 (fun x hx => text_len2 (HOK.out x hx).byte (HAL.out x hx)) (Nat.le_refl _) w h
        have HJ := Lib.hid hJ
        have HAD := Lib.hid ((Mod.refl [] wr).drew.at hA (by simp))
        have HBD := Lib.hid (HB.out _ _ ((Mod.refl [] wr).drew.at HBR.out (by simp)))
        have HMD := Lib.hid HMR.out.drew
        have hls : ∀ o : ByteArray, Cod.str o = joinT (ts.map Va.text) → o.size ≤ 5000 := fun o ho => by
          have h1 := congrArg List.length ho
          have h2 := joinT_len (ts.map Va.text) (fun x hx => by
            obtain ⟨y, hy, rfl⟩ := List.mem_map.1 hx
            exact text_len2 (HOK.out y hy).byte (HAL.out y hy))
          rw [List.length_map] at h2
          rw [Cod.str_len] at h1
          omega
        have HLS := Lib.hid hls
        have hadd1 : ¬ 9223372036854775807 < r.size + 1 := by omega
        clear hJ hA hls
        go_wp2_with fail
        refine wp_region_held_drew (S := (fun w' : World => w'.cell? ⟨w.heap.size, 0, none⟩ = some (.string r))) (by kernel_rfl) (by (try dsimp only); exact HBD.out.1) (fun hHeld => ?_)
        refine wpAnyH_take (i := 0) (oi := ?_) (v := ?_) ?_ ?_ ?_ ?_ ?_ ?_ (by assumption) ?_
        rotate_left 2
        · (simp only [List.getElem?_toArray, List.getElem?_cons_succ, List.getElem?_cons_zero]) <;> rfl
        · kernel_rfl
        · kernel_rfl
        · kernel_rfl
        rotate_left 1
        · refine Or.inl ⟨by rfl, ?_⟩
          intro w hSw
          (try dsimp only at hSw)
          go_simp
          all_goals with_reducible rfl
        rotate_left 1
        · exact fun _ _ _ h => h
        try simp only [Act.put, List.setIfInBounds_toArray, List.set_cons_zero, List.set_cons_succ]
        refine wpAnyH_take (i := 1) (oi := ?_) (v := ?_) ?_ ?_ ?_ ?_ ?_ ?_ (by assumption) ?_
        rotate_left 2
        · (simp only [List.getElem?_toArray, List.getElem?_cons_succ, List.getElem?_cons_zero]) <;> rfl
        · kernel_rfl
        · kernel_rfl
        · kernel_rfl
        rotate_left 1
        · refine Or.inl ⟨by rfl, ?_⟩
          intro w hSw
          (try dsimp only at hSw)
          go_simp
          all_goals with_reducible rfl
        rotate_left 1
        · exact fun _ _ _ h => h
        try simp only [Act.put, List.setIfInBounds_toArray, List.set_cons_zero, List.set_cons_succ]
        refine wpAnyH_take (i := 2) (oi := ?_) (v := ?_) ?_ ?_ ?_ ?_ ?_ ?_ (by assumption) ?_
        rotate_left 2
        · (simp only [List.getElem?_toArray, List.getElem?_cons_succ, List.getElem?_cons_zero]) <;> rfl
        · kernel_rfl
        · kernel_rfl
        · kernel_rfl
        rotate_left 1
        · refine Or.inl ⟨by rfl, ?_⟩
          intro w hSw
          (try dsimp only at hSw)
          go_simp
          all_goals with_reducible rfl
        rotate_left 1
        · exact fun _ _ _ h => h
        try simp only [Act.put, List.setIfInBounds_toArray, List.set_cons_zero, List.set_cons_succ]
        refine wpAnyH_take (i := 3) (oi := ?_) (v := ?_) ?_ ?_ ?_ ?_ ?_ ?_ (by assumption) ?_
        rotate_left 2
        · (simp only [List.getElem?_toArray, List.getElem?_cons_succ, List.getElem?_cons_zero]) <;> rfl
        · kernel_rfl
        · kernel_rfl
        · kernel_rfl
        rotate_left 1
        · refine Or.inl ⟨by rfl, ?_⟩
          intro w hSw
          (try dsimp only at hSw)
          go_simp
          all_goals with_reducible rfl
        rotate_left 1
        · exact fun _ _ _ h => h
        try simp only [Act.put, List.setIfInBounds_toArray, List.set_cons_zero, List.set_cons_succ]
        refine wpAnyH_ready (rs := [4]) (by kernel_rfl) (by simp) ?_
        refine AllReadyH.cons (o := ?_) ?_ ?_ AllReadyH.nil
        rotate_left 1
        · (simp only [List.getElem?_toArray, List.getElem?_cons_succ, List.getElem?_cons_zero]) <;> rfl
        intro K hK
        go_simp
        refine (HJ.out _ HAD.out).mono ?_
        rintro e w4 ⟨o, rfl, ho, m4⟩
        have hos := HLS.out o ho
        have hadd2 : ¬ 9223372036854775807 < r.size + 1 + o.size := by omega
        have hadd3 : ¬ 9223372036854775807 < r.size + 1 + o.size + 1 := by omega
        have HJO := Lib.hid ho
        clear ho
        refine hK.out _ _ (by (try dsimp only); exact m4.cell HBD.out.1 (by simp)) (fun hHeld => ?_)
        clear hK K
        try simp only [Act.put, List.setIfInBounds_toArray, List.set_cons_zero, List.set_cons_succ]
        refine wpAnyH_take (i := 5) (oi := ?_) (v := ?_) ?_ ?_ ?_ ?_ ?_ ?_ (by assumption) ?_
        rotate_left 2
        · (simp only [List.getElem?_toArray, List.getElem?_cons_succ, List.getElem?_cons_zero]) <;> rfl
        · kernel_rfl
        · kernel_rfl
        · kernel_rfl
        rotate_left 1
        · refine Or.inl ⟨by rfl, ?_⟩
          intro w hSw
          (try dsimp only at hSw)
          go_simp
          all_goals with_reducible rfl
        rotate_left 1
        · exact fun _ _ _ h => h
        try simp only [Act.put, List.setIfInBounds_toArray, List.set_cons_zero, List.set_cons_succ]
        refine wpAnyH_take (i := 6) (oi := ?_) (v := ?_) ?_ ?_ ?_ ?_ ?_ ?_ (by assumption) ?_
        rotate_left 2
        · (simp only [List.getElem?_toArray, List.getElem?_cons_succ, List.getElem?_cons_zero]) <;> rfl
        · kernel_rfl
        · kernel_rfl
        · kernel_rfl
        rotate_left 1
        · refine Or.inl ⟨by rfl, ?_⟩
          intro w hSw
          (try dsimp only at hSw)
          go_simp
          all_goals with_reducible rfl
        rotate_left 1
        · exact fun _ _ _ h => h
        try simp only [Act.put, List.setIfInBounds_toArray, List.set_cons_zero, List.set_cons_succ]
        refine wpAnyH_take (i := 7) (oi := ?_) (v := ?_) ?_ ?_ ?_ ?_ ?_ ?_ (by assumption) ?_
        rotate_left 2
        · (simp only [List.getElem?_toArray, List.getElem?_cons_succ, List.getElem?_cons_zero]) <;> rfl
        · kernel_rfl
        · kernel_rfl
        · kernel_rfl
        rotate_left 1
        · refine Or.inl ⟨by rfl, ?_⟩
          intro w hSw
          (try dsimp only at hSw)
          go_simp
          all_goals with_reducible rfl
        rotate_left 1
        · exact fun _ _ _ h => h
        try simp only [Act.put, List.setIfInBounds_toArray, List.set_cons_zero, List.set_cons_succ]
        refine wpAnyH_take (i := 8) (oi := ?_) (v := ?_) ?_ ?_ ?_ ?_ ?_ ?_ (by assumption) ?_
        rotate_left 2
        · (simp only [List.getElem?_toArray, List.getElem?_cons_succ, List.getElem?_cons_zero]) <;> rfl
        · kernel_rfl
        · kernel_rfl
        · kernel_rfl
        rotate_left 1
        · refine Or.inl ⟨by rfl, ?_⟩
          intro w hSw
          (try dsimp only at hSw)
          go_simp
          all_goals with_reducible rfl
        rotate_left 1
        · exact fun _ _ _ h => h
        try simp only [Act.put, List.setIfInBounds_toArray, List.set_cons_zero, List.set_cons_succ]
        refine wpAnyH_done (by kernel_rfl) ?_ _
        have M4 := Lib.hid (HMD.out.trans m4 (by simp))
        have HE : Hid (r ++ { data := #[40] } ++ o ++ { data := #[41] } = Lx.ofS (factT r ts)) := Lib.hid (ofS_of (by
          rw [str_app, str_app, str_app, HJO.out]
          unfold factT
          simp; rfl))
        clear m4
        go_wp2_with fail
        go_ret2
        exact ⟨by rw [← HE.out]; rfl, M4.out⟩
  · rw [if_neg (by decide)]
    clear hk hok
    go_enter Tryd.func38, Tryd.ntmps38
    go_wp2_with fail
    refine HC.out.mono ?_
    rintro e w1 ⟨rfl, m1⟩
    go_wp2_with fail
    go_ret2
    exact ⟨rfl, M0.out.trans m1 (by simp)⟩
end Go.Proofs.YthdkaoegegiheaaDoor
