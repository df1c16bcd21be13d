/- LexJoins. -/
import Derived.Test.YtobimhmllkfmfaaDoorLawPlace
namespace Go.Proofs.YtobimhmllkfmfaaDoor
open Go.RowKit
set_option linter.unusedVariables false
set_option linter.unusedSimpArgs false
set_option maxRecDepth 100000

theorem str_append (a b : ByteArray) : Cod.str (a ++ b) = Cod.str a ++ Cod.str b := by
  unfold Cod.str
  rw [ByteArray.data_append, Array.toList_append, List.map_append]
theorem str_ten : Cod.str { data := #[10] } = [10] := rfl
theorem size_join (s t : ByteArray) : (s ++ { data := #[10] } ++ t).size = s.size + 1 + t.size := by
  rw [ByteArray.size_append, ByteArray.size_append]; rfl
theorem str_join (s t : ByteArray) : Cod.str (s ++ { data := #[10] } ++ t) = Cod.str s ++ 10 :: Cod.str t := by
  rw [str_append, str_append, str_ten]; simp
theorem adv_ten (s : ByteArray) : Lx.adv (1, 1) (Cod.str (s ++ { data := #[10] })) = ((Lx.adv (1, 1) (Cod.str s)).1 + 1, 1) := by
  rw [str_append, str_ten, Lx.adv_append]; rfl
theorem next_line {x y : Lx.St} {t : Lx.Tok} (hb : ∀ c ∈ x.s, c < 256) (h : Lx.next x = (y, some t)) : t.line ≤ x.pos.1 + x.s.length ∧ y.pos.1 + y.s.length ≤ x.pos.1 + x.s.length := by
  unfold Lx.next at h
  by_cases h1 : x.code ≠ 0
  · rw [if_pos h1] at h; simp at h
  · rw [if_neg h1] at h
    cases h2 : x.long with
    | true => rw [h2] at h; simp at h
    | false =>
      rw [h2] at h
      simp only [Bool.false_eq_true, if_false] at h
      by_cases h3 : x.skip.s = []
      · rw [if_pos h3] at h; simp at h
      · rw [if_neg h3] at h
        have hbs : ∀ c ∈ x.skip.s, c < 256 := fun c hc => hb c (List.mem_of_mem_drop hc)
        cases hw : Lx.word x.skip.s with
        | bad e => rw [hw] at h; simp at h
        | ok w =>
          rw [hw] at h
          simp only [Prod.mk.injEq, Option.some.injEq] at h
          obtain ⟨rfl, rfl⟩ := h
          obtain ⟨l1, l2, -⟩ := Lx.word_len hbs h3 hw
          have a1 := (Lx.adv_le x.pos (x.s.take (Lx.skipN false x.s))).1
          have a2 := (Lx.adv_le x.skip.pos (x.skip.s.take w.n)).1
          have a3 : x.skip.s.length = x.s.length - Lx.skipN false x.s := by simp [Lx.St.skip]
          have a4 := Lx.skipN_le false x.s
          have a5 : x.skip.pos = Lx.adv x.pos (x.s.take (Lx.skipN false x.s)) := rfl
          rw [List.length_take] at a1 a2
          rw [← a5] at a1
          simp only [List.length_drop]
          omega
theorem all_line : ∀ (k : Nat) (x : Lx.St), (∀ c ∈ x.s, c < 256) → ∀ t ∈ (Lx.allF k x).1, t.line ≤ x.pos.1 + x.s.length
  | 0, x, _, t, h => by simp [Lx.allF] at h
  | k + 1, x, hb, t, h => by
    rw [allF_succ] at h
    cases hn : Lx.next x with
    | mk y o =>
      rw [hn] at h
      cases o with
      | none => simp [rest] at h
      | some u =>
        obtain ⟨h1, h2⟩ := next_line hb hn
        simp only [rest, List.mem_cons] at h
        rcases h with rfl | h
        · exact h1
        · exact Nat.le_trans (all_line k y (next_len hb hn).2.1 t h) h2
theorem tokens_line (s : ByteArray) : ∀ t ∈ Lx.tokens (Cod.str s), t.line ≤ 1 + s.size := by
  intro t ht
  unfold Lx.tokens at ht
  split at ht
  · have := all_line _ _ (Cod.str_lt s) t ht
    rw [show (Lx.start (Cod.str s)).s.length = (Cod.str s).length from rfl, Cod.str_len] at this
    exact this
  · simp at ht

set_option maxHeartbeats 2000000 in
theorem LexJoins_any (s t : ByteArray) (hs : s.size ≤ 140737488355328) (ht : t.size ≤ 140737488355328) (w : World) (hG : Glob w) :
    Calls Tryd.prog 7 #[.string s, .string t] w fun e w' => e = .returned (.bool true) ∧ Mod [] w w' := by
  have hk := known_any w hG
  have h1 := fun w hG => Tokens_any s hs w hG
  have h2 := fun w hG => Tokens_any t ht w hG
  have hn1 := tokens_len s
  have hn2 := tokens_len t
  have hln := tokens_line t
  have hjo : s.size + 1 + t.size ≤ 65536 → (Lx.fault (Cod.str s)).1 = 0 → (Lx.fault (Cod.str t)).1 = 0 → _ := fun h a b => Lx.tokens_join (Cod.str s) (Cod.str t) (Cod.str_lt s) (Cod.str_lt t) (by rw [Cod.str_len, Cod.str_len]; exact h) a b
  have hL := (Lx.adv_le (1, 1) (Cod.str s)).1
  rw [Cod.str_len] at hL
  unfold Toks at h1 h2
  generalize hl1 : Lx.tokens (Cod.str s) = l1 at *
  generalize hl2 : Lx.tokens (Cod.str t) = l2 at *
  generalize hf1 : Lx.fault (Cod.str s) = f at *
  generalize hf2 : Lx.fault (Cod.str t) = g at *
  obtain ⟨f1, f2, f3⟩ := f
  obtain ⟨g1, g2, g3⟩ := g
  simp only [fltV] at h1 h2 hjo
  have HK := Lib.hid hk; have H1 := Lib.hid h1; have H2 := Lib.hid h2; have HJ := Lib.hid hjo; have HLN := Lib.hid hln
  clear hk h1 h2 hjo hl1 hl2 hf1 hf2 hln
  go_enter Tryd.func7, Tryd.ntmps7
  go_wp2_with fail
  refine HK.out.mono ?_
  rintro e w1 ⟨rfl, hm1⟩
  have HM1 := Lib.hid hm1
  clear hm1
  go_wp2_with fail
  refine (H1.out w1 (hG.past HM1.out (by simp))).mono ?_
  rintro e w2 ⟨v1, rfl, hv1, hm2⟩
  have hF2 := heap_alloc_new w2 (Obj.cells #[Value.int IntKind.i64 (f1 : Nat), Value.int IntKind.i64 (f2 : Nat), Value.int IntKind.i64 (f3 : Nat)] 28)
  have ha2 := (Mod.refl [] w2).alloc (Obj.cells #[Value.int IntKind.i64 (f1 : Nat), Value.int IntKind.i64 (f2 : Nat), Value.int IntKind.i64 (f3 : Nat)] 28)
  have hM2 := (HM1.out.trans hm2 (by simp)).trans ha2 (by simp)
  have hlv := hv1.lit
  have hr1 := hv1.past ha2 (by simp)
  have HM2 := Lib.hid hM2; have HR1 := Lib.hid hr1; have HF2 := Lib.hid hF2
  clear hv1 hm2 ha2 hF2 hM2 hr1
  obtain ⟨va, vc, rfl⟩ := hlv
  go_wp2_with fail
  refine (H2.out _ (hG.past HM2.out (by simp))).mono ?_
  rintro e w3 ⟨v2, rfl, hv2, hm3⟩
  have hF3 := hm3.at HF2.out (by simp)
  have hr1 := HR1.out.past hm3 (by simp)
  have hlv := hv2.lit
  have hM3 := HM2.out.trans hm3 (by simp)
  have a0 : w3.cell? ⟨w2.heap.size, 0, none⟩ = some (.int .i64 (f1 : Nat)) := by simp [World.cell?, hF3]
  have hwl := lt_of_block hF3
  have HM3 := Lib.hid hM3; have HR1 := Lib.hid hr1; have HR2 := Lib.hid hv2; have HF3 := Lib.hid hF3
  clear hF3 hr1 hv2 hM3 hm3 HF2
  obtain ⟨vb, vd, rfl⟩ := hlv
  by_cases e1 : f1 = 0
  · have b1 : ((f1 : Int) != 0) = false := by rw [e1]; rfl
    by_cases e2 : g1 = 0
    · have b2 : ((g1 : Int) != 0) = false := by rw [e2]; rfl
      by_cases e3 : s.size + 1 + t.size ≤ 65536
      · have b3 : ¬ ((s.size : Int) + 1 + (t.size : Int) > 65536) := by omega
        obtain ⟨j1, j2⟩ := HJ.out e3 e1 e2
        have h3 := fun w hG => Tokens_any (s ++ { data := #[10] } ++ t) (by rw [size_join]; omega) w hG
        unfold Toks at h3
        rw [str_join, j1, j2] at h3
        simp only [fltV] at h3
        have H3 := Lib.hid h3
        clear h3 j1 j2 e1 e2
        go_wp2_with fail
        refine (H3.out _ (hG.past (HM3.out.alloc _) (by simp))).mono ?_
        rintro e w4 ⟨v3, rfl, hv3, hm4⟩
        have ha4 := (Mod.refl [] w3).alloc (Obj.cells #[Value.int IntKind.i64 (g1 : Nat), Value.int IntKind.i64 (g2 : Nat), Value.int IntKind.i64 (g3 : Nat)] 28)
        have hm34 := ha4.trans hm4 (by simp)
        have hm5 := hm34.alloc (Obj.cells #[Value.int IntKind.i64 ((0 : Nat) : Int), Value.int IntKind.i64 ((0 : Nat) : Int), Value.int IntKind.i64 ((0 : Nat) : Int)] 28)
        have hlv := hv3.lit
        have hr1 := HR1.out.past hm5 (by simp)
        have hr2 := HR2.out.past hm5 (by simp)
        have hr3 := hv3.past ((Mod.refl [] w4).alloc (Obj.cells #[Value.int IntKind.i64 ((0 : Nat) : Int), Value.int IntKind.i64 ((0 : Nat) : Int), Value.int IntKind.i64 ((0 : Nat) : Int)] 28)) (by simp)
        have hM5 := HM3.out.trans hm5 (by simp)
        have hsn := size_join s t
        generalize hl3 : l1 ++ List.map (Lx.Tok.down (Lx.adv (1, 1) (Cod.str s)).fst) l2 = l3 at *
        have hlen3 : l3.length = l1.length + l2.length := by rw [← hl3]; simp
        have hb3 : ((l3.length : Int) != (l1.length : Int) + (l2.length : Int)) = false := by rw [bne_eq_false_iff_eq, hlen3]; simp
        have HR1 := Lib.hid hr1; have HR2 := Lib.hid hr2; have HR3 := Lib.hid hr3; have HM5 := Lib.hid hM5; have HL3 := Lib.hid hl3; have HN3 := Lib.hid hlen3
        clear hr1 hr2 hr3 hM5 hm5 hm34 ha4 hm4 hv3 hl3 hlen3 hsn
        obtain ⟨vj, vk, rfl⟩ := hlv
        have hbe := fun w => behind_any (1, 1) (s ++ { data := #[10] }) (by rw [ByteArray.size_append]; show s.size + 1 ≤ _; omega) (by simp) (by simp) w
        simp only [adv_ten, posV] at hbe
        simp only [show ((1 : Nat) : Int) = 1 from rfl] at hbe
        generalize hLd : (Lx.adv (1, 1) (Cod.str s)).1 = L at *
        generalize hLp : L + 1 = Lp at hbe
        have HBE := Lib.hid hbe
        clear hbe hLd
        go_wp2_with fail
        refine (HBE.out _).mono ?_
        rintro e w5 ⟨rfl, hm6⟩
        have hP6 := heap_alloc_new w5 (Obj.cells (posV (Lp, 1)) 26)
        have hr1 := HR1.out.past (hm6.alloc (Obj.cells (posV (Lp, 1)) 26)) (by simp)
        have hr2 := HR2.out.past (hm6.alloc (Obj.cells (posV (Lp, 1)) 26)) (by simp)
        have hr3 := HR3.out.past (hm6.alloc (Obj.cells (posV (Lp, 1)) 26)) (by simp)
        have hM6 := HM5.out.trans (hm6.alloc (Obj.cells (posV (Lp, 1)) 26)) (by simp)
        simp only [posV, show ((1 : Nat) : Int) = 1 from rfl] at hP6 hr1 hr2 hr3 hM6
        have HR1 := Lib.hid hr1; have HR2 := Lib.hid hr2; have HR3 := Lib.hid hr3; have HM6 := Lib.hid hM6; have HP6 := Lib.hid hP6
        clear hr1 hr2 hr3 hM6 hP6 hm6
        go_wp2_with fail
        go_loopw [13] (fun i wr => ∃ (k : Nat), k ≤ l3.length ∧ i = .int .i64 (k : Int) ∧ Mod [] (w5.alloc (Obj.cells #[Value.int IntKind.i64 (Lp : Nat), Value.int IntKind.i64 1] 26)) wr) (fun i _ => l3.length - (intOf i).toNat)
        case atStart => exact ⟨0, Nat.zero_le _, rfl, Mod.refl _ _⟩
        case round =>
          obtain ⟨k, hk, rfl, hmr⟩ := hrel
          by_cases hlt : k < l3.length
          · have hkI : (k : Int) < (l3.length : Int) := by omega
            have hk0 : (0 : Int) ≤ (k : Int) := by omega
            by_cases hka : k < l1.length
            · have hkA : (k : Int) < (l1.length : Int) := by omega
              have x1 : l1[k]? = some l1[k] := List.getElem?_eq_getElem hka
              have x3 : l3[k]? = some l1[k] := by rw [← HL3.out, List.getElem?_append_left hka]; exact x1
              obtain ⟨g1', k1, e1', a0', a1, a2, a3, a4, a5, a6⟩ := (HR1.out.past hmr (by simp)).at k _ x1
              obtain ⟨g2', k2, e2', m0, m1, m2, m3, m4, m5, m6⟩ := (HR3.out.past hmr (by simp)).at k _ x3
              simp only [Value.slice.injEq, true_and] at e1' e2'
              obtain ⟨rfl, rfl⟩ := e1'
              obtain ⟨rfl, rfl⟩ := e2'
              generalize l1[k] = x at *
              clear x1 x3
              go_wp2_with fail
              go_quiet (fail)
              go_wp2_with fail
              go_roundw
              case rel => exact ⟨k + 1, by omega, by go_num, hmr.drewN _⟩
              case measure => simp [intOf]; omega
            · have hkA : ¬ (k : Int) < (l1.length : Int) := by omega
              have hkB : (l1.length : Int) ≤ (k : Int) := by omega
              obtain ⟨m, rfl⟩ : ∃ m, k = l1.length + m := ⟨k - l1.length, by omega⟩
              have hm2 : m < l2.length := by have := HN3.out; omega
              have x2 : l2[m]? = some l2[m] := List.getElem?_eq_getElem hm2
              have x3 : l3[l1.length + m]? = some (Lx.Tok.down L l2[m]) := by
                rw [← HL3.out, List.getElem?_append_right (by omega), Nat.add_sub_cancel_left, List.getElem?_map, x2]; rfl
              have hxl := HLN.out _ (List.getElem_mem hm2)
              generalize hq : l1.length + m = q at *
              have hqm : (q : Int) - (l1.length : Int) = (m : Int) := by omega
              obtain ⟨g1', k1, e1', a0', a1, a2, a3, a4, a5, a6⟩ := (HR2.out.past hmr (by simp)).at m _ x2
              obtain ⟨g2', k2, e2', m0, m1, m2, m3, m4, m5, m6⟩ := (HR3.out.past hmr (by simp)).at q _ x3
              simp only [Value.slice.injEq, true_and] at e1' e2'
              obtain ⟨rfl, rfl⟩ := e1'
              obtain ⟨rfl, rfl⟩ := e2'
              have hP := hmr.at HP6.out (by simp)
              have p0 : wr.cell? ⟨w5.heap.size, 0, none⟩ = some (.int .i64 (Lp : Nat)) := by simp [World.cell?, hP]
              have hpl := lt_of_block hP
              simp only [Lx.Tok.down] at m0 m1 m2 m3 m4 m5 m6
              generalize l2[m] = x at *
              have hm0I : (0 : Int) ≤ (m : Int) := by omega
              have hmI : (m : Int) < (l2.length : Int) := by omega
              have hxI : (x.line : Int) ≤ 200000 := by omega
              have hLI : (Lp : Int) ≤ 200000 := by omega
              have hLI1 : (1 : Int) ≤ (Lp : Int) := by omega
              have hxL : ((x.line + L : Nat) : Int) = (x.line : Int) + (Lp : Int) - 1 := by omega
              rw [hxL] at m5
              have HXL := Lib.hid hxL
              have hgl2 : g2' < wr.heap.size := World.block_lt_of_cell? wr _ m0
              clear x2 x3 hP hxL hq
              go_wp2_with fail
              go_quiet (fail)
              have hD : Mod [] wr (wr.drewN nq) := (Mod.refl [] wr).drewN nq
              replace hmr := hmr.trans hD (by simp)
              replace a0' := hD.cell a0' (by simp)
              replace a1 := hD.cell a1 (by simp)
              replace a2 := hD.cell a2 (by simp)
              replace a3 := hD.cell a3 (by simp)
              replace a4 := hD.cell a4 (by simp)
              replace a5 := hD.cell a5 (by simp)
              replace a6 := hD.cell a6 (by simp)
              replace m0 := hD.cell m0 (by simp)
              replace m1 := hD.cell m1 (by simp)
              replace m2 := hD.cell m2 (by simp)
              replace m3 := hD.cell m3 (by simp)
              replace m4 := hD.cell m4 (by simp)
              replace m5 := hD.cell m5 (by simp)
              replace m6 := hD.cell m6 (by simp)
              replace p0 := hD.cell p0 (by simp)
              replace hpl := Nat.lt_of_lt_of_le hpl hD.size
              replace hgl2 := Nat.lt_of_lt_of_le hgl2 hD.size
              clear hD
              generalize wr.drewN nq = wd at *
              go_wp2_with fail
              have hA := (Mod.refl [] wd).alloc (Obj.cells #[Value.int IntKind.i64 (x.kind : Nat), Value.string (Lx.ofS x.text), Value.int IntKind.i64 (x.vk : Nat), Value.int IntKind.i64 (x.num : Nat), Value.string (Lx.ofS x.sym), Value.int IntKind.i64 ((x.line : Int) + (Lp : Int) - 1), Value.int IntKind.i64 (x.col : Nat)] 45)
              have hB := heap_alloc_new wd (Obj.cells #[Value.int IntKind.i64 (x.kind : Nat), Value.string (Lx.ofS x.text), Value.int IntKind.i64 (x.vk : Nat), Value.int IntKind.i64 (x.num : Nat), Value.string (Lx.ofS x.sym), Value.int IntKind.i64 ((x.line : Int) + (Lp : Int) - 1), Value.int IntKind.i64 (x.col : Nat)] 45)
              replace hmr := hmr.trans hA (by simp)
              replace m0 := hA.cell m0 (by simp)
              replace m1 := hA.cell m1 (by simp)
              replace m2 := hA.cell m2 (by simp)
              replace m3 := hA.cell m3 (by simp)
              replace m4 := hA.cell m4 (by simp)
              replace m5 := hA.cell m5 (by simp)
              replace m6 := hA.cell m6 (by simp)
              generalize wd.alloc (Obj.cells #[Value.int IntKind.i64 (x.kind : Nat), Value.string (Lx.ofS x.text), Value.int IntKind.i64 (x.vk : Nat), Value.int IntKind.i64 (x.num : Nat), Value.string (Lx.ofS x.sym), Value.int IntKind.i64 ((x.line : Int) + (Lp : Int) - 1), Value.int IntKind.i64 (x.col : Nat)] 45) = we at *
              have c0 : we.cell? ⟨wd.heap.size, 0, none⟩ = some (.int .i64 (x.kind : Nat)) := by simp [World.cell?, hB]
              have c1 : we.cell? ⟨wd.heap.size, 1, none⟩ = some (.string (Lx.ofS x.text)) := by simp [World.cell?, hB]
              have c2 : we.cell? ⟨wd.heap.size, 2, none⟩ = some (.int .i64 (x.vk : Nat)) := by simp [World.cell?, hB]
              have c3 : we.cell? ⟨wd.heap.size, 3, none⟩ = some (.int .i64 (x.num : Nat)) := by simp [World.cell?, hB]
              have c4 : we.cell? ⟨wd.heap.size, 4, none⟩ = some (.string (Lx.ofS x.sym)) := by simp [World.cell?, hB]
              have c5 : we.cell? ⟨wd.heap.size, 5, none⟩ = some (.int .i64 ((x.line : Int) + (Lp : Int) - 1)) := by simp [World.cell?, hB]
              have c6 : we.cell? ⟨wd.heap.size, 6, none⟩ = some (.int .i64 (x.col : Nat)) := by simp [World.cell?, hB]
              clear a0' a1 a2 a3 a4 a5 a6 p0 hA hB
              go_quiet (fail)
              go_wp2_with fail
              go_roundw
              case rel => exact ⟨q + 1, by omega, by go_num, hmr.drewN _⟩
              case measure => simp [intOf]; omega
          · obtain rfl : k = l3.length := by omega
            have hkI : ¬ (l3.length : Int) < (l3.length : Int) := by omega
            go_wp2_with fail
            go_ret
            exact ⟨rfl, HM6.out.trans hmr (by simp)⟩
      · have b3 : ((s.size : Int) + 1 + (t.size : Int) > 65536) := by omega
        go_wp2_with fail
        go_ret
        exact ⟨rfl, HM3.out.alloc _⟩
    · have b2 : ((g1 : Int) != 0) = true := by rw [bne_iff_ne]; omega
      go_wp2_with fail
      go_ret
      exact ⟨rfl, HM3.out.alloc _⟩
  · have b1 : ((f1 : Int) != 0) = true := by rw [bne_iff_ne]; omega
    go_wp2_with fail
    go_ret
    exact ⟨rfl, HM3.out.alloc _⟩
end Go.Proofs.YtobimhmllkfmfaaDoor
