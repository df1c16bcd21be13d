/- THE LAWS: pick; a list of numbers that came in. -/
import Derived.Test.YtppigckioalhhaaGreatDoorRKB9
/- THE PARSER: all of a literal; Literal. Printed by wip/gen_syall.py. -/
namespace Go.Proofs.YtppigckioalhhaaGreatDoorR
open Go.RowKit
set_option linter.unusedVariables false
set_option linter.unusedSimpArgs false
set_option maxRecDepth 100000

theorem sizeL : (Tryz.prog.info? 50).map (·.size) = some 30 := by kernel_rfl
theorem valL_cells {n : Nat} {a : Pr.Li} {w : World} {C : Array Value} (h : valL n a w (.agg C)) : C.size = 30 ∧ C.toList.all (·.oneCell') = true := by
  obtain ⟨U, h0, hb1⟩ := h
  simp only [Value.agg.injEq] at h0
  subst h0
  exact ⟨liV_len _ _, liV_all hb1⟩
theorem valL_keep {n m : Nat} {S : List Nat} {w w' : World} {a : Pr.Li} {x : Value} (h : valL n a w x) (hm : Mod S w w') (hS : ∀ s ∈ S, ¬ n ≤ s) (hn : m ≤ n) : valL m a w' x := by
  obtain ⟨U, h0, hb1⟩ := h
  exact ⟨U, h0, (hb1.keep hm hS).mono (fun k hk _ => by omega)⟩
theorem buildL (p f : Value) (w : World) (hp : ∃ x, p = .pointer x) (hf : f = .func (.func 40) #[] #[]) : (Instr.build 141 #[(0, p), (1, f)]).run Tryz.prog w = .ok (.agg (#[p, f] ++ #[.int .i64 0, .string { data := #[] }, .slice none 0 0, .int .i64 0, .int .i64 0, .string { data := #[] }, .int .i64 0, .int .i64 0, .string { data := #[] }, .int .i64 0, .slice none 0 0, .int .i64 0, .string { data := #[] }, .int .i64 0, .int .i64 0, .string { data := #[] }, .int .i64 0, .slice none 0 0, .int .i64 0, .string { data := #[] }, .int .i64 0, .string { data := #[] }, .int .i64 0, .int .i64 0, .string { data := #[] }, .int .i64 0, .slice none 0 0, .slice none 0 0, .int .i64 0, .int .i64 0])) w := by
  obtain ⟨x, rfl⟩ := hp
  subst hf
  exact run_build w 141 _ _ (by kernel_rfl)
theorem appL (p f : Value) : (#[p, f] ++ #[.int .i64 0, .string { data := #[] }, .slice none 0 0, .int .i64 0, .int .i64 0, .string { data := #[] }, .int .i64 0, .int .i64 0, .string { data := #[] }, .int .i64 0, .slice none 0 0, .int .i64 0, .string { data := #[] }, .int .i64 0, .int .i64 0, .string { data := #[] }, .int .i64 0, .slice none 0 0, .int .i64 0, .string { data := #[] }, .int .i64 0, .string { data := #[] }, .int .i64 0, .int .i64 0, .string { data := #[] }, .int .i64 0, .slice none 0 0, .slice none 0 0, .int .i64 0, .int .i64 0] : Array Value) = #[p, f, .int .i64 0, .string { data := #[] }, .slice none 0 0, .int .i64 0, .int .i64 0, .string { data := #[] }, .int .i64 0, .int .i64 0, .string { data := #[] }, .int .i64 0, .slice none 0 0, .int .i64 0, .string { data := #[] }, .int .i64 0, .int .i64 0, .string { data := #[] }, .int .i64 0, .slice none 0 0, .int .i64 0, .string { data := #[] }, .int .i64 0, .string { data := #[] }, .int .i64 0, .int .i64 0, .string { data := #[] }, .int .i64 0, .slice none 0 0, .slice none 0 0, .int .i64 0, .int .i64 0] := by simp
theorem enterL (args : Array Value) (w : World) : (callFunc 69 args).run Tryz.prog w = .ok (.enter 69 args) w := by kernel_rfl
set_option maxHeartbeats 8000000 in
theorem allL_any (s : ByteArray) (hs : s.size ≤ 140737488355328) (w : World) (hG : Glob w) :
    Calls Tryz.prog 39 #[.string s, .func (.func 40) #[] #[]] w (AllRes (Sy.whole (Sy.envOf (Cod.str s)) ((fun v => Sy.lit v 0) (Sy.envOf (Cod.str s)))) (valL w.heap.size) (.agg #[.int .i64 0, .string { data := #[] }, .slice none 0 0, .int .i64 0, .int .i64 0, .string { data := #[] }, .int .i64 0, .int .i64 0, .string { data := #[] }, .int .i64 0, .slice none 0 0, .int .i64 0, .string { data := #[] }, .int .i64 0, .int .i64 0, .string { data := #[] }, .int .i64 0, .slice none 0 0, .int .i64 0, .string { data := #[] }, .int .i64 0, .string { data := #[] }, .int .i64 0, .int .i64 0, .string { data := #[] }, .int .i64 0, .slice none 0 0, .slice none 0 0, .int .i64 0, .int .i64 0]) w) := by
  have hmf := makeFunc_any
  have hv := envOk s
  have hnz : Sy.Nz (Sy.whole (Sy.envOf (Cod.str s)) ((fun v => Sy.lit v 0) (Sy.envOf (Cod.str s)))) := Sy.nz_whole (Sy.env_last _) ((fun hv i => Sy.nz_lit hv 0 i) (Sy.env_last _) 0)
  have hB := fun w hG => begin_any s hs w hG
  have HG := Lib.hid hG
  generalize Sy.envOf (Cod.str s) = v at *
  have HB := Lib.hid hB; have HV := Lib.hid hv; have HNZ := Lib.hid hnz
  clear hB hv hnz hG
  have m0 := ((Mod.refl [] w).alloc (Obj.cells #[.int .i64 0, .string { data := #[] }, .slice none 0 0, .int .i64 0, .int .i64 0, .string { data := #[] }, .int .i64 0, .int .i64 0, .string { data := #[] }, .int .i64 0, .slice none 0 0, .int .i64 0, .string { data := #[] }, .int .i64 0, .int .i64 0, .string { data := #[] }, .int .i64 0, .slice none 0 0, .int .i64 0, .string { data := #[] }, .int .i64 0, .string { data := #[] }, .int .i64 0, .int .i64 0, .string { data := #[] }, .int .i64 0, .slice none 0 0, .slice none 0 0, .int .i64 0, .int .i64 0] 50)).alloc (Obj.cells #[.int .i64 0, .int .i64 0, .int .i64 0] 31)
  have e0 := (((Mod.refl [] (w.alloc (Obj.cells #[.int .i64 0, .string { data := #[] }, .slice none 0 0, .int .i64 0, .int .i64 0, .string { data := #[] }, .int .i64 0, .int .i64 0, .string { data := #[] }, .int .i64 0, .slice none 0 0, .int .i64 0, .string { data := #[] }, .int .i64 0, .int .i64 0, .string { data := #[] }, .int .i64 0, .slice none 0 0, .int .i64 0, .string { data := #[] }, .int .i64 0, .string { data := #[] }, .int .i64 0, .int .i64 0, .string { data := #[] }, .int .i64 0, .slice none 0 0, .slice none 0 0, .int .i64 0, .int .i64 0] 50))).alloc (Obj.cells #[.int .i64 0, .int .i64 0, .int .i64 0] 31))).at (heap_alloc_new w (Obj.cells #[.int .i64 0, .string { data := #[] }, .slice none 0 0, .int .i64 0, .int .i64 0, .string { data := #[] }, .int .i64 0, .int .i64 0, .string { data := #[] }, .int .i64 0, .slice none 0 0, .int .i64 0, .string { data := #[] }, .int .i64 0, .int .i64 0, .string { data := #[] }, .int .i64 0, .slice none 0 0, .int .i64 0, .string { data := #[] }, .int .i64 0, .string { data := #[] }, .int .i64 0, .int .i64 0, .string { data := #[] }, .int .i64 0, .slice none 0 0, .slice none 0 0, .int .i64 0, .int .i64 0] 50)) (by simp)
  have e1 := heap_alloc_new (w.alloc (Obj.cells #[.int .i64 0, .string { data := #[] }, .slice none 0 0, .int .i64 0, .int .i64 0, .string { data := #[] }, .int .i64 0, .int .i64 0, .string { data := #[] }, .int .i64 0, .slice none 0 0, .int .i64 0, .string { data := #[] }, .int .i64 0, .int .i64 0, .string { data := #[] }, .int .i64 0, .slice none 0 0, .int .i64 0, .string { data := #[] }, .int .i64 0, .string { data := #[] }, .int .i64 0, .int .i64 0, .string { data := #[] }, .int .i64 0, .slice none 0 0, .slice none 0 0, .int .i64 0, .int .i64 0] 50)) (Obj.cells #[.int .i64 0, .int .i64 0, .int .i64 0] 31)
  have hs1 : (w.alloc (Obj.cells #[.int .i64 0, .string { data := #[] }, .slice none 0 0, .int .i64 0, .int .i64 0, .string { data := #[] }, .int .i64 0, .int .i64 0, .string { data := #[] }, .int .i64 0, .slice none 0 0, .int .i64 0, .string { data := #[] }, .int .i64 0, .int .i64 0, .string { data := #[] }, .int .i64 0, .slice none 0 0, .int .i64 0, .string { data := #[] }, .int .i64 0, .string { data := #[] }, .int .i64 0, .int .i64 0, .string { data := #[] }, .int .i64 0, .slice none 0 0, .slice none 0 0, .int .i64 0, .int .i64 0] 50)).heap.size = w.heap.size + 1 := by simp
  rw [hs1] at e1
  have hG0 := HG.out.past m0 (by simp)
  go_enter Tryz.func39, Tryz.ntmps39
  go_upto_region 1 with fail
  generalize (w.alloc (Obj.cells _ 50)).alloc (Obj.cells _ 31) = w0 at *
  have E0 := Lib.hid e0; have E1 := Lib.hid e1; have M0 := Lib.hid m0; have HG0 := Lib.hid hG0
  have hw0 : w.heap.size + 2 ≤ w0.heap.size := by have := lt_of_block e1; omega
  clear e0 e1 m0 hG0 hs1
  go_wp2_with fail
  refine (HB.out w0 HG0.out).mono ?_
  rintro e1 w1 ⟨b, ra, rc, rfl, h1, hb1, hf1, m1⟩
  have A1 := Lib.hid (m1.at E0.out (by simp)); have B1 := Lib.hid (m1.at E1.out (by simp)); have M1 := Lib.hid (M0.out.trans m1 (by simp)); have H1 := Lib.hid h1; have HF1 := Lib.hid hf1
  have hsz1 := m1.size
  have hbl := h1.lt
  clear m1 h1 hf1 HB HG0
  go_upto_region 2 with (refine wpList_built2 rfl 141 0 1 _ _ rfl (.pointer (some ⟨b, 0, none⟩)) (.func (.func 40) #[] #[]) rfl rfl _ (buildL _ _ _ ⟨_, rfl⟩ rfl) ?_)
  have mP := (Mod.refl [] w1).alloc (Obj.cells #[.pointer (some ⟨b, 0, none⟩), .func (.func 40) #[] #[], .int .i64 0, .string { data := #[] }, .slice none 0 0, .int .i64 0, .int .i64 0, .string { data := #[] }, .int .i64 0, .int .i64 0, .string { data := #[] }, .int .i64 0, .slice none 0 0, .int .i64 0, .string { data := #[] }, .int .i64 0, .int .i64 0, .string { data := #[] }, .int .i64 0, .slice none 0 0, .int .i64 0, .string { data := #[] }, .int .i64 0, .string { data := #[] }, .int .i64 0, .int .i64 0, .string { data := #[] }, .int .i64 0, .slice none 0 0, .slice none 0 0, .int .i64 0, .int .i64 0] 141)
  have eP := heap_alloc_new w1 (Obj.cells #[.pointer (some ⟨b, 0, none⟩), .func (.func 40) #[] #[], .int .i64 0, .string { data := #[] }, .slice none 0 0, .int .i64 0, .int .i64 0, .string { data := #[] }, .int .i64 0, .int .i64 0, .string { data := #[] }, .int .i64 0, .slice none 0 0, .int .i64 0, .string { data := #[] }, .int .i64 0, .int .i64 0, .string { data := #[] }, .int .i64 0, .slice none 0 0, .int .i64 0, .string { data := #[] }, .int .i64 0, .string { data := #[] }, .int .i64 0, .int .i64 0, .string { data := #[] }, .int .i64 0, .slice none 0 0, .slice none 0 0, .int .i64 0, .int .i64 0] 141)
  generalize w1.alloc (Obj.cells _ 141) = wP at *
  have A2 := Lib.hid (mP.at A1.out (by simp)); have B2 := Lib.hid (mP.at B1.out (by simp)); have M2 := Lib.hid (M1.out.trans mP (by simp)); have H2 := Lib.hid (H1.out.past mP (by simp)); have P2 := Lib.hid eP
  have hpxb : w1.heap.size ≠ b := by omega
  have hpxf : w1.heap.size ∉ fp (.slice ra v.ws.length rc) := fun hk => by have := fp_lt H1.out.row.row _ hk; omega
  have hwp := lt_of_block eP
  clear A1 B1 M1 H1 mP eP
  generalize w1.heap.size = px at *
  have p0 := cell_at P2.out 0
  have c5 := cell_at H2.out.at_ 5
  simp only [List.getElem?_toArray, List.getElem?_cons_zero, List.getElem?_cons_succ] at p0 c5
  have f5 := free_at H2.out.at_ 5
  go_upto_region 3 with fail
  obtain ⟨h3, m3⟩ := H2.out.setF (.func (.func 69) #[.pointer (some ⟨px, 0, none⟩)] #[])
  generalize wP.setCell ⟨b, 5, none⟩ _ = wS at *
  have hpb : ∀ (k : Nat) (o : Obj), wP.heap[k]? = some o → k ≠ b → wS.heap[k]? = some o := fun k o hk hb => m3.at hk (by simpa using hb)
  have A3 := Lib.hid (hpb _ _ A2.out (by omega)); have B3 := Lib.hid (hpb _ _ B2.out (by omega)); have P3 := Lib.hid (hpb _ _ P2.out hpxb); have M3 := Lib.hid (M2.out.trans m3 (fun t ht => by rw [List.mem_singleton] at ht; exact .inr (by omega))); have H3 := Lib.hid h3
  have hsz3 := m3.size
  clear A2 B2 P2 M2 H2 m3 h3 p0 c5 f5 hpb
  have hwp3 : px < wS.heap.size := by omega
  have HW := Lib.hid (whole_any b ra rc 69 (.pointer (some ⟨px, 0, none⟩)) v (Sy.lit v 0) [b, px] (fun a w' => ∃ C : Array Value, w'.heap[px]? = some (.cells (#[.pointer (some ⟨b, 0, none⟩), .func (.func 40) #[] #[]] ++ C) 141 (0, 0)) ∧ valL (wS.heap.size + 1) a w' (.agg C)) wS H3.out HV.out enterL
    (fun w' hm hsz => by
      have h' := H3.out.past hm (by simp)
      have hp' := hm.at P3.out (by simp)
      rw [← appL] at hp'
      have hv := HV.out
      have hne := hpxb
      have hpx := hpxf
      refine (readL_any b ra rc (.func (.func 69) #[.pointer (some ⟨px, 0, none⟩)] #[]) v px #[.int .i64 0, .string { data := #[] }, .slice none 0 0, .int .i64 0, .int .i64 0, .string { data := #[] }, .int .i64 0, .int .i64 0, .string { data := #[] }, .int .i64 0, .slice none 0 0, .int .i64 0, .string { data := #[] }, .int .i64 0, .int .i64 0, .string { data := #[] }, .int .i64 0, .slice none 0 0, .int .i64 0, .string { data := #[] }, .int .i64 0, .string { data := #[] }, .int .i64 0, .int .i64 0, .string { data := #[] }, .int .i64 0, .slice none 0 0, .slice none 0 0, .int .i64 0, .int .i64 0] rfl w' h' hv hp' hne hpx).mono ?_
      intro e w'' hh
      exact hh.mono fun a w' ⟨C, h1, h2⟩ => ⟨C, h1, valL_keep h2 (Mod.refl [] w') (by simp) (by omega)⟩)
    (fun s hs => by simp at hs; omega) ((fun v => Sy.adv_lit v 0) v))
  have p0 := cell_at P3.out 0
  simp only [List.getElem?_toArray, List.getElem?_cons_zero, List.getElem?_cons_succ] at p0
  have hq : (fun v => Sy.lit v 0) v = Sy.lit v 0 := rfl
  try rw [hq] at HNZ
  try rw [hq]
  generalize Sy.whole v (Sy.lit v 0) = q at *
  clear hq
  cases q with
  | err g =>
    have hg : g.1 ≠ 0 := HNZ.out g rfl
    have hgB : ((g.1 : Int) != 0) = true := by rw [bne_iff_ne]; omega
    go_wp2_with fail
    refine HW.out.mono ?_
    rintro e4 w4 ⟨rfl, m4⟩
    have hnb : ∀ (k : Nat), k ≠ b → k ≠ px → k ∉ [b, px] := fun k h1 h2 => by simp [h1, h2]
    have A4 := m4.at A3.out (hnb _ (by omega) (by omega)); have B4 := m4.at B3.out (hnb _ (by omega) (by omega)); have M4 := M3.out.trans m4 (fun t ht => by simp at ht; exact .inr (by omega))
    unfold fltC at *
    have m5 := ((Mod.refl [] w4).alloc (Obj.cells #[.int .i64 (g.1 : Nat), .int .i64 (g.2.1 : Nat), .int .i64 (g.2.2 : Nat)] 31)).alloc (Obj.cells #[.int .i64 0, .string { data := #[] }, .slice none 0 0, .int .i64 0, .int .i64 0, .string { data := #[] }, .int .i64 0, .int .i64 0, .string { data := #[] }, .int .i64 0, .slice none 0 0, .int .i64 0, .string { data := #[] }, .int .i64 0, .int .i64 0, .string { data := #[] }, .int .i64 0, .slice none 0 0, .int .i64 0, .string { data := #[] }, .int .i64 0, .string { data := #[] }, .int .i64 0, .int .i64 0, .string { data := #[] }, .int .i64 0, .slice none 0 0, .slice none 0 0, .int .i64 0, .int .i64 0] 50)
    have x5 := heap_alloc_new w4 (Obj.cells #[.int .i64 (g.1 : Nat), .int .i64 (g.2.1 : Nat), .int .i64 (g.2.2 : Nat)] 31)
    have hs5 : (w4.alloc (Obj.cells #[.int .i64 (g.1 : Nat), .int .i64 (g.2.1 : Nat), .int .i64 (g.2.2 : Nat)] 31)).heap.size = w4.heap.size + 1 := by simp
    have z5 := heap_alloc_new (w4.alloc (Obj.cells #[.int .i64 (g.1 : Nat), .int .i64 (g.2.1 : Nat), .int .i64 (g.2.2 : Nat)] 31)) (Obj.cells #[.int .i64 0, .string { data := #[] }, .slice none 0 0, .int .i64 0, .int .i64 0, .string { data := #[] }, .int .i64 0, .int .i64 0, .string { data := #[] }, .int .i64 0, .slice none 0 0, .int .i64 0, .string { data := #[] }, .int .i64 0, .int .i64 0, .string { data := #[] }, .int .i64 0, .slice none 0 0, .int .i64 0, .string { data := #[] }, .int .i64 0, .string { data := #[] }, .int .i64 0, .int .i64 0, .string { data := #[] }, .int .i64 0, .slice none 0 0, .slice none 0 0, .int .i64 0, .int .i64 0] 50)
    have y5 := ((Mod.refl [] (w4.alloc (Obj.cells #[.int .i64 (g.1 : Nat), .int .i64 (g.2.1 : Nat), .int .i64 (g.2.2 : Nat)] 31))).alloc (Obj.cells #[.int .i64 0, .string { data := #[] }, .slice none 0 0, .int .i64 0, .int .i64 0, .string { data := #[] }, .int .i64 0, .int .i64 0, .string { data := #[] }, .int .i64 0, .slice none 0 0, .int .i64 0, .string { data := #[] }, .int .i64 0, .int .i64 0, .string { data := #[] }, .int .i64 0, .slice none 0 0, .int .i64 0, .string { data := #[] }, .int .i64 0, .string { data := #[] }, .int .i64 0, .int .i64 0, .string { data := #[] }, .int .i64 0, .slice none 0 0, .slice none 0 0, .int .i64 0, .int .i64 0] 50)).at x5 (by simp)
    rw [hs5] at z5
    have A5 := Lib.hid (m5.at A4 (by simp)); have B5 := Lib.hid (m5.at B4 (by simp)); have M5 := Lib.hid (M4.trans m5 (by simp)); have Y5 := Lib.hid y5; have Z5 := Lib.hid z5
    have hs4 := m4.size
    clear m4 A4 B4 M4 m5 y5 z5 hnb hs5 HW A3 B3 M3 P3 p0 H3 HV HNZ
    obtain ⟨x50, x51, x52⟩ := cells3 x5
    clear x5
    go_upto_region 6 with fail
    generalize (w4.alloc (Obj.cells _ 31)).alloc (Obj.cells _ 50) = w5 at *
    clear x50 x51 x52
    go_wp2_with fail
    refine wp_region_held_drew (S := (fun w' : World => w'.heap[w4.heap.size + 1]? = some (.cells #[.int .i64 0, .string { data := #[] }, .slice none 0 0, .int .i64 0, .int .i64 0, .string { data := #[] }, .int .i64 0, .int .i64 0, .string { data := #[] }, .int .i64 0, .slice none 0 0, .int .i64 0, .string { data := #[] }, .int .i64 0, .int .i64 0, .string { data := #[] }, .int .i64 0, .slice none 0 0, .int .i64 0, .string { data := #[] }, .int .i64 0, .string { data := #[] }, .int .i64 0, .int .i64 0, .string { data := #[] }, .int .i64 0, .slice none 0 0, .slice none 0 0, .int .i64 0, .int .i64 0] 50 (0, 0)) ∧ w'.heap[w4.heap.size]? = some (.cells #[.int .i64 (g.1 : Nat), .int .i64 (g.2.1 : Nat), .int .i64 (g.2.2 : Nat)] 31 (0, 0)))) (by kernel_rfl) (by (try dsimp only); exact ⟨drew_cells Z5.out, drew_cells Y5.out⟩) (fun hHeld => ?_)
    refine wpAnyH_take (i := 0) (oi := ?_) (v := .agg #[.int .i64 0, .string { data := #[] }, .slice none 0 0, .int .i64 0, .int .i64 0, .string { data := #[] }, .int .i64 0, .int .i64 0, .string { data := #[] }, .int .i64 0, .slice none 0 0, .int .i64 0, .string { data := #[] }, .int .i64 0, .int .i64 0, .string { data := #[] }, .int .i64 0, .slice none 0 0, .int .i64 0, .string { data := #[] }, .int .i64 0, .string { data := #[] }, .int .i64 0, .int .i64 0, .string { data := #[] }, .int .i64 0, .slice none 0 0, .slice none 0 0, .int .i64 0, .int .i64 0]) ?_ ?_ ?_ ?_ ?_ ?_ (by assumption) ?_
    rotate_left 1
    · (simp only [List.getElem?_toArray, List.getElem?_cons_succ, List.getElem?_cons_zero]) <;> rfl
    · kernel_rfl
    · kernel_rfl
    · kernel_rfl
    rotate_left 1
    · refine yieldsIf_load_mid ?_ 50 _ rfl (w4.heap.size + 1) 0 rfl [.int .i64 0, .string { data := #[] }, .slice none 0 0, .int .i64 0, .int .i64 0, .string { data := #[] }, .int .i64 0, .int .i64 0, .string { data := #[] }, .int .i64 0, .slice none 0 0, .int .i64 0, .string { data := #[] }, .int .i64 0, .int .i64 0, .string { data := #[] }, .int .i64 0, .slice none 0 0, .int .i64 0, .string { data := #[] }, .int .i64 0, .string { data := #[] }, .int .i64 0, .int .i64 0, .string { data := #[] }, .int .i64 0, .slice none 0 0, .slice none 0 0, .int .i64 0, .int .i64 0] _ ?_ Tryz.underlying50 rfl sizeL
      · rfl
      · intro w hSw
        exact wp_range (C := #[.int .i64 0, .string { data := #[] }, .slice none 0 0, .int .i64 0, .int .i64 0, .string { data := #[] }, .int .i64 0, .int .i64 0, .string { data := #[] }, .int .i64 0, .slice none 0 0, .int .i64 0, .string { data := #[] }, .int .i64 0, .int .i64 0, .string { data := #[] }, .int .i64 0, .slice none 0 0, .int .i64 0, .string { data := #[] }, .int .i64 0, .string { data := #[] }, .int .i64 0, .int .i64 0, .string { data := #[] }, .int .i64 0, .slice none 0 0, .slice none 0 0, .int .i64 0, .int .i64 0]) hSw.1
    rotate_left 1
    · exact fun _ _ _ h => h
    try simp only [Act.put, List.setIfInBounds_toArray, List.set_cons_zero, List.set_cons_succ]
    refine wpAnyH_take (i := 1) (oi := ?_) (v := .agg #[.int .i64 (g.1 : Nat), .int .i64 (g.2.1 : Nat), .int .i64 (g.2.2 : Nat)]) ?_ ?_ ?_ ?_ ?_ ?_ (by assumption) ?_
    rotate_left 1
    · (simp only [List.getElem?_toArray, List.getElem?_cons_succ, List.getElem?_cons_zero]) <;> rfl
    · kernel_rfl
    · kernel_rfl
    · kernel_rfl
    rotate_left 1
    · refine yieldsIf_load_mid ?_ 31 _ rfl w4.heap.size 0 rfl [.int .i64 (g.1 : Nat), .int .i64 (g.2.1 : Nat), .int .i64 (g.2.2 : Nat)] _ ?_ Tryz.underlying31 rfl sizeFlt
      · rfl
      · intro w hSw
        exact wp_range (C := #[.int .i64 (g.1 : Nat), .int .i64 (g.2.1 : Nat), .int .i64 (g.2.2 : Nat)]) hSw.2
    rotate_left 1
    · exact fun _ _ _ h => h
    try simp only [Act.put, List.setIfInBounds_toArray, List.set_cons_zero, List.set_cons_succ]
    have hlt0 := lt_of_block A5.out
    refine wpAnyH_ready (rs := [2]) (by kernel_rfl) (by simp) ?_
    refine AllReadyH.cons (o := ?_) ?_ ?_ AllReadyH.nil
    rotate_left 1
    · (simp only [List.getElem?_toArray, List.getElem?_cons_succ, List.getElem?_cons_zero]) <;> rfl
    intro K hK
    refine (if_pos (by rfl)).mpr ?_
    refine wp_store_row 50 _ _ rfl w.heap.size #[.int .i64 0, .string { data := #[] }, .slice none 0 0, .int .i64 0, .int .i64 0, .string { data := #[] }, .int .i64 0, .int .i64 0, .string { data := #[] }, .int .i64 0, .slice none 0 0, .int .i64 0, .string { data := #[] }, .int .i64 0, .int .i64 0, .string { data := #[] }, .int .i64 0, .slice none 0 0, .int .i64 0, .string { data := #[] }, .int .i64 0, .string { data := #[] }, .int .i64 0, .int .i64 0, .string { data := #[] }, .int .i64 0, .slice none 0 0, .slice none 0 0, .int .i64 0, .int .i64 0] rfl rfl 50 _ (drew_cells A5.out) sizeL rfl (by rw [← Array.all_toList]; rfl) ?_
    refine hK.out _ _ (by (try dsimp only); exact ⟨(setRow_other w5.drew w.heap.size (w4.heap.size + 1) #[.int .i64 0, .string { data := #[] }, .slice none 0 0, .int .i64 0, .int .i64 0, .string { data := #[] }, .int .i64 0, .int .i64 0, .string { data := #[] }, .int .i64 0, .slice none 0 0, .int .i64 0, .string { data := #[] }, .int .i64 0, .int .i64 0, .string { data := #[] }, .int .i64 0, .slice none 0 0, .int .i64 0, .string { data := #[] }, .int .i64 0, .string { data := #[] }, .int .i64 0, .int .i64 0, .string { data := #[] }, .int .i64 0, .slice none 0 0, .slice none 0 0, .int .i64 0, .int .i64 0] (by omega)).trans (drew_cells Z5.out), (setRow_other w5.drew w.heap.size w4.heap.size #[.int .i64 0, .string { data := #[] }, .slice none 0 0, .int .i64 0, .int .i64 0, .string { data := #[] }, .int .i64 0, .int .i64 0, .string { data := #[] }, .int .i64 0, .slice none 0 0, .int .i64 0, .string { data := #[] }, .int .i64 0, .int .i64 0, .string { data := #[] }, .int .i64 0, .slice none 0 0, .int .i64 0, .string { data := #[] }, .int .i64 0, .string { data := #[] }, .int .i64 0, .int .i64 0, .string { data := #[] }, .int .i64 0, .slice none 0 0, .slice none 0 0, .int .i64 0, .int .i64 0] (by omega)).trans (drew_cells Y5.out)⟩) (fun hHeld => ?_)
    clear hK K
    try simp only [Act.put, List.setIfInBounds_toArray, List.set_cons_zero, List.set_cons_succ]
    refine wpAnyH_ready (rs := [3]) (by kernel_rfl) (by simp) ?_
    refine AllReadyH.cons (o := ?_) ?_ ?_ AllReadyH.nil
    rotate_left 1
    · (simp only [List.getElem?_toArray, List.getElem?_cons_succ, List.getElem?_cons_zero]) <;> rfl
    intro K hK
    refine (if_pos (by rfl)).mpr ?_
    refine wp_store_row 31 _ _ rfl (w.heap.size + 1) #[.int .i64 (g.1 : Nat), .int .i64 (g.2.1 : Nat), .int .i64 (g.2.2 : Nat)] rfl rfl 31 _ ((setRow_other w5.drew w.heap.size (w.heap.size + 1) #[.int .i64 0, .string { data := #[] }, .slice none 0 0, .int .i64 0, .int .i64 0, .string { data := #[] }, .int .i64 0, .int .i64 0, .string { data := #[] }, .int .i64 0, .slice none 0 0, .int .i64 0, .string { data := #[] }, .int .i64 0, .int .i64 0, .string { data := #[] }, .int .i64 0, .slice none 0 0, .int .i64 0, .string { data := #[] }, .int .i64 0, .string { data := #[] }, .int .i64 0, .int .i64 0, .string { data := #[] }, .int .i64 0, .slice none 0 0, .slice none 0 0, .int .i64 0, .int .i64 0] (by omega)).trans (drew_cells B5.out)) sizeFlt rfl (by rw [← Array.all_toList]; rfl) ?_
    refine hK.out _ _ (by (try dsimp only); exact ⟨(setRow_other (w5.drew.setRow w.heap.size #[.int .i64 0, .string { data := #[] }, .slice none 0 0, .int .i64 0, .int .i64 0, .string { data := #[] }, .int .i64 0, .int .i64 0, .string { data := #[] }, .int .i64 0, .slice none 0 0, .int .i64 0, .string { data := #[] }, .int .i64 0, .int .i64 0, .string { data := #[] }, .int .i64 0, .slice none 0 0, .int .i64 0, .string { data := #[] }, .int .i64 0, .string { data := #[] }, .int .i64 0, .int .i64 0, .string { data := #[] }, .int .i64 0, .slice none 0 0, .slice none 0 0, .int .i64 0, .int .i64 0]) (w.heap.size + 1) (w4.heap.size + 1) #[.int .i64 (g.1 : Nat), .int .i64 (g.2.1 : Nat), .int .i64 (g.2.2 : Nat)] (by omega)).trans ((setRow_other w5.drew w.heap.size (w4.heap.size + 1) #[.int .i64 0, .string { data := #[] }, .slice none 0 0, .int .i64 0, .int .i64 0, .string { data := #[] }, .int .i64 0, .int .i64 0, .string { data := #[] }, .int .i64 0, .slice none 0 0, .int .i64 0, .string { data := #[] }, .int .i64 0, .int .i64 0, .string { data := #[] }, .int .i64 0, .slice none 0 0, .int .i64 0, .string { data := #[] }, .int .i64 0, .string { data := #[] }, .int .i64 0, .int .i64 0, .string { data := #[] }, .int .i64 0, .slice none 0 0, .slice none 0 0, .int .i64 0, .int .i64 0] (by omega)).trans (drew_cells Z5.out)), (setRow_other (w5.drew.setRow w.heap.size #[.int .i64 0, .string { data := #[] }, .slice none 0 0, .int .i64 0, .int .i64 0, .string { data := #[] }, .int .i64 0, .int .i64 0, .string { data := #[] }, .int .i64 0, .slice none 0 0, .int .i64 0, .string { data := #[] }, .int .i64 0, .int .i64 0, .string { data := #[] }, .int .i64 0, .slice none 0 0, .int .i64 0, .string { data := #[] }, .int .i64 0, .string { data := #[] }, .int .i64 0, .int .i64 0, .string { data := #[] }, .int .i64 0, .slice none 0 0, .slice none 0 0, .int .i64 0, .int .i64 0]) (w.heap.size + 1) w4.heap.size #[.int .i64 (g.1 : Nat), .int .i64 (g.2.1 : Nat), .int .i64 (g.2.2 : Nat)] (by omega)).trans ((setRow_other w5.drew w.heap.size w4.heap.size #[.int .i64 0, .string { data := #[] }, .slice none 0 0, .int .i64 0, .int .i64 0, .string { data := #[] }, .int .i64 0, .int .i64 0, .string { data := #[] }, .int .i64 0, .slice none 0 0, .int .i64 0, .string { data := #[] }, .int .i64 0, .int .i64 0, .string { data := #[] }, .int .i64 0, .slice none 0 0, .int .i64 0, .string { data := #[] }, .int .i64 0, .string { data := #[] }, .int .i64 0, .int .i64 0, .string { data := #[] }, .int .i64 0, .slice none 0 0, .slice none 0 0, .int .i64 0, .int .i64 0] (by omega)).trans (drew_cells Y5.out))⟩) (fun hHeld => ?_)
    clear hK K
    try simp only [Act.put, List.setIfInBounds_toArray, List.set_cons_zero, List.set_cons_succ]
    refine wpAnyH_done (by kernel_rfl) ?_ _
    have n0 := setRow_heap w5.drew w.heap.size _ #[.int .i64 0, .string { data := #[] }, .slice none 0 0, .int .i64 0, .int .i64 0, .string { data := #[] }, .int .i64 0, .int .i64 0, .string { data := #[] }, .int .i64 0, .slice none 0 0, .int .i64 0, .string { data := #[] }, .int .i64 0, .int .i64 0, .string { data := #[] }, .int .i64 0, .slice none 0 0, .int .i64 0, .string { data := #[] }, .int .i64 0, .string { data := #[] }, .int .i64 0, .int .i64 0, .string { data := #[] }, .int .i64 0, .slice none 0 0, .slice none 0 0, .int .i64 0, .int .i64 0] 50 _ (drew_cells A5.out)
    have n1 := setRow_heap (w5.drew.setRow w.heap.size #[.int .i64 0, .string { data := #[] }, .slice none 0 0, .int .i64 0, .int .i64 0, .string { data := #[] }, .int .i64 0, .int .i64 0, .string { data := #[] }, .int .i64 0, .slice none 0 0, .int .i64 0, .string { data := #[] }, .int .i64 0, .int .i64 0, .string { data := #[] }, .int .i64 0, .slice none 0 0, .int .i64 0, .string { data := #[] }, .int .i64 0, .string { data := #[] }, .int .i64 0, .int .i64 0, .string { data := #[] }, .int .i64 0, .slice none 0 0, .slice none 0 0, .int .i64 0, .int .i64 0]) (w.heap.size + 1) _ #[.int .i64 (g.1 : Nat), .int .i64 (g.2.1 : Nat), .int .i64 (g.2.2 : Nat)] 31 _ ((setRow_other w5.drew w.heap.size (w.heap.size + 1) #[.int .i64 0, .string { data := #[] }, .slice none 0 0, .int .i64 0, .int .i64 0, .string { data := #[] }, .int .i64 0, .int .i64 0, .string { data := #[] }, .int .i64 0, .slice none 0 0, .int .i64 0, .string { data := #[] }, .int .i64 0, .int .i64 0, .string { data := #[] }, .int .i64 0, .slice none 0 0, .int .i64 0, .string { data := #[] }, .int .i64 0, .string { data := #[] }, .int .i64 0, .int .i64 0, .string { data := #[] }, .int .i64 0, .slice none 0 0, .slice none 0 0, .int .i64 0, .int .i64 0] (by omega)).trans (drew_cells B5.out))
    have k0 := (setRow_other (w5.drew.setRow w.heap.size #[.int .i64 0, .string { data := #[] }, .slice none 0 0, .int .i64 0, .int .i64 0, .string { data := #[] }, .int .i64 0, .int .i64 0, .string { data := #[] }, .int .i64 0, .slice none 0 0, .int .i64 0, .string { data := #[] }, .int .i64 0, .int .i64 0, .string { data := #[] }, .int .i64 0, .slice none 0 0, .int .i64 0, .string { data := #[] }, .int .i64 0, .string { data := #[] }, .int .i64 0, .int .i64 0, .string { data := #[] }, .int .i64 0, .slice none 0 0, .slice none 0 0, .int .i64 0, .int .i64 0]) (w.heap.size + 1) w.heap.size #[.int .i64 (g.1 : Nat), .int .i64 (g.2.1 : Nat), .int .i64 (g.2.2 : Nat)] (by omega)).trans n0
    have mm := ((M5.out.drew).trans (Mod.setRow w5.drew w.heap.size #[.int .i64 0, .string { data := #[] }, .slice none 0 0, .int .i64 0, .int .i64 0, .string { data := #[] }, .int .i64 0, .int .i64 0, .string { data := #[] }, .int .i64 0, .slice none 0 0, .int .i64 0, .string { data := #[] }, .int .i64 0, .int .i64 0, .string { data := #[] }, .int .i64 0, .slice none 0 0, .int .i64 0, .string { data := #[] }, .int .i64 0, .string { data := #[] }, .int .i64 0, .int .i64 0, .string { data := #[] }, .int .i64 0, .slice none 0 0, .slice none 0 0, .int .i64 0, .int .i64 0]) (fun t ht => by rw [List.mem_singleton] at ht; exact .inr (by omega))).trans (Mod.setRow (w5.drew.setRow w.heap.size #[.int .i64 0, .string { data := #[] }, .slice none 0 0, .int .i64 0, .int .i64 0, .string { data := #[] }, .int .i64 0, .int .i64 0, .string { data := #[] }, .int .i64 0, .slice none 0 0, .int .i64 0, .string { data := #[] }, .int .i64 0, .int .i64 0, .string { data := #[] }, .int .i64 0, .slice none 0 0, .int .i64 0, .string { data := #[] }, .int .i64 0, .string { data := #[] }, .int .i64 0, .int .i64 0, .string { data := #[] }, .int .i64 0, .slice none 0 0, .slice none 0 0, .int .i64 0, .int .i64 0]) (w.heap.size + 1) #[.int .i64 (g.1 : Nat), .int .i64 (g.2.1 : Nat), .int .i64 (g.2.2 : Nat)]) (fun t ht => by rw [List.mem_singleton] at ht; exact .inr (by omega))
    go_wp2_with fail
    exact bodyPost_ret (res_pair rfl _ _ w.heap.size (w.heap.size + 1) #[.int .i64 0, .string { data := #[] }, .slice none 0 0, .int .i64 0, .int .i64 0, .string { data := #[] }, .int .i64 0, .int .i64 0, .string { data := #[] }, .int .i64 0, .slice none 0 0, .int .i64 0, .string { data := #[] }, .int .i64 0, .int .i64 0, .string { data := #[] }, .int .i64 0, .slice none 0 0, .int .i64 0, .string { data := #[] }, .int .i64 0, .string { data := #[] }, .int .i64 0, .int .i64 0, .string { data := #[] }, .int .i64 0, .slice none 0 0, .slice none 0 0, .int .i64 0, .int .i64 0] #[.int .i64 (g.1 : Nat), .int .i64 (g.2.1 : Nat), .int .i64 (g.2.2 : Nat)] rfl rfl (run_loadVar_row (P := Tryz.prog) _ _ _ _ _ _ _ k0 Tryz.underlying50 rfl sizeL) (run_loadVar_row (P := Tryz.prog) _ _ _ _ _ _ _ n1 Tryz.underlying31 rfl sizeFlt)) rfl ⟨rfl, mm⟩

  | ok a i =>
    go_wp2_with fail
    refine HW.out.mono ?_
    rintro e4 w4 ⟨rfl, ⟨wg, ⟨C, hpC, hval⟩, mg⟩, m4⟩
    have hnb : ∀ (k : Nat), k ≠ b → k ≠ px → k ∉ [b, px] := fun k h1 h2 => by simp [h1, h2]
    have A4 := m4.at A3.out (hnb _ (by omega) (by omega)); have B4 := m4.at B3.out (hnb _ (by omega) (by omega)); have M4 := M3.out.trans m4 (fun t ht => by simp at ht; exact .inr (by omega))
    have P4 := mg.at hpC (by simp; omega)
    have V4 := valL_keep (m := wS.heap.size + 1) hval mg (by simp) (Nat.le_refl _)
    have m5 := (Mod.refl [] w4).alloc (Obj.cells #[.int .i64 0, .int .i64 0, .int .i64 0] 31)
    have x5 := heap_alloc_new w4 (Obj.cells #[.int .i64 0, .int .i64 0, .int .i64 0] 31)
    have A5 := Lib.hid (m5.at A4 (by simp)); have B5 := Lib.hid (m5.at B4 (by simp)); have M5 := Lib.hid (M4.trans m5 (by simp)); have P5 := Lib.hid (m5.at P4 (by simp)); have V5 := Lib.hid (valL_keep (m := wS.heap.size + 1) V4 m5 (by simp) (Nat.le_refl _))
    have hs4 := m4.size
    obtain ⟨hC, hO⟩ := valL_cells hval
    have HO := Lib.hid hO
    clear m4 A4 B4 M4 P4 V4 m5 hnb HW A3 B3 M3 P3 p0 H3 HV HNZ mg hpC hval hO
    obtain ⟨x50, x51, x52⟩ := cells3 x5
    clear x5
    go_upto_region 7 with fail
    generalize w4.alloc (Obj.cells _ 31) = w5 at *
    clear x50 x51 x52
    obtain ⟨p50, p51⟩ := part_c0 P5.out
    have b0 := cell_at B5.out 0; have b1 := cell_at B5.out 1; have b2 := cell_at B5.out 2
    simp only [List.getElem?_toArray, List.getElem?_cons_zero, List.getElem?_cons_succ] at b0 b1 b2
    go_wp2_with (first | refine wpList_load_mid rfl 50 _ rfl px 2 rfl C.toList _ (part_range P5.out) Tryz.underlying50 rfl (by rw [Array.length_toList]; exact size_of sizeL hC) ?_ | refine wpList_store_at rfl 50 _ _ rfl w.heap.size C _ 50 rfl rfl A5.out (size_of sizeL hC) (by rw [hC]; rfl) HO.out ?_ | refine wpList_store_at rfl 31 _ _ rfl (w.heap.size + 1) #[.int .i64 0, .int .i64 0, .int .i64 0] _ 31 rfl rfl ((setRow_other w5 w.heap.size (w.heap.size + 1) C (by omega)).trans B5.out) sizeFlt rfl rfl ?_)
    have mR := Mod.setRow w5 w.heap.size C
    have mR2 := Mod.setRow (w5.setRow w.heap.size C) (w.heap.size + 1) #[.int .i64 0, .int .i64 0, .int .i64 0]
    have a6 := setRow_heap w5 w.heap.size _ C 50 _ A5.out
    have a7 := mR2.at a6 (by simp)
    have b7 := setRow_heap (w5.setRow w.heap.size C) (w.heap.size + 1) _ #[.int .i64 0, .int .i64 0, .int .i64 0] 31 _ ((setRow_other w5 w.heap.size (w.heap.size + 1) C (by omega)).trans B5.out)
    refine bodyPost_ret (res_pair rfl _ _ w.heap.size (w.heap.size + 1) C #[.int .i64 0, .int .i64 0, .int .i64 0] rfl rfl (run_loadVar_row (P := Tryz.prog) _ _ _ _ _ _ _ a7 Tryz.underlying50 rfl (size_of sizeL hC)) (run_loadVar_row (P := Tryz.prog) _ _ _ _ _ _ _ b7 Tryz.underlying31 rfl sizeFlt)) rfl ⟨C, rfl, valL_keep (valL_keep (m := wS.heap.size + 1) V5.out mR (by simp; omega) (Nat.le_refl _)) mR2 (by simp; omega) (by omega), (M5.out.trans mR (fun t ht => ?_)).trans mR2 (fun t ht => ?_)⟩
    · rw [List.mem_singleton] at ht; exact .inr (by omega)
    · rw [List.mem_singleton] at ht; exact .inr (by omega)

set_option maxHeartbeats 8000000 in
/-- the entry -/
theorem entL_any (s : ByteArray) (hs : s.size ≤ 140737488355328) (w : World) (hG : Glob w) :
    Calls Tryz.prog 14 #[.string s] w (AllRes (Sy.whole (Sy.envOf (Cod.str s)) ((fun v => Sy.lit v 0) (Sy.envOf (Cod.str s)))) (valL w.heap.size) (.agg #[.int .i64 0, .string { data := #[] }, .slice none 0 0, .int .i64 0, .int .i64 0, .string { data := #[] }, .int .i64 0, .int .i64 0, .string { data := #[] }, .int .i64 0, .slice none 0 0, .int .i64 0, .string { data := #[] }, .int .i64 0, .int .i64 0, .string { data := #[] }, .int .i64 0, .slice none 0 0, .int .i64 0, .string { data := #[] }, .int .i64 0, .string { data := #[] }, .int .i64 0, .int .i64 0, .string { data := #[] }, .int .i64 0, .slice none 0 0, .slice none 0 0, .int .i64 0, .int .i64 0]) w) := by
  have m0 := ((Mod.refl [] w).alloc (Obj.cells #[.int .i64 0, .string { data := #[] }, .slice none 0 0, .int .i64 0, .int .i64 0, .string { data := #[] }, .int .i64 0, .int .i64 0, .string { data := #[] }, .int .i64 0, .slice none 0 0, .int .i64 0, .string { data := #[] }, .int .i64 0, .int .i64 0, .string { data := #[] }, .int .i64 0, .slice none 0 0, .int .i64 0, .string { data := #[] }, .int .i64 0, .string { data := #[] }, .int .i64 0, .int .i64 0, .string { data := #[] }, .int .i64 0, .slice none 0 0, .slice none 0 0, .int .i64 0, .int .i64 0] 50)).alloc (Obj.cells #[.int .i64 0, .int .i64 0, .int .i64 0] 31)
  have e0 := (((Mod.refl [] (w.alloc (Obj.cells #[.int .i64 0, .string { data := #[] }, .slice none 0 0, .int .i64 0, .int .i64 0, .string { data := #[] }, .int .i64 0, .int .i64 0, .string { data := #[] }, .int .i64 0, .slice none 0 0, .int .i64 0, .string { data := #[] }, .int .i64 0, .int .i64 0, .string { data := #[] }, .int .i64 0, .slice none 0 0, .int .i64 0, .string { data := #[] }, .int .i64 0, .string { data := #[] }, .int .i64 0, .int .i64 0, .string { data := #[] }, .int .i64 0, .slice none 0 0, .slice none 0 0, .int .i64 0, .int .i64 0] 50))).alloc (Obj.cells #[.int .i64 0, .int .i64 0, .int .i64 0] 31))).at (heap_alloc_new w (Obj.cells #[.int .i64 0, .string { data := #[] }, .slice none 0 0, .int .i64 0, .int .i64 0, .string { data := #[] }, .int .i64 0, .int .i64 0, .string { data := #[] }, .int .i64 0, .slice none 0 0, .int .i64 0, .string { data := #[] }, .int .i64 0, .int .i64 0, .string { data := #[] }, .int .i64 0, .slice none 0 0, .int .i64 0, .string { data := #[] }, .int .i64 0, .string { data := #[] }, .int .i64 0, .int .i64 0, .string { data := #[] }, .int .i64 0, .slice none 0 0, .slice none 0 0, .int .i64 0, .int .i64 0] 50)) (by simp)
  have e1 := heap_alloc_new (w.alloc (Obj.cells #[.int .i64 0, .string { data := #[] }, .slice none 0 0, .int .i64 0, .int .i64 0, .string { data := #[] }, .int .i64 0, .int .i64 0, .string { data := #[] }, .int .i64 0, .slice none 0 0, .int .i64 0, .string { data := #[] }, .int .i64 0, .int .i64 0, .string { data := #[] }, .int .i64 0, .slice none 0 0, .int .i64 0, .string { data := #[] }, .int .i64 0, .string { data := #[] }, .int .i64 0, .int .i64 0, .string { data := #[] }, .int .i64 0, .slice none 0 0, .slice none 0 0, .int .i64 0, .int .i64 0] 50)) (Obj.cells #[.int .i64 0, .int .i64 0, .int .i64 0] 31)
  have hs1 : (w.alloc (Obj.cells #[.int .i64 0, .string { data := #[] }, .slice none 0 0, .int .i64 0, .int .i64 0, .string { data := #[] }, .int .i64 0, .int .i64 0, .string { data := #[] }, .int .i64 0, .slice none 0 0, .int .i64 0, .string { data := #[] }, .int .i64 0, .int .i64 0, .string { data := #[] }, .int .i64 0, .slice none 0 0, .int .i64 0, .string { data := #[] }, .int .i64 0, .string { data := #[] }, .int .i64 0, .int .i64 0, .string { data := #[] }, .int .i64 0, .slice none 0 0, .slice none 0 0, .int .i64 0, .int .i64 0] 50)).heap.size = w.heap.size + 1 := by simp
  rw [hs1] at e1
  have hA := allL_any s hs _ (hG.past m0 (by simp))
  go_enter Tryz.func14, Tryz.ntmps14
  go_upto_region 1 with fail
  generalize (w.alloc (Obj.cells _ 50)).alloc (Obj.cells _ 31) = w0 at *
  have E0 := Lib.hid e0; have E1 := Lib.hid e1; have M0 := Lib.hid m0; have HA := Lib.hid hA
  have hw0 : w.heap.size + 2 ≤ w0.heap.size := by have := lt_of_block e1; omega
  clear e0 e1 m0 hs1 hA
  generalize Sy.whole (Sy.envOf (Cod.str s)) _ = q at *
  cases q with
  | err g =>
    go_wp2_with fail
    refine HA.out.mono ?_
    rintro e1 w1 ⟨rfl, m1⟩
    have A1 := Lib.hid (m1.at E0.out (by simp)); have B1 := Lib.hid (m1.at E1.out (by simp)); have M1 := Lib.hid (M0.out.trans m1 (by simp))
    have hsz1 := m1.size
    clear m1 HA
    unfold fltC
    go_wp2_with (first | refine wpList_store_at rfl 50 _ _ rfl w.heap.size #[.int .i64 0, .string { data := #[] }, .slice none 0 0, .int .i64 0, .int .i64 0, .string { data := #[] }, .int .i64 0, .int .i64 0, .string { data := #[] }, .int .i64 0, .slice none 0 0, .int .i64 0, .string { data := #[] }, .int .i64 0, .int .i64 0, .string { data := #[] }, .int .i64 0, .slice none 0 0, .int .i64 0, .string { data := #[] }, .int .i64 0, .string { data := #[] }, .int .i64 0, .int .i64 0, .string { data := #[] }, .int .i64 0, .slice none 0 0, .slice none 0 0, .int .i64 0, .int .i64 0] _ 50 rfl rfl A1.out sizeL rfl rfl ?_ | refine wpList_store_at rfl 31 _ _ rfl (w.heap.size + 1) #[.int .i64 (g.1 : Nat), .int .i64 (g.2.1 : Nat), .int .i64 (g.2.2 : Nat)] _ 31 rfl rfl ((setRow_other w1 w.heap.size (w.heap.size + 1) #[.int .i64 0, .string { data := #[] }, .slice none 0 0, .int .i64 0, .int .i64 0, .string { data := #[] }, .int .i64 0, .int .i64 0, .string { data := #[] }, .int .i64 0, .slice none 0 0, .int .i64 0, .string { data := #[] }, .int .i64 0, .int .i64 0, .string { data := #[] }, .int .i64 0, .slice none 0 0, .int .i64 0, .string { data := #[] }, .int .i64 0, .string { data := #[] }, .int .i64 0, .int .i64 0, .string { data := #[] }, .int .i64 0, .slice none 0 0, .slice none 0 0, .int .i64 0, .int .i64 0] (by omega)).trans B1.out) sizeFlt rfl rfl ?_)
    have mR := Mod.setRow w1 w.heap.size #[.int .i64 0, .string { data := #[] }, .slice none 0 0, .int .i64 0, .int .i64 0, .string { data := #[] }, .int .i64 0, .int .i64 0, .string { data := #[] }, .int .i64 0, .slice none 0 0, .int .i64 0, .string { data := #[] }, .int .i64 0, .int .i64 0, .string { data := #[] }, .int .i64 0, .slice none 0 0, .int .i64 0, .string { data := #[] }, .int .i64 0, .string { data := #[] }, .int .i64 0, .int .i64 0, .string { data := #[] }, .int .i64 0, .slice none 0 0, .slice none 0 0, .int .i64 0, .int .i64 0]
    have mR2 := Mod.setRow (w1.setRow w.heap.size #[.int .i64 0, .string { data := #[] }, .slice none 0 0, .int .i64 0, .int .i64 0, .string { data := #[] }, .int .i64 0, .int .i64 0, .string { data := #[] }, .int .i64 0, .slice none 0 0, .int .i64 0, .string { data := #[] }, .int .i64 0, .int .i64 0, .string { data := #[] }, .int .i64 0, .slice none 0 0, .int .i64 0, .string { data := #[] }, .int .i64 0, .string { data := #[] }, .int .i64 0, .int .i64 0, .string { data := #[] }, .int .i64 0, .slice none 0 0, .slice none 0 0, .int .i64 0, .int .i64 0]) (w.heap.size + 1) #[.int .i64 (g.1 : Nat), .int .i64 (g.2.1 : Nat), .int .i64 (g.2.2 : Nat)]
    have a6 := setRow_heap w1 w.heap.size _ #[.int .i64 0, .string { data := #[] }, .slice none 0 0, .int .i64 0, .int .i64 0, .string { data := #[] }, .int .i64 0, .int .i64 0, .string { data := #[] }, .int .i64 0, .slice none 0 0, .int .i64 0, .string { data := #[] }, .int .i64 0, .int .i64 0, .string { data := #[] }, .int .i64 0, .slice none 0 0, .int .i64 0, .string { data := #[] }, .int .i64 0, .string { data := #[] }, .int .i64 0, .int .i64 0, .string { data := #[] }, .int .i64 0, .slice none 0 0, .slice none 0 0, .int .i64 0, .int .i64 0] 50 _ A1.out
    have a7 := mR2.at a6 (by simp)
    have b7 := setRow_heap (w1.setRow w.heap.size #[.int .i64 0, .string { data := #[] }, .slice none 0 0, .int .i64 0, .int .i64 0, .string { data := #[] }, .int .i64 0, .int .i64 0, .string { data := #[] }, .int .i64 0, .slice none 0 0, .int .i64 0, .string { data := #[] }, .int .i64 0, .int .i64 0, .string { data := #[] }, .int .i64 0, .slice none 0 0, .int .i64 0, .string { data := #[] }, .int .i64 0, .string { data := #[] }, .int .i64 0, .int .i64 0, .string { data := #[] }, .int .i64 0, .slice none 0 0, .slice none 0 0, .int .i64 0, .int .i64 0]) (w.heap.size + 1) _ #[.int .i64 (g.1 : Nat), .int .i64 (g.2.1 : Nat), .int .i64 (g.2.2 : Nat)] 31 _ ((setRow_other w1 w.heap.size (w.heap.size + 1) #[.int .i64 0, .string { data := #[] }, .slice none 0 0, .int .i64 0, .int .i64 0, .string { data := #[] }, .int .i64 0, .int .i64 0, .string { data := #[] }, .int .i64 0, .slice none 0 0, .int .i64 0, .string { data := #[] }, .int .i64 0, .int .i64 0, .string { data := #[] }, .int .i64 0, .slice none 0 0, .int .i64 0, .string { data := #[] }, .int .i64 0, .string { data := #[] }, .int .i64 0, .int .i64 0, .string { data := #[] }, .int .i64 0, .slice none 0 0, .slice none 0 0, .int .i64 0, .int .i64 0] (by omega)).trans B1.out)
    refine bodyPost_ret (res_pair rfl _ _ w.heap.size (w.heap.size + 1) #[.int .i64 0, .string { data := #[] }, .slice none 0 0, .int .i64 0, .int .i64 0, .string { data := #[] }, .int .i64 0, .int .i64 0, .string { data := #[] }, .int .i64 0, .slice none 0 0, .int .i64 0, .string { data := #[] }, .int .i64 0, .int .i64 0, .string { data := #[] }, .int .i64 0, .slice none 0 0, .int .i64 0, .string { data := #[] }, .int .i64 0, .string { data := #[] }, .int .i64 0, .int .i64 0, .string { data := #[] }, .int .i64 0, .slice none 0 0, .slice none 0 0, .int .i64 0, .int .i64 0] #[.int .i64 (g.1 : Nat), .int .i64 (g.2.1 : Nat), .int .i64 (g.2.2 : Nat)] rfl rfl (run_loadVar_row (P := Tryz.prog) _ _ _ _ _ _ _ a7 Tryz.underlying50 rfl sizeL) (run_loadVar_row (P := Tryz.prog) _ _ _ _ _ _ _ b7 Tryz.underlying31 rfl sizeFlt)) rfl ⟨rfl, (M1.out.trans mR (fun t ht => ?_)).trans mR2 (fun t ht => ?_)⟩
    · rw [List.mem_singleton] at ht; exact .inr (by omega)
    · rw [List.mem_singleton] at ht; exact .inr (by omega)
  | ok a i =>
    go_wp2_with fail
    refine HA.out.mono ?_
    rintro e1 w1 ⟨C, rfl, hval, m1⟩
    have A1 := Lib.hid (m1.at E0.out (by simp)); have B1 := Lib.hid (m1.at E1.out (by simp)); have M1 := Lib.hid (M0.out.trans m1 (by simp))
    have hsz1 := m1.size
    obtain ⟨hC, hO⟩ := valL_cells hval
    have HO := Lib.hid hO; have HV := Lib.hid hval
    clear m1 HA hO hval
    go_wp2_with (first | refine wpList_store_at rfl 50 _ _ rfl w.heap.size C _ 50 rfl rfl A1.out (size_of sizeL hC) (by rw [hC]; rfl) HO.out ?_ | refine wpList_store_at rfl 31 _ _ rfl (w.heap.size + 1) #[.int .i64 0, .int .i64 0, .int .i64 0] _ 31 rfl rfl ((setRow_other w1 w.heap.size (w.heap.size + 1) C (by omega)).trans B1.out) sizeFlt rfl rfl ?_)
    have mR := Mod.setRow w1 w.heap.size C
    have mR2 := Mod.setRow (w1.setRow w.heap.size C) (w.heap.size + 1) #[.int .i64 0, .int .i64 0, .int .i64 0]
    have a6 := setRow_heap w1 w.heap.size _ C 50 _ A1.out
    have a7 := mR2.at a6 (by simp)
    have b7 := setRow_heap (w1.setRow w.heap.size C) (w.heap.size + 1) _ #[.int .i64 0, .int .i64 0, .int .i64 0] 31 _ ((setRow_other w1 w.heap.size (w.heap.size + 1) C (by omega)).trans B1.out)
    refine bodyPost_ret (res_pair rfl _ _ w.heap.size (w.heap.size + 1) C #[.int .i64 0, .int .i64 0, .int .i64 0] rfl rfl (run_loadVar_row (P := Tryz.prog) _ _ _ _ _ _ _ a7 Tryz.underlying50 rfl (size_of sizeL hC)) (run_loadVar_row (P := Tryz.prog) _ _ _ _ _ _ _ b7 Tryz.underlying31 rfl sizeFlt)) rfl ⟨C, rfl, valL_keep (valL_keep (m := w0.heap.size) HV.out mR (by simp; omega) (Nat.le_refl _)) mR2 (by simp; omega) (by omega), (M1.out.trans mR (fun t ht => ?_)).trans mR2 (fun t ht => ?_)⟩
    · rw [List.mem_singleton] at ht; exact .inr (by omega)
    · rw [List.mem_singleton] at ht; exact .inr (by omega)
end Go.Proofs.YtppigckioalhhaaGreatDoorR
/- THE LAWS: the examples that each law begins with; pick. Printed by wip/gen_syshown.py. -/
namespace Go.Proofs.YtppigckioalhhaaGreatDoorR
open Go.RowKit
set_option linter.unusedVariables false
set_option linter.unusedSimpArgs false
set_option maxRecDepth 100000

section
variable (w : World) (Z F C D : Array Value) (T U : TypeId)
theorem two_a : ((w.alloc (.cells Z T)).alloc (.cells F U)).heap[w.heap.size]? = some (.cells Z T (0, 0)) := ((Mod.refl [] (w.alloc (.cells Z T))).alloc (.cells F U)).at (heap_alloc_new w _) (by simp)
theorem two_b : ((w.alloc (.cells Z T)).alloc (.cells F U)).heap[w.heap.size + 1]? = some (.cells F U (0, 0)) := by
  have := heap_alloc_new (w.alloc (.cells Z T)) (.cells F U)
  rw [show (w.alloc (.cells Z T)).heap.size = w.heap.size + 1 by simp] at this
  exact this
theorem two_c : (((w.alloc (.cells Z T)).alloc (.cells F U)).setRow w.heap.size C).heap[w.heap.size + 1]? = some (.cells F U (0, 0)) := (setRow_other _ _ _ _ (by omega)).trans (two_b w Z F T U)
/-- two new variables, stored into -/
theorem two_vars : ((((w.alloc (.cells Z T)).alloc (.cells F U)).setRow w.heap.size C).setRow (w.heap.size + 1) D).heap[w.heap.size]? = some (.cells C T (0, 0)) ∧
    ((((w.alloc (.cells Z T)).alloc (.cells F U)).setRow w.heap.size C).setRow (w.heap.size + 1) D).heap[w.heap.size + 1]? = some (.cells D U (0, 0)) ∧
    Mod [] w ((((w.alloc (.cells Z T)).alloc (.cells F U)).setRow w.heap.size C).setRow (w.heap.size + 1) D) ∧ ((((w.alloc (.cells Z T)).alloc (.cells F U)).setRow w.heap.size C).setRow (w.heap.size + 1) D).heap.size = w.heap.size + 2 := by
  refine ⟨(setRow_other _ _ _ _ (by omega)).trans (setRow_heap _ _ _ _ _ _ (two_a w Z F T U)), setRow_heap _ _ _ _ _ _ (two_c w Z F C T U), ?_, by simp⟩
  refine (((((Mod.refl [] w).alloc _).alloc _).trans (Mod.setRow _ _ _) (fun t ht => ?_))).trans (Mod.setRow _ _ _) (fun t ht => ?_)
  · rw [List.mem_singleton] at ht; exact .inr (by omega)
  · rw [List.mem_singleton] at ht; exact .inr (by omega)
end
def tx1 : ByteArray := { data := #[114, 101, 108, 97, 116, 105, 111, 110, 32, 101, 40, 110, 117, 109, 44, 32, 115, 121, 109, 41, 46, 32, 101, 40, 49, 44, 32, 97, 41, 46] }
def tx2 : ByteArray := { data := #[88, 32, 61, 32, 45, 89, 32, 45, 32, 45, 49] }
def tx3 : ByteArray := { data := #[78, 32, 61, 32, 115, 117, 109, 32, 123, 32, 88, 32, 125] }
namespace Sy
def sP : Pr.Prog := ⟨[⟨txt [101], [1, 2], 1, 10⟩], [⟨⟨txt [101], [⟨2, txt [], ⟨1, 1, []⟩⟩, ⟨2, txt [], ⟨2, 0, [97]⟩⟩]⟩, [], 1, 23⟩]⟩
def sA : Pr.Ex := .mk 4 (txt []) Va.zero 6 [.mk 1 (txt [89]) Va.zero 0 []]
def sB : Pr.Ex := .mk 2 (txt []) ⟨1, -1, []⟩ 0 []
def sL : Pr.Li := .mk 3 at0 1 (.mk 1 (txt [88]) Va.zero 0 []) (.mk 4 (txt []) Va.zero 2 [sA, sB]) 0 (txt []) ex0 [] 1 1
theorem shown1 : ∃ i, whole (envOf (Cod.str tx1)) (prog (envOf (Cod.str tx1))) = .ok sP i := ⟨15, by kernel_rfl⟩
theorem shown2 : ∃ i, whole (envOf (Cod.str tx2)) (lit (envOf (Cod.str tx2)) 0) = .ok sL i := ⟨7, by kernel_rfl⟩
theorem shown3 : whole (envOf (Cod.str tx3)) (lit (envOf (Cod.str tx3)) 0) = .err (40, 1, 13) := by kernel_rfl
end Sy

set_option maxHeartbeats 8000000 in
theorem shown_any (w : World) (hG : Glob w) : Calls Tryz.prog 9 #[] w fun e w' => e = .returned (.bool true) ∧ Mod [] w w' := by
  obtain ⟨i1, hi1⟩ := Sy.shown1
  obtain ⟨i2, hi2⟩ := Sy.shown2
  have h1 := fun w hG => entP_any tx1 (by decide) w hG
  have h2 := fun w hG => entL_any tx2 (by decide) w hG
  have h3 := fun w hG => entL_any tx3 (by decide) w hG
  rw [hi1] at h1
  rw [hi2] at h2
  rw [Sy.shown3] at h3
  unfold AllRes at h1 h2 h3
  simp only at h1 h2 h3
  obtain ⟨ZZ, hZZ⟩ : ∃ Q : Array Value, Q = #[.int .i64 0, .string { data := #[] }, .slice none 0 0, .int .i64 0, .int .i64 0, .string { data := #[] }, .int .i64 0, .int .i64 0, .string { data := #[] }, .int .i64 0, .slice none 0 0, .int .i64 0, .string { data := #[] }, .int .i64 0, .int .i64 0, .string { data := #[] }, .int .i64 0, .slice none 0 0, .int .i64 0, .string { data := #[] }, .int .i64 0, .string { data := #[] }, .int .i64 0, .int .i64 0, .string { data := #[] }, .int .i64 0, .slice none 0 0, .slice none 0 0, .int .i64 0, .int .i64 0] := ⟨_, rfl⟩
  have hZ5 : ZZ.size = 30 := by rw [hZZ]; rfl
  have hO5 : ZZ.toList.all (·.oneCell') = true := by rw [hZZ]; rfl
  rw [← hZZ] at h3
  clear hZZ
  have HO5 := Lib.hid hO5
  clear hO5
  have H1 := Lib.hid h1; have H2 := Lib.hid h2; have H3 := Lib.hid h3
  clear h1 h2 h3 hi1 hi2
  unfold tx1 tx2 tx3 at *
  go_enter Tryz.func9, Tryz.ntmps9
  go_wp2_with fail
  refine (H1.out w hG).mono ?_
  rintro e1 w1 ⟨C1, rfl, v1, m1⟩
  obtain ⟨hC1, hO1⟩ := valP_cells v1
  have V1 := Lib.hid v1; have HO1 := Lib.hid hO1
  clear v1 hO1
  go_upto_region 2 with (first | refine wpList_store_at rfl 26 _ _ rfl w1.heap.size C1 _ 26 rfl rfl (two_a w1 #[.slice none 0 0, .slice none 0 0] #[.int .i64 0, .int .i64 0, .int .i64 0] 26 31) (size_of sizeP hC1) (by rw [hC1]; rfl) HO1.out ?_ | refine wpList_store_at rfl 31 _ _ rfl (w1.heap.size + 1) #[.int .i64 0, .int .i64 0, .int .i64 0] _ 31 rfl rfl (two_c w1 #[.slice none 0 0, .slice none 0 0] #[.int .i64 0, .int .i64 0, .int .i64 0] C1 26 31) sizeFlt rfl rfl ?_)
  obtain ⟨x2, y2, n2, s2⟩ := two_vars w1 #[.slice none 0 0, .slice none 0 0] #[.int .i64 0, .int .i64 0, .int .i64 0] C1 #[.int .i64 0, .int .i64 0, .int .i64 0] 26 31
  generalize (((w1.alloc _).alloc _).setRow _ _).setRow _ _ = w2 at *
  have X2 := Lib.hid x2; have Y2 := Lib.hid y2; have M2 := Lib.hid (m1.trans n2 (by simp)); have V2 := Lib.hid (valP_keep V1.out n2 (by simp) (Nat.le_refl _))
  clear x2 y2 n2 m1 V1
  go_wp2_with fail
  refine (H2.out w2 (hG.past M2.out (by simp))).mono ?_
  rintro e3 w3 ⟨C3, rfl, v3, m3⟩
  obtain ⟨hC3, hO3⟩ := valL_cells v3
  have V3 := Lib.hid v3; have HO3 := Lib.hid hO3
  have X3 := Lib.hid (m3.at X2.out (by simp)); have Y3 := Lib.hid (m3.at Y2.out (by simp)); have M3 := Lib.hid (M2.out.trans m3 (by simp)); have W3 := Lib.hid (valP_keep V2.out m3 (by simp) (Nat.le_refl _))
  have s3 := m3.size
  clear v3 hO3 m3 X2 Y2 V2
  go_upto_region 3 with (first | refine wpList_store_at rfl 50 _ _ rfl w3.heap.size C3 _ 50 rfl rfl (two_a w3 #[.int .i64 0, .string { data := #[] }, .slice none 0 0, .int .i64 0, .int .i64 0, .string { data := #[] }, .int .i64 0, .int .i64 0, .string { data := #[] }, .int .i64 0, .slice none 0 0, .int .i64 0, .string { data := #[] }, .int .i64 0, .int .i64 0, .string { data := #[] }, .int .i64 0, .slice none 0 0, .int .i64 0, .string { data := #[] }, .int .i64 0, .string { data := #[] }, .int .i64 0, .int .i64 0, .string { data := #[] }, .int .i64 0, .slice none 0 0, .slice none 0 0, .int .i64 0, .int .i64 0] #[.int .i64 0, .int .i64 0, .int .i64 0] 50 31) (size_of sizeL hC3) (by rw [hC3]; rfl) HO3.out ?_ | refine wpList_store_at rfl 31 _ _ rfl (w3.heap.size + 1) #[.int .i64 0, .int .i64 0, .int .i64 0] _ 31 rfl rfl (two_c w3 #[.int .i64 0, .string { data := #[] }, .slice none 0 0, .int .i64 0, .int .i64 0, .string { data := #[] }, .int .i64 0, .int .i64 0, .string { data := #[] }, .int .i64 0, .slice none 0 0, .int .i64 0, .string { data := #[] }, .int .i64 0, .int .i64 0, .string { data := #[] }, .int .i64 0, .slice none 0 0, .int .i64 0, .string { data := #[] }, .int .i64 0, .string { data := #[] }, .int .i64 0, .int .i64 0, .string { data := #[] }, .int .i64 0, .slice none 0 0, .slice none 0 0, .int .i64 0, .int .i64 0] #[.int .i64 0, .int .i64 0, .int .i64 0] C3 50 31) sizeFlt rfl rfl ?_)
  obtain ⟨x4, y4, n4, s4⟩ := two_vars w3 #[.int .i64 0, .string { data := #[] }, .slice none 0 0, .int .i64 0, .int .i64 0, .string { data := #[] }, .int .i64 0, .int .i64 0, .string { data := #[] }, .int .i64 0, .slice none 0 0, .int .i64 0, .string { data := #[] }, .int .i64 0, .int .i64 0, .string { data := #[] }, .int .i64 0, .slice none 0 0, .int .i64 0, .string { data := #[] }, .int .i64 0, .string { data := #[] }, .int .i64 0, .int .i64 0, .string { data := #[] }, .int .i64 0, .slice none 0 0, .slice none 0 0, .int .i64 0, .int .i64 0] #[.int .i64 0, .int .i64 0, .int .i64 0] C3 #[.int .i64 0, .int .i64 0, .int .i64 0] 50 31
  generalize (((w3.alloc _).alloc _).setRow _ _).setRow _ _ = w4 at *
  have X4 := Lib.hid (n4.at X3.out (by simp)); have Y4 := Lib.hid (n4.at Y3.out (by simp)); have A4 := Lib.hid x4; have B4 := Lib.hid y4; have M4 := Lib.hid (M3.out.trans n4 (by simp)); have V4 := Lib.hid (valP_keep W3.out n4 (by simp) (Nat.le_refl _)); have U4 := Lib.hid (valL_keep V3.out n4 (by simp) (Nat.le_refl _))
  clear x4 y4 n4 X3 Y3 V3 W3
  go_wp2_with fail
  refine (H3.out w4 (hG.past M4.out (by simp))).mono ?_
  rintro e5 w5 ⟨rfl, m5⟩
  have X5 := Lib.hid (m5.at X4.out (by simp)); have Y5 := Lib.hid (m5.at Y4.out (by simp)); have A5 := Lib.hid (m5.at A4.out (by simp)); have B5 := Lib.hid (m5.at B4.out (by simp)); have M5 := Lib.hid (M4.out.trans m5 (by simp)); have V5 := Lib.hid (valP_keep V4.out m5 (by simp) (Nat.le_refl _)); have U5 := Lib.hid (valL_keep U4.out m5 (by simp) (Nat.le_refl _))
  have s5 := m5.size
  clear m5 X4 Y4 A4 B4 V4 U4
  unfold fltC
  go_upto_region 4 with (first | refine wpList_store_at rfl 50 _ _ rfl w5.heap.size ZZ _ 50 rfl rfl (two_a w5 #[.int .i64 0, .string { data := #[] }, .slice none 0 0, .int .i64 0, .int .i64 0, .string { data := #[] }, .int .i64 0, .int .i64 0, .string { data := #[] }, .int .i64 0, .slice none 0 0, .int .i64 0, .string { data := #[] }, .int .i64 0, .int .i64 0, .string { data := #[] }, .int .i64 0, .slice none 0 0, .int .i64 0, .string { data := #[] }, .int .i64 0, .string { data := #[] }, .int .i64 0, .int .i64 0, .string { data := #[] }, .int .i64 0, .slice none 0 0, .slice none 0 0, .int .i64 0, .int .i64 0] #[.int .i64 0, .int .i64 0, .int .i64 0] 50 31) (size_of sizeL hZ5) (by rw [hZ5]; rfl) HO5.out ?_ | refine wpList_store_at rfl 31 _ _ rfl (w5.heap.size + 1) #[.int .i64 40, .int .i64 1, .int .i64 13] _ 31 rfl rfl (two_c w5 #[.int .i64 0, .string { data := #[] }, .slice none 0 0, .int .i64 0, .int .i64 0, .string { data := #[] }, .int .i64 0, .int .i64 0, .string { data := #[] }, .int .i64 0, .slice none 0 0, .int .i64 0, .string { data := #[] }, .int .i64 0, .int .i64 0, .string { data := #[] }, .int .i64 0, .slice none 0 0, .int .i64 0, .string { data := #[] }, .int .i64 0, .string { data := #[] }, .int .i64 0, .int .i64 0, .string { data := #[] }, .int .i64 0, .slice none 0 0, .slice none 0 0, .int .i64 0, .int .i64 0] #[.int .i64 0, .int .i64 0, .int .i64 0] ZZ 50 31) sizeFlt rfl rfl ?_)
  obtain ⟨x6, y6, n6, s6⟩ := two_vars w5 #[.int .i64 0, .string { data := #[] }, .slice none 0 0, .int .i64 0, .int .i64 0, .string { data := #[] }, .int .i64 0, .int .i64 0, .string { data := #[] }, .int .i64 0, .slice none 0 0, .int .i64 0, .string { data := #[] }, .int .i64 0, .int .i64 0, .string { data := #[] }, .int .i64 0, .slice none 0 0, .int .i64 0, .string { data := #[] }, .int .i64 0, .string { data := #[] }, .int .i64 0, .int .i64 0, .string { data := #[] }, .int .i64 0, .slice none 0 0, .slice none 0 0, .int .i64 0, .int .i64 0] #[.int .i64 0, .int .i64 0, .int .i64 0] ZZ #[.int .i64 40, .int .i64 1, .int .i64 13] 50 31
  generalize (((w5.alloc _).alloc _).setRow _ _).setRow _ _ = w6 at *
  have X6 := Lib.hid (n6.at X5.out (by simp)); have Y6 := Lib.hid (n6.at Y5.out (by simp)); have A6 := Lib.hid (n6.at A5.out (by simp)); have B6 := Lib.hid (n6.at B5.out (by simp)); have M6 := Lib.hid (M5.out.trans n6 (by simp)); have V6 := Lib.hid (valP_keep V5.out n6 (by simp) (Nat.le_refl _)); have U6 := Lib.hid (valL_keep U5.out n6 (by simp) (Nat.le_refl _)); have Y7 := Lib.hid y6
  clear x6 y6 n6 X5 Y5 A5 B5 V5 U5 M5 HO1 HO3 HO5 hC1 hC3 hZ5
  obtain ⟨rels, rus, u1, u2, e1, e2, b1, b2, -, -⟩ := V6.out
  simp only [Value.agg.injEq] at e1
  subst e1
  unfold Sy.sP at e2
  simp only [Pr.Prog.mk.injEq] at e2
  obtain ⟨e2, e3⟩ := e2
  obtain ⟨x, rfl⟩ : ∃ x, rels = [x] := by
    match rels, e2 with
    | [x], _ => exact ⟨x, rfl⟩
    | [], e => simp at e
    | _ :: _ :: _, e => simp at e
  obtain ⟨y, rfl⟩ : ∃ y, rus = [y] := by
    match rus, e3 with
    | [x], _ => exact ⟨x, rfl⟩
    | [], e => simp at e
    | _ :: _ :: _, e => simp at e
  simp only [List.map_cons, List.map_nil, List.cons.injEq, and_true] at e2 e3
  obtain ⟨a1, c1, rfl⟩ := b1.lit
  obtain ⟨a2, c2, rfl⟩ := b2.lit
  obtain ⟨g1, o1, rfl, k1⟩ := b1.at 0 (by simp)
  obtain ⟨g2, o2, rfl, k2⟩ := b2.at 0 (by simp)
  obtain ⟨r1, v1⟩ := x
  obtain ⟨r2, v2, v3⟩ := y
  simp only [List.getElem_cons_zero, csR, csU] at k1 k2 e2 e3
  subst e2
  subst e3
  have n1 : w6.cell? ⟨g1, o1, none⟩ = some (.string { data := #[101] }) := by simpa using k1 0 (.string { data := #[101] }) (by rfl)
  have q1 : w6.cell? ⟨g2, o2 + 3, none⟩ = some (.int .i64 1) := by simpa using k2 3 (.int .i64 1) (by rfl)
  have q2 : w6.cell? ⟨g2, o2 + 4, none⟩ = some (.int .i64 23) := by simpa using k2 4 (.int .i64 23) (by rfl)
  obtain ⟨U, f1, hL⟩ := U6.out
  simp only [Value.agg.injEq] at f1
  unfold Sy.sL at f1 hL
  obtain ⟨-, -, hr, -, -⟩ := hL.parts
  obtain ⟨a3, c3, h3⟩ := hr.lit
  rw [h3] at hr
  obtain ⟨g3, o3, uu, rfl, k3, -⟩ := hr.at 1 (by simp [Pr.Ex.args])
  have A7 := A6.out
  rw [f1] at A7
  have l16 : w6.cell? ⟨w3.heap.size, 16, none⟩ = some (.int .i64 2) := cell_at A7 16
  have l17 : w6.cell? ⟨w3.heap.size, 17, none⟩ = some (.slice (some ⟨g3, o3, none⟩) 2 c3) := (cell_at A7 17).trans (congrArg some h3)
  have z0 : w6.cell? ⟨g3, o3 + 9, none⟩ = some (.int .i64 1) := by have := k3 2 (.int .i64 1) (by rfl); rw [Nat.one_mul, Nat.add_assoc] at this; exact this
  have z1 : w6.cell? ⟨g3, o3 + 10, none⟩ = some (.int .i64 (-1)) := by have := k3 3 (.int .i64 (-1)) (by rfl); rw [Nat.one_mul, Nat.add_assoc] at this; exact this
  have z2 : w6.cell? ⟨g3, o3 + 11, none⟩ = some (.string { data := #[] }) := by have := k3 4 (.string { data := #[] }) (by rfl); rw [Nat.one_mul, Nat.add_assoc] at this; exact this
  have p0 : w6.cell? ⟨w1.heap.size, 0, none⟩ = some (.slice (some ⟨g1, o1, none⟩) 1 c1) := cell_at X6.out 0
  have p1 : w6.cell? ⟨w1.heap.size, 1, none⟩ = some (.slice (some ⟨g2, o2, none⟩) 1 c2) := cell_at X6.out 1
  have t0 : w6.cell? ⟨w1.heap.size + 1, 0, none⟩ = some (.int .i64 0) := cell_at Y6.out 0
  have t1 : w6.cell? ⟨w3.heap.size + 1, 0, none⟩ = some (.int .i64 0) := cell_at B6.out 0
  have t2 : w6.cell? ⟨w5.heap.size + 1, 0, none⟩ = some (.int .i64 40) := cell_at Y7.out 0
  have t3 : w6.cell? ⟨w5.heap.size + 1, 1, none⟩ = some (.int .i64 1) := cell_at Y7.out 1
  have t4 : w6.cell? ⟨w5.heap.size + 1, 2, none⟩ = some (.int .i64 13) := cell_at Y7.out 2
  clear k1 k2 k3 hL hr A7 f1 h3 b1 b2 s2 s3 s4 s5 s6 X6 Y6 A6 B6 V6 U6 Y7 H1 H2 H3
  go_wp2_with fail
  go_ret
  exact ⟨rfl, M6.out⟩
end Go.Proofs.YtppigckioalhhaaGreatDoorR
namespace Go.Proofs.YtppigckioalhhaaGreatDoorR
open Go.RowKit
set_option linter.unusedVariables false
set_option linter.unusedSimpArgs false
set_option maxRecDepth 100000

def pickI (c n : Int) : Int := if c < 0 then -(Int.tmod (c + 1) n) else c % n
theorem pick_lt (c n : Int) (hn : 0 < n) : 0 ≤ pickI c n ∧ pickI c n < n := by
  unfold pickI
  split
  · rw [← Int.neg_tmod, Int.tmod_eq_emod_of_nonneg (by omega)]
    exact ⟨Int.emod_nonneg _ (by omega), Int.emod_lt_of_pos _ hn⟩
  · exact ⟨Int.emod_nonneg _ (by omega), Int.emod_lt_of_pos _ hn⟩
theorem pick_any (c n : Int) (h1 : -9223372036854775808 ≤ c ∧ c ≤ 9223372036854775807) (hn : 0 < n) (hn2 : n ≤ 140737488355328) (w : World) :
    Calls Tryz.prog 13 #[.int .i64 c, .int .i64 n] w fun e w' => e = .returned (.int .i64 (pickI c n)) ∧ w' = w := by
  have hp := pick_lt c n hn
  have hn0 : n ≠ 0 := by omega
  by_cases hc : c < 0
  · have e : Hid (pickI c n = -(Int.tmod (c + 1) n)) := Lib.hid (by unfold pickI; rw [if_pos hc])
    rw [e.out] at hp
    go_enter Tryz.func13, Tryz.ntmps13
    go_wp2_with fail
    go_ret
    exact ⟨by rw [e.out]; rfl, rfl⟩
  · have e : Hid (pickI c n = c % n) := Lib.hid (by unfold pickI; rw [if_neg hc])
    rw [e.out] at hp
    go_enter Tryz.func13, Tryz.ntmps13
    go_wp2_with fail
    go_ret
    exact ⟨by rw [e.out]; rfl, rfl⟩
/-- a list of numbers, each as large as an int may be -/
structure IntsAt (w : World) (u : Value) (xs : List Int) : Prop where
  row : RowB (fun _ => True) w 1 intC xs u
  rng : ∀ x ∈ xs, -9223372036854775808 ≤ x ∧ x ≤ 9223372036854775807
end Go.Proofs.YtppigckioalhhaaGreatDoorR
