/- PLAIN: two texts with a line's end between; a word by itself; what stands between words. No program in sight. -/
import Derived.Test.YtppigckioalhhaaGreatDoorRKL1
import Derived.Laws.OwnMore
import Derived.Test.YtppigckioalhhaaGreatDoorRKB3
import Derived.Test.YtppigckioalhhaaGreatDoorRKB1
/- COPIES: CopyProgram. Printed by wip/gen_sycopy4.py. -/
namespace Go.Proofs.YtppigckioalhhaaGreatDoorR
open Go.RowKit
set_option linter.unusedVariables false
set_option linter.unusedSimpArgs false
set_option maxRecDepth 100000

/-- where a copy's things lie: not in its two rows -/
def QF (w0 : World) (sr su : Value) (k : Nat) : Prop := w0.heap.size ≤ k ∧ k ∉ fp sr ∧ k ∉ fp su
/-- a program whose rows are the call's own -/
structure PO (w0 W : World) (rels : List RelU) (rus : List RulU) (va : Option Addr) (vc : Nat) (ua : Option Addr) (uc : Nat) : Prop where
  rowR : W.ownsRow 0 81 4 (.slice va rels.length vc) rels.length (rowCells csR rels)
  rowU : W.ownsRow 0 55 5 (.slice ua rus.length uc) rus.length (rowCells csU rus)
  newR : ∀ k ∈ fp (.slice va rels.length vc), w0.heap.size ≤ k
  newU : ∀ k ∈ fp (.slice ua rus.length uc), w0.heap.size ≤ k
  dis : ∀ k ∈ fp (.slice va rels.length vc), k ∉ fp (.slice ua rus.length uc)
  subR : ∀ p ∈ rels, RelB (QF w0 (.slice va rels.length vc) (.slice ua rus.length uc)) W p
  subU : ∀ p ∈ rus, RulB (QF w0 (.slice va rels.length vc) (.slice ua rus.length uc)) W p
  mod : Mod [] w0 W
def CpP (p : Pr.Prog) (w : World) (e : Ending) (w' : World) : Prop := ∃ (rels : List RelU) (rus : List RulU) (va : Option Addr) (vc : Nat) (ua : Option Addr) (uc : Nat),
  e = .returned (.agg #[.slice va rels.length vc, .slice ua rus.length uc]) ∧ (⟨rels.map (·.1), rus.map (·.1)⟩ : Pr.Prog) = p ∧ PO w w' rels rus va vc ua uc

set_option maxHeartbeats 16000000 in
theorem copyProg_any {F : Nat → Prop} (p : Pr.Prog) (hM : PgM p) (u : Value) (w : World) (h : PgB F w p u) :
    Calls Tryz.prog 53 #[u] w (CpP p w) := by
  obtain ⟨a1, c1, b1, d1, rfl⟩ := h.lit
  obtain ⟨prels, prules⟩ := p
  obtain ⟨iR, hR0, hR1, hR2, hR3⟩ := info_parts Tryz.infoRel
  obtain ⟨iU, hU0, hU1, hU2, hU3⟩ := info_parts Tryz.infoRul
  obtain ⟨iI, hI0, hI1, hI2, hI3⟩ := info_parts Tryz.infoInt
  have HMM := Lib.hid hM
  have hl1 := hM.rels
  have hl2 := hM.rules
  dsimp only at *
  have H1 := Lib.hid (h.mono (G := fun k => k < w.heap.size) (fun k _ h => h))
  clear h hM
  have mA := ((Mod.refl [] w).alloc (Obj.cells #[.slice a1 prels.length c1, .slice b1 prules.length d1] 26)).alloc (Obj.cells #[.slice none 0 0, .slice none 0 0] 26)
  have eA := two_a w #[.slice a1 prels.length c1, .slice b1 prules.length d1] #[.slice none 0 0, .slice none 0 0] 26 26
  have eB := two_b w #[.slice a1 prels.length c1, .slice b1 prules.length d1] #[.slice none 0 0, .slice none 0 0] 26 26
  have zA : ((w.alloc (Obj.cells #[.slice a1 prels.length c1, .slice b1 prules.length d1] 26)).alloc (Obj.cells #[.slice none 0 0, .slice none 0 0] 26)).heap.size = w.heap.size + 2 := by simp
  go_enter Tryz.func53, Tryz.ntmps53
  go_upto_region 1 with fail
  generalize (w.alloc (Obj.cells _ 26)).alloc (Obj.cells _ 26) = w0 at *
  have M0 := Lib.hid mA; have E0 := Lib.hid eA; have E1 := Lib.hid eB
  clear mA eA eB
  have mB := (Mod.refl [] w0).alloc (Obj.cells #[.slice none 0 0, .slice none 0 0] 26)
  have bB := heap_alloc_new w0 (Obj.cells #[.slice none 0 0, .slice none 0 0] 26)
  have PB : Hid (PI w0 w.heap.size w0.heap.size [] [] (w0.alloc (Obj.cells #[.slice none 0 0, .slice none 0 0] 26)) none 0 none 0) := Lib.hid
    ⟨bB, World.ownsRow_nil _ _ _ _, World.ownsRow_nil _ _ _ _, by simp [fp], by simp [fp], by simp [fp], by simp, by simp, Nat.le_refl _, by omega, mB.mono (by simp)⟩
  have EB := Lib.hid (mB.at E0.out (by simp))
  clear mB bB
  go_upto_region 2 with fail
  rw [zA] at PB
  generalize hpb : w.heap.size + 2 = pb at *
  generalize w0.alloc (Obj.cells _ 26) = wB at *
  generalize hb : w.heap.size = b at *
  go_wp2_with fail
  go_loopw [4] (fun iv wr => ∃ (rels : List RelU) (va : Option Addr) (vc : Nat), iv = .int .i64 (rels.length : Nat) ∧ rels.map (·.1) = prels.take rels.length ∧ rels.length ≤ prels.length ∧ PI w0 b pb rels [] wr va vc none 0 ∧ wr.heap[b]? = some (.cells #[.slice a1 prels.length c1, .slice b1 prules.length d1] 26 (0, 0))) (fun iv _ => prels.length - (intOf iv).toNat)
  case atStart => exact ⟨[], none, 0, rfl, by simp, by simp, PB.out, EB.out⟩
  case round =>
    obtain ⟨rels, va, vc, rfl, hmap, hle, hP, hbx⟩ := hrel
    have MW := Lib.hid ((M0.out.mono (T := [b]) (by simp)).trans hP.mod (by simp))
    have P0 := Lib.hid hP; have HMP := Lib.hid hmap; have XB := Lib.hid hbx; have BX := Lib.hid hP.box
    have y0 := cell_at XB.out 0
    simp only [List.getElem?_toArray, List.getElem?_cons_zero, List.getElem?_cons_succ] at y0
    have e0 := cell_at BX.out 0
    simp only [List.getElem?_toArray, List.getElem?_cons_zero, List.getElem?_cons_succ] at e0

    clear hP hmap hbx
    by_cases hlt : rels.length < prels.length
    · have hjI : (rels.length : Int) < (prels.length : Int) := by omega
      have hj0 : (0 : Int) ≤ (rels.length : Int) := by omega
      obtain ⟨g1, o1, t1, rfl, hc1, ht1⟩ := (H1.out.keep MW.out (by simp)).relAt rels.length hlt
      have hty := HMM.out.types _ (List.getElem_mem hlt)
      have HY : Hid (prels[rels.length]? = some prels[rels.length]) := Lib.hid (List.getElem?_eq_getElem hlt)
      dsimp only at hc1 ht1
      generalize prels[rels.length] = y at *
      obtain ⟨nm, tys, ln, cl⟩ := y
      obtain ⟨ya1, yc1, rfl⟩ := ht1.lit
      dsimp only at hty
      have HT := Lib.hid ht1
      have p0 := hc1 0 (.string nm) rfl; have p1 := hc1 1 (.slice ya1 tys.length yc1) rfl; have p2 := hc1 2 (.int .i64 ln) rfl; have p3 := hc1 3 (.int .i64 cl) rfl
      rw [Nat.add_zero] at p0
      clear hc1 ht1
      go_upto_region 7 with fail
      have n1 := (Mod.refl [] wr).alloc (Obj.cells #[.string nm, .slice ya1 tys.length yc1, .int .i64 ln, .int .i64 cl] 81)
      have x1 := heap_alloc_new wr (Obj.cells #[.string nm, .slice ya1 tys.length yc1, .int .i64 ln, .int .i64 cl] 81)
      generalize wr.alloc (Obj.cells #[.string nm, .slice ya1 tys.length yc1, .int .i64 ln, .int .i64 cl] 81) = wa at *
      have hza := lt_of_block x1
      have S1 := Lib.hid (rows_src Tryz.underlying36 intC_size (by omega) intC_one (HT.out.keep n1 (by simp)))
      have X0 := Lib.hid x1; have NA := Lib.hid n1
      clear n1 x1 p0 p1 p2 p3 HT e0
      generalize hpx : wr.heap.size = px at *
      have x1 := cell_at X0.out 1
      simp only [List.getElem?_toArray, List.getElem?_cons_zero, List.getElem?_cons_succ] at x1

      go_wp2_with (at_builtin; refine wpList_append_src _ rfl _ _ 36 36 rfl 3 iI (.int .i64 0) 1 8 Tryz.underlying36 hI0 hI1 hI2 hI3 rfl (.slice none 0 0) 0 [] rfl (World.ownsRow_nil _ _ _ _) _ tys.length (rowCells intC tys) rfl S1.out (by unfold maxLen; omega) (by omega) ?_)
      intro v2 w2 hown2 hm2 hf2 hn2
      (try rw [Nat.zero_add] at hown2); (try rw [List.nil_append] at hown2)
      obtain ⟨ya3, yc3, rfl⟩ := owns_slice hown2
      have M2 := Lib.hid (show Mod [] wa w2 from hm2)
      have R2 := Lib.hid (RowB.of_owns (F := fun k => wa.heap.size ≤ k) intC_size hown2 (fun k hk => by
        rcases hf2 k hk with hh | hh
        · simp [fp] at hh
        · exact hh))
      clear hown2 hm2 hf2 hn2 x1 S1
      have X2 := Lib.hid (M2.out.at X0.out (by simp))
      have x1 := cell_at X2.out 1
      simp only [List.getElem?_toArray, List.getElem?_cons_zero, List.getElem?_cons_succ] at x1

      have fA : ∀ j, w2.frozen? ⟨px, j, none⟩ = false := fun j => free_at X2.out j
      go_upto_region 9 with fail
      have X3 : Hid ((w2.setCell ⟨px, 1, none⟩ (.slice ya3 tys.length yc3)).heap[px]? = some (.cells #[.string nm, .slice ya3 tys.length yc3, .int .i64 ln, .int .i64 cl] 81 (0, 0))) := Lib.hid (setCs_heap [.slice ya3 tys.length yc3] 1 [.string nm, .slice ya1 tys.length yc1, .int .i64 ln, .int .i64 cl] w2 X2.out)
      have Q3 : Hid (Mod [px] w2 (w2.setCell ⟨px, 1, none⟩ (.slice ya3 tys.length yc3))) := Lib.hid (setCs_mod px [.slice ya3 tys.length yc3] 1 w2)
      generalize w2.setCell ⟨px, 1, none⟩ (.slice ya3 tys.length yc3) = q3 at *
      have R3 := Lib.hid (R2.out.keep Q3.out (fun s hs => by rw [List.mem_singleton] at hs; omega))
      have MQ : Hid (Mod [] wr q3) := Lib.hid ((NA.out.trans M2.out (by simp)).trans (S := []) Q3.out (fun s hs => .inr (by rw [List.mem_singleton] at hs; omega)))
      clear fA x1 X2 R2 M2 Q3 X0
      have P3 := Lib.hid (P0.out.keep (MQ.out.mono (by simp)))
      have hbx := lt_of_block BX.out
      have hlR := Lib.hid (fun k hk => fp_lt P0.out.rowR k hk)
      have FB : Hid (∀ wX, wX = q3.alloc (Obj.cells #[.string nm, .slice ya3 tys.length yc3, .int .i64 ln, .int .i64 cl] 81) → PI w0 b pb rels [] wX va vc none 0 ∧ RelB (fun k => wa.heap.size ≤ k) wX (⟨nm, tys, ln, cl⟩, .slice ya3 tys.length yc3) ∧ Src Tryz.prog 4 23 (.slice (some ⟨q3.heap.size, 0, none⟩) 1 1) 1 (csR (⟨nm, tys, ln, cl⟩, .slice ya3 tys.length yc3)).toList wX ∧ Mod [] wr wX ∧ wX.cell? ⟨pb, 0, none⟩ = some (.slice va rels.length vc)) := Lib.hid (fun wX e => by
        subst e
        have mA := (Mod.refl [] q3).alloc (Obj.cells #[.string nm, .slice ya3 tys.length yc3, .int .i64 ln, .int .i64 cl] 81)
        have hrb : RelB (fun k => wa.heap.size ≤ k) q3 (⟨nm, tys, ln, cl⟩, .slice ya3 tys.length yc3) := R3.out
        exact ⟨P3.out.keep (mA.mono (by simp)), hrb.keep mA (by simp), src_one (cs := csR (⟨nm, tys, ln, cl⟩, .slice ya3 tys.length yc3)) Tryz.underlying23 (heap_alloc_new q3 _) rfl (csR_one hrb), MQ.out.trans mA (by simp), cell_at ((P3.out.keep (mA.mono (by simp))).box) 0⟩)
      have x0 := cell_at X3.out 0; have x1 := cell_at X3.out 1; have x2 := cell_at X3.out 2; have x3 := cell_at X3.out 3
      simp only [List.getElem?_toArray, List.getElem?_cons_zero, List.getElem?_cons_succ] at x0 x1 x2 x3

      have e0 := cell_at P3.out.box 0
      simp only [List.getElem?_toArray, List.getElem?_cons_zero, List.getElem?_cons_succ] at e0
      go_wp2_with (at_builtin; refine wpList_append_src _ rfl _ _ 23 23 rfl 81 iR (.agg #[.string { data := #[] }, .slice none 0 0, .int .i64 0, .int .i64 0]) 4 56 Tryz.underlying23 hR0 hR1 hR2 hR3 rfl (.slice va rels.length vc) rels.length (rowCells csR rels) rfl (FB.out _ rfl).1.rowR _ 1 (csR (⟨nm, tys, ln, cl⟩, .slice ya3 tys.length yc3)).toList rfl (FB.out _ rfl).2.2.1 (by unfold maxLen; omega) (by omega) ?_)
      intro v' w5 hown5 hm5 hf5 hn5
      obtain ⟨va5, vc5, rfl⟩ := owns_slice hown5
      obtain ⟨PX, LX, SX, MX, CX⟩ := FB.out _ rfl
      have hpx2 : pb < wa.heap.size := by omega
      have G5 := Lib.hid (PX.growR (p := (⟨nm, tys, ln, cl⟩, .slice ya3 tys.length yc3)) hm5 LX hpx2 (fun k hk => by have := hlR.out k hk; omega) (by simp [fp]) hown5 (fun k hk => by
        rcases hf5 k hk with hh | hh
        · exact .inl hh
        · exact .inr (by simpa using hh)))
      have hna : pb ∉ fp (.slice va rels.length vc) := fun hk => (PX.newR pb hk).2 rfl
      have hnb : b ∉ fp (.slice va rels.length vc) := fun hk => by have := (PX.newR b hk).1; omega
      have q5 : w5.cell? ⟨pb, 0, none⟩ = some (.slice va rels.length vc) := hm5.cell (p := ⟨pb, 0, none⟩) CX hna
      have f5 : w5.frozen? ⟨pb, 0, none⟩ = false := free_at (hm5.at PX.box hna) 0
      have B5 := Lib.hid (((Mod.refl [pb] w5).setCell (p := ⟨pb, 0, none⟩) (.inl (by simp)) (.slice va5 (rels.length + 1) vc5)).at (hm5.at (MX.at XB.out (by simp)) hnb) (by simp; omega))
      clear hown5 hm5 hf5 hn5 PX LX SX MX CX FB e0 x0 x1 x2 x3 y0 X3 R3 P3 MQ
      go_wp2_with fail
      generalize w5.setCell ⟨pb, 0, none⟩ (.slice va5 (rels.length + 1) vc5) = w8 at *
      go_roundw
      case rel =>
        refine ⟨rels ++ [(⟨nm, tys, ln, cl⟩, .slice ya3 tys.length yc3)], va5, vc5, by rw [List.length_append]; go_num, ?_, by simp; omega, by simpa using G5.out, B5.out⟩
        rw [List.map_append, HMP.out, show ∀ z : RelU, (rels ++ [z]).length = rels.length + 1 from fun z => by simp, List.take_add_one, HY.out]; rfl
      case measure => simp [intOf]; omega
    · have hjI : ¬ (rels.length : Int) < (prels.length : Int) := by omega
      have HAE : Hid (rels.length = prels.length) := Lib.hid (by omega)
      have HRL : Hid (rels.map (·.1) = prels) := Lib.hid (by rw [HMP.out, HAE.out, List.take_length])
      have PBX := Lib.hid P0.out.box
      clear e0
      go_wp2_with fail
      clear y0
      obtain ⟨wo, rfl⟩ : ∃ wo : World, wo = wr := ⟨_, rfl⟩
      go_loopw [7] (fun iv wr => ∃ (rus : List RulU) (ua : Option Addr) (uc : Nat), iv = .int .i64 (rus.length : Nat) ∧ rus.map (·.1) = prules.take rus.length ∧ rus.length ≤ prules.length ∧ PI w0 b pb rels rus wr va vc ua uc ∧ wr.heap[b]? = some (.cells #[.slice a1 prels.length c1, .slice b1 prules.length d1] 26 (0, 0))) (fun iv _ => prules.length - (intOf iv).toNat)
      case atStart => exact ⟨[], none, 0, rfl, by simp, by simp, P0.out, XB.out⟩
      case round =>
        obtain ⟨rus, ua, uc, rfl, hmap, hle2, hP, hbx⟩ := hrel
        have MV := Lib.hid ((M0.out.mono (T := [b]) (by simp)).trans hP.mod (by simp))
        have P1 := Lib.hid hP; have HMQ := Lib.hid hmap; have XC := Lib.hid hbx; have BX1 := Lib.hid hP.box
        have y1 := cell_at XC.out 1
        simp only [List.getElem?_toArray, List.getElem?_cons_zero, List.getElem?_cons_succ] at y1

        clear hP hmap hbx
        by_cases hlt : rus.length < prules.length
        · have hjI : (rus.length : Int) < (prules.length : Int) := by omega
          have hj0 : (0 : Int) ≤ (rus.length : Int) := by omega
          obtain ⟨g1, o1, t1, s1, rfl, hc1, ht1, hb1⟩ := H1.out.rulAt rus.length hlt
          have hq1 := HMM.out.terms _ (List.getElem_mem hlt)
          have hq2 := HMM.out.body _ (List.getElem_mem hlt)
          have hq3 := HMM.out.deep _ (List.getElem_mem hlt)
          have HY : Hid (prules[rus.length]? = some prules[rus.length]) := Lib.hid (List.getElem?_eq_getElem hlt)
          dsimp only at hc1 ht1 hb1
          generalize prules[rus.length] = y at *
          obtain ⟨⟨rel, ts⟩, body, ln, cl⟩ := y
          obtain ⟨ta1, tc1, rfl⟩ := ht1.lit
          obtain ⟨ba1, bc1, rfl⟩ := hb1.lit
          dsimp only at hq1 hq2 hq3
          have p0 := hc1 0 (.string rel) rfl; have p1 := hc1 1 (.slice ta1 ts.length tc1) rfl; have p2 := hc1 2 (.slice ba1 body.length bc1) rfl; have p3 := hc1 3 (.int .i64 ln) rfl; have p4 := hc1 4 (.int .i64 cl) rfl
          rw [Nat.add_zero] at p0
          have hg1 : g1 < w.heap.size := by simpa using World.block_lt_of_cell? w _ p0
          have hw0 := M0.out.size
          have hwb0 : b < w0.heap.size := by omega
          have hpb0 := P1.out.pbn
          obtain ⟨T, hT⟩ : ∃ T : List Nat, T = pb :: fp (.slice ua rus.length uc) := ⟨_, rfl⟩
          have hTn : ∀ k ∈ T, w0.heap.size ≤ k := by
            intro k hk
            rw [hT] at hk
            rcases List.mem_cons.1 hk with rfl | hk
            · exact hpb0
            · exact (P1.out.newU k hk).1
          have hTb : b ∉ T := fun hk => by have := hTn b hk; omega
          have hTg : g1 ∉ T := fun hk => by have := hTn g1 hk; omega
          have hgb : g1 ∉ [b] := by simp; omega
          have P0' := Lib.hid (MV.out.cell p0 hgb); have P1' := Lib.hid (MV.out.cell p1 hgb); have P2' := Lib.hid (MV.out.cell p2 hgb); have P3' := Lib.hid (MV.out.cell p3 hgb); have P4' := Lib.hid (MV.out.cell p4 hgb)
          have ZB : Hid (wr.cell? ⟨b, 1, none⟩ = some (.slice (some ⟨g1, o1, none⟩) prules.length d1)) := Lib.hid (cell_at XC.out 1)
          have HF1 : Hid (∀ w', Mod T wr w' → Mod (b :: T) w w') := Lib.hid (fun w' hm => (MV.out.mono (T := b :: T) (by simp)).trans hm (fun t ht => .inl (List.mem_cons_of_mem _ ht)))
          have HFS : ∀ s ∈ b :: T, ¬ s < b := fun s hs => by
            rcases List.mem_cons.1 hs with rfl | hs
            · omega
            · have := hTn s hs; omega
          have HCA : Hid (∀ w', Mod T wr w' → Calls Tryz.prog 97 #[.agg #[.string rel, .slice ta1 ts.length tc1]] w' (CpA ⟨rel, ts⟩ w')) := Lib.hid (fun w' hm => copyAtom_any ⟨rel, ts⟩ hq1 _ w' (ht1.keep (HF1.out w' hm) HFS))
          have HCB : Hid (∀ w', Mod T wr w' → Calls Tryz.prog 98 #[.slice ba1 body.length bc1] w' (CpB body w')) := Lib.hid (fun w' hm => copyLits_any body hq2 hq3 _ w' (hb1.keep (HF1.out w' hm) HFS))
          clear hc1 ht1 hb1 p0 p1 p2 p3 p4 HFS
          go_wp2_with fail
          have hpw := lt_of_block BX1.out
          have hlR := Lib.hid (fun k hk => fp_lt P1.out.rowR k hk)
          have hlU := Lib.hid (fun k hk => fp_lt P1.out.rowU k hk)
          have N0 : Hid (Mod [] wr wr.drew) := Lib.hid (Mod.refl [] wr).drew
          refine wp_region_held_drew (S := (fun w' : World => Mod T wr w')) (by kernel_rfl) (by (try dsimp only); exact (Mod.refl T wr).drew) (fun hHeld => ?_)
          refine wpAnyH_take (i := 0) (oi := ?_) (v := ?_) ?_ ?_ ?_ ?_ ?_ ?_ (by assumption) ?_
          rotate_left 2
          · (simp only [List.getElem?_toArray, List.getElem?_cons_succ, List.getElem?_cons_zero]) <;> rfl
          · kernel_rfl
          · kernel_rfl
          · kernel_rfl
          rotate_left 1
          · refine Or.inl ⟨by rfl, ?_⟩
            intro w hSw
            have s1 := hSw.cell ZB.out hTb; have p0 := hSw.cell P0'.out hTg; have p1 := hSw.cell P1'.out hTg; have p2 := hSw.cell P2'.out hTg; have p3 := hSw.cell P3'.out hTg; have p4 := hSw.cell P4'.out hTg; clear hSw
            go_simp
            all_goals with_reducible rfl
          rotate_left 1
          · exact fun _ _ _ h => h
          try simp only [Act.put, List.setIfInBounds_toArray, List.set_cons_zero, List.set_cons_succ]
          refine wpAnyH_take (i := 2) (oi := ?_) (v := ?_) ?_ ?_ ?_ ?_ ?_ ?_ (by assumption) ?_
          rotate_left 2
          · (simp only [List.getElem?_toArray, List.getElem?_cons_succ, List.getElem?_cons_zero]) <;> rfl
          · kernel_rfl
          · kernel_rfl
          · kernel_rfl
          rotate_left 1
          · refine Or.inl ⟨by rfl, ?_⟩
            intro w hSw
            have s1 := hSw.cell ZB.out hTb; have p0 := hSw.cell P0'.out hTg; have p1 := hSw.cell P1'.out hTg; have p2 := hSw.cell P2'.out hTg; have p3 := hSw.cell P3'.out hTg; have p4 := hSw.cell P4'.out hTg; clear hSw
            go_simp
            all_goals with_reducible rfl
          rotate_left 1
          · exact fun _ _ _ h => h
          try simp only [Act.put, List.setIfInBounds_toArray, List.set_cons_zero, List.set_cons_succ]
          refine wpAnyH_take (i := 3) (oi := ?_) (v := ?_) ?_ ?_ ?_ ?_ ?_ ?_ (by assumption) ?_
          rotate_left 2
          · (simp only [List.getElem?_toArray, List.getElem?_cons_succ, List.getElem?_cons_zero]) <;> rfl
          · kernel_rfl
          · kernel_rfl
          · kernel_rfl
          rotate_left 1
          · refine Or.inl ⟨by rfl, ?_⟩
            intro w hSw
            have s1 := hSw.cell ZB.out hTb; have p0 := hSw.cell P0'.out hTg; have p1 := hSw.cell P1'.out hTg; have p2 := hSw.cell P2'.out hTg; have p3 := hSw.cell P3'.out hTg; have p4 := hSw.cell P4'.out hTg; clear hSw
            go_simp
            all_goals with_reducible rfl
          rotate_left 1
          · exact fun _ _ _ h => h
          try simp only [Act.put, List.setIfInBounds_toArray, List.set_cons_zero, List.set_cons_succ]
          refine wpAnyH_take (i := 4) (oi := ?_) (v := ?_) ?_ ?_ ?_ ?_ ?_ ?_ (by assumption) ?_
          rotate_left 2
          · (simp only [List.getElem?_toArray, List.getElem?_cons_succ, List.getElem?_cons_zero]) <;> rfl
          · kernel_rfl
          · kernel_rfl
          · kernel_rfl
          rotate_left 1
          · refine Or.inl ⟨by rfl, ?_⟩
            intro w hSw
            have s1 := hSw.cell ZB.out hTb; have p0 := hSw.cell P0'.out hTg; have p1 := hSw.cell P1'.out hTg; have p2 := hSw.cell P2'.out hTg; have p3 := hSw.cell P3'.out hTg; have p4 := hSw.cell P4'.out hTg; clear hSw
            go_simp
            all_goals with_reducible rfl
          rotate_left 1
          · exact fun _ _ _ h => h
          try simp only [Act.put, List.setIfInBounds_toArray, List.set_cons_zero, List.set_cons_succ]
          refine wpAnyH_take (i := 5) (oi := ?_) (v := ?_) ?_ ?_ ?_ ?_ ?_ ?_ (by assumption) ?_
          rotate_left 2
          · (simp only [List.getElem?_toArray, List.getElem?_cons_succ, List.getElem?_cons_zero]) <;> rfl
          · kernel_rfl
          · kernel_rfl
          · kernel_rfl
          rotate_left 1
          · refine Or.inl ⟨by rfl, ?_⟩
            intro w hSw
            have s1 := hSw.cell ZB.out hTb; have p0 := hSw.cell P0'.out hTg; have p1 := hSw.cell P1'.out hTg; have p2 := hSw.cell P2'.out hTg; have p3 := hSw.cell P3'.out hTg; have p4 := hSw.cell P4'.out hTg; clear hSw
            go_simp
            all_goals with_reducible rfl
          rotate_left 1
          · exact fun _ _ _ h => h
          try simp only [Act.put, List.setIfInBounds_toArray, List.set_cons_zero, List.set_cons_succ]
          refine wpAnyH_take (i := 6) (oi := ?_) (v := ?_) ?_ ?_ ?_ ?_ ?_ ?_ (by assumption) ?_
          rotate_left 2
          · (simp only [List.getElem?_toArray, List.getElem?_cons_succ, List.getElem?_cons_zero]) <;> rfl
          · kernel_rfl
          · kernel_rfl
          · kernel_rfl
          rotate_left 1
          · refine Or.inl ⟨by rfl, ?_⟩
            intro w hSw
            have s1 := hSw.cell ZB.out hTb; have p0 := hSw.cell P0'.out hTg; have p1 := hSw.cell P1'.out hTg; have p2 := hSw.cell P2'.out hTg; have p3 := hSw.cell P3'.out hTg; have p4 := hSw.cell P4'.out hTg; clear hSw
            go_simp
            all_goals with_reducible rfl
          rotate_left 1
          · exact fun _ _ _ h => h
          try simp only [Act.put, List.setIfInBounds_toArray, List.set_cons_zero, List.set_cons_succ]
          refine wpAnyH_take (i := 7) (oi := ?_) (v := ?_) ?_ ?_ ?_ ?_ ?_ ?_ (by assumption) ?_
          rotate_left 2
          · (simp only [List.getElem?_toArray, List.getElem?_cons_succ, List.getElem?_cons_zero]) <;> rfl
          · kernel_rfl
          · kernel_rfl
          · kernel_rfl
          rotate_left 1
          · refine Or.inl ⟨by rfl, ?_⟩
            intro w hSw
            have s1 := hSw.cell ZB.out hTb; have p0 := hSw.cell P0'.out hTg; have p1 := hSw.cell P1'.out hTg; have p2 := hSw.cell P2'.out hTg; have p3 := hSw.cell P3'.out hTg; have p4 := hSw.cell P4'.out hTg; clear hSw
            go_simp
            all_goals with_reducible rfl
          rotate_left 1
          · exact fun _ _ _ h => h
          try simp only [Act.put, List.setIfInBounds_toArray, List.set_cons_zero, List.set_cons_succ]
          refine wpAnyH_take (i := 9) (oi := ?_) (v := ?_) ?_ ?_ ?_ ?_ ?_ ?_ (by assumption) ?_
          rotate_left 2
          · (simp only [List.getElem?_toArray, List.getElem?_cons_succ, List.getElem?_cons_zero]) <;> rfl
          · kernel_rfl
          · kernel_rfl
          · kernel_rfl
          rotate_left 1
          · refine Or.inl ⟨by rfl, ?_⟩
            intro w hSw
            have s1 := hSw.cell ZB.out hTb; have p0 := hSw.cell P0'.out hTg; have p1 := hSw.cell P1'.out hTg; have p2 := hSw.cell P2'.out hTg; have p3 := hSw.cell P3'.out hTg; have p4 := hSw.cell P4'.out hTg; clear hSw
            go_simp
            all_goals with_reducible rfl
          rotate_left 1
          · exact fun _ _ _ h => h
          try simp only [Act.put, List.setIfInBounds_toArray, List.set_cons_zero, List.set_cons_succ]
          refine wpAnyH_take (i := 10) (oi := ?_) (v := ?_) ?_ ?_ ?_ ?_ ?_ ?_ (by assumption) ?_
          rotate_left 2
          · (simp only [List.getElem?_toArray, List.getElem?_cons_succ, List.getElem?_cons_zero]) <;> rfl
          · kernel_rfl
          · kernel_rfl
          · kernel_rfl
          rotate_left 1
          · refine Or.inl ⟨by rfl, ?_⟩
            intro w hSw
            have s1 := hSw.cell ZB.out hTb; have p0 := hSw.cell P0'.out hTg; have p1 := hSw.cell P1'.out hTg; have p2 := hSw.cell P2'.out hTg; have p3 := hSw.cell P3'.out hTg; have p4 := hSw.cell P4'.out hTg; clear hSw
            go_simp
            all_goals with_reducible rfl
          rotate_left 1
          · exact fun _ _ _ h => h
          try simp only [Act.put, List.setIfInBounds_toArray, List.set_cons_zero, List.set_cons_succ]
          refine wpAnyH_take (i := 11) (oi := ?_) (v := ?_) ?_ ?_ ?_ ?_ ?_ ?_ (by assumption) ?_
          rotate_left 2
          · (simp only [List.getElem?_toArray, List.getElem?_cons_succ, List.getElem?_cons_zero]) <;> rfl
          · kernel_rfl
          · kernel_rfl
          · kernel_rfl
          rotate_left 1
          · refine Or.inl ⟨by rfl, ?_⟩
            intro w hSw
            have s1 := hSw.cell ZB.out hTb; have p0 := hSw.cell P0'.out hTg; have p1 := hSw.cell P1'.out hTg; have p2 := hSw.cell P2'.out hTg; have p3 := hSw.cell P3'.out hTg; have p4 := hSw.cell P4'.out hTg; clear hSw
            go_simp
            all_goals with_reducible rfl
          rotate_left 1
          · exact fun _ _ _ h => h
          try simp only [Act.put, List.setIfInBounds_toArray, List.set_cons_zero, List.set_cons_succ]
          refine wpAnyH_take (i := 12) (oi := ?_) (v := ?_) ?_ ?_ ?_ ?_ ?_ ?_ (by assumption) ?_
          rotate_left 2
          · (simp only [List.getElem?_toArray, List.getElem?_cons_succ, List.getElem?_cons_zero]) <;> rfl
          · kernel_rfl
          · kernel_rfl
          · kernel_rfl
          rotate_left 1
          · refine Or.inl ⟨by rfl, ?_⟩
            intro w hSw
            have s1 := hSw.cell ZB.out hTb; have p0 := hSw.cell P0'.out hTg; have p1 := hSw.cell P1'.out hTg; have p2 := hSw.cell P2'.out hTg; have p3 := hSw.cell P3'.out hTg; have p4 := hSw.cell P4'.out hTg; clear hSw
            go_simp
            all_goals with_reducible rfl
          rotate_left 1
          · exact fun _ _ _ h => h
          try simp only [Act.put, List.setIfInBounds_toArray, List.set_cons_zero, List.set_cons_succ]
          refine wpAnyH_take (i := 13) (oi := ?_) (v := ?_) ?_ ?_ ?_ ?_ ?_ ?_ (by assumption) ?_
          rotate_left 2
          · (simp only [List.getElem?_toArray, List.getElem?_cons_succ, List.getElem?_cons_zero]) <;> rfl
          · kernel_rfl
          · kernel_rfl
          · kernel_rfl
          rotate_left 1
          · refine Or.inl ⟨by rfl, ?_⟩
            intro w hSw
            have s1 := hSw.cell ZB.out hTb; have p0 := hSw.cell P0'.out hTg; have p1 := hSw.cell P1'.out hTg; have p2 := hSw.cell P2'.out hTg; have p3 := hSw.cell P3'.out hTg; have p4 := hSw.cell P4'.out hTg; clear hSw
            go_simp
            all_goals with_reducible rfl
          rotate_left 1
          · exact fun _ _ _ h => h
          try simp only [Act.put, List.setIfInBounds_toArray, List.set_cons_zero, List.set_cons_succ]
          refine wpAnyH_take (i := 14) (oi := ?_) (v := ?_) ?_ ?_ ?_ ?_ ?_ ?_ (by assumption) ?_
          rotate_left 2
          · (simp only [List.getElem?_toArray, List.getElem?_cons_succ, List.getElem?_cons_zero]) <;> rfl
          · kernel_rfl
          · kernel_rfl
          · kernel_rfl
          rotate_left 1
          · refine Or.inl ⟨by rfl, ?_⟩
            intro w hSw
            have s1 := hSw.cell ZB.out hTb; have p0 := hSw.cell P0'.out hTg; have p1 := hSw.cell P1'.out hTg; have p2 := hSw.cell P2'.out hTg; have p3 := hSw.cell P3'.out hTg; have p4 := hSw.cell P4'.out hTg; clear hSw
            go_simp
            all_goals with_reducible rfl
          rotate_left 1
          · exact fun _ _ _ h => h
          try simp only [Act.put, List.setIfInBounds_toArray, List.set_cons_zero, List.set_cons_succ]
          refine wpAnyH_take (i := 16) (oi := ?_) (v := ?_) ?_ ?_ ?_ ?_ ?_ ?_ (by assumption) ?_
          rotate_left 2
          · (simp only [List.getElem?_toArray, List.getElem?_cons_succ, List.getElem?_cons_zero]) <;> rfl
          · kernel_rfl
          · kernel_rfl
          · kernel_rfl
          rotate_left 1
          · refine Or.inl ⟨by rfl, ?_⟩
            intro w hSw
            have s1 := hSw.cell ZB.out hTb; have p0 := hSw.cell P0'.out hTg; have p1 := hSw.cell P1'.out hTg; have p2 := hSw.cell P2'.out hTg; have p3 := hSw.cell P3'.out hTg; have p4 := hSw.cell P4'.out hTg; clear hSw
            go_simp
            all_goals with_reducible rfl
          rotate_left 1
          · exact fun _ _ _ h => h
          try simp only [Act.put, List.setIfInBounds_toArray, List.set_cons_zero, List.set_cons_succ]
          refine wpAnyH_take (i := 17) (oi := ?_) (v := ?_) ?_ ?_ ?_ ?_ ?_ ?_ (by assumption) ?_
          rotate_left 2
          · (simp only [List.getElem?_toArray, List.getElem?_cons_succ, List.getElem?_cons_zero]) <;> rfl
          · kernel_rfl
          · kernel_rfl
          · kernel_rfl
          rotate_left 1
          · refine Or.inl ⟨by rfl, ?_⟩
            intro w hSw
            have s1 := hSw.cell ZB.out hTb; have p0 := hSw.cell P0'.out hTg; have p1 := hSw.cell P1'.out hTg; have p2 := hSw.cell P2'.out hTg; have p3 := hSw.cell P3'.out hTg; have p4 := hSw.cell P4'.out hTg; clear hSw
            go_simp
            all_goals with_reducible rfl
          rotate_left 1
          · exact fun _ _ _ h => h
          try simp only [Act.put, List.setIfInBounds_toArray, List.set_cons_zero, List.set_cons_succ]
          refine wpAnyH_take (i := 18) (oi := ?_) (v := ?_) ?_ ?_ ?_ ?_ ?_ ?_ (by assumption) ?_
          rotate_left 2
          · (simp only [List.getElem?_toArray, List.getElem?_cons_succ, List.getElem?_cons_zero]) <;> rfl
          · kernel_rfl
          · kernel_rfl
          · kernel_rfl
          rotate_left 1
          · refine Or.inl ⟨by rfl, ?_⟩
            intro w hSw
            have s1 := hSw.cell ZB.out hTb; have p0 := hSw.cell P0'.out hTg; have p1 := hSw.cell P1'.out hTg; have p2 := hSw.cell P2'.out hTg; have p3 := hSw.cell P3'.out hTg; have p4 := hSw.cell P4'.out hTg; clear hSw
            go_simp
            all_goals with_reducible rfl
          rotate_left 1
          · exact fun _ _ _ h => h
          try simp only [Act.put, List.setIfInBounds_toArray, List.set_cons_zero, List.set_cons_succ]
          refine wpAnyH_take (i := 19) (oi := ?_) (v := ?_) ?_ ?_ ?_ ?_ ?_ ?_ (by assumption) ?_
          rotate_left 2
          · (simp only [List.getElem?_toArray, List.getElem?_cons_succ, List.getElem?_cons_zero]) <;> rfl
          · kernel_rfl
          · kernel_rfl
          · kernel_rfl
          rotate_left 1
          · refine Or.inl ⟨by rfl, ?_⟩
            intro w hSw
            have s1 := hSw.cell ZB.out hTb; have p0 := hSw.cell P0'.out hTg; have p1 := hSw.cell P1'.out hTg; have p2 := hSw.cell P2'.out hTg; have p3 := hSw.cell P3'.out hTg; have p4 := hSw.cell P4'.out hTg; clear hSw
            go_simp
            all_goals with_reducible rfl
          rotate_left 1
          · exact fun _ _ _ h => h
          try simp only [Act.put, List.setIfInBounds_toArray, List.set_cons_zero, List.set_cons_succ]
          refine wpAnyH_take (i := 20) (oi := ?_) (v := ?_) ?_ ?_ ?_ ?_ ?_ ?_ (by assumption) ?_
          rotate_left 2
          · (simp only [List.getElem?_toArray, List.getElem?_cons_succ, List.getElem?_cons_zero]) <;> rfl
          · kernel_rfl
          · kernel_rfl
          · kernel_rfl
          rotate_left 1
          · refine Or.inl ⟨by rfl, ?_⟩
            intro w hSw
            have s1 := hSw.cell ZB.out hTb; have p0 := hSw.cell P0'.out hTg; have p1 := hSw.cell P1'.out hTg; have p2 := hSw.cell P2'.out hTg; have p3 := hSw.cell P3'.out hTg; have p4 := hSw.cell P4'.out hTg; clear hSw
            go_simp
            all_goals with_reducible rfl
          rotate_left 1
          · exact fun _ _ _ h => h
          try simp only [Act.put, List.setIfInBounds_toArray, List.set_cons_zero, List.set_cons_succ]
          refine wpAnyH_take (i := 21) (oi := ?_) (v := ?_) ?_ ?_ ?_ ?_ ?_ ?_ (by assumption) ?_
          rotate_left 2
          · (simp only [List.getElem?_toArray, List.getElem?_cons_succ, List.getElem?_cons_zero]) <;> rfl
          · kernel_rfl
          · kernel_rfl
          · kernel_rfl
          rotate_left 1
          · refine Or.inl ⟨by rfl, ?_⟩
            intro w hSw
            have s1 := hSw.cell ZB.out hTb; have p0 := hSw.cell P0'.out hTg; have p1 := hSw.cell P1'.out hTg; have p2 := hSw.cell P2'.out hTg; have p3 := hSw.cell P3'.out hTg; have p4 := hSw.cell P4'.out hTg; clear hSw
            go_simp
            all_goals with_reducible rfl
          rotate_left 1
          · exact fun _ _ _ h => h
          try simp only [Act.put, List.setIfInBounds_toArray, List.set_cons_zero, List.set_cons_succ]
          refine wpAnyH_ready (rs := [1, 8]) (by kernel_rfl) (by simp) ?_
          refine AllReadyH.cons (o := ?_) ?_ ?_ ?_
          rotate_left 1
          · (simp only [List.getElem?_toArray, List.getElem?_cons_succ, List.getElem?_cons_zero]) <;> rfl
          · intro K hK
            have e1 : wr.drew.cell? ⟨pb, 1, none⟩ = some (.slice ua rus.length uc) := N0.out.cell (p := ⟨pb, 1, none⟩) (cell_at BX1.out 1) (by simp)
            go_simp
            refine hK.out _ _ (by (try dsimp only); exact N0.out.mono (by simp)) (fun hHeld => ?_)
            clear hK K
            try simp only [Act.put, List.setIfInBounds_toArray, List.set_cons_zero, List.set_cons_succ]
            clear e1
            refine wpAnyH_ready (rs := [8]) (by kernel_rfl) (by simp) ?_
            refine AllReadyH.cons (o := ?_) ?_ ?_ AllReadyH.nil
            rotate_left 1
            · (simp only [List.getElem?_toArray, List.getElem?_cons_succ, List.getElem?_cons_zero]) <;> rfl
            intro K hK
            go_simp
            refine (HCA.out _ (N0.out.mono (by simp))).mono ?_
            rintro e3 v1 ⟨u1, rfl, r1, m1⟩
            obtain ⟨ta3, tc3, rfl⟩ := r1.lit
            have N1 := Lib.hid (N0.out.trans m1 (by simp))
            have R1 := Lib.hid (r1.mono (F' := fun k => wr.heap.size ≤ k) (fun k hk _ => Nat.le_trans (N0.out.size) hk))
            clear m1 r1
            refine hK.out _ _ (by (try dsimp only); exact N1.out.mono (by simp)) (fun hHeld => ?_)
            clear hK K
            try simp only [Act.put, List.setIfInBounds_toArray, List.set_cons_zero, List.set_cons_succ]
            refine wpAnyH_ready (rs := [15]) (by kernel_rfl) (by simp) ?_
            refine AllReadyH.cons (o := ?_) ?_ ?_ AllReadyH.nil
            rotate_left 1
            · (simp only [List.getElem?_toArray, List.getElem?_cons_succ, List.getElem?_cons_zero]) <;> rfl
            intro K hK
            go_simp
            refine (HCB.out _ (N1.out.mono (by simp))).mono ?_
            rintro e4 v2 ⟨bacc, ba3, bc3, rfl, bm, r2, m2⟩
            have N2 := Lib.hid (N1.out.trans m2 (by simp))
            have R2 : Hid (BB (fun k => wr.heap.size ≤ k) v2 body (.slice ba3 bacc.length bc3)) := Lib.hid (bm ▸ (BB.of_gi r2).mono (fun k hk _ => Nat.le_trans (N1.out.size) hk))
            have R1 := Lib.hid (R1.out.keep m2 (by simp))
            have BL3 : Hid (bacc.length = body.length) := Lib.hid (by rw [← bm]; simp)
            clear m2 r2 bm
            refine hK.out _ _ (by (try dsimp only); exact N2.out.mono (by simp)) (fun hHeld => ?_)
            clear hK K
            try simp only [Act.put, List.setIfInBounds_toArray, List.set_cons_zero, List.set_cons_succ]
            refine wpAnyH_take (i := 22) (oi := ?_) (v := ?_) ?_ ?_ ?_ ?_ ?_ ?_ (by assumption) ?_
            rotate_left 2
            · (simp only [List.getElem?_toArray, List.getElem?_cons_succ, List.getElem?_cons_zero]) <;> rfl
            · kernel_rfl
            · kernel_rfl
            · kernel_rfl
            rotate_left 1
            · refine Or.inl ⟨by rfl, ?_⟩
              intro w hSw
              have s1 := hSw.cell ZB.out hTb; have p0 := hSw.cell P0'.out hTg; have p1 := hSw.cell P1'.out hTg; have p2 := hSw.cell P2'.out hTg; have p3 := hSw.cell P3'.out hTg; have p4 := hSw.cell P4'.out hTg; clear hSw
              go_simp
              all_goals with_reducible rfl
            rotate_left 1
            · exact fun _ _ _ h => h
            try simp only [Act.put, List.setIfInBounds_toArray, List.set_cons_zero, List.set_cons_succ]
            refine wpAnyH_ready (rs := [23]) (by kernel_rfl) (by simp) ?_
            refine AllReadyH.cons (o := ?_) ?_ ?_ AllReadyH.nil
            rotate_left 1
            · (simp only [List.getElem?_toArray, List.getElem?_cons_succ, List.getElem?_cons_zero]) <;> rfl
            intro K hK
            go_simp
            have N3 : Hid (Mod [] wr (v2.alloc (Obj.cells #[.string rel, .slice ta3 ts.length tc3, .slice ba3 bacc.length bc3, .int .i64 ln, .int .i64 cl] 55))) := Lib.hid (N2.out.alloc _)
            refine hK.out _ _ (by (try dsimp only); exact N3.out.mono (by simp)) (fun hHeld => ?_)
            clear hK K
            try simp only [Act.put, List.setIfInBounds_toArray, List.set_cons_zero, List.set_cons_succ]
            refine wpAnyH_ready (rs := [24]) (by kernel_rfl) (by simp) ?_
            refine AllReadyH.cons (o := ?_) ?_ ?_ AllReadyH.nil
            rotate_left 1
            · (simp only [List.getElem?_toArray, List.getElem?_cons_succ, List.getElem?_cons_zero]) <;> rfl
            intro K hK
            have PX := P1.out.keep (N3.out.mono (T := [b]) (by simp))
            have hru : RulB (fun k => wr.heap.size ≤ k) v2 (⟨⟨rel, ts⟩, body, ln, cl⟩, .slice ta3 ts.length tc3, .slice ba3 bacc.length bc3) := ⟨R1.out, R2.out⟩
            have LX := hru.keep ((Mod.refl [] v2).alloc (Obj.cells #[.string rel, .slice ta3 ts.length tc3, .slice ba3 bacc.length bc3, .int .i64 ln, .int .i64 cl] 55)) (by simp)
            have SX : Src Tryz.prog 5 24 (.slice (some ⟨v2.heap.size, 0, none⟩) 1 1) 1 (csU (⟨⟨rel, ts⟩, body, ln, cl⟩, .slice ta3 ts.length tc3, .slice ba3 bacc.length bc3)).toList (v2.alloc (Obj.cells #[.string rel, .slice ta3 ts.length tc3, .slice ba3 bacc.length bc3, .int .i64 ln, .int .i64 cl] 55)) := src_one (cs := csU (⟨⟨rel, ts⟩, body, ln, cl⟩, .slice ta3 ts.length tc3, .slice ba3 bacc.length bc3)) Tryz.underlying24 (heap_alloc_new v2 _) rfl (csU_one hru)
            have PXH := Lib.hid PX; have LXH := Lib.hid LX; have SXH := Lib.hid SX
            clear PX LX SX hru
            refine step_append_src _ rfl _ _ 24 24 rfl 55 iU (.agg #[.string { data := #[] }, .slice none 0 0, .slice none 0 0, .int .i64 0, .int .i64 0]) 5 80 Tryz.underlying24 hU0 hU1 hU2 hU3 rfl (.slice ua rus.length uc) rus.length (rowCells csU rus) rfl PXH.out.rowU _ 1 (csU (⟨⟨rel, ts⟩, body, ln, cl⟩, .slice ta3 ts.length tc3, .slice ba3 bacc.length bc3)).toList rfl SXH.out (by unfold maxLen; omega) (by omega) ?_
            intro v5 w5 hown5 hm5 hf5
            obtain ⟨ua5, uc5, rfl⟩ := owns_slice hown5
            have hna : pb ∉ fp (.slice ua rus.length uc) := fun hk => (PXH.out.newU pb hk).2 rfl
            have hnb : b ∉ fp (.slice ua rus.length uc) := fun hk => by have := (PXH.out.newU b hk).1; omega
            have G5 := Lib.hid (PXH.out.growU (p := (⟨⟨rel, ts⟩, body, ln, cl⟩, .slice ta3 ts.length tc3, .slice ba3 bacc.length bc3)) hm5 LXH.out hpw (fun k hk => hlU.out k hk) (fun k hk => hlR.out k hk) hown5 hf5)
            have q5 : w5.cell? ⟨pb, 1, none⟩ = some (.slice ua rus.length uc) := hm5.cell (p := ⟨pb, 1, none⟩) (cell_at PXH.out.box 1) hna
            have f5 : w5.frozen? ⟨pb, 1, none⟩ = false := free_at (hm5.at PXH.out.box hna) 1
            have B5 := Lib.hid (((Mod.refl [pb] w5).setCell (p := ⟨pb, 1, none⟩) (.inl (by simp)) (.slice ua5 (rus.length + 1) uc5)).at (hm5.at (N3.out.at XC.out (by simp)) hnb) (by simp; omega))
            have MT5 := Lib.hid ((N3.out.mono (T := T) (by simp)).trans hm5 (fun t ht => .inl (by rw [hT]; exact List.mem_cons_of_mem _ ht)))
            have MT6 := Lib.hid (MT5.out.setCell (p := ⟨pb, 1, none⟩) (.inl (by rw [hT]; simp)) (.slice ua5 (rus.length + 1) uc5))
            clear hown5 hm5 hf5 PXH LXH SXH R1 R2
            refine hK.out _ _ (by (try dsimp only); exact MT5.out) (fun hHeld => ?_)
            clear hK K
            try simp only [Act.put, List.setIfInBounds_toArray, List.set_cons_zero, List.set_cons_succ]
            refine wpAnyH_take (i := 25) (oi := ?_) (v := ?_) ?_ ?_ ?_ ?_ ?_ ?_ (by assumption) ?_
            rotate_left 2
            · (simp only [List.getElem?_toArray, List.getElem?_cons_succ, List.getElem?_cons_zero]) <;> rfl
            · kernel_rfl
            · kernel_rfl
            · kernel_rfl
            rotate_left 1
            · refine Or.inl ⟨by rfl, ?_⟩
              intro w hSw
              have s1 := hSw.cell ZB.out hTb; have p0 := hSw.cell P0'.out hTg; have p1 := hSw.cell P1'.out hTg; have p2 := hSw.cell P2'.out hTg; have p3 := hSw.cell P3'.out hTg; have p4 := hSw.cell P4'.out hTg; clear hSw
              go_simp
              all_goals with_reducible rfl
            rotate_left 1
            · exact fun _ _ _ h => h
            try simp only [Act.put, List.setIfInBounds_toArray, List.set_cons_zero, List.set_cons_succ]
            refine wpAnyH_ready (rs := [26]) (by kernel_rfl) (by simp) ?_
            refine AllReadyH.cons (o := ?_) ?_ ?_ AllReadyH.nil
            rotate_left 1
            · (simp only [List.getElem?_toArray, List.getElem?_cons_succ, List.getElem?_cons_zero]) <;> rfl
            intro K hK
            go_simp
            refine hK.out _ _ (by (try dsimp only); exact MT6.out) (fun hHeld => ?_)
            clear hK K
            try simp only [Act.put, List.setIfInBounds_toArray, List.set_cons_zero, List.set_cons_succ]
            refine wpAnyH_done (by kernel_rfl) ?_ _
            clear q5 f5 hna hnb MT5 MT6 HCA HCB HF1
            go_wp2_with fail
            generalize w5.setCell ⟨pb, 1, none⟩ (.slice ua5 (rus.length + 1) uc5) = w8 at *
            go_roundw
            case rel =>
              refine ⟨rus ++ [(⟨⟨rel, ts⟩, body, ln, cl⟩, .slice ta3 ts.length tc3, .slice ba3 bacc.length bc3)], ua5, uc5, by rw [List.length_append]; go_num, ?_, by simp; omega, by simpa using G5.out, B5.out⟩
              rw [List.map_append, HMQ.out, show ∀ z : RulU, (rus ++ [z]).length = rus.length + 1 from fun z => by simp, List.take_add_one, HY.out]; rfl
            case measure => simp [intOf]; omega
          refine AllReadyH.cons (o := ?_) ?_ ?_ AllReadyH.nil
          rotate_left 1
          · (simp only [List.getElem?_toArray, List.getElem?_cons_succ, List.getElem?_cons_zero]) <;> rfl
          intro K hK
          go_simp
          refine (HCA.out _ (N0.out.mono (by simp))).mono ?_
          rintro e3 v1 ⟨u1, rfl, r1, m1⟩
          obtain ⟨ta3, tc3, rfl⟩ := r1.lit
          have N1 := Lib.hid (N0.out.trans m1 (by simp))
          have R1 := Lib.hid (r1.mono (F' := fun k => wr.heap.size ≤ k) (fun k hk _ => Nat.le_trans (N0.out.size) hk))
          clear m1 r1
          refine hK.out _ _ (by (try dsimp only); exact N1.out.mono (by simp)) (fun hHeld => ?_)
          clear hK K
          try simp only [Act.put, List.setIfInBounds_toArray, List.set_cons_zero, List.set_cons_succ]
          refine wpAnyH_ready (rs := [1, 15]) (by kernel_rfl) (by simp) ?_
          refine AllReadyH.cons (o := ?_) ?_ ?_ ?_
          rotate_left 1
          · (simp only [List.getElem?_toArray, List.getElem?_cons_succ, List.getElem?_cons_zero]) <;> rfl
          · intro K hK
            have e1 : v1.cell? ⟨pb, 1, none⟩ = some (.slice ua rus.length uc) := N1.out.cell (p := ⟨pb, 1, none⟩) (cell_at BX1.out 1) (by simp)
            go_simp
            refine hK.out _ _ (by (try dsimp only); exact N1.out.mono (by simp)) (fun hHeld => ?_)
            clear hK K
            try simp only [Act.put, List.setIfInBounds_toArray, List.set_cons_zero, List.set_cons_succ]
            clear e1
            refine wpAnyH_ready (rs := [15]) (by kernel_rfl) (by simp) ?_
            refine AllReadyH.cons (o := ?_) ?_ ?_ AllReadyH.nil
            rotate_left 1
            · (simp only [List.getElem?_toArray, List.getElem?_cons_succ, List.getElem?_cons_zero]) <;> rfl
            intro K hK
            go_simp
            refine (HCB.out _ (N1.out.mono (by simp))).mono ?_
            rintro e4 v2 ⟨bacc, ba3, bc3, rfl, bm, r2, m2⟩
            have N2 := Lib.hid (N1.out.trans m2 (by simp))
            have R2 : Hid (BB (fun k => wr.heap.size ≤ k) v2 body (.slice ba3 bacc.length bc3)) := Lib.hid (bm ▸ (BB.of_gi r2).mono (fun k hk _ => Nat.le_trans (N1.out.size) hk))
            have R1 := Lib.hid (R1.out.keep m2 (by simp))
            have BL3 : Hid (bacc.length = body.length) := Lib.hid (by rw [← bm]; simp)
            clear m2 r2 bm
            refine hK.out _ _ (by (try dsimp only); exact N2.out.mono (by simp)) (fun hHeld => ?_)
            clear hK K
            try simp only [Act.put, List.setIfInBounds_toArray, List.set_cons_zero, List.set_cons_succ]
            refine wpAnyH_take (i := 22) (oi := ?_) (v := ?_) ?_ ?_ ?_ ?_ ?_ ?_ (by assumption) ?_
            rotate_left 2
            · (simp only [List.getElem?_toArray, List.getElem?_cons_succ, List.getElem?_cons_zero]) <;> rfl
            · kernel_rfl
            · kernel_rfl
            · kernel_rfl
            rotate_left 1
            · refine Or.inl ⟨by rfl, ?_⟩
              intro w hSw
              have s1 := hSw.cell ZB.out hTb; have p0 := hSw.cell P0'.out hTg; have p1 := hSw.cell P1'.out hTg; have p2 := hSw.cell P2'.out hTg; have p3 := hSw.cell P3'.out hTg; have p4 := hSw.cell P4'.out hTg; clear hSw
              go_simp
              all_goals with_reducible rfl
            rotate_left 1
            · exact fun _ _ _ h => h
            try simp only [Act.put, List.setIfInBounds_toArray, List.set_cons_zero, List.set_cons_succ]
            refine wpAnyH_ready (rs := [23]) (by kernel_rfl) (by simp) ?_
            refine AllReadyH.cons (o := ?_) ?_ ?_ AllReadyH.nil
            rotate_left 1
            · (simp only [List.getElem?_toArray, List.getElem?_cons_succ, List.getElem?_cons_zero]) <;> rfl
            intro K hK
            go_simp
            have N3 : Hid (Mod [] wr (v2.alloc (Obj.cells #[.string rel, .slice ta3 ts.length tc3, .slice ba3 bacc.length bc3, .int .i64 ln, .int .i64 cl] 55))) := Lib.hid (N2.out.alloc _)
            refine hK.out _ _ (by (try dsimp only); exact N3.out.mono (by simp)) (fun hHeld => ?_)
            clear hK K
            try simp only [Act.put, List.setIfInBounds_toArray, List.set_cons_zero, List.set_cons_succ]
            refine wpAnyH_ready (rs := [24]) (by kernel_rfl) (by simp) ?_
            refine AllReadyH.cons (o := ?_) ?_ ?_ AllReadyH.nil
            rotate_left 1
            · (simp only [List.getElem?_toArray, List.getElem?_cons_succ, List.getElem?_cons_zero]) <;> rfl
            intro K hK
            have PX := P1.out.keep (N3.out.mono (T := [b]) (by simp))
            have hru : RulB (fun k => wr.heap.size ≤ k) v2 (⟨⟨rel, ts⟩, body, ln, cl⟩, .slice ta3 ts.length tc3, .slice ba3 bacc.length bc3) := ⟨R1.out, R2.out⟩
            have LX := hru.keep ((Mod.refl [] v2).alloc (Obj.cells #[.string rel, .slice ta3 ts.length tc3, .slice ba3 bacc.length bc3, .int .i64 ln, .int .i64 cl] 55)) (by simp)
            have SX : Src Tryz.prog 5 24 (.slice (some ⟨v2.heap.size, 0, none⟩) 1 1) 1 (csU (⟨⟨rel, ts⟩, body, ln, cl⟩, .slice ta3 ts.length tc3, .slice ba3 bacc.length bc3)).toList (v2.alloc (Obj.cells #[.string rel, .slice ta3 ts.length tc3, .slice ba3 bacc.length bc3, .int .i64 ln, .int .i64 cl] 55)) := src_one (cs := csU (⟨⟨rel, ts⟩, body, ln, cl⟩, .slice ta3 ts.length tc3, .slice ba3 bacc.length bc3)) Tryz.underlying24 (heap_alloc_new v2 _) rfl (csU_one hru)
            have PXH := Lib.hid PX; have LXH := Lib.hid LX; have SXH := Lib.hid SX
            clear PX LX SX hru
            refine step_append_src _ rfl _ _ 24 24 rfl 55 iU (.agg #[.string { data := #[] }, .slice none 0 0, .slice none 0 0, .int .i64 0, .int .i64 0]) 5 80 Tryz.underlying24 hU0 hU1 hU2 hU3 rfl (.slice ua rus.length uc) rus.length (rowCells csU rus) rfl PXH.out.rowU _ 1 (csU (⟨⟨rel, ts⟩, body, ln, cl⟩, .slice ta3 ts.length tc3, .slice ba3 bacc.length bc3)).toList rfl SXH.out (by unfold maxLen; omega) (by omega) ?_
            intro v5 w5 hown5 hm5 hf5
            obtain ⟨ua5, uc5, rfl⟩ := owns_slice hown5
            have hna : pb ∉ fp (.slice ua rus.length uc) := fun hk => (PXH.out.newU pb hk).2 rfl
            have hnb : b ∉ fp (.slice ua rus.length uc) := fun hk => by have := (PXH.out.newU b hk).1; omega
            have G5 := Lib.hid (PXH.out.growU (p := (⟨⟨rel, ts⟩, body, ln, cl⟩, .slice ta3 ts.length tc3, .slice ba3 bacc.length bc3)) hm5 LXH.out hpw (fun k hk => hlU.out k hk) (fun k hk => hlR.out k hk) hown5 hf5)
            have q5 : w5.cell? ⟨pb, 1, none⟩ = some (.slice ua rus.length uc) := hm5.cell (p := ⟨pb, 1, none⟩) (cell_at PXH.out.box 1) hna
            have f5 : w5.frozen? ⟨pb, 1, none⟩ = false := free_at (hm5.at PXH.out.box hna) 1
            have B5 := Lib.hid (((Mod.refl [pb] w5).setCell (p := ⟨pb, 1, none⟩) (.inl (by simp)) (.slice ua5 (rus.length + 1) uc5)).at (hm5.at (N3.out.at XC.out (by simp)) hnb) (by simp; omega))
            have MT5 := Lib.hid ((N3.out.mono (T := T) (by simp)).trans hm5 (fun t ht => .inl (by rw [hT]; exact List.mem_cons_of_mem _ ht)))
            have MT6 := Lib.hid (MT5.out.setCell (p := ⟨pb, 1, none⟩) (.inl (by rw [hT]; simp)) (.slice ua5 (rus.length + 1) uc5))
            clear hown5 hm5 hf5 PXH LXH SXH R1 R2
            refine hK.out _ _ (by (try dsimp only); exact MT5.out) (fun hHeld => ?_)
            clear hK K
            try simp only [Act.put, List.setIfInBounds_toArray, List.set_cons_zero, List.set_cons_succ]
            refine wpAnyH_take (i := 25) (oi := ?_) (v := ?_) ?_ ?_ ?_ ?_ ?_ ?_ (by assumption) ?_
            rotate_left 2
            · (simp only [List.getElem?_toArray, List.getElem?_cons_succ, List.getElem?_cons_zero]) <;> rfl
            · kernel_rfl
            · kernel_rfl
            · kernel_rfl
            rotate_left 1
            · refine Or.inl ⟨by rfl, ?_⟩
              intro w hSw
              have s1 := hSw.cell ZB.out hTb; have p0 := hSw.cell P0'.out hTg; have p1 := hSw.cell P1'.out hTg; have p2 := hSw.cell P2'.out hTg; have p3 := hSw.cell P3'.out hTg; have p4 := hSw.cell P4'.out hTg; clear hSw
              go_simp
              all_goals with_reducible rfl
            rotate_left 1
            · exact fun _ _ _ h => h
            try simp only [Act.put, List.setIfInBounds_toArray, List.set_cons_zero, List.set_cons_succ]
            refine wpAnyH_ready (rs := [26]) (by kernel_rfl) (by simp) ?_
            refine AllReadyH.cons (o := ?_) ?_ ?_ AllReadyH.nil
            rotate_left 1
            · (simp only [List.getElem?_toArray, List.getElem?_cons_succ, List.getElem?_cons_zero]) <;> rfl
            intro K hK
            go_simp
            refine hK.out _ _ (by (try dsimp only); exact MT6.out) (fun hHeld => ?_)
            clear hK K
            try simp only [Act.put, List.setIfInBounds_toArray, List.set_cons_zero, List.set_cons_succ]
            refine wpAnyH_done (by kernel_rfl) ?_ _
            clear q5 f5 hna hnb MT5 MT6 HCA HCB HF1
            go_wp2_with fail
            generalize w5.setCell ⟨pb, 1, none⟩ (.slice ua5 (rus.length + 1) uc5) = w8 at *
            go_roundw
            case rel =>
              refine ⟨rus ++ [(⟨⟨rel, ts⟩, body, ln, cl⟩, .slice ta3 ts.length tc3, .slice ba3 bacc.length bc3)], ua5, uc5, by rw [List.length_append]; go_num, ?_, by simp; omega, by simpa using G5.out, B5.out⟩
              rw [List.map_append, HMQ.out, show ∀ z : RulU, (rus ++ [z]).length = rus.length + 1 from fun z => by simp, List.take_add_one, HY.out]; rfl
            case measure => simp [intOf]; omega
          refine AllReadyH.cons (o := ?_) ?_ ?_ AllReadyH.nil
          rotate_left 1
          · (simp only [List.getElem?_toArray, List.getElem?_cons_succ, List.getElem?_cons_zero]) <;> rfl
          intro K hK
          go_simp
          refine (HCB.out _ (N1.out.mono (by simp))).mono ?_
          rintro e4 v2 ⟨bacc, ba3, bc3, rfl, bm, r2, m2⟩
          have N2 := Lib.hid (N1.out.trans m2 (by simp))
          have R2 : Hid (BB (fun k => wr.heap.size ≤ k) v2 body (.slice ba3 bacc.length bc3)) := Lib.hid (bm ▸ (BB.of_gi r2).mono (fun k hk _ => Nat.le_trans (N1.out.size) hk))
          have R1 := Lib.hid (R1.out.keep m2 (by simp))
          have BL3 : Hid (bacc.length = body.length) := Lib.hid (by rw [← bm]; simp)
          clear m2 r2 bm
          refine hK.out _ _ (by (try dsimp only); exact N2.out.mono (by simp)) (fun hHeld => ?_)
          clear hK K
          try simp only [Act.put, List.setIfInBounds_toArray, List.set_cons_zero, List.set_cons_succ]
          refine wpAnyH_take (i := 22) (oi := ?_) (v := ?_) ?_ ?_ ?_ ?_ ?_ ?_ (by assumption) ?_
          rotate_left 2
          · (simp only [List.getElem?_toArray, List.getElem?_cons_succ, List.getElem?_cons_zero]) <;> rfl
          · kernel_rfl
          · kernel_rfl
          · kernel_rfl
          rotate_left 1
          · refine Or.inl ⟨by rfl, ?_⟩
            intro w hSw
            have s1 := hSw.cell ZB.out hTb; have p0 := hSw.cell P0'.out hTg; have p1 := hSw.cell P1'.out hTg; have p2 := hSw.cell P2'.out hTg; have p3 := hSw.cell P3'.out hTg; have p4 := hSw.cell P4'.out hTg; clear hSw
            go_simp
            all_goals with_reducible rfl
          rotate_left 1
          · exact fun _ _ _ h => h
          try simp only [Act.put, List.setIfInBounds_toArray, List.set_cons_zero, List.set_cons_succ]
          refine wpAnyH_ready (rs := [1, 23]) (by kernel_rfl) (by simp) ?_
          refine AllReadyH.cons (o := ?_) ?_ ?_ ?_
          rotate_left 1
          · (simp only [List.getElem?_toArray, List.getElem?_cons_succ, List.getElem?_cons_zero]) <;> rfl
          · intro K hK
            have e1 : v2.cell? ⟨pb, 1, none⟩ = some (.slice ua rus.length uc) := N2.out.cell (p := ⟨pb, 1, none⟩) (cell_at BX1.out 1) (by simp)
            go_simp
            refine hK.out _ _ (by (try dsimp only); exact N2.out.mono (by simp)) (fun hHeld => ?_)
            clear hK K
            try simp only [Act.put, List.setIfInBounds_toArray, List.set_cons_zero, List.set_cons_succ]
            clear e1
            refine wpAnyH_ready (rs := [23]) (by kernel_rfl) (by simp) ?_
            refine AllReadyH.cons (o := ?_) ?_ ?_ AllReadyH.nil
            rotate_left 1
            · (simp only [List.getElem?_toArray, List.getElem?_cons_succ, List.getElem?_cons_zero]) <;> rfl
            intro K hK
            go_simp
            have N3 : Hid (Mod [] wr (v2.alloc (Obj.cells #[.string rel, .slice ta3 ts.length tc3, .slice ba3 bacc.length bc3, .int .i64 ln, .int .i64 cl] 55))) := Lib.hid (N2.out.alloc _)
            refine hK.out _ _ (by (try dsimp only); exact N3.out.mono (by simp)) (fun hHeld => ?_)
            clear hK K
            try simp only [Act.put, List.setIfInBounds_toArray, List.set_cons_zero, List.set_cons_succ]
            refine wpAnyH_ready (rs := [24]) (by kernel_rfl) (by simp) ?_
            refine AllReadyH.cons (o := ?_) ?_ ?_ AllReadyH.nil
            rotate_left 1
            · (simp only [List.getElem?_toArray, List.getElem?_cons_succ, List.getElem?_cons_zero]) <;> rfl
            intro K hK
            have PX := P1.out.keep (N3.out.mono (T := [b]) (by simp))
            have hru : RulB (fun k => wr.heap.size ≤ k) v2 (⟨⟨rel, ts⟩, body, ln, cl⟩, .slice ta3 ts.length tc3, .slice ba3 bacc.length bc3) := ⟨R1.out, R2.out⟩
            have LX := hru.keep ((Mod.refl [] v2).alloc (Obj.cells #[.string rel, .slice ta3 ts.length tc3, .slice ba3 bacc.length bc3, .int .i64 ln, .int .i64 cl] 55)) (by simp)
            have SX : Src Tryz.prog 5 24 (.slice (some ⟨v2.heap.size, 0, none⟩) 1 1) 1 (csU (⟨⟨rel, ts⟩, body, ln, cl⟩, .slice ta3 ts.length tc3, .slice ba3 bacc.length bc3)).toList (v2.alloc (Obj.cells #[.string rel, .slice ta3 ts.length tc3, .slice ba3 bacc.length bc3, .int .i64 ln, .int .i64 cl] 55)) := src_one (cs := csU (⟨⟨rel, ts⟩, body, ln, cl⟩, .slice ta3 ts.length tc3, .slice ba3 bacc.length bc3)) Tryz.underlying24 (heap_alloc_new v2 _) rfl (csU_one hru)
            have PXH := Lib.hid PX; have LXH := Lib.hid LX; have SXH := Lib.hid SX
            clear PX LX SX hru
            refine step_append_src _ rfl _ _ 24 24 rfl 55 iU (.agg #[.string { data := #[] }, .slice none 0 0, .slice none 0 0, .int .i64 0, .int .i64 0]) 5 80 Tryz.underlying24 hU0 hU1 hU2 hU3 rfl (.slice ua rus.length uc) rus.length (rowCells csU rus) rfl PXH.out.rowU _ 1 (csU (⟨⟨rel, ts⟩, body, ln, cl⟩, .slice ta3 ts.length tc3, .slice ba3 bacc.length bc3)).toList rfl SXH.out (by unfold maxLen; omega) (by omega) ?_
            intro v5 w5 hown5 hm5 hf5
            obtain ⟨ua5, uc5, rfl⟩ := owns_slice hown5
            have hna : pb ∉ fp (.slice ua rus.length uc) := fun hk => (PXH.out.newU pb hk).2 rfl
            have hnb : b ∉ fp (.slice ua rus.length uc) := fun hk => by have := (PXH.out.newU b hk).1; omega
            have G5 := Lib.hid (PXH.out.growU (p := (⟨⟨rel, ts⟩, body, ln, cl⟩, .slice ta3 ts.length tc3, .slice ba3 bacc.length bc3)) hm5 LXH.out hpw (fun k hk => hlU.out k hk) (fun k hk => hlR.out k hk) hown5 hf5)
            have q5 : w5.cell? ⟨pb, 1, none⟩ = some (.slice ua rus.length uc) := hm5.cell (p := ⟨pb, 1, none⟩) (cell_at PXH.out.box 1) hna
            have f5 : w5.frozen? ⟨pb, 1, none⟩ = false := free_at (hm5.at PXH.out.box hna) 1
            have B5 := Lib.hid (((Mod.refl [pb] w5).setCell (p := ⟨pb, 1, none⟩) (.inl (by simp)) (.slice ua5 (rus.length + 1) uc5)).at (hm5.at (N3.out.at XC.out (by simp)) hnb) (by simp; omega))
            have MT5 := Lib.hid ((N3.out.mono (T := T) (by simp)).trans hm5 (fun t ht => .inl (by rw [hT]; exact List.mem_cons_of_mem _ ht)))
            have MT6 := Lib.hid (MT5.out.setCell (p := ⟨pb, 1, none⟩) (.inl (by rw [hT]; simp)) (.slice ua5 (rus.length + 1) uc5))
            clear hown5 hm5 hf5 PXH LXH SXH R1 R2
            refine hK.out _ _ (by (try dsimp only); exact MT5.out) (fun hHeld => ?_)
            clear hK K
            try simp only [Act.put, List.setIfInBounds_toArray, List.set_cons_zero, List.set_cons_succ]
            refine wpAnyH_take (i := 25) (oi := ?_) (v := ?_) ?_ ?_ ?_ ?_ ?_ ?_ (by assumption) ?_
            rotate_left 2
            · (simp only [List.getElem?_toArray, List.getElem?_cons_succ, List.getElem?_cons_zero]) <;> rfl
            · kernel_rfl
            · kernel_rfl
            · kernel_rfl
            rotate_left 1
            · refine Or.inl ⟨by rfl, ?_⟩
              intro w hSw
              have s1 := hSw.cell ZB.out hTb; have p0 := hSw.cell P0'.out hTg; have p1 := hSw.cell P1'.out hTg; have p2 := hSw.cell P2'.out hTg; have p3 := hSw.cell P3'.out hTg; have p4 := hSw.cell P4'.out hTg; clear hSw
              go_simp
              all_goals with_reducible rfl
            rotate_left 1
            · exact fun _ _ _ h => h
            try simp only [Act.put, List.setIfInBounds_toArray, List.set_cons_zero, List.set_cons_succ]
            refine wpAnyH_ready (rs := [26]) (by kernel_rfl) (by simp) ?_
            refine AllReadyH.cons (o := ?_) ?_ ?_ AllReadyH.nil
            rotate_left 1
            · (simp only [List.getElem?_toArray, List.getElem?_cons_succ, List.getElem?_cons_zero]) <;> rfl
            intro K hK
            go_simp
            refine hK.out _ _ (by (try dsimp only); exact MT6.out) (fun hHeld => ?_)
            clear hK K
            try simp only [Act.put, List.setIfInBounds_toArray, List.set_cons_zero, List.set_cons_succ]
            refine wpAnyH_done (by kernel_rfl) ?_ _
            clear q5 f5 hna hnb MT5 MT6 HCA HCB HF1
            go_wp2_with fail
            generalize w5.setCell ⟨pb, 1, none⟩ (.slice ua5 (rus.length + 1) uc5) = w8 at *
            go_roundw
            case rel =>
              refine ⟨rus ++ [(⟨⟨rel, ts⟩, body, ln, cl⟩, .slice ta3 ts.length tc3, .slice ba3 bacc.length bc3)], ua5, uc5, by rw [List.length_append]; go_num, ?_, by simp; omega, by simpa using G5.out, B5.out⟩
              rw [List.map_append, HMQ.out, show ∀ z : RulU, (rus ++ [z]).length = rus.length + 1 from fun z => by simp, List.take_add_one, HY.out]; rfl
            case measure => simp [intOf]; omega
          refine AllReadyH.cons (o := ?_) ?_ ?_ AllReadyH.nil
          rotate_left 1
          · (simp only [List.getElem?_toArray, List.getElem?_cons_succ, List.getElem?_cons_zero]) <;> rfl
          intro K hK
          go_simp
          have N3 : Hid (Mod [] wr (v2.alloc (Obj.cells #[.string rel, .slice ta3 ts.length tc3, .slice ba3 bacc.length bc3, .int .i64 ln, .int .i64 cl] 55))) := Lib.hid (N2.out.alloc _)
          refine hK.out _ _ (by (try dsimp only); exact N3.out.mono (by simp)) (fun hHeld => ?_)
          clear hK K
          try simp only [Act.put, List.setIfInBounds_toArray, List.set_cons_zero, List.set_cons_succ]
          refine wpAnyH_ready (rs := [1]) (by kernel_rfl) (by simp) ?_
          refine AllReadyH.cons (o := ?_) ?_ ?_ AllReadyH.nil
          rotate_left 1
          · (simp only [List.getElem?_toArray, List.getElem?_cons_succ, List.getElem?_cons_zero]) <;> rfl
          intro K hK
          have e1 : (v2.alloc (Obj.cells #[.string rel, .slice ta3 ts.length tc3, .slice ba3 bacc.length bc3, .int .i64 ln, .int .i64 cl] 55)).cell? ⟨pb, 1, none⟩ = some (.slice ua rus.length uc) := N3.out.cell (p := ⟨pb, 1, none⟩) (cell_at BX1.out 1) (by simp)
          go_simp
          refine hK.out _ _ (by (try dsimp only); exact N3.out.mono (by simp)) (fun hHeld => ?_)
          clear hK K
          try simp only [Act.put, List.setIfInBounds_toArray, List.set_cons_zero, List.set_cons_succ]
          clear e1
          refine wpAnyH_ready (rs := [24]) (by kernel_rfl) (by simp) ?_
          refine AllReadyH.cons (o := ?_) ?_ ?_ AllReadyH.nil
          rotate_left 1
          · (simp only [List.getElem?_toArray, List.getElem?_cons_succ, List.getElem?_cons_zero]) <;> rfl
          intro K hK
          have PX := P1.out.keep (N3.out.mono (T := [b]) (by simp))
          have hru : RulB (fun k => wr.heap.size ≤ k) v2 (⟨⟨rel, ts⟩, body, ln, cl⟩, .slice ta3 ts.length tc3, .slice ba3 bacc.length bc3) := ⟨R1.out, R2.out⟩
          have LX := hru.keep ((Mod.refl [] v2).alloc (Obj.cells #[.string rel, .slice ta3 ts.length tc3, .slice ba3 bacc.length bc3, .int .i64 ln, .int .i64 cl] 55)) (by simp)
          have SX : Src Tryz.prog 5 24 (.slice (some ⟨v2.heap.size, 0, none⟩) 1 1) 1 (csU (⟨⟨rel, ts⟩, body, ln, cl⟩, .slice ta3 ts.length tc3, .slice ba3 bacc.length bc3)).toList (v2.alloc (Obj.cells #[.string rel, .slice ta3 ts.length tc3, .slice ba3 bacc.length bc3, .int .i64 ln, .int .i64 cl] 55)) := src_one (cs := csU (⟨⟨rel, ts⟩, body, ln, cl⟩, .slice ta3 ts.length tc3, .slice ba3 bacc.length bc3)) Tryz.underlying24 (heap_alloc_new v2 _) rfl (csU_one hru)
          have PXH := Lib.hid PX; have LXH := Lib.hid LX; have SXH := Lib.hid SX
          clear PX LX SX hru
          refine step_append_src _ rfl _ _ 24 24 rfl 55 iU (.agg #[.string { data := #[] }, .slice none 0 0, .slice none 0 0, .int .i64 0, .int .i64 0]) 5 80 Tryz.underlying24 hU0 hU1 hU2 hU3 rfl (.slice ua rus.length uc) rus.length (rowCells csU rus) rfl PXH.out.rowU _ 1 (csU (⟨⟨rel, ts⟩, body, ln, cl⟩, .slice ta3 ts.length tc3, .slice ba3 bacc.length bc3)).toList rfl SXH.out (by unfold maxLen; omega) (by omega) ?_
          intro v5 w5 hown5 hm5 hf5
          obtain ⟨ua5, uc5, rfl⟩ := owns_slice hown5
          have hna : pb ∉ fp (.slice ua rus.length uc) := fun hk => (PXH.out.newU pb hk).2 rfl
          have hnb : b ∉ fp (.slice ua rus.length uc) := fun hk => by have := (PXH.out.newU b hk).1; omega
          have G5 := Lib.hid (PXH.out.growU (p := (⟨⟨rel, ts⟩, body, ln, cl⟩, .slice ta3 ts.length tc3, .slice ba3 bacc.length bc3)) hm5 LXH.out hpw (fun k hk => hlU.out k hk) (fun k hk => hlR.out k hk) hown5 hf5)
          have q5 : w5.cell? ⟨pb, 1, none⟩ = some (.slice ua rus.length uc) := hm5.cell (p := ⟨pb, 1, none⟩) (cell_at PXH.out.box 1) hna
          have f5 : w5.frozen? ⟨pb, 1, none⟩ = false := free_at (hm5.at PXH.out.box hna) 1
          have B5 := Lib.hid (((Mod.refl [pb] w5).setCell (p := ⟨pb, 1, none⟩) (.inl (by simp)) (.slice ua5 (rus.length + 1) uc5)).at (hm5.at (N3.out.at XC.out (by simp)) hnb) (by simp; omega))
          have MT5 := Lib.hid ((N3.out.mono (T := T) (by simp)).trans hm5 (fun t ht => .inl (by rw [hT]; exact List.mem_cons_of_mem _ ht)))
          have MT6 := Lib.hid (MT5.out.setCell (p := ⟨pb, 1, none⟩) (.inl (by rw [hT]; simp)) (.slice ua5 (rus.length + 1) uc5))
          clear hown5 hm5 hf5 PXH LXH SXH R1 R2
          refine hK.out _ _ (by (try dsimp only); exact MT5.out) (fun hHeld => ?_)
          clear hK K
          try simp only [Act.put, List.setIfInBounds_toArray, List.set_cons_zero, List.set_cons_succ]
          refine wpAnyH_take (i := 25) (oi := ?_) (v := ?_) ?_ ?_ ?_ ?_ ?_ ?_ (by assumption) ?_
          rotate_left 2
          · (simp only [List.getElem?_toArray, List.getElem?_cons_succ, List.getElem?_cons_zero]) <;> rfl
          · kernel_rfl
          · kernel_rfl
          · kernel_rfl
          rotate_left 1
          · refine Or.inl ⟨by rfl, ?_⟩
            intro w hSw
            have s1 := hSw.cell ZB.out hTb; have p0 := hSw.cell P0'.out hTg; have p1 := hSw.cell P1'.out hTg; have p2 := hSw.cell P2'.out hTg; have p3 := hSw.cell P3'.out hTg; have p4 := hSw.cell P4'.out hTg; clear hSw
            go_simp
            all_goals with_reducible rfl
          rotate_left 1
          · exact fun _ _ _ h => h
          try simp only [Act.put, List.setIfInBounds_toArray, List.set_cons_zero, List.set_cons_succ]
          refine wpAnyH_ready (rs := [26]) (by kernel_rfl) (by simp) ?_
          refine AllReadyH.cons (o := ?_) ?_ ?_ AllReadyH.nil
          rotate_left 1
          · (simp only [List.getElem?_toArray, List.getElem?_cons_succ, List.getElem?_cons_zero]) <;> rfl
          intro K hK
          go_simp
          refine hK.out _ _ (by (try dsimp only); exact MT6.out) (fun hHeld => ?_)
          clear hK K
          try simp only [Act.put, List.setIfInBounds_toArray, List.set_cons_zero, List.set_cons_succ]
          refine wpAnyH_done (by kernel_rfl) ?_ _
          clear q5 f5 hna hnb MT5 MT6 HCA HCB HF1
          go_wp2_with fail
          generalize w5.setCell ⟨pb, 1, none⟩ (.slice ua5 (rus.length + 1) uc5) = w8 at *
          go_roundw
          case rel =>
            refine ⟨rus ++ [(⟨⟨rel, ts⟩, body, ln, cl⟩, .slice ta3 ts.length tc3, .slice ba3 bacc.length bc3)], ua5, uc5, by rw [List.length_append]; go_num, ?_, by simp; omega, by simpa using G5.out, B5.out⟩
            rw [List.map_append, HMQ.out, show ∀ z : RulU, (rus ++ [z]).length = rus.length + 1 from fun z => by simp, List.take_add_one, HY.out]; rfl
          case measure => simp [intOf]; omega

        · have hjI : ¬ (rus.length : Int) < (prules.length : Int) := by omega
          have HAE2 : Hid (rus.length = prules.length) := Lib.hid (by omega)
          have HRU : Hid (rus.map (·.1) = prules) := Lib.hid (by rw [HMQ.out, HAE2.out, List.take_length])
          have hw0 := M0.out.size
          have hb1 := lt_of_block E1.out
          have ER := Lib.hid (P1.out.mod.at E1.out (by simp))
          have x0 := cell_at BX1.out 0; have x1 := cell_at BX1.out 1; have z0 := cell_at ER.out 0; have z1 := cell_at ER.out 1
          simp only [List.getElem?_toArray, List.getElem?_cons_zero, List.getElem?_cons_succ] at x0 x1 z0 z1
          have fA : ∀ j, wr.frozen? ⟨b + 1, j, none⟩ = false := fun j => free_at ER.out j
          go_wp2_with fail
          have mR := setCs_mod (b + 1) [.slice va rels.length vc, .slice ua rus.length uc] 0 wr
          refine bodyPost_ret (results_cell_row rfl _ _ _ _ _ _ _ rfl (setCs_row (vs := [.slice va rels.length vc, .slice ua rus.length uc]) ER.out rfl) Tryz.underlying26 rfl (by kernel_rfl)) rfl ⟨rels, rus, va, vc, ua, uc, rfl, by rw [HRL.out, HRU.out], ?_⟩
          have hS : ∀ s ∈ [b + 1], ¬ PF w0 pb (.slice va rels.length vc) (.slice ua rus.length uc) s := fun s hs hh => by
            rw [List.mem_singleton] at hs; subst hs; have := hh.1; omega
          refine ⟨mR.owns P1.out.rowR (fun k hk hs => ?_), mR.owns P1.out.rowU (fun k hk hs => ?_), fun k hk => ?_, fun k hk => ?_, P1.out.dis, fun q hq => ?_, fun q hq => ?_, ?_⟩
          · rw [List.mem_singleton] at hs; have := (P1.out.newR k hk).1; omega
          · rw [List.mem_singleton] at hs; have := (P1.out.newU k hk).1; omega
          · have := (P1.out.newR k hk).1; omega
          · have := (P1.out.newU k hk).1; omega
          · exact ((P1.out.subR q hq).keep mR hS).mono (fun k hk _ => ⟨by have := hk.1; omega, hk.2.2.1, hk.2.2.2⟩)
          · exact ((P1.out.subU q hq).keep mR hS).mono (fun k hk _ => ⟨by have := hk.1; omega, hk.2.2.1, hk.2.2.2⟩)
          · exact (M0.out.trans (S := []) P1.out.mod (fun s hs => .inr (by rw [List.mem_singleton] at hs; omega))).trans mR (fun s hs => .inr (by rw [List.mem_singleton] at hs; omega))
end Go.Proofs.YtppigckioalhhaaGreatDoorR
/- A LIST THAT THE CALL OWNS: one cell of one thing is stored. -/
namespace Go.Proofs.YtppigckioalhhaaGreatDoorR
open Go.RowKit
set_option linter.unusedVariables false
set_option linter.unusedSimpArgs false
set_option maxRecDepth 100000

theorem rowCells_set1 {α : Type} {cs : α → Array Value} {n : Nat} (hn : ∀ x, (cs x).size = n) (p' : α) (o : Nat) (u : Value) (ho : o < n) : ∀ (acc : List α) (i : Nat) (h : i < acc.length), (cs p').toList = (cs acc[i]).toList.set o u →
    rowCells cs (acc.set i p') = (rowCells cs acc).set (i * n + o) u
  | x :: r, 0, h, hc => by
    simp only [List.getElem_cons_zero] at hc
    have hx : (cs x).toList.length = n := by rw [Array.length_toList, hn]
    simp only [List.set_cons_zero, rowCells, List.flatMap_cons, Nat.zero_mul, Nat.zero_add]
    rw [hc, List.set_append_left _ _ (by omega)]
  | x :: r, i + 1, h, hc => by
    simp only [List.getElem_cons_succ] at hc
    have hx : (cs x).toList.length = n := by rw [Array.length_toList, hn]
    have ih := rowCells_set1 hn p' o u ho r i (by simpa using h) hc
    simp only [rowCells] at ih
    simp only [List.set_cons_succ, rowCells, List.flatMap_cons]
    rw [ih, List.set_append_right _ _ (by rw [hx, Nat.add_mul]; omega)]
    congr 2
    rw [hx, Nat.add_mul]; omega
theorem GI.put1 {α : Type} {T : TypeId} {n : Nat} {cs : α → Array Value} {B : (Nat → Prop) → World → α → Prop} {S : List Nat} {w0 W : World} {acc : List α} {g : Nat} {vc : Nat} (hB : Bears n cs B) (h : GI T n cs B S w0 W acc (some ⟨g, 0, none⟩) vc) (i : Nat) (hi : i < acc.length) (p' : α) (o : Nat) (ho : o < n) (u : Value)
    (hc : (cs p').toList = (cs acc[i]).toList.set o u) (hp : B (fun k => w0.heap.size ≤ k ∧ k ∉ fp (.slice (some ⟨g, 0, none⟩) acc.length vc)) W p') :
    GI T n cs B S w0 (W.setCell ⟨g, i * n + o, none⟩ u) (acc.set i p') (some ⟨g, 0, none⟩) vc := by
  have e1 : (acc.set i p').length = acc.length := by simp
  have hm : Mod [g] W (W.setCell ⟨g, i * n + o, none⟩ u) := (Mod.refl [g] W).setCell (p := ⟨g, i * n + o, none⟩) (.inl (by simp)) u
  have hg : g ∈ fp (.slice (some ⟨g, 0, none⟩) acc.length vc) := by simp [fp]
  refine ⟨?_, by rw [e1]; exact h.new, fun q hq => ?_, h.low, h.mod.trans hm (fun k hk => by rw [List.mem_singleton] at hk; subst hk; exact .inr (h.new _ hg))⟩
  · rw [e1, rowCells_set1 hB.size p' o u ho acc i hi hc]
    exact (h.row.stored (i * n + o) u).1
  · rw [e1]
    have hq2 : B (fun k => w0.heap.size ≤ k ∧ k ∉ fp (.slice (some ⟨g, 0, none⟩) acc.length vc)) W q := by
      rcases List.mem_or_eq_of_mem_set hq with hq | rfl
      · exact h.sub q hq
      · exact hp
    exact hB.keep hq2 hm (fun s hs hh => by rw [List.mem_singleton] at hs; subst hs; exact hh.2 hg)
end Go.Proofs.YtppigckioalhhaaGreatDoorR
/- PLAIN: SyntaxDeep: an expression that is built level by level is read just if it is no deeper than 16. No program (of the machine) in sight. -/
namespace Go.Proofs.YtppigckioalhhaaGreatDoorR.Sy
open Lx (Tok St word skipN goes)
open Pr (Ex)
set_option linter.unusedVariables false
set_option linter.unusedSimpArgs false

/-- a word but for its place -/
structure Sh where
  kind : Nat
  text : List Nat
  vk : Nat
  num : Nat
  sym : List Nat
deriving DecidableEq
def sh (t : Lx.Tok) : Sh := ⟨t.kind, t.text, t.vk, t.num, t.sym⟩

/-- s begins with the words ts, r is what is left -/
inductive Sc : List Nat → List Sh → List Nat → Prop
  | nil (r : List Nat) : Sc r [] r
  | word {s r : List Nat} {ts : List Sh} {u : List Nat} {w : Lx.Wd} {n : Nat} (hs : s.drop (skipN false s) = u) (h0 : u ≠ []) (hw : Lx.word u = .ok w) (hn : w.n = n) (h : Sc (u.drop n) ts r) : Sc s (⟨w.kind, u.take n, w.vk, w.num, w.sym⟩ :: ts) r
theorem Sc.trans {a b c : List Nat} {ts us : List Sh} (h : Sc a ts b) (k : Sc b us c) : Sc a (ts ++ us) c := by
  induction h with
  | nil r => exact k
  | word hs h0 hw hn h ih => exact .word hs h0 hw hn (ih k)
def mk5 (l : List Nat) : Sh := ⟨5, l, 0, 0, []⟩
def mkv (c : Nat) : Sh := ⟨2, [c], 0, 0, []⟩
def mkn (c : Nat) : Sh := ⟨3, [c], 1, c - 48, []⟩
def mk1 (l : List Nat) : Sh := ⟨1, l, 0, 0, []⟩
/-- a step: the text round the text -/
def dtext (k : Nat) (s : List Nat) : List Nat :=
  if k = 0 then 40 :: (s ++ [41])
  else if k = 1 then 45 :: 40 :: (s ++ [41])
  else if k = 2 then 40 :: (s ++ [41, 32, 43, 32, 49])
  else if k = 3 then 89 :: 32 :: 42 :: 32 :: 40 :: (s ++ [41])
  else if k = 4 then 50 :: 32 :: 45 :: 32 :: 40 :: (s ++ [41, 32, 109, 111, 100, 32, 90])
  else 40 :: 49 :: 32 :: 43 :: 32 :: 40 :: (s ++ [41, 41])
def dadd (k : Nat) : Nat := if k = 0 then 1 else if k ≤ 3 then 2 else 3
def dwords (k : Nat) (l : List Sh) : List Sh :=
  if k = 0 then mk5 [40] :: (l ++ [mk5 [41]])
  else if k = 1 then mk5 [45] :: mk5 [40] :: (l ++ [mk5 [41]])
  else if k = 2 then mk5 [40] :: (l ++ [mk5 [41], mk5 [43], mkn 49])
  else if k = 3 then mkv 89 :: mk5 [42] :: mk5 [40] :: (l ++ [mk5 [41]])
  else if k = 4 then mkn 50 :: mk5 [45] :: mk5 [40] :: (l ++ [mk5 [41], mk1 [109, 111, 100], mkv 90])
  else mk5 [40] :: mkn 49 :: mk5 [43] :: mk5 [40] :: (l ++ [mk5 [41], mk5 [41]])
/-- a text that is built level by level, its words, how deep it is -/
inductive DS : List Nat → List Sh → Nat → Prop
  | one : DS [88] [mkv 88] 0
  | step (k : Nat) {s : List Nat} {l : List Sh} {d : Nat} (h : DS s l d) : DS (dtext k s) (dwords k l) (d + dadd k)
theorem dadd_pos (k : Nat) : 1 ≤ dadd k ∧ dadd k ≤ 3 := by unfold dadd; split <;> (try split) <;> omega
theorem DS.len {s : List Nat} {l : List Sh} {d : Nat} (h : DS s l d) : s.length ≤ 1 + 14 * d ∧ l.length ≤ s.length ∧ l ≠ [] ∧ (∀ c ∈ s, c < 256) := by
  induction h with
  | one => exact ⟨by simp, by simp, by simp, by simp⟩
  | step k h ih =>
    obtain ⟨h1, h2, h3, h4⟩ := ih
    have := dadd_pos k
    refine ⟨?_, ?_, ?_, ?_⟩
    · unfold dtext
      repeat' split
      all_goals (simp only [List.length_cons, List.length_append, List.length_nil]; try omega)
      all_goals (unfold dadd; repeat' split) <;> omega
    · unfold dtext dwords
      repeat' split
      all_goals (simp only [List.length_cons, List.length_append, List.length_nil]; omega)
    · unfold dwords
      repeat' split
      all_goals simp
    · unfold dtext
      repeat' split
      all_goals (intro c hc; simp only [List.mem_cons, List.mem_append, List.not_mem_nil, or_false] at hc)
      all_goals (rcases hc with hc | hc | hc | hc | hc | hc | hc | hc | hc | hc | hc | hc | hc <;> first | exact h4 c hc | omega)
/-- the words ts stand at place i -/
def At (v : Env) (i : Nat) (ts : List Sh) : Prop := ∀ j (h : j < ts.length), sh (v.tk (i + j)) = ts[j]
theorem At.head {v : Env} {i : Nat} {t : Sh} {ts : List Sh} (h : At v i (t :: ts)) : sh (v.tk i) = t := h 0 (by simp)
theorem At.tail {v : Env} {i : Nat} {t : Sh} {ts : List Sh} (h : At v i (t :: ts)) : At v (i + 1) ts := fun j hj => by
  have := h (j + 1) (by simpa using hj)
  rw [show i + 1 + j = i + (j + 1) by omega]
  simpa using this
theorem At.left {v : Env} {i : Nat} {a b : List Sh} (h : At v i (a ++ b)) : At v i a := fun j hj => by
  have := h j (by rw [List.length_append]; omega)
  rwa [List.getElem_append_left hj] at this
end Go.Proofs.YtppigckioalhhaaGreatDoorR.Sy
/- PLAIN: the parser on two texts of the same words at other places: the same but for places. No program (of the machine) in sight. -/
namespace Go.Proofs.YtppigckioalhhaaGreatDoorR.Sy
open Lx (Tok)
open Pr (Term Atom Ex Li Rul Rel Prog)
set_option linter.unusedVariables false
set_option linter.unusedSimpArgs false

/-- without places -/
def bareL : Li → Li
  | .mk k a op l r fn av of body ln cl => .mk k a op l r fn av of (bareLs body) 0 0
where bareLs : List Li → List Li
  | [] => []
  | x :: r => bareL x :: bareLs r
theorem bareLs_map (l : List Li) : bareL.bareLs l = l.map bareL := by
  induction l with
  | nil => rfl
  | cons a r ih => rw [bareL.bareLs, ih]; rfl
theorem bareL_eq (k : Int) (a : Atom) (op : Int) (l r : Ex) (fn : Int) (av : ByteArray) (of : Ex) (body : List Li) (ln cl : Int) : bareL (.mk k a op l r fn av of body ln cl) = .mk k a op l r fn av of (body.map bareL) 0 0 := by
  rw [bareL, bareLs_map]
def bareU (x : Rul) : Rul := ⟨x.head, x.body.map bareL, 0, 0⟩
def bareR (x : Rel) : Rel := ⟨x.name, x.types, 0, 0⟩
def bareP (p : Prog) : Prog := ⟨p.rels.map bareR, p.rules.map bareU⟩

/-- one by one -/
inductive All2 {α : Type} (R : α → α → Prop) : List α → List α → Prop
  | nil : All2 R [] []
  | cons {a b : α} {l l' : List α} (h : R a b) (t : All2 R l l') : All2 R (a :: l) (b :: l')
/-- the same words -/
structure Same (v v' : Env) : Prop where
  len : v'.ws.length = v.ws.length
  tk : ∀ i, sh (v'.tk i) = sh (v.tk i)
  last : v'.last.1 = v.last.1
/-- the same but for what R leaves open -/
def Sim {α : Type} (R : α → α → Prop) (p p' : PR α) : Prop :=
  match p, p' with
  | .ok a i, .ok a' i' => i' = i ∧ R a a'
  | .err f, .err f' => f'.1 = f.1
  | _, _ => False
section
variable {α β : Type} {v v' : Env}
theorem sign_sh {t t' : Lx.Tok} (h : sh t' = sh t) (s : List Nat) : sign t' s = sign t s := by
  unfold sh at h
  simp only [Sh.mk.injEq] at h
  unfold sign
  rw [h.1, h.2.1]
theorem kind_sh' {t t' : Lx.Tok} (h : sh t' = sh t) : t'.kind = t.kind := congrArg Sh.kind h
theorem text_sh {t t' : Lx.Tok} (h : sh t' = sh t) : t'.text = t.text := congrArg Sh.text h
theorem plain_sh {t t' : Lx.Tok} (h : sh t' = sh t) : plain t' = plain t := by
  unfold plain
  rw [kind_sh' h, text_sh h]
theorem placeF_sh' {t t' : Lx.Tok} (h : sh t' = sh t) : ∀ (l : List (List Nat)) (k : Nat), placeF t' l k = placeF t l k
  | [], k => rfl
  | s :: r, k => by rw [placeF, placeF, sign_sh h, placeF_sh' h r (k + 1)]
theorem fnOf_sh {t t' : Lx.Tok} (h : sh t' = sh t) : fnOf t' = fnOf t := placeF_sh' h _ _
theorem cmpOf_sh {t t' : Lx.Tok} (h : sh t' = sh t) : cmpOf t' = cmpOf t := placeF_sh' h _ _
theorem tyOf_sh {t t' : Lx.Tok} (h : sh t' = sh t) : tyOf t' = tyOf t := placeF_sh' h _ _
theorem level_sh {t t' : Lx.Tok} (h : sh t' = sh t) : level t' = level t := by
  unfold level
  simp only [sign_sh h]
theorem operand_sh {t t' : Lx.Tok} (h : sh t' = sh t) : operand t' = operand t := by
  unfold operand
  rw [kind_sh' h, plain_sh h, sign_sh h, sign_sh h]
theorem const_sh2 {v v' : Env} {i i' : Nat} (h0 : sh (v'.tk i') = sh (v.tk i)) (h1 : sh (v'.tk (i' + 1)) = sh (v.tk (i + 1))) : constant v' i' = constant v i := by
  have e0 := h0
  have e1 := h1
  unfold sh at e0 e1
  simp only [Sh.mk.injEq] at e0 e1
  unfold constant
  rw [plain_sh h0, sign_sh h0, e0.1, e0.2.1, e0.2.2.1, e0.2.2.2.1, e0.2.2.2.2, e1.1, e1.2.2.2.1]
theorem Same.give (h : Same v v') (c i : Nat) : (v'.give c i).1 = (v.give c i).1 := by
  unfold Env.give
  rw [h.len]
  split
  · rfl
  · exact h.last
theorem Sim.bind {R : α → α → Prop} {Q : β → β → Prop} {p p' : PR α} {f f' : α → Nat → PR β} (h : Sim R p p') (hf : ∀ a a' i, R a a' → Sim Q (f a i) (f' a' i)) : Sim Q (p.bind f) (p'.bind f') := by
  cases p with
  | ok a i =>
    cases p' with
    | ok a' i' =>
      obtain ⟨rfl, hr⟩ := h
      exact hf a a' _ hr
    | err f => exact h.elim
  | err e =>
    cases p' with
    | ok a' i' => exact h.elim
    | err f => exact h
theorem sim_ok {R : α → α → Prop} {a a' : α} (i : Nat) (h : R a a') : Sim R (.ok a i) (.ok a' i) := ⟨rfl, h⟩
theorem Same.must (h : Same v v') (s : List Nat) (i : Nat) : Sim (fun _ _ => True) (must v s i) (must v' s i) := by
  unfold Sy.must
  rw [sign_sh (h.tk i)]
  split
  · exact ⟨rfl, trivial⟩
  · exact h.give _ _
theorem Same.listF (h : Same v v') (fin : List Nat) {R : α → α → Prop} {one one' : Nat → PR α} (h1 : ∀ i, Sim R (one i) (one' i)) : ∀ (n : Nat) (acc acc' : List α) (i : Nat), All2 R acc acc' → Sim (All2 R) (listF v fin one n acc i) (listF v' fin one' n acc' i)
  | 0, acc, acc', i, ha => h.last
  | n + 1, acc, acc', i, ha => by
    rw [Sy.listF, Sy.listF, sign_sh (h.tk i)]
    split
    · exact (h1 (i + 1)).bind fun a a' j hr => h.listF fin h1 n _ _ j (by
        have : ∀ {l l' : List α}, All2 R l l' → All2 R (l ++ [a]) (l' ++ [a']) := by
          intro l l' hl
          induction hl with
          | nil => exact .cons hr .nil
          | cons x y ih => exact .cons x ih
        exact this ha)
    · exact (h.must fin i).bind fun _ _ j _ => sim_ok j ha
theorem Same.list (h : Same v v') (fin : List Nat) {R : α → α → Prop} {one one' : Nat → PR α} (h1 : ∀ i, Sim R (one i) (one' i)) (i : Nat) : Sim (All2 R) (list v fin one i) (list v' fin one' i) := by
  unfold Sy.list
  rw [sign_sh (h.tk i), h.len]
  split
  · exact sim_ok _ .nil
  · exact (h1 i).bind fun a a' j hr => h.listF fin h1 _ _ _ j (.cons hr .nil)
theorem forall2_eq {l l' : List α} (h : All2 Eq l l') : l = l' := by
  induction h with
  | nil => rfl
  | cons a b ih => rw [a, ih]
theorem Same.name (h : Same v v') (i : Nat) : Sim (fun t t' => t'.text = t.text) (name v i) (name v' i) := by
  unfold Sy.name
  rw [plain_sh (h.tk i)]
  split
  · exact ⟨rfl, text_sh (h.tk i)⟩
  · exact h.give _ _
theorem Same.constant (h : Same v v') (i : Nat) : constant v' i = constant v i := const_sh2 (h.tk i) (h.tk (i + 1))
theorem Same.value (h : Same v v') (i : Nat) : Sim Eq (value v i) (value v' i) := by
  unfold Sy.value
  rw [h.constant i]
  split
  · exact ⟨rfl, rfl⟩
  · rw [sign_sh (h.tk i)]
    exact h.give _ _
theorem Same.term (h : Same v v') (i : Nat) : Sim Eq (term v i) (term v' i) := by
  unfold Sy.term
  rw [kind_sh' (h.tk i), sign_sh (h.tk i), text_sh (h.tk i)]
  split
  · exact ⟨rfl, rfl⟩
  · split
    · exact ⟨rfl, rfl⟩
    · exact (h.value i).bind fun a a' j e => by subst e; exact ⟨rfl, rfl⟩
theorem Same.atom (h : Same v v') (i : Nat) : Sim Eq (atom v i) (atom v' i) := by
  unfold Sy.atom
  refine (h.name i).bind fun t t' j ht => (h.must _ j).bind fun _ _ j _ => (h.list _ (fun i => h.term i) j).bind fun l l' j hl => ⟨rfl, ?_⟩
  rw [ht, forall2_eq hl]
theorem Same.chain (h : Same v v') (line : Nat) {sub sub' : Nat → Nat → PR (Ex × Nat)} (h1 : ∀ ab i, Sim Eq (sub ab i) (sub' ab i)) (above : Nat) : ∀ (n : Nat) (e : Ex) (d i : Nat), Sim Eq (chainF v line sub above n e d i) (chainF v' line sub' above n e d i)
  | 0, e, d, i => h.last
  | n + 1, e, d, i => by
    rw [chainF, chainF, level_sh (h.tk i)]
    split
    · exact ⟨rfl, rfl⟩
    · split
      · exact h.give _ _
      · exact (h1 _ _).bind fun a a' j e => by subst e; exact h.chain line h1 above n _ _ j
theorem Same.exprF (h : Same v v') : ∀ (k line above i : Nat), Sim Eq (exprF v k line above i) (exprF v' k line above i)
  | 0, line, above, i => h.last
  | k + 1, line, above, i => by
    rw [Sy.exprF, Sy.exprF, kind_sh' (h.tk i), text_sh (h.tk i), h.constant i, sign_sh (h.tk i), sign_sh (h.tk i), operand_sh (h.tk (i + 1)), h.len]
    split
    · split
      · exact ⟨rfl, rfl⟩
      · split
        · exact ⟨rfl, rfl⟩
        · split
          · split
            · exact h.give _ _
            · exact (h.exprF k 3 (above + 1) (i + 1)).bind fun a a' j e => by subst e; exact ⟨rfl, rfl⟩
          · split
            · exact h.give _ _
            · exact (h.must _ i).bind fun _ _ j _ => (h.exprF k 1 (above + 1) j).bind fun a a' j e => by subst e; exact (h.must _ j).bind fun _ _ j _ => ⟨rfl, rfl⟩
    · exact (h.exprF k (line + 1) above i).bind fun a a' j e => by subst e; exact h.chain line (fun ab i => h.exprF k (line + 1) ab i) above _ _ _ j
theorem Same.expr (h : Same v v') (i : Nat) : Sim Eq (expr v i) (expr v' i) := (h.exprF 60 1 0 i).bind fun a a' j e => by subst e; exact ⟨rfl, rfl⟩
def RL (l l' : Li) : Prop := bareL l = bareL l'
theorem forall2_map {γ : Type} {f : α → γ} {l l' : List α} (h : All2 (fun a b => f a = f b) l l') : l.map f = l'.map f := by
  induction h with
  | nil => rfl
  | cons a b ih => rw [List.map_cons, List.map_cons, a, ih]
theorem snoc2 {R : α → α → Prop} {l l' : List α} {a a' : α} (hl : All2 R l l') (hr : R a a') : All2 R (l ++ [a]) (l' ++ [a']) := by
  induction hl with
  | nil => exact .cons hr .nil
  | cons x y ih => exact .cons x ih
theorem Same.bodyF (h : Same v v') {one one' : Nat → PR Li} (h1 : ∀ i, Sim RL (one i) (one' i)) : ∀ (n : Nat) (acc acc' : List Li) (i : Nat), All2 RL acc acc' → Sim (All2 RL) (bodyF v one n acc i) (bodyF v' one' n acc' i)
  | 0, acc, acc', i, ha => h.last
  | n + 1, acc, acc', i, ha => by
    rw [Sy.bodyF, Sy.bodyF, sign_sh (h.tk i)]
    split
    · exact (h1 (i + 1)).bind fun a a' j hr => h.bodyF h1 n _ _ j (snoc2 ha hr)
    · exact sim_ok _ ha
theorem Same.bodyOf (h : Same v v') {one one' : Nat → PR Li} (h1 : ∀ i, Sim RL (one i) (one' i)) (i : Nat) : Sim (All2 RL) (bodyOf v one i) (bodyOf v' one' i) := by
  unfold Sy.bodyOf
  rw [h.len]
  exact (h1 i).bind fun a a' j hr => h.bodyF h1 _ _ _ j (.cons hr .nil)
def RA (g g' : Ag) : Prop := g'.fn = g.fn ∧ g'.av = g.av ∧ g'.of = g.of ∧ g.body.map bareL = g'.body.map bareL
theorem Same.aggOf (h : Same v v') {one one' : Nat → PR Li} (h1 : ∀ i, Sim RL (one i) (one' i)) (br i : Nat) : Sim RA (aggOf v one br i) (aggOf v' one' br i) := by
  unfold Sy.aggOf
  rw [sign_sh (h.tk (i + 3)), fnOf_sh (h.tk (i + 2)), text_sh (h.tk i)]
  split
  · exact h.give _ _
  · refine (h.must _ _).bind fun _ _ j _ => Sim.bind (R := Eq) ?_ (fun o o' j e => (h.bodyOf h1 j).bind fun b b' j hb => (h.must _ j).bind fun _ _ j _ => ⟨rfl, rfl, rfl, e.symm, forall2_map hb⟩)
    split
    · exact (h.expr j).bind fun e e' j he => (h.must _ j).bind fun _ _ j _ => ⟨rfl, he⟩
    · exact ⟨rfl, rfl⟩
theorem Same.litF (h : Same v v') : ∀ (k br i : Nat), Sim RL (litF v k br i) (litF v' k br i)
  | 0, br, i => h.last
  | k + 1, br, i => by
    rw [Sy.litF, Sy.litF, sign_sh (h.tk i), plain_sh (h.tk i), sign_sh (h.tk (i + 1)), kind_sh' (h.tk i), sign_sh (h.tk (i + 1)), fnOf_sh (h.tk (i + 2))]
    split
    · exact (h.atom (i + 1)).bind fun a a' j e => by subst e; exact ⟨rfl, by unfold RL; rw [bareL_eq, bareL_eq]⟩
    · split
      · exact (h.atom i).bind fun a a' j e => by subst e; exact ⟨rfl, by unfold RL; rw [bareL_eq, bareL_eq]⟩
      · split
        · refine (h.aggOf (fun i => h.litF k (br + 1) i) br i).bind fun g g' j e => ⟨rfl, ?_⟩
          unfold RL
          rw [bareL_eq, bareL_eq, e.1, e.2.1, e.2.2.1, e.2.2.2]
        · refine (h.expr i).bind fun l l' j e => ?_
          subst e
          rw [cmpOf_sh (h.tk j)]
          split
          · exact h.give _ _
          · exact (h.expr (j + 1)).bind fun r r' j e => by subst e; exact ⟨rfl, by unfold RL; rw [bareL_eq, bareL_eq]⟩
theorem Same.rule (h : Same v v') (i : Nat) : Sim (fun a b => bareU a = bareU b) (rule v i) (rule v' i) := by
  unfold Sy.rule
  refine (h.atom i).bind fun a a' j e => ?_
  subst e
  rw [sign_sh (h.tk j)]
  refine Sim.bind (R := All2 RL) ?_ (fun b b' j hb => ⟨rfl, by show bareU _ = bareU _; unfold bareU; rw [forall2_map (f := bareL) hb]⟩)
  split
  · exact h.bodyOf (fun i => h.litF 18 0 i) (j + 1)
  · exact ⟨rfl, .nil⟩
theorem Same.ty (h : Same v v') (i : Nat) : Sim Eq (ty v i) (ty v' i) := by
  unfold Sy.ty
  rw [tyOf_sh (h.tk i)]
  split
  · exact h.give _ _
  · exact ⟨rfl, rfl⟩
theorem Same.relation (h : Same v v') (i : Nat) : Sim (fun a b => bareR a = bareR b) (relation v i) (relation v' i) := by
  unfold Sy.relation
  refine (h.name i).bind fun t t' j ht => (h.must _ j).bind fun _ _ j _ => (h.list _ (fun i => h.ty i) j).bind fun l l' j hl => ⟨rfl, ?_⟩
  unfold bareR
  rw [ht, forall2_eq hl]
theorem Same.progF (h : Same v v') : ∀ (n : Nat) (p p' : Prog) (i : Nat), bareP p = bareP p' → Sim (fun a b => bareP a = bareP b) (progF v n p i) (progF v' n p' i)
  | 0, p, p', i, hp => h.last
  | n + 1, p, p', i, hp => by
    have hp2 := hp
    unfold bareP at hp2
    simp only [Prog.mk.injEq] at hp2
    rw [Sy.progF, Sy.progF, h.len, sign_sh (h.tk i)]
    split
    · split
      · exact (h.relation (i + 1)).bind fun x x' j hx => (h.must _ j).bind fun _ _ j _ => h.progF n _ _ j (by unfold bareP; simp [hp2.1, hp2.2, hx])
      · exact (h.rule i).bind fun x x' j hx => (h.must _ j).bind fun _ _ j _ => h.progF n _ _ j (by unfold bareP; simp [hp2.1, hp2.2, hx])
    · exact ⟨rfl, hp⟩
theorem Same.whole (h : Same v v') {R : α → α → Prop} {one one' : Nat → PR α} (h1 : Sim R (one 0) (one' 0)) : Sim R (whole v one) (whole v' one') := by
  unfold Sy.whole
  refine h1.bind fun a a' i hr => ?_
  rw [h.len, h.last]
  split
  · exact h.give _ _
  · exact ⟨rfl, hr⟩
theorem Same.program (h : Same v v') : Sim (fun a b => bareP a = bareP b) (Sy.whole v (Sy.prog v)) (Sy.whole v' (Sy.prog v')) :=
  h.whole (by unfold Sy.prog; rw [h.len]; exact h.progF _ _ _ 0 rfl)
end
end Go.Proofs.YtppigckioalhhaaGreatDoorR.Sy
/- bareBody. Printed by wip/gen_sybare.py. -/
namespace Go.Proofs.YtppigckioalhhaaGreatDoorR
open Go.RowKit
set_option linter.unusedVariables false
set_option linter.unusedSimpArgs false
set_option maxRecDepth 100000

def BaC (d : Nat) : Prop := ∀ (l : List Pr.Li), liDs l < d → l.length ≤ 1048576 → liMs l ≤ 1048576 → ∀ (F : Nat → Prop) (u : Value) (w : World), BB F w l u →
  Calls Tryz.prog 54 #[u] w (CpB (l.map Sy.bareL) w)
set_option maxHeartbeats 8000000 in
theorem bac_of (d : Nat) (hS : BaC d) : BaC (d + 1) := by
  intro l hd hl hM F u w h
  have HS := Lib.hid hS
  have HC := Lib.hid (copyLits_any l hl hM u w h)
  obtain ⟨a1, c1, rfl⟩ := h.lit
  clear h hS
  go_enter Tryz.func54, Tryz.ntmps54
  go_wp2_with fail
  refine HC.out.mono ?_
  rintro e1 v1 ⟨acc0, va, vc, rfl, hm0, hG0, hmod⟩
  have GG := Lib.hid hG0; have HM0 := Lib.hid hm0
  have hn0 : acc0.length = l.length := by rw [← hm0]; simp
  clear hG0 hm0 hmod HC
  generalize hn : acc0.length = n at *
  subst hn0
  have HN := Lib.hid hn
  clear hn
  go_wp2_with fail
  go_loopw [4] (fun iv wr => ∃ (i : Nat) (acc : List (Pr.Li × LU)), iv = .int .i64 (i : Nat) ∧ i ≤ l.length ∧ acc.length = l.length ∧ acc.map (·.1) = (l.take i).map Sy.bareL ++ l.drop i ∧ GI 50 30 csL BL [] w wr acc va vc) (fun iv _ => l.length - (intOf iv).toNat)
  case atStart => exact ⟨0, acc0, rfl, Nat.zero_le _, HN.out, by simpa using HM0.out, GG.out⟩
  case round =>
    obtain ⟨i, acc, rfl, hi, hlen, hmap, hG⟩ := hrel
    have G0 := Lib.hid hG; have HMP := Lib.hid hmap
    clear hG hmap
    by_cases hlt : i < l.length
    · have hiI : (i : Int) < (l.length : Int) := by omega
      have hi0 : (0 : Int) ≤ (i : Int) := by omega
      have hia : i < acc.length := by omega
      have hil : i < l.length := by omega
      obtain ⟨g, hva⟩ : ∃ g, va = some ⟨g, 0, none⟩ := by
        rcases G0.out.row.2 with ⟨h1, h2⟩ | ⟨g, cap, cur, h1, -⟩
        · omega
        · simp only [Value.slice.injEq] at h1; exact ⟨g, h1.1⟩
      subst hva
      obtain ⟨b, off, hb, hcell⟩ := (RowB.of_owns (F := fun _ => True) liV_size G0.out.row (fun _ _ => trivial)).at i hia
      simp only [Option.some.injEq, Addr.mk.injEq, and_true] at hb
      obtain ⟨rfl, rfl⟩ := hb
      have hsub := G0.out.sub _ (List.getElem_mem hia)
      have hfz := fun j => G0.out.row.frozenAt j
      have hy : (acc[i]).1 = l[i] := by
        have e : (acc.map (·.1))[i]? = l[i]? := by
          rw [HMP.out, List.getElem?_append_right (by simp; omega), show (List.map Sy.bareL (List.take i l)).length = i by simp; omega, List.getElem?_drop, Nat.sub_self, Nat.add_zero]
        rw [List.getElem?_map, List.getElem?_eq_getElem hia, List.getElem?_eq_getElem hil] at e
        simpa using e
      have hdj := liDs_mem l i hil
      have hmj := liMs_mem l i hil
      have HYL : Hid (l[i]? = some l[i]) := Lib.hid (List.getElem?_eq_getElem hil)
      have HYA : Hid (acc[i]? = some acc[i]) := Lib.hid (List.getElem?_eq_getElem hia)
      rw [← hy] at hdj hmj HYL
      generalize hz : acc[i] = z at *
      obtain ⟨⟨k, ⟨rel, ts⟩, op, le, re, fn, av, of, body, ln, cl⟩, U1⟩ := z
      dsimp only at hcell hsub hdj hmj HYL
      obtain ⟨ht1, hl1, hr1, ho1, hb1⟩ := hsub.parts
      obtain ⟨t1, l1, r1, q1, b1⟩ := U1
      dsimp only at ht1 hl1 hr1 ho1 hb1
      obtain ⟨ba1, bc1, rfl⟩ := hb1.lit
      have hD : liDs body < d := by simp only [liD] at hdj; omega
      simp only [liM] at hmj
      have hB5 : body.length ≤ 1048576 := by omega
      have hB6 : liMs body ≤ 1048576 := by omega
      clear hdj hmj hy
      rw [Nat.zero_add] at hcell
      have c27 := hcell 27 (.slice ba1 body.length bc1) rfl
      have c28 := hcell 28 (.int .i64 ln) rfl
      have c29 := hcell 29 (.int .i64 cl) rfl
      have G1 := G0.out.put1 bearsLi i hia (.mk k ⟨rel, ts⟩ op le re fn av of body 0 cl, ⟨t1, l1, r1, q1, .slice ba1 body.length bc1⟩) 28 (by omega) (.int .i64 0) (by rw [hz]; rfl) (LB.of ht1 hl1 hr1 ho1 hb1)
      have m1 : Mod [g] wr (wr.setCell ⟨g, i * 30 + 28, none⟩ (.int .i64 0)) := (Mod.refl [g] wr).setCell (p := ⟨g, i * 30 + 28, none⟩) (.inl (by simp)) _
      have hgf : ∀ s ∈ [g], ¬ (w.heap.size ≤ s ∧ s ∉ fp (.slice (some ⟨g, 0, none⟩) acc.length vc)) := fun s hs hh => by rw [List.mem_singleton] at hs; subst hs; exact hh.2 (by simp [fp])
      have hia1 : i < (acc.set i (Pr.Li.mk k ⟨rel, ts⟩ op le re fn av of body 0 cl, (⟨t1, l1, r1, q1, .slice ba1 body.length bc1⟩ : LU))).length := by simpa using hia
      have G2 := G1.put1 bearsLi i hia1 (.mk k ⟨rel, ts⟩ op le re fn av of body 0 0, ⟨t1, l1, r1, q1, .slice ba1 body.length bc1⟩) 29 (by omega) (.int .i64 0) (by rw [List.getElem_set_self]; rfl) (by rw [List.length_set]; exact (LB.of ht1 hl1 hr1 ho1 hb1 : LB _ _ (.mk k ⟨rel, ts⟩ op le re fn av of body 0 0) _).keep m1 hgf)
      rw [List.set_set] at G2
      have m2 : Mod [g] (wr.setCell ⟨g, i * 30 + 28, none⟩ (.int .i64 0)) ((wr.setCell ⟨g, i * 30 + 28, none⟩ (.int .i64 0)).setCell ⟨g, i * 30 + 28 + 1, none⟩ (.int .i64 0)) := (Mod.refl [g] _).setCell (p := ⟨g, i * 30 + 28 + 1, none⟩) (.inl (by simp)) _
      have G2 : Hid (GI 50 30 csL BL [] w ((wr.setCell ⟨g, i * 30 + 28, none⟩ (.int .i64 0)).setCell ⟨g, i * 30 + 28 + 1, none⟩ (.int .i64 0)) (acc.set i (.mk k ⟨rel, ts⟩ op le re fn av of body 0 0, ⟨t1, l1, r1, q1, .slice ba1 body.length bc1⟩)) (some ⟨g, 0, none⟩) vc) := Lib.hid G2
      have m12 := Lib.hid (m1.trans m2 (by simp))
      have HT := Lib.hid ht1; have HL := Lib.hid hl1; have HR := Lib.hid hr1; have HO := Lib.hid ho1; have HB := Lib.hid hb1
      have HGF := Lib.hid hgf; have HZ := Lib.hid hz
      clear G1 m1 m2 ht1 hl1 hr1 ho1 hb1 hgf hz hsub hcell
      go_upto_region 6 with fail
      generalize (wr.setCell ⟨g, i * 30 + 28, none⟩ (.int .i64 0)).setCell ⟨g, i * 30 + 28 + 1, none⟩ (.int .i64 0) = q2 at *
      have hgl : g < q2.heap.size := fp_lt G2.out.row g (by simp [fp])
      have hwg : w.heap.size ≤ g := G0.out.new g (by simp [fp])
      obtain ⟨b, off, hb, hcell⟩ := (RowB.of_owns (F := fun _ => True) liV_size G2.out.row (fun _ _ => trivial)).at i (by simpa using hia)
      simp only [Option.some.injEq, Addr.mk.injEq, and_true] at hb
      obtain ⟨rfl, rfl⟩ := hb
      rw [List.getElem_set_self, Nat.zero_add] at hcell
      have d27 := hcell 27 (.slice ba1 body.length bc1) rfl
      clear c27 c28 c29 hfz hcell
      have hb2 := Lib.hid (HB.out.keep m12.out HGF.out)
      go_wp2_with fail
      refine (HS.out body hD hB5 hB6 _ _ q2 hb2.out).mono ?_
      rintro e4 v4 ⟨bacc, ba3, bc3, rfl, bm, r4, m4⟩
      have G4 := Lib.hid (G2.out.keep bearsLi m4)
      have B4 : Hid (BB (fun k => w.heap.size ≤ k ∧ k ∉ fp (.slice (some ⟨g, 0, none⟩) acc.length vc)) v4 (body.map Sy.bareL) (.slice ba3 bacc.length bc3)) := Lib.hid (bm ▸ (BB.of_gi r4).mono (fun k hk _ => ⟨by omega, by simp [fp]; omega⟩))
      have d27 := m4.cell d27 (by simp)
      have hfz := fun j => G4.out.row.frozenAt j
      have ML := Lib.hid (m12.out.trans m4 (by simp))
      have hia2 : i < (acc.set i (Pr.Li.mk k ⟨rel, ts⟩ op le re fn av of body 0 0, (⟨t1, l1, r1, q1, .slice ba1 body.length bc1⟩ : LU))).length := by simpa using hia
      have G5 := G4.out.put1 bearsLi i hia2 (.mk k ⟨rel, ts⟩ op le re fn av of (body.map Sy.bareL) 0 0, ⟨t1, l1, r1, q1, .slice ba3 bacc.length bc3⟩) 27 (by omega) (.slice ba3 bacc.length bc3) (by rw [List.getElem_set_self]; rfl) (by rw [List.length_set]; exact LB.of (HT.out.keep ML.out HGF.out) (HL.out.keep ML.out HGF.out) (HR.out.keep ML.out HGF.out) (HO.out.keep ML.out HGF.out) B4.out)
      rw [List.set_set] at G5
      have G6 := Lib.hid G5
      clear G5 bm r4 m4 HT HL HR HO HB HGF B4 G2 G4 ML m12 hb2
      go_wp2_with fail
      generalize v4.setCell ⟨g, i * 30 + 27, none⟩ (.slice ba3 bacc.length bc3) = q5 at *
      go_roundw
      case rel =>
        refine ⟨i + 1, _, by go_num, by omega, by simpa using hlen, ?_, G6.out⟩
        rw [List.map_set, HMP.out, List.set_append_right _ _ (by simp; omega), show (List.map Sy.bareL (List.take i l)).length = i by simp; omega, Nat.sub_self, List.drop_eq_getElem_cons hil, List.set_cons_zero, List.take_add_one, HYL.out]
        simp [Sy.bareL_eq]
      case measure => simp [intOf]; omega
    · obtain rfl : i = l.length := by omega
      have hiI : ¬ (l.length : Int) < (l.length : Int) := by omega
      have HL2 := Lib.hid hlen
      clear hlen
      go_wp2_with fail
      go_ret
      exact ⟨acc, va, vc, by rw [HL2.out]; rfl, by rw [HMP.out]; simp, G0.out, G0.out.mod⟩
theorem bac_all : ∀ d, BaC d
  | 0 => fun l hd => absurd hd (by omega)
  | d + 1 => bac_of d (bac_all d)
theorem bareBody_any {F : Nat → Prop} (l : List Pr.Li) (hl : l.length ≤ 1048576) (hM : liMs l ≤ 1048576) (u : Value) (w : World) (h : BB F w l u) :
    Calls Tryz.prog 54 #[u] w (CpB (l.map Sy.bareL) w) := bac_all (liDs l + 1) l (Nat.lt_succ_self _) hl hM F u w h
end Go.Proofs.YtppigckioalhhaaGreatDoorR
/- A PROGRAM THAT THE CALL OWNS: one cell of a relation, of a rule is stored. -/
namespace Go.Proofs.YtppigckioalhhaaGreatDoorR
open Go.RowKit
set_option linter.unusedVariables false
set_option linter.unusedSimpArgs false
set_option maxRecDepth 100000

section
variable {w0 W W' : World} {rels : List RelU} {rus : List RulU} {va ua : Option Addr} {vc uc g : Nat}
theorem PO.keep (h : PO w0 W rels rus va vc ua uc) (hm : Mod [] W W') : PO w0 W' rels rus va vc ua uc :=
  ⟨hm.owns h.rowR (by simp), hm.owns h.rowU (by simp), h.newR, h.newU, h.dis, fun p hp => (h.subR p hp).keep hm (by simp), fun p hp => (h.subU p hp).keep hm (by simp), h.mod.trans hm (by simp)⟩
/-- stores elsewhere -/
theorem PO.past {S : List Nat} (h : PO w0 W rels rus va vc ua uc) (hm : Mod S W W') (hS : ∀ s ∈ S, w0.heap.size ≤ s ∧ s ∉ fp (.slice va rels.length vc) ∧ s ∉ fp (.slice ua rus.length uc) ∧ ∀ k, QF w0 (.slice va rels.length vc) (.slice ua rus.length uc) k → k < W.heap.size → k ≠ s) : PO w0 W' rels rus va vc ua uc := by
  refine ⟨hm.owns h.rowR (fun k hk hs => (hS k hs).2.1 hk), hm.owns h.rowU (fun k hk hs => (hS k hs).2.2.1 hk), h.newR, h.newU, h.dis, fun p hp => ?_, fun p hp => ?_, h.mod.trans hm (fun t ht => .inr (hS t ht).1)⟩
  · exact (((h.subR p hp).mono (F' := fun k => QF w0 (.slice va rels.length vc) (.slice ua rus.length uc) k ∧ k < W.heap.size) (fun k hk hk2 => ⟨hk, hk2⟩)).keep hm (fun s hs hh => (hS s hs).2.2.2 s hh.1 hh.2 rfl)).mono (fun k hk _ => hk.1)
  · exact (((h.subU p hp).mono (F' := fun k => QF w0 (.slice va rels.length vc) (.slice ua rus.length uc) k ∧ k < W.heap.size) (fun k hk hk2 => ⟨hk, hk2⟩)).keep hm (fun s hs hh => (hS s hs).2.2.2 s hh.1 hh.2 rfl)).mono (fun k hk _ => hk.1)
theorem PO.putR (h : PO w0 W rels rus (some ⟨g, 0, none⟩) vc ua uc) (i : Nat) (hi : i < rels.length) (p' : RelU) (o : Nat) (ho : o < 4) (u : Value)
    (hc : (csR p').toList = (csR rels[i]).toList.set o u) (hp : RelB (QF w0 (.slice (some ⟨g, 0, none⟩) rels.length vc) (.slice ua rus.length uc)) W p') :
    PO w0 (W.setCell ⟨g, i * 4 + o, none⟩ u) (rels.set i p') rus (some ⟨g, 0, none⟩) vc ua uc := by
  have e1 : (rels.set i p').length = rels.length := by simp
  have hm : Mod [g] W (W.setCell ⟨g, i * 4 + o, none⟩ u) := (Mod.refl [g] W).setCell (p := ⟨g, i * 4 + o, none⟩) (.inl (by simp)) u
  have hg : g ∈ fp (.slice (some ⟨g, 0, none⟩) rels.length vc) := by simp [fp]
  have hS : ∀ s ∈ [g], ¬ QF w0 (.slice (some ⟨g, 0, none⟩) rels.length vc) (.slice ua rus.length uc) s := fun s hs hh => by rw [List.mem_singleton] at hs; subst hs; exact hh.2.1 hg
  refine ⟨?_, hm.owns h.rowU (fun k hk hs => ?_), by rw [e1]; exact h.newR, h.newU, by rw [e1]; exact h.dis, fun q hq => ?_, fun q hq => ?_, h.mod.trans hm (fun k hk => by rw [List.mem_singleton] at hk; subst hk; exact .inr (h.newR _ hg))⟩
  · rw [e1, rowCells_set1 csR_size p' o u ho rels i hi hc]
    exact (h.rowR.stored (i * 4 + o) u).1
  · rw [List.mem_singleton] at hs; subst hs; exact h.dis _ hg hk
  · rw [e1]
    rcases List.mem_or_eq_of_mem_set hq with hq | rfl
    · exact (h.subR q hq).keep hm hS
    · exact hp.keep hm hS
  · rw [e1]; exact (h.subU q hq).keep hm hS
theorem PO.putU (h : PO w0 W rels rus va vc (some ⟨g, 0, none⟩) uc) (i : Nat) (hi : i < rus.length) (p' : RulU) (o : Nat) (ho : o < 5) (u : Value)
    (hc : (csU p').toList = (csU rus[i]).toList.set o u) (hp : RulB (QF w0 (.slice va rels.length vc) (.slice (some ⟨g, 0, none⟩) rus.length uc)) W p') :
    PO w0 (W.setCell ⟨g, i * 5 + o, none⟩ u) rels (rus.set i p') va vc (some ⟨g, 0, none⟩) uc := by
  have e1 : (rus.set i p').length = rus.length := by simp
  have hm : Mod [g] W (W.setCell ⟨g, i * 5 + o, none⟩ u) := (Mod.refl [g] W).setCell (p := ⟨g, i * 5 + o, none⟩) (.inl (by simp)) u
  have hg : g ∈ fp (.slice (some ⟨g, 0, none⟩) rus.length uc) := by simp [fp]
  have hS : ∀ s ∈ [g], ¬ QF w0 (.slice va rels.length vc) (.slice (some ⟨g, 0, none⟩) rus.length uc) s := fun s hs hh => by rw [List.mem_singleton] at hs; subst hs; exact hh.2.2 hg
  refine ⟨hm.owns h.rowR (fun k hk hs => ?_), ?_, h.newR, by rw [e1]; exact h.newU, by rw [e1]; exact h.dis, fun q hq => ?_, fun q hq => ?_, h.mod.trans hm (fun k hk => by rw [List.mem_singleton] at hk; subst hk; exact .inr (h.newU _ hg))⟩
  · rw [List.mem_singleton] at hs; subst hs; exact h.dis _ hk hg
  · rw [e1, rowCells_set1 csU_size p' o u ho rus i hi hc]
    exact (h.rowU.stored (i * 5 + o) u).1
  · rw [e1]; exact (h.subR q hq).keep hm hS
  · rw [e1]
    rcases List.mem_or_eq_of_mem_set hq with hq | rfl
    · exact (h.subU q hq).keep hm hS
    · exact hp.keep hm hS
theorem PO.prog (h : PO w0 W rels rus va vc ua uc) : PgB (fun k => w0.heap.size ≤ k) W ⟨rels.map (·.1), rus.map (·.1)⟩ (.agg #[.slice va rels.length vc, .slice ua rus.length uc]) :=
  ⟨rels, rus, _, _, rfl, rfl, RowB.of_owns csR_size h.rowR h.newR, RowB.of_owns csU_size h.rowU h.newU, fun p hp => (h.subR p hp).mono (fun k hk _ => hk.1), fun p hp => (h.subU p hp).mono (fun k hk _ => hk.1)⟩
end
end Go.Proofs.YtppigckioalhhaaGreatDoorR
/- PLAIN: no list of a tree that was read is longer than the words (and two). -/
namespace Go.Proofs.YtppigckioalhhaaGreatDoorR.Sy
open Pr (Ex Li Atom Rul Rel Prog)
set_option linter.unusedVariables false

theorem listF_len {α : Type} {v : Env} {fin : List Nat} {one : Nat → PR α} : ∀ (k : Nat) (acc : List α) (i : Nat) (l : List α) (j : Nat), listF v fin one k acc i = .ok l j → l.length ≤ acc.length + k
  | 0, acc, i, l, j, h => by cases h
  | k + 1, acc, i, l, j, h => by
    rw [listF] at h
    split at h
    · obtain ⟨a, m, -, h2⟩ := bind_ok h
      have := listF_len k _ _ l j h2
      simp at this
      omega
    · obtain ⟨a, m, -, h2⟩ := bind_ok h
      cases h2
      omega
theorem list_len {α : Type} {v : Env} {fin : List Nat} {one : Nat → PR α} {i : Nat} {l : List α} {j : Nat} (h : list v fin one i = .ok l j) : l.length ≤ v.ws.length + 2 := by
  unfold list at h
  split at h
  · cases h; simp
  · obtain ⟨a, m, -, h2⟩ := bind_ok h
    have := listF_len _ _ _ l j h2
    simp at this
    omega
theorem atom_len {v : Env} {i : Nat} {a : Atom} {j : Nat} (h : atom v i = .ok a j) : a.terms.length ≤ v.ws.length + 2 := by
  unfold atom at h
  obtain ⟨t, m, -, h⟩ := bind_ok h
  obtain ⟨_, m2, -, h⟩ := bind_ok h
  obtain ⟨l, m3, h1, h⟩ := bind_ok h
  cases h
  exact list_len h1
theorem chain_M {v : Env} {line : Nat} {sub : Nat → Nat → PR (Ex × Nat)} {above : Nat} (hs : ∀ ab i r j, sub ab i = .ok r j → exM r.1 ≤ 2) : ∀ (n : Nat) (e : Ex) (d i : Nat) (r : Ex × Nat) (j : Nat), exM e ≤ 2 → chainF v line sub above n e d i = .ok r j → exM r.1 ≤ 2
  | 0, e, d, i, r, j, he, h => by cases h
  | n + 1, e, d, i, r, j, he, h => by
    rw [chainF] at h
    split at h
    · cases h; exact he
    · split at h
      · cases h
      · obtain ⟨x, m, h1, h2⟩ := bind_ok h
        have := hs _ _ _ _ h1
        exact chain_M hs n _ _ m r j (by simp [exM, exMs]; omega) h2
theorem expr_M (v : Env) : ∀ (n line above i : Nat) (r : Ex × Nat) (j : Nat), exprF v n line above i = .ok r j → exM r.1 ≤ 2
  | 0, line, above, i, r, j, h => by cases h
  | n + 1, line, above, i, r, j, h => by
    rw [exprF] at h
    split at h
    · split at h
      · cases h; simp [exM, exMs]
      · split at h
        · cases h; simp [exM, exMs]
        · split at h
          · split at h
            · cases h
            · obtain ⟨x, m, h1, h2⟩ := bind_ok h
              cases h2
              have := expr_M v n _ _ _ _ _ h1
              simp [exM, exMs]; omega
          · split at h
            · cases h
            · obtain ⟨_, m, -, h⟩ := bind_ok h
              obtain ⟨x, m2, h1, h⟩ := bind_ok h
              obtain ⟨_, m3, -, h⟩ := bind_ok h
              cases h
              exact expr_M v n _ _ _ x _ h1
    · obtain ⟨x, m, h1, h2⟩ := bind_ok h
      exact chain_M (fun ab i r j => expr_M v n _ ab i r j) _ _ _ m r j (expr_M v n _ _ _ _ _ h1) h2
theorem expr_M1 {v : Env} {i : Nat} {e : Ex} {j : Nat} (h : expr v i = .ok e j) : exM e ≤ 2 := by
  unfold expr at h
  obtain ⟨x, m, h1, h2⟩ := bind_ok h
  cases h2
  exact expr_M v _ _ _ _ _ _ h1
theorem liMs_snoc (acc : List Li) (a : Li) : liMs (acc ++ [a]) = max (liMs acc) (liM a) := by
  induction acc with
  | nil => simp [liMs]
  | cons x r ih => simp only [List.cons_append, liMs, ih]; omega
theorem body_M {v : Env} {one : Nat → PR Li} {B : Nat} (h1 : ∀ i a j, one i = .ok a j → liM a ≤ B) : ∀ (k : Nat) (acc : List Li) (i : Nat) (l : List Li) (j : Nat), liMs acc ≤ B → bodyF v one k acc i = .ok l j → liMs l ≤ B ∧ l.length ≤ acc.length + k
  | 0, acc, i, l, j, ha, h => by cases h
  | k + 1, acc, i, l, j, ha, h => by
    rw [bodyF] at h
    split at h
    · obtain ⟨a, m, h2, h3⟩ := bind_ok h
      have := body_M h1 k _ _ l j (by rw [liMs_snoc]; have := h1 _ _ _ h2; omega) h3
      refine ⟨this.1, ?_⟩
      have h4 := this.2
      simp at h4
      omega
    · cases h
      exact ⟨ha, by omega⟩
theorem bodyOf_M {v : Env} {one : Nat → PR Li} {B : Nat} (h1 : ∀ i a j, one i = .ok a j → liM a ≤ B) {i : Nat} {l : List Li} {j : Nat} (h : bodyOf v one i = .ok l j) : liMs l ≤ B ∧ l.length ≤ v.ws.length + 2 := by
  unfold bodyOf at h
  obtain ⟨a, m, h2, h3⟩ := bind_ok h
  have := body_M h1 _ _ _ l j (by simp only [liMs]; have := h1 _ _ _ h2; omega) h3
  refine ⟨this.1, ?_⟩
  have h4 := this.2
  simp at h4
  omega
theorem lit_M (v : Env) : ∀ (k br i : Nat) (a : Li) (j : Nat), litF v k br i = .ok a j → liM a ≤ v.ws.length + 2
  | 0, br, i, a, j, h => by cases h
  | k + 1, br, i, a, j, h => by
    have e0 : exM ex0 = 0 := by simp [ex0, exM, exMs]
    have a0 : at0.terms.length = 0 := rfl
    rw [litF] at h
    split at h
    · obtain ⟨x, m, h1, h2⟩ := bind_ok h
      cases h2
      have := atom_len h1
      simp [liM, liMs, e0]; omega
    · split at h
      · obtain ⟨x, m, h1, h2⟩ := bind_ok h
        cases h2
        have := atom_len h1
        simp [liM, liMs, e0]; omega
      · split at h
        · obtain ⟨g, m, h1, h2⟩ := bind_ok h
          cases h2
          unfold aggOf at h1
          split at h1
          · cases h1
          · obtain ⟨_, m1, -, h1⟩ := bind_ok h1
            obtain ⟨o, m2, h3, h1⟩ := bind_ok h1
            obtain ⟨b, m3, h4, h1⟩ := bind_ok h1
            obtain ⟨_, m4, -, h1⟩ := bind_ok h1
            cases h1
            have hb := bodyOf_M (lit_M v k (br + 1)) h4
            have ho : exM o ≤ 2 := by
              split at h3
              · obtain ⟨e, m5, h5, h3⟩ := bind_ok h3
                obtain ⟨_, m6, -, h3⟩ := bind_ok h3
                cases h3
                exact expr_M1 h5
              · cases h3; rw [e0]; omega
            simp only [liM, e0, a0]; omega
        · obtain ⟨x, m, h1, h2⟩ := bind_ok h
          split at h2
          · cases h2
          · obtain ⟨y, m2, h3, h2⟩ := bind_ok h2
            cases h2
            have := expr_M1 h1
            have := expr_M1 h3
            simp [liM, liMs, e0, a0]; omega
theorem rule_M {v : Env} {i : Nat} {r : Rul} {j : Nat} (h : rule v i = .ok r j) : r.head.terms.length ≤ v.ws.length + 2 ∧ r.body.length ≤ v.ws.length + 2 ∧ liMs r.body ≤ v.ws.length + 2 := by
  unfold rule at h
  obtain ⟨x, m, h1, h2⟩ := bind_ok h
  obtain ⟨b, m2, h3, h2⟩ := bind_ok h2
  cases h2
  refine ⟨atom_len h1, ?_⟩
  split at h3
  · have := bodyOf_M (fun i a j => lit_M v _ _ i a j) h3
    exact ⟨this.2, this.1⟩
  · cases h3; simp [liMs]
theorem relation_M {v : Env} {i : Nat} {r : Rel} {j : Nat} (h : relation v i = .ok r j) : r.types.length ≤ v.ws.length + 2 := by
  unfold relation at h
  obtain ⟨t, m, -, h⟩ := bind_ok h
  obtain ⟨_, m2, -, h⟩ := bind_ok h
  obtain ⟨l, m3, h1, h⟩ := bind_ok h
  cases h
  exact list_len h1
theorem prog_M {v : Env} : ∀ (n : Nat) (p : Prog) (i : Nat) (q : Prog) (j : Nat), (∀ r ∈ p.rels, r.types.length ≤ v.ws.length + 2) → (∀ r ∈ p.rules, r.head.terms.length ≤ v.ws.length + 2 ∧ r.body.length ≤ v.ws.length + 2 ∧ liMs r.body ≤ v.ws.length + 2) → progF v n p i = .ok q j →
    q.rels.length ≤ p.rels.length + n ∧ q.rules.length ≤ p.rules.length + n ∧ (∀ r ∈ q.rels, r.types.length ≤ v.ws.length + 2) ∧ ∀ r ∈ q.rules, r.head.terms.length ≤ v.ws.length + 2 ∧ r.body.length ≤ v.ws.length + 2 ∧ liMs r.body ≤ v.ws.length + 2
  | 0, p, i, q, j, h1, h2, h => by cases h
  | n + 1, p, i, q, j, h1, h2, h => by
    rw [progF] at h
    split at h
    · split at h
      · obtain ⟨x, m, h3, h⟩ := bind_ok h
        obtain ⟨_, m2, -, h⟩ := bind_ok h
        have := prog_M n ⟨p.rels ++ [x], p.rules⟩ m2 q j (by
          intro r hr
          rcases List.mem_append.1 hr with hr | hr
          · exact h1 r hr
          · rw [List.mem_singleton] at hr; subst hr; exact relation_M h3) h2 h
        refine ⟨?_, ?_, this.2.2.1, this.2.2.2⟩
        · have := this.1; simp at this; omega
        · have := this.2.1; simp at this; omega
      · obtain ⟨x, m, h3, h⟩ := bind_ok h
        obtain ⟨_, m2, -, h⟩ := bind_ok h
        have := prog_M n ⟨p.rels, p.rules ++ [x]⟩ m2 q j h1 (by
          intro r hr
          rcases List.mem_append.1 hr with hr | hr
          · exact h2 r hr
          · rw [List.mem_singleton] at hr; subst hr; exact rule_M h3) h
        refine ⟨?_, ?_, this.2.2.1, this.2.2.2⟩
        · have := this.1; simp at this; omega
        · have := this.2.1; simp at this; omega
    · cases h
      exact ⟨by omega, by omega, h1, h2⟩
theorem prog_pgM {v : Env} (hv : v.ws.length ≤ 65536) {p : Prog} {j : Nat} (h : whole v (prog v) = .ok p j) : PgM p := by
  unfold whole at h
  obtain ⟨x, m, h1, h2⟩ := bind_ok h
  split at h2
  · cases h2
  · cases h2
    have := prog_M _ _ _ _ _ (by simp) (by simp) h1
    simp at this
    obtain ⟨k1, k2, k3, k4⟩ := this
    exact ⟨by omega, by omega, fun r hr => by have := k3 r hr; omega, fun r hr => by have := (k4 r hr).1; omega, fun r hr => by have := (k4 r hr).2.1; omega, fun r hr => by have := (k4 r hr).2.2; omega⟩
end Go.Proofs.YtppigckioalhhaaGreatDoorR.Sy
namespace Go.Proofs.YtppigckioalhhaaGreatDoorR.Lx
set_option linter.unusedSimpArgs false
set_option linter.unusedVariables false

theorem esc_join {s : List Nat} {b j : Nat} (h : esc s = some (b, j)) (t : List Nat) : esc (s ++ t) = some (b, j) := by
  match s with
  | [] => simp [esc] at h
  | [c] =>
    unfold esc at h ⊢
    simp only [List.cons_append, List.nil_append] at h ⊢
    by_cases h1 : c = 34 ∨ c = 92
    · rw [if_pos h1] at h ⊢; exact h
    · rw [if_neg h1] at h ⊢
      by_cases h2 : c = 110
      · rw [if_pos h2] at h ⊢; exact h
      · rw [if_neg h2] at h
        by_cases h3 : c = 120 <;> simp [h3] at h
  | [c, x] =>
    unfold esc at h ⊢
    simp only [List.cons_append, List.nil_append] at h ⊢
    by_cases h1 : c = 34 ∨ c = 92
    · rw [if_pos h1] at h ⊢; exact h
    · rw [if_neg h1] at h ⊢
      by_cases h2 : c = 110
      · rw [if_pos h2] at h ⊢; exact h
      · rw [if_neg h2] at h
        by_cases h3 : c = 120 <;> simp [h3] at h
  | c :: x :: y :: u => simpa [esc] using h
theorem quoF_join : ∀ (k : Nat) (s acc : List Nat) (n : Nat) (l : List Nat) (m : Nat), (∀ c ∈ s, c < 256) → quoF k s acc n = some (l, m) → ∀ (t : List Nat) (j : Nat), quoF (k + j) (s ++ t) acc n = some (l, m)
  | 0, _, _, _, _, _, _, h => by simp [quoF] at h
  | k + 1, [], _, _, _, _, _, h => by simp [quoF] at h
  | k + 1, c :: r, acc, n, l, m, hs, h => fun t j => by
    have hr : ∀ c ∈ r, c < 256 := fun x hx => hs x (by simp [hx])
    rw [show k + 1 + j = (k + j) + 1 by omega, List.cons_append]
    unfold quoF at h ⊢
    by_cases h1 : c = 34
    · rw [if_pos h1] at h ⊢; exact h
    · rw [if_neg h1] at h ⊢
      by_cases h2 : c = 10
      · rw [if_pos h2] at h; simp at h
      · rw [if_neg h2] at h ⊢
        by_cases h3 : c = 92
        · rw [if_pos h3] at h ⊢
          cases he : esc r with
          | none => rw [he] at h; simp at h
          | some p =>
            obtain ⟨b, m'⟩ := p
            rw [he] at h
            rw [esc_join he t]
            obtain ⟨e1, e2, -⟩ := esc_len hr he
            simp only at h ⊢
            rw [List.drop_append_of_le_length e2]
            exact quoF_join k _ _ _ l m (fun c hc => hr c (List.mem_of_mem_drop hc)) h t j
        · rw [if_neg h3] at h ⊢
          exact quoF_join k _ _ _ l m hr h t j
theorem quo_join {s l : List Nat} {m : Nat} (hs : ∀ c ∈ s, c < 256) (h : quo s = some (l, m)) (t : List Nat) : quo (s ++ t) = some (l, m) := by
  cases s with
  | nil => simp [quo, quoF] at h
  | cons c r =>
    unfold quo at h ⊢
    have := quoF_join _ _ _ _ l m (fun c hc => hs c (List.mem_of_mem_drop hc)) h t t.length
    rw [show (c :: r).length + t.length = (c :: r ++ t).length by simp; omega] at this
    exact this
/-- a scanner some lines further down -/
structure Down (d : Nat) (x y : St) : Prop where
  s : y.s = x.s
  pos : y.pos = (x.pos.1 + d, x.pos.2)
  code : y.code = x.code
  long : y.long = x.long
def Tok.down (d : Nat) (t : Tok) : Tok := { t with line := t.line + d }
theorem adv_down (d : Nat) : ∀ (l : List Nat) (p : Nat × Nat), adv (p.1 + d, p.2) l = ((adv p l).1 + d, (adv p l).2)
  | [], p => rfl
  | c :: t, p => by
    unfold adv
    by_cases h : c = 10
    · rw [if_pos h, if_pos h]
      have := adv_down d t (p.1 + 1, 1)
      simp only at this
      rw [← this]
      congr 2
      omega
    · rw [if_neg h, if_neg h]
      exact adv_down d t (p.1, p.2 + 1)
theorem Down.skip {d : Nat} {x y : St} (h : Down d x y) : Down d x.skip y.skip := by
  obtain ⟨h1, h2, h3, h4⟩ := h
  refine ⟨?_, ?_, h3, h4⟩
  · simp [St.skip, h1]
  · simp only [St.skip, h1, h2]
    exact adv_down d _ _
theorem Down.next {d : Nat} {x y : St} (h : Down d x y) : Down d (next x).1 (next y).1 ∧ (next y).2 = (next x).2.map (Tok.down d) := by
  have hs := h.skip
  have hb := hs
  obtain ⟨h1, h2, h3, h4⟩ := h
  obtain ⟨s1, s2, s3, s4⟩ := hs
  unfold Lx.next
  rw [h3, h4, s1]
  by_cases c1 : x.code ≠ 0
  · rw [if_pos c1, if_pos c1]; exact ⟨⟨h1, h2, h3, h4⟩, rfl⟩
  · rw [if_neg c1, if_neg c1]
    cases c2 : x.long with
    | true => simp only [if_true]; exact ⟨⟨h1, h2, rfl, by simp [h4, c2]⟩, rfl⟩
    | false =>
      simp only [Bool.false_eq_true, if_false]
      by_cases c3 : x.skip.s = []
      · rw [if_pos c3, if_pos c3]; exact ⟨hb, rfl⟩
      · rw [if_neg c3, if_neg c3]
        cases hw : word x.skip.s with
        | bad er => exact ⟨⟨s1, s2, rfl, s4⟩, rfl⟩
        | ok w =>
          simp only
          refine ⟨⟨rfl, ?_, s3, s4⟩, ?_⟩
          · simp only [s2]; exact adv_down d _ _
          · simp [Tok.down, s2]
end Go.Proofs.YtppigckioalhhaaGreatDoorR.Lx
