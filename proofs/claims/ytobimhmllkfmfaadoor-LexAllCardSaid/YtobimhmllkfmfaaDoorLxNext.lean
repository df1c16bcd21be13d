/- THE SCANNER's NEXT WORD: the program's. -/
import Derived.Test.YtobimhmllkfmfaaDoorLxWord
namespace Go.Proofs.YtobimhmllkfmfaaDoor
open Go.RowKit
set_option linter.unusedVariables false
set_option linter.unusedSimpArgs false
set_option maxRecDepth 100000

def nextV : Option Lx.Tok → Value
  | none => .tuple #[.agg (tokC zeroT), .bool false]
  | some t => .tuple #[.agg (tokC t), .bool true]
/-- what Next does -/
def Nx (b : Nat) (r : Lx.St × Option Lx.Tok) (w : World) (e : Ending) (w' : World) : Prop :=
  e = .returned (nextV r.2) ∧ ∃ s', ScIs w' b s' r.1 ∧ Mod [b] w w'

theorem word_bad {l : List Nat} {e : Nat} (h : Lx.word l = .bad e) : 30 ≤ e ∧ e ≤ 33 := by
  unfold Lx.word at h
  split at h
  · split at h <;> simp at h; omega
  · split at h
    · split at h <;> simp at h; omega
    · split at h
      · split at h <;> simp at h; omega
      · split at h <;> simp at h; omega

theorem sc_cells {w : World} {b : Nat} {s : ByteArray} {x : Lx.St} (h : ScIs w b s x) :
    w.cell? ⟨b, 0, none⟩ = some (.string s) ∧ w.cell? ⟨b, 1, none⟩ = some (.int .i64 (x.pos.1 : Nat)) ∧ w.cell? ⟨b, 2, none⟩ = some (.int .i64 (x.pos.2 : Nat)) ∧ w.cell? ⟨b, 3, none⟩ = some (.int .i64 (x.fin.1 : Nat)) ∧ w.cell? ⟨b, 4, none⟩ = some (.int .i64 (x.fin.2 : Nat)) ∧
    w.cell? ⟨b, 5, none⟩ = some (.int .i64 (x.code : Nat)) ∧ w.cell? ⟨b, 6, none⟩ = some (.int .i64 (x.fp.1 : Nat)) ∧ w.cell? ⟨b, 7, none⟩ = some (.int .i64 (x.fp.2 : Nat)) ∧ w.cell? ⟨b, 8, none⟩ = some (.bool x.long) := by
  simp [World.cell?, h.at_, scCells]

theorem alloc_at {w0 : World} {n : Nat} (o : Obj) (h : w0.heap.size = n) : (w0.alloc o).heap[n]? = some o := by subst h; exact heap_alloc_new w0 o
theorem size_setCell (w : World) (p : Addr) (v : Value) : (w.setCell p v).heap.size = w.heap.size := by simp [World.setCell]
theorem ofS_size (l : List Nat) : (Lx.ofS l).size = l.length := by simp [Lx.ofS, ByteArray.size]

theorem fault_sc {w : World} {b : Nat} {s : ByteArray} {x : Lx.St} (h : ScIs w b s x) (er : Nat) :
    ScIs (((w.setCell ⟨b, 5, none⟩ (.int .i64 (er : Nat))).setCell ⟨b, 6, none⟩ (.int .i64 (x.pos.1 : Nat))).setCell ⟨b, 7, none⟩ (.int .i64 (x.pos.2 : Nat))) b s { x with code := er, fp := x.pos } ∧
    Mod [b] w (((w.setCell ⟨b, 5, none⟩ (.int .i64 (er : Nat))).setCell ⟨b, 6, none⟩ (.int .i64 (x.pos.1 : Nat))).setCell ⟨b, 7, none⟩ (.int .i64 (x.pos.2 : Nat))) := by
  have h1 := setCell_at h.at_ 5 (.int .i64 (er : Nat))
  have h2 := setCell_at h1 6 (.int .i64 (x.pos.1 : Nat))
  have h3 := setCell_at h2 7 (.int .i64 (x.pos.2 : Nat))
  refine ⟨⟨h3.trans (by simp [scCells]), h.str, h.size, h.lim⟩, ?_⟩
  exact (((Mod.refl [b] w).setCell (p := ⟨b, 5, none⟩) (by simp) _).setCell (p := ⟨b, 6, none⟩) (by simp) _).setCell (p := ⟨b, 7, none⟩) (by simp) _
theorem fin_sc {w : World} {b : Nat} {s : ByteArray} {x : Lx.St} (h : ScIs w b s x) :
    ScIs ((w.setCell ⟨b, 3, none⟩ (.int .i64 (x.pos.1 : Nat))).setCell ⟨b, 4, none⟩ (.int .i64 (x.pos.2 : Nat))) b s { x with fin := x.pos } ∧
    Mod [b] w ((w.setCell ⟨b, 3, none⟩ (.int .i64 (x.pos.1 : Nat))).setCell ⟨b, 4, none⟩ (.int .i64 (x.pos.2 : Nat))) := by
  have h1 := setCell_at h.at_ 3 (.int .i64 (x.pos.1 : Nat))
  have h2 := setCell_at h1 4 (.int .i64 (x.pos.2 : Nat))
  refine ⟨⟨h2.trans (by simp [scCells]), h.str, h.size, h.lim⟩, ?_⟩
  exact ((Mod.refl [b] w).setCell (p := ⟨b, 3, none⟩) (by simp) _).setCell (p := ⟨b, 4, none⟩) (by simp) _

set_option maxHeartbeats 4000000 in
theorem next_any (b : Nat) (s : ByteArray) (x : Lx.St) (w : World) (h : ScIs w b s x) (hG : Glob w) (hb3 : 3 ≤ b) :
    Calls Tryd.prog 28 #[.pointer (some ⟨b, 0, none⟩)] w (Nx b (Lx.next x) w) := by
  have hB0 : (w.alloc (Obj.cells (tokC zeroT) 45)).heap[w.heap.size]? = some (.cells (tokC zeroT) 45 (0, 0)) := heap_alloc_new w _
  have hm0 : Mod [] w (w.alloc (Obj.cells (tokC zeroT) 45)) := (Mod.refl [] w).alloc _
  have hz : (w.alloc (Obj.cells (tokC zeroT) 45)) = w.alloc (Obj.cells #[Value.int IntKind.i64 0, Value.string { data := #[] }, Value.int IntKind.i64 0, Value.int IntKind.i64 0, Value.string { data := #[] }, Value.int IntKind.i64 0, Value.int IntKind.i64 0] 45) := rfl
  rw [hz] at hB0 hm0
  clear hz
  have hlt := h.lt
  have h1 := h.past hm0 (by simp)
  obtain ⟨c0, c1, c2, c3, c4, c5, c6, c7, c8⟩ := sc_cells h
  by_cases hcode : x.code = 0
  · have hcI : ((x.code : Int) != 0) = false := by rw [hcode]; rfl
    cases hlong : x.long
    · have HC := Lib.hid hcode
      have hne : b ≠ w.heap.size := by omega
      have hlim := (h.lim hlong).1
      have HB := Lib.hid hB0; have HM := Lib.hid hm0; have H1 := Lib.hid h1; have HL := Lib.hid hlong
      have hN := Lib.hid (show Lx.next x = _ by unfold Lx.next; rw [if_neg (by omega), if_neg (by rw [hlong]; decide)])
      clear hcode hB0 hm0 h1
      rw [hlong] at c8
      clear hlong
      go_enter Tryd.func28, Tryd.ntmps28
      go_wp2_with fail
      refine (skip_any b s x _ H1.out HL.out).mono ?_
      rintro e w2 ⟨rfl, s2, h2, hm2⟩
      have hB2 := hm2.at HB.out (by simp; omega)
      have hm2' : Mod [b] w w2 := (HM.out.mono (by simp)).trans hm2 (fun t ht => .inl ht)
      clear hm2 c0 c1 c2 c3 c4 c5 c6 c7 c8
      obtain ⟨c0, c1, c2, c3, c4, c5, c6, c7, c8⟩ := sc_cells h2
      obtain ⟨q0, q1, q2, q3, q4, q5, q6⟩ := tok_cells hB2
      have fz : ∀ j, w2.frozen? ⟨w.heap.size, j, none⟩ = false := fun j => by simp [World.frozen?, hB2]
      have fb : ∀ j, w2.frozen? ⟨b, j, none⟩ = false := fun j => h2.free j
      have hs2 := hm2'.size
      have hstr2 := h2.str
      by_cases hemp : x.skip.s = []
      · have hem : s2.toList.isEmpty = true := by rw [toList_isEmpty, ← Cod.str_len, hstr2, hemp]; rfl
        have e : Hid (Lx.next x = (x.skip, none)) := Lib.hid (by rw [hN.out, if_pos hemp])
        have H2 := Lib.hid h2
        clear hemp hstr2 h2
        go_wp2_with fail
        refine bodyPost_ret (res_tok rfl _ _ _ _ _ _ _ rfl rfl (store_tok hB2 _ _ _ _ _ _ _) rfl) rfl ?_
        rw [e.out]
        refine ⟨rfl, s2, H2.out.keep (S := [w.heap.size]) ?_ (by simp; omega), mod_tok hm2' (.inr (Nat.le_refl _)) _ _ _ _ _ _ _⟩
        exact mod_tok (Mod.refl _ _) (by simp) _ _ _ _ _ _ _
      · have hpos : 0 < x.skip.s.length := List.length_pos_iff.2 hemp
        have hz2 : s2.size = x.skip.s.length := by rw [← Cod.str_len, hstr2]
        have hem : s2.toList.isEmpty = false := by rw [toList_isEmpty, hz2]; simp; omega
        have hlim2 := (h2.lim HL.out).1
        have hwd := word_any s2 hlim2 (by omega)
        rw [hstr2] at hwd
        have hG2 := hG.keep hm2' (by simpa using hb3)
        cases hw : Lx.word x.skip.s with
        | bad er =>
          rw [hw] at hwd
          obtain ⟨he1, he2⟩ := word_bad hw
          have hez : ((er : Int) != 0) = true := by rw [bne_iff_ne]; omega
          have e : Hid (Lx.next x = ({ x.skip with code := er, fp := x.skip.pos }, none)) := Lib.hid (by rw [hN.out, if_neg hemp, hw])
          have HW := Lib.hid hwd; have HST := Lib.hid hstr2; have HZ := Lib.hid hz2
          clear hwd hw hemp hstr2 hz2
          go_wp2_with fail
          refine (HW.out _ hG2).mono ?_
          rintro e2 w3 ⟨rfl, hm3⟩
          have h3 := h2.past hm3 (by simp)
          have hB3 := hm3.at hB2 (by simp)
          have hm3' := hm2'.trans hm3 (by simp)
          clear c0 c1 c2 c3 c4 c5 c6 c7 c8 q0 q1 q2 q3 q4 q5 q6 fz fb h2 hG2
          obtain ⟨c0, c1, c2, c3, c4, c5, c6, c7, c8⟩ := sc_cells h3
          obtain ⟨q0, q1, q2, q3, q4, q5, q6⟩ := tok_cells hB3
          have fz : ∀ j, w3.frozen? ⟨w.heap.size, j, none⟩ = false := fun j => by simp [World.frozen?, hB3]
          have fb : ∀ j, w3.frozen? ⟨b, j, none⟩ = false := fun j => h3.free j
          have hlt3 := lt_of_block hB3
          have hlb3 := h3.lt
          have hne3 : b ≠ w3.heap.size := by omega
          have H3 := Lib.hid h3; have HM3 := Lib.hid hm3'
          clear h3 hm3 hm3' hm2'
          rw [rwV, tokC]
          go_wp2_with fail
          obtain ⟨h4, hm4⟩ := fault_sc H3.out er
          have hB4 := hm4.at hB3 (by simp; omega)
          have hm4' := HM3.out.trans hm4 (fun t ht => .inl ht)
          clear c0 c1 c2 c3 c4 c5 c6 c7 c8 q0 q1 q2 q3 q4 q5 q6 fz fb
          generalize (((w3.setCell ⟨b, 5, none⟩ (.int .i64 (er : Nat))).setCell ⟨b, 6, none⟩ (.int .i64 (x.skip.pos.1 : Nat))).setCell ⟨b, 7, none⟩ (.int .i64 (x.skip.pos.2 : Nat))) = w4 at *
          refine bodyPost_ret (res_tok rfl _ _ _ _ _ _ _ rfl rfl (((Mod.refl [] _).alloc _).at (store_tok hB4 _ _ _ _ _ _ _) (by simp)) rfl) rfl ?_
          rw [e.out]
          refine ⟨rfl, s2, ?_, (mod_tok hm4' (.inr (Nat.le_refl _)) _ _ _ _ _ _ _).alloc _⟩
          exact h4.keep (S := [w.heap.size]) ((mod_tok (Mod.refl _ _) (by simp) _ _ _ _ _ _ _).alloc _) (by simp; omega)
        | ok wd =>
          rw [hw] at hwd
          have hbx : ∀ c ∈ x.skip.s, c < 256 := by rw [← hstr2]; exact Cod.str_lt s2
          obtain ⟨hw1, hw2, -⟩ := Lx.word_len hbx hemp hw
          have e : Hid (Lx.next x = ({ x.skip with s := x.skip.s.drop wd.n, pos := Lx.adv x.skip.pos (x.skip.s.take wd.n), fin := Lx.adv x.skip.pos (x.skip.s.take wd.n) },
              some ⟨wd.kind, x.skip.s.take wd.n, wd.vk, wd.num, wd.sym, x.skip.pos.1, x.skip.pos.2⟩)) := Lib.hid (by rw [hN.out, if_neg hemp, hw])
          have hsize : Hid ((Lx.ofS (wdT x.skip.s wd).text).size = wd.n) := Lib.hid (by rw [ofS_size]; simp only [wdT]; rw [List.length_take]; omega)
          have hln : wd.n ≤ s2.size := by omega
          have HW := Lib.hid hwd; have HST := Lib.hid hstr2; have HZ := Lib.hid hz2
          clear hwd hw hemp hstr2 hz2 hbx
          go_wp2_with fail
          refine (HW.out _ hG2).mono ?_
          rintro e2 w3 ⟨rfl, hm3⟩
          have h3 := h2.past hm3 (by simp)
          have hB3 := hm3.at hB2 (by simp)
          have hm3' := hm2'.trans hm3 (by simp)
          clear c0 c1 c2 c3 c4 c5 c6 c7 c8 q0 q1 q2 q3 q4 q5 q6 fz fb h2 hG2
          obtain ⟨c0, c1, c2, c3, c4, c5, c6, c7, c8⟩ := sc_cells h3
          have fb : ∀ j, w3.frozen? ⟨b, j, none⟩ = false := fun j => h3.free j
          have hlt3 := lt_of_block hB3
          have hlb3 := h3.lt
          have hne3 : b ≠ w3.heap.size := by omega
          have H3 := Lib.hid h3; have HM3 := Lib.hid hm3'
          clear h3 hm3 hm3' hm2'
          rw [rwV, tokC]
          go_wp2_with fail
          rw [hsize.out]
          obtain ⟨t, ht⟩ : ∃ t : Lx.Tok, t = ⟨wd.kind, x.skip.s.take wd.n, wd.vk, wd.num, wd.sym, x.skip.pos.1, x.skip.pos.2⟩ := ⟨_, rfl⟩
          have hcells : #[Value.int IntKind.i64 ((wdT x.skip.s wd).kind : Nat), .string (Lx.ofS (wdT x.skip.s wd).text), .int .i64 ((wdT x.skip.s wd).vk : Nat), .int .i64 ((wdT x.skip.s wd).num : Nat), .string (Lx.ofS (wdT x.skip.s wd).sym), .int .i64 (x.skip.pos.1 : Nat), .int .i64 (x.skip.pos.2 : Nat)] = tokC t := by rw [ht]; rfl
          rw [hcells]
          clear hcells
          have ha := (Mod.refl [] w3).alloc (Obj.cells (tokC t) 45)
          have hT4 := heap_alloc_new w3 (Obj.cells (tokC t) 45)
          have h4 := H3.out.past ha (by simp)
          have hB4 := ha.at hB3 (by simp)
          have hm4 := HM3.out.trans ha (by simp)
          have HT := Lib.hid ht
          clear ht c0 c1 c2 c3 c4 c5 c6 c7 c8 fb
          refine (pass_any b s2 x.skip wd.n _ h4 hln HL.out).mono ?_
          rintro e2 w5 ⟨rfl, s5, h5, hm5⟩
          have hT5 := hm5.at hT4 (by simp; omega)
          have hB5 := hm5.at hB4 (by simp; omega)
          have hm5' := hm4.trans hm5 (fun t ht => .inl ht)
          clear hm5 hm4 hT4 hB4 h4 ha
          obtain ⟨c0, c1, c2, c3, c4, c5, c6, c7, c8⟩ := sc_cells h5
          have fb : ∀ j, w5.frozen? ⟨b, j, none⟩ = false := fun j => h5.free j
          obtain ⟨q0, q1, q2, q3, q4, q5, q6⟩ := tok_cells hB5
          obtain ⟨t0, t1, t2, t3, t4, t5, t6⟩ := tok_cells hT5
          have fz : ∀ j, w5.frozen? ⟨w.heap.size, j, none⟩ = false := fun j => by simp [World.frozen?, hB5]
          have hneT : w.heap.size ≠ w3.heap.size := by omega
          have H5 := Lib.hid h5
          clear h5
          go_wp2_with fail
          obtain ⟨h6, hm6⟩ := fin_sc H5.out
          have hB6 := hm6.at hB5 (by simp; omega)
          have hm6' := hm5'.trans hm6 (fun t ht => .inl ht)
          clear c0 c1 c2 c3 c4 c5 c6 c7 c8 q0 q1 q2 q3 q4 q5 q6 fz fb t0 t1 t2 t3 t4 t5 t6
          rw [e.out]
          simp only at h6 hm6 hB6 hm6'
          generalize ((w5.setCell ⟨b, 3, none⟩ (.int .i64 ((Lx.adv x.skip.pos (x.skip.s.take wd.n)).1 : Nat))).setCell ⟨b, 4, none⟩ (.int .i64 ((Lx.adv x.skip.pos (x.skip.s.take wd.n)).2 : Nat))) = w6 at *
          refine bodyPost_ret (res_tok rfl _ _ _ _ _ _ _ rfl rfl (store_tok hB6 _ _ _ _ _ _ _) rfl) rfl ?_
          rw [← HT.out]
          refine ⟨rfl, s5, ?_, mod_tok hm6' (.inr (Nat.le_refl _)) _ _ _ _ _ _ _⟩
          exact h6.keep (S := [w.heap.size]) (mod_tok (Mod.refl _ _) (by simp) _ _ _ _ _ _ _) (by simp; omega)
    · have hN : Hid (Lx.next x = ({ x with code := 2 }, none)) := Lib.hid (by unfold Lx.next; rw [if_neg (by omega), if_pos hlong])
      rw [hlong] at c8
      have hset := setCell_at h.at_ 5 (.int .i64 2)
      have f5 := h.free 5
      have HB := Lib.hid hB0; have HM := Lib.hid hm0; have HS := Lib.hid hset; have HL := Lib.hid hlong; have HC := Lib.hid hcode
      clear hset hlong hcode hB0 hm0 h1
      go_enter Tryd.func28, Tryd.ntmps28
      go_wp2_with fail
      refine bodyPost_ret (res_tok rfl _ _ _ (tokC zeroT) _ _ _ rfl rfl (alloc_at _ (size_setCell _ _ _)) rfl) rfl ?_
      rw [hN.out]
      refine ⟨rfl, s, ⟨?_, h.str, h.size, fun hl => ?_⟩, ((Mod.refl [b] w).setCell (p := ⟨b, 5, none⟩) (by simp) _).alloc _⟩
      · exact ((Mod.refl [] _).alloc _).at (HS.out.trans (by simp [scCells])) (by simp)
      · rw [show x.long = true from HL.out] at hl; cases hl
  · have hN : Hid (Lx.next x = (x, none)) := Lib.hid (by unfold Lx.next; rw [if_pos hcode])
    have hcI : ((x.code : Int) != 0) = true := by rw [bne_iff_ne]; omega
    have HB := Lib.hid hB0; have HM := Lib.hid hm0
    have q := Lib.hid h1
    clear hcode hB0 hm0 h1
    go_enter Tryd.func28, Tryd.ntmps28
    go_wp2_with fail
    refine bodyPost_ret (res_tok rfl _ _ _ _ _ _ _ rfl rfl HB.out rfl) rfl ?_
    rw [hN.out]
    exact ⟨rfl, s, q.out, HM.out.mono (by simp)⟩
end Go.Proofs.YtobimhmllkfmfaaDoor
