/- THE WORDS OF ONE TEXT: the head of every statement. -/
import Derived.Test.YtobimhmllkfmfaaDoorRfSame
namespace Go.Proofs.YtobimhmllkfmfaaDoor
open Go.RowKit
set_option linter.unusedVariables false
set_option linter.unusedSimpArgs false
set_option maxRecDepth 100000

def resW : List (List UInt8) := [[114, 101, 108, 97, 116, 105, 111, 110], [110, 111, 116], [110, 117, 109], [115, 121, 109], [109, 111, 100], [99, 111, 117, 110, 116], [115, 117, 109], [109, 105, 110], [109, 97, 120]]
def resB (s : ByteArray) : Bool := resW.contains s.toList

theorem Reserved_any (s : ByteArray) (w : World) :
    Calls Tryd.prog 18 #[.string s] w fun e w' => e = .returned (.bool (resB s)) ∧ w' = w := by
  go_enter Tryd.func18, Tryd.ntmps18
  go_wp2
  all_goals (first | (exfalso; simp_all; done) | (go_ret; exact ⟨by congr 1; simp_all [resB, resW], rfl⟩))
theorem rReserved_any (s : ByteArray) (w : World) :
    Calls Tryd.prog 19 #[.string s] w fun e w' => e = .returned (.bool (resB s)) ∧ w' = w := by
  go_enter Tryd.func19, Tryd.ntmps19
  go_wp2
  all_goals (first | (exfalso; simp_all; done) | (go_ret; exact ⟨by congr 1; simp_all [resB, resW], rfl⟩))

def kP : Lx.Tok := ⟨1, [112], 0, 0, [], 1, 1⟩
def kA : Lx.Tok := ⟨4, [34, 97, 34], 2, 0, [97], 1, 3⟩
def k7 : Lx.Tok := ⟨3, [55], 1, 7, [], 1, 7⟩
def kX : Lx.Tok := ⟨2, [88], 0, 0, [], 1, 1⟩
def y1 : Lx.St := ⟨[32, 33], (1, 2), (1, 2), 0, (0, 0), false⟩
def y2 : Lx.St := ⟨[33], (1, 3), (1, 2), 30, (1, 3), false⟩
theorem k_str : Cod.str { data := #[112, 32, 34, 97, 34, 32, 55] } = [112, 32, 34, 97, 34, 32, 55] := by rfl
theorem x_str : Cod.str { data := #[88, 32, 33] } = [88, 32, 33] := by rfl
theorem k_tok : Lx.tokens [112, 32, 34, 97, 34, 32, 55] = [kP, kA, k7] := by decide
theorem k_flt : Lx.fault [112, 32, 34, 97, 34, 32, 55] = (0, 0, 0) := by decide
theorem x_one : Lx.next (Lx.start [88, 32, 33]) = (y1, some kX) := by rfl
theorem x_two : Lx.next y1 = (y2, none) := by rfl

set_option maxHeartbeats 4000000 in
theorem known_any (w : World) (hG : Glob w) : Calls Tryd.prog 10 #[] w fun e w' => e = .returned (.bool true) ∧ Mod [] w w' := by
  have htk := Tokens_any { data := #[112, 32, 34, 97, 34, 32, 55] } (by decide) w hG
  rw [k_str] at htk
  have HTK := Lib.hid htk
  clear htk
  go_enter Tryd.func10, Tryd.ntmps10
  go_wp2_with fail
  refine HTK.out.mono ?_
  rintro e w1 ⟨v, rfl, hr, hm1⟩
  rw [k_flt, fltV]
  rw [k_tok] at hr
  obtain ⟨g, c, rfl, a0, a1, a2, a3, a4, a5, a6⟩ := hr.at 1 kA rfl
  obtain ⟨g', c', e', b0, b1, b2, b3, b4, b5, b6⟩ := hr.at 2 k7 rfl
  obtain ⟨rfl, rfl⟩ : g = g' ∧ c = c' := by simpa using e'
  have hg1 : g < w1.heap.size := World.block_lt_of_cell? w1 _ a0
  have hG1 := hG.past hm1 (by simp)
  clear e' hr b0 b1 b2 b4 b5 b6
  have hA : Hid (∀ w', Mod [] w1 w' → w'.cell? ⟨g, 7, none⟩ = some (.int .i64 4) ∧ w'.cell? ⟨g, 8, none⟩ = some (.string { data := #[34, 97, 34] }) ∧ w'.cell? ⟨g, 9, none⟩ = some (.int .i64 2) ∧ w'.cell? ⟨g, 10, none⟩ = some (.int .i64 0) ∧ w'.cell? ⟨g, 11, none⟩ = some (.string { data := #[97] }) ∧ w'.cell? ⟨g, 12, none⟩ = some (.int .i64 1) ∧ w'.cell? ⟨g, 13, none⟩ = some (.int .i64 3) ∧ w'.cell? ⟨g, 17, none⟩ = some (.int .i64 7)) :=
    Lib.hid (fun w' hm => ⟨hm.cell a0 (by simp), hm.cell a1 (by simp), hm.cell a2 (by simp), hm.cell a3 (by simp), hm.cell a4 (by simp), hm.cell a5 (by simp), hm.cell a6 (by simp), hm.cell b3 (by simp)⟩)
  clear a0 a1 a2 a3 a4 a5 a6 b3
  go_wp2_with fail
  refine (Scan_any _ (by decide) _).mono ?_
  rintro e w2 ⟨b, rfl, h2, hb2, hm2⟩
  rw [x_str] at h2
  have hF2 := hm2.at (heap_alloc_new w1 (Obj.cells #[Value.int IntKind.i64 0, Value.int IntKind.i64 0, Value.int IntKind.i64 0] 28)) (by simp)
  have hm2' : Mod [] w1 w2 := ((Mod.refl [] w1).alloc _).trans hm2 (by simp)
  have f0 : w2.cell? ⟨w1.heap.size, 0, none⟩ = some (.int .i64 0) := by simp [World.cell?, hF2]
  have hG2 := hG1.past hm2' (by simp)
  have hw3 := hG1.size
  have hb2' : w1.heap.size < b := by simp at hb2; omega
  have hb3 : 3 ≤ b := by omega
  have hn2 := next_any b _ _ w2 h2 hG2 hb3
  rw [x_one] at hn2
  have HN2 := Lib.hid hn2; have HM2 := Lib.hid hm2'
  clear hn2 hF2 hm2 hm2' h2
  go_wp2_with fail
  refine HN2.out.mono ?_
  rintro e w3 ⟨rfl, s3, h3, hm3⟩
  have hm3' : Mod [] w1 w3 := HM2.out.trans hm3 (fun t ht => .inr (by simp at ht; omega))
  rw [nextV, tokC, kX]
  have hT4 := heap_alloc_new w3 (Obj.cells (tokC kX) 45)
  have ha4 := (Mod.refl [] w3).alloc (Obj.cells (tokC kX) 45)
  have h4 := h3.past ha4 (by simp)
  have hm4 := hm3'.trans ha4 (by simp)
  have hlt3 := h3.lt
  have hn4 := next_any b _ _ _ h4 (hG1.past hm4 (by simp)) hb3
  rw [x_two] at hn4
  have HN4 := Lib.hid hn4; have HM4 := Lib.hid hm4; have HT4 := Lib.hid hT4
  clear hn4 hm3 hm3' hT4 ha4 h4 hm4 h3 f0
  go_wp2_with fail
  refine HN4.out.mono ?_
  rintro e w5 ⟨rfl, s5, h5, hm5⟩
  rw [nextV, tokC]
  have hT5 := hm5.at HT4.out (by simp; omega)
  have hm5' : Mod [] w1 w5 := HM4.out.trans hm5 (fun t ht => .inr (by simp at ht; omega))
  have hs5 := hm5.size
  have HT5 := Lib.hid hT5; have HM5 := Lib.hid hm5'
  clear hT5 hm5 hm5'
  have hf5 := fun w' (h : ScIs w' b s5 y2) => Fault_any b s5 y2 w' h
  have he5 := fun w' (h : ScIs w' b s5 y2) => End_any b s5 y2 w' h
  have HF5 := Lib.hid hf5; have HE5 := Lib.hid he5
  clear hf5 he5
  have HH5 := Lib.hid h5
  clear h5
  go_wp2_with fail
  refine (HF5.out _ (HH5.out.past ((Mod.refl [] w5).alloc _) (by simp))).mono ?_
  rintro e w6 ⟨rfl, hm6⟩
  have hm6' := ((Mod.refl [] w5).alloc _).trans hm6 (by simp)
  rw [show faultV y2 = #[.int .i64 30, .int .i64 1, .int .i64 3] from rfl]
  have ha7 := (Mod.refl [] w6).alloc (Obj.cells #[Value.int IntKind.i64 30, Value.int IntKind.i64 1, Value.int IntKind.i64 3] 28)
  have hF7 := heap_alloc_new w6 (Obj.cells #[Value.int IntKind.i64 30, Value.int IntKind.i64 1, Value.int IntKind.i64 3] 28)
  have hm7 := hm6'.trans ha7 (by simp)
  have HM7 := Lib.hid hm7; have HF7 := Lib.hid hF7
  clear hm6 hm6' ha7 hF7 hm7
  go_wp2_with fail
  refine (HE5.out _ (HH5.out.past HM7.out (by simp))).mono ?_
  rintro e w8 ⟨rfl, hm8⟩
  rw [show endV y2 = #[.int .i64 1, .int .i64 2] from rfl]
  have hF8 := hm8.at HF7.out (by simp)
  have hm8' := HM7.out.trans hm8 (by simp)
  have hT8 := hm8'.at HT5.out (by simp)
  have hm8w : Mod [] w1 w8 := HM5.out.trans hm8' (by simp)
  obtain ⟨a0, a1, a2, a3, a4, a5, a6, b3⟩ := hA.out w8 hm8w
  have f0 : w8.cell? ⟨w6.heap.size, 0, none⟩ = some (.int .i64 30) := by simp [World.cell?, hF8]
  have f2 : w8.cell? ⟨w6.heap.size, 2, none⟩ = some (.int .i64 3) := by simp [World.cell?, hF8]
  have t1 : w8.cell? ⟨w3.heap.size, 1, none⟩ = some (.string { data := #[88] }) := (tok_cells hT8).2.1
  have HMW := Lib.hid (hm1.trans hm8w (by simp))
  have hlF := lt_of_block hF8
  have hlT := lt_of_block hT8
  have hgl : g < w8.heap.size := World.block_lt_of_cell? w8 _ a0
  clear hF8 hm8' hT8 hm8w hm8 hA HF7 HM7 HT5 HM5 HH5 HF5 HE5 HN4 HM4 HT4 HN2 HM2 HTK hm1
  go_wp2_with fail
  have hw9 : ∀ w9, w9 = (w8.alloc (Obj.cells #[Value.int IntKind.i64 1, Value.int IntKind.i64 2] 26)).alloc (Obj.cells #[Value.int IntKind.i64 4, Value.string { data := #[34, 97, 34] }, Value.int IntKind.i64 2, Value.int IntKind.i64 0, Value.string { data := #[97] }, Value.int IntKind.i64 1, Value.int IntKind.i64 3] 45) →
      Mod [] w8 w9 ∧ w9.cell? ⟨w8.heap.size, 1, none⟩ = some (.int .i64 2) ∧ w9.heap[w8.heap.size + 1]? = some (.cells #[Value.int IntKind.i64 4, Value.string { data := #[34, 97, 34] }, Value.int IntKind.i64 2, Value.int IntKind.i64 0, Value.string { data := #[97] }, Value.int IntKind.i64 1, Value.int IntKind.i64 3] 45 (0, 0)) := by
    rintro w9 rfl
    refine ⟨((Mod.refl [] w8).alloc _).alloc _, ?_, alloc_at _ (by simp)⟩
    have := ((Mod.refl [] _).alloc (Obj.cells #[Value.int IntKind.i64 4, Value.string { data := #[34, 97, 34] }, Value.int IntKind.i64 2, Value.int IntKind.i64 0, Value.string { data := #[97] }, Value.int IntKind.i64 1, Value.int IntKind.i64 3] 45)).at (heap_alloc_new w8 (Obj.cells #[Value.int IntKind.i64 1, Value.int IntKind.i64 2] 26)) (by simp)
    simp only [World.cell?, this]
    rfl
  obtain ⟨w9, hw⟩ : ∃ w9, w9 = (w8.alloc (Obj.cells #[Value.int IntKind.i64 1, Value.int IntKind.i64 2] 26)).alloc (Obj.cells #[Value.int IntKind.i64 4, Value.string { data := #[34, 97, 34] }, Value.int IntKind.i64 2, Value.int IntKind.i64 0, Value.string { data := #[97] }, Value.int IntKind.i64 1, Value.int IntKind.i64 3] 45) := ⟨_, rfl⟩
  obtain ⟨hm9, p1, hW⟩ := hw9 w9 hw
  rw [← hw]
  clear hw hw9
  replace a0 := hm9.cell a0 (by simp)
  replace a1 := hm9.cell a1 (by simp)
  replace a2 := hm9.cell a2 (by simp)
  replace a3 := hm9.cell a3 (by simp)
  replace a4 := hm9.cell a4 (by simp)
  replace a5 := hm9.cell a5 (by simp)
  replace a6 := hm9.cell a6 (by simp)
  replace b3 := hm9.cell b3 (by simp)
  replace f0 := hm9.cell f0 (by simp)
  replace f2 := hm9.cell f2 (by simp)
  replace t1 := hm9.cell t1 (by simp)
  have c0 : w9.cell? ⟨w8.heap.size + 1, 0, none⟩ = some (.int .i64 4) := by simp [World.cell?, hW]
  have c1 : w9.cell? ⟨w8.heap.size + 1, 1, none⟩ = some (.string { data := #[34, 97, 34] }) := by simp [World.cell?, hW]
  have c2 : w9.cell? ⟨w8.heap.size + 1, 2, none⟩ = some (.int .i64 2) := by simp [World.cell?, hW]
  have c3 : w9.cell? ⟨w8.heap.size + 1, 3, none⟩ = some (.int .i64 0) := by simp [World.cell?, hW]
  have c4 : w9.cell? ⟨w8.heap.size + 1, 4, none⟩ = some (.string { data := #[97] }) := by simp [World.cell?, hW]
  have c5 : w9.cell? ⟨w8.heap.size + 1, 5, none⟩ = some (.int .i64 1) := by simp [World.cell?, hW]
  have c6 : w9.cell? ⟨w8.heap.size + 1, 6, none⟩ = some (.int .i64 3) := by simp [World.cell?, hW]
  have hM9 := Lib.hid (HMW.out.trans hm9 (by simp))
  generalize w8.heap.size = p8 at *
  generalize w6.heap.size = p6 at *
  generalize w3.heap.size = p3 at *
  clear hm9 hW
  have hres : ∀ w, Calls Tryd.prog 18 #[.string { data := #[110, 111, 116] }] w fun e w' => e = .returned (.bool true) ∧ w' = w := fun w => by
    have hrn : resB { data := #[110, 111, 116] } = true := by rw [resB, ByteArray.toList_eq]; decide
    have := Reserved_any { data := #[110, 111, 116] } w
    rw [hrn] at this
    exact this
  have HRS := Lib.hid hres
  clear hres
  go_quiet ((go_at_call 18; refine Calls.quiet_of_same (HRS.out _)))
  go_wp2_with fail
  go_ret
  exact ⟨rfl, hM9.out.drewN _⟩
end Go.Proofs.YtobimhmllkfmfaaDoor
