/- THE STATEMENT CodeOne: the walk. -/
import Derived.Test.YtaaeahhcbmnbgaaOneA
namespace Go.Proofs.Ytaaeahhcbmnbgaa
open Go.RowKit
set_option linter.unusedVariables false
set_option linter.unusedSimpArgs false
set_option maxRecDepth 100000

/-- a reader of l and a writer of what was read, apart from each other, all of it newer than w -/
structure Both (w wr : World) (br bw : Nat) (vr vw : Value) (l : List Nat) (a f : Nat) : Prop where
  rd : RdIs wr br vr l a f
  wt : BoxIs wr bw vw (l.take a)
  mod : Mod [] w wr
  newR : w.heap.size ≤ br
  newW : w.heap.size ≤ bw
  newV : ∀ t ∈ fp vw, w.heap.size ≤ t
  ne : br ≠ bw
  rv : br ∉ fp vw
  wv : bw ∉ fp vr
  vv : ∀ t ∈ fp vr, t ∉ fp vw

/-- a reading step -/
theorem Both.read {w wr w2 : World} {br bw : Nat} {vr vw : Value} {l : List Nat} {a f a2 f2 : Nat} (h : Both w wr br bw vr vw l a f) (hr : RdIs w2 br vr l a2 f2) (hm : Mod [br] wr w2) (hbx : BoxIs w2 bw vw (l.take a2)) : Both w w2 br bw vr vw l a2 f2 :=
  ⟨hr, hbx, h.mod.trans hm (by simpa using h.newR), h.newR, h.newW, h.newV, h.ne, h.rv, h.wv, h.vv⟩
theorem Both.box {w wr w2 : World} {br bw : Nat} {vr vw : Value} {l : List Nat} {a f : Nat} (h : Both w wr br bw vr vw l a f) (hm : Mod [br] wr w2) : BoxIs w2 bw vw (l.take a) :=
  h.wt.keep hm (by simpa using h.ne.symm) (fun k hk => by simp; rintro rfl; exact h.rv hk)
/-- a writing step -/
theorem Both.write {w w2 w3 : World} {br bw : Nat} {vr vw v3 : Value} {l : List Nat} {a f a2 f2 : Nat} {wr : World} (h : Both w wr br bw vr vw l a f) (hr : RdIs w2 br vr l a2 f2) (hm : Mod [br] wr w2)
    (hb3 : BoxIs w3 bw v3 (l.take a2)) (hm3 : Mod (bw :: fp vw) w2 w3) (hf3 : ∀ t ∈ fp v3, t ∈ fp vw ∨ w2.heap.size ≤ t) : Both w w3 br bw vr v3 l a2 f2 := by
  have hsz := h.mod.size
  have hsz2 := hm.size
  refine ⟨hr.keep hm3 ?_ ?_, hb3, ?_, h.newR, h.newW, ?_, h.ne, ?_, h.wv, ?_⟩
  · simp; exact ⟨h.ne, h.rv⟩
  · intro k hk hs
    rcases List.mem_cons.1 hs with rfl | hs
    · exact h.wv hk
    · exact h.vv k hk hs
  · refine (h.mod.trans hm (by simpa using h.newR)).trans hm3 (fun t ht => .inr ?_)
    rcases List.mem_cons.1 ht with rfl | ht
    · exact h.newW
    · exact h.newV t ht
  · intro t ht
    rcases hf3 t ht with r | r
    · exact h.newV t r
    · omega
  · intro ht
    rcases hf3 br ht with r | r
    · exact h.rv r
    · have := hr.lt; omega
  · intro t ht hs
    rcases hf3 t hs with r | r
    · exact h.vv t ht r
    · have := fp_lt hr.row t ht; omega

theorem Reads.short {w : World} {x : Option Addr} {n c a : Nat} {l : List Nat} (h : Reads w (.slice x n c) l) (ha : a ≤ l.length) : Reads w (.slice x a c) (l.take a) := by
  have hl : (l.take a).length = a := by rw [List.length_take]; omega
  refine ⟨fun b hb => h.1 b (List.mem_of_mem_take hb), by have := h.2.1; omega, ?_⟩
  obtain ⟨-, -, ⟨y, d, hv, rfl⟩ | ⟨b, off, cap, hv, hc⟩⟩ := h
  · simp at ha
    subst ha
    exact .inl ⟨_, _, rfl, by simp⟩
  · cases hv
    refine .inr ⟨b, off, c, by rw [hl], fun i hi => ?_⟩
    rw [hl] at hi
    rw [hc i (by omega), List.getD_eq_getElem?_getD, List.getD_eq_getElem?_getD, List.getElem?_take, if_pos hi]

theorem pick4 (z : Int) : pickF z 4 = 0 ∨ pickF z 4 = 1 ∨ pickF z 4 = 2 ∨ pickF z 4 = 3 := by
  have := pickF_lt z 4 (by decide)
  omega

set_option maxHeartbeats 8000000 in
theorem one_walk (a' : Option Addr) (n' c' : Nat) (vk : Value) (l : List Nat) (zs : List Int) (w : World) (h : Reads w (.slice a' n' c') l) (hn' : l.length = n') (hc' : n' ≤ c') (hcm : c' ≤ 9223372036854775807) (hk : Ints w vk zs) (hlen : l.length ≤ 140737488351232) :
    Calls Try.prog 5 #[.slice a' n' c', vk] w fun e w' => e = .returned (.bool true) ∧ Mod [] w w' := by
  subst hn'
  obtain ⟨ka, kc, rfl⟩ : ∃ a c, vk = .slice a zs.length c := by
    obtain ⟨-, -, ⟨x, c, rfl, rfl⟩ | ⟨b, off, cap, rfl, -⟩⟩ := hk
    · exact ⟨_, _, rfl⟩
    · exact ⟨_, _, rfl⟩
  have hkl := hk.2.1
  go_enter Try.func5, Try.ntmps5
  go_wp2_with fail
  refine (shown_any w).mono ?_
  rintro e w1 ⟨rfl, hm1⟩
  go_wp2_with fail
  refine (Read_any _ l _ (h.past hm1 (by simp))).mono ?_
  rintro e w2 ⟨br, vr, rfl, hr2, hm2, hbr, hfr⟩
  go_wp2_with fail
  refine (New_any w2).mono ?_
  rintro e w3 ⟨rfl, hb3, hm3⟩
  have hB0 : Both w w3 br w2.heap.size vr (.slice none 0 0) l 0 0 := by
    have s1 := hm1.size
    have s2 := hm2.size
    have := hr2.lt
    refine ⟨hr2.past hm3 (by simp), by simpa using hb3, (hm1.trans hm2 (by simp)).trans hm3 (by simp), by omega, by omega, by simp [fp], by omega, by simp [fp], fun hx => ?_, by simp [fp]⟩
    have := fp_lt hr2.row _ hx
    omega
  clear hr2 hb3 hm2 hm3 hbr hfr
  go_wp2_with fail
  generalize w2.heap.size = bw at *
  go_loopw [8] (fun i wr => ∃ (k a f : Nat) (vw : Value), k ≤ zs.length ∧ i = .int .i64 (k : Int) ∧ Both w wr br bw vr vw l a f) (fun i _ => zs.length - (intOf i).toNat)
  case atStart => exact ⟨0, 0, 0, _, Nat.zero_le _, rfl, hB0⟩
  case round =>
    obtain ⟨k, a, f, vw, hkk, rfl, hB⟩ := hrel
    clear hB0
    have hain := hB.rd.in_
    by_cases hlt : k < zs.length
    · have hki := hk.past (fun p u hc => hB.mod.cell hc (by simp))
      obtain ⟨kb, ko, rfl, hcell⟩ : ∃ b off, ka = some ⟨b, off, none⟩ ∧ wr.cell? ⟨b, off + k, none⟩ = some (.int .i64 (zs.getD k 0)) := by
        obtain ⟨-, -, ⟨x, c, hv, rfl⟩ | ⟨b, off, cap, hv, hc⟩⟩ := hki
        · simp at hlt
        · cases hv; exact ⟨b, off, rfl, hc k hlt⟩
      have hz := hk.1 (zs.getD k 0) (by rw [List.getD_eq_getElem?_getD, List.getElem?_eq_getElem hlt]; exact List.getElem_mem _)
      clear hki
      generalize zs.getD k 0 = z at *
      have hpick := pick_any z 4 wr hz.1 hz.2 (by decide) (by decide)
      rcases pick4 z with hpk | hpk | hpk | hpk
      · rw [hpk] at hpick
        have HP := Lib.hid hpick
        clear hpick hpk
        go_wp2_with fail
        refine (At_any _ _ _ _ _ _ hB.rd).mono ?_
        rintro e w3 ⟨rfl, rfl⟩
        go_wp2_with fail
        refine HP.out.mono ?_
        rintro e w3 ⟨rfl, rfl⟩
        go_wp2_with fail
        obtain ⟨x, a2, f2, hst, hx, hcall⟩ := one_byte hB.rd
        refine hcall.mono ?_
        rintro e w2 ⟨rfl, hr2, hm2⟩
        clear hcall
        have hbx := hB.box hm2
        go_wp2_with fail
        refine (Fault_any _ _ _ _ _ _ hr2).mono ?_
        rintro e w3 ⟨rfl, rfl⟩
        by_cases hf2 : f2 = 0
        · subst hf2
          have hup := hst.up
          have hin := hst.in_
          go_wp2_with fail
          refine (WByte_any _ _ x _ _ hbx hx (by rw [List.length_take]; omega)).mono ?_
          rintro e w3 ⟨rfl, v3, hb3, hm3, hf3⟩
          rw [hst.same rfl] at hb3
          have HB := hB.write hr2 hm2 hb3 hm3 hf3
          clear hB hr2 hm2 hb3 hm3 hf3 hbx
          have Hst := Lib.hid hst
          clear hst
          go_wp2_with fail
          refine (Fault_any _ _ _ _ _ _ HB.rd).mono ?_
          rintro e w5 ⟨rfl, rfl⟩
          go_wp2_with fail
          refine (At_any _ _ _ _ _ _ HB.rd).mono ?_
          rintro e w5 ⟨rfl, rfl⟩
          go_wp2_with fail
          refine (At_any _ _ _ _ _ _ HB.rd).mono ?_
          rintro e w5 ⟨rfl, rfl⟩
          go_wp2_with fail
          go_roundw
          case rel => exact ⟨k + 1, a2, 0, v3, by omega, by go_num, HB⟩
          case measure => simp [intOf]; omega
        · have hz : ((f2 : Int) == 0) = false := by rw [beq_eq_false_iff_ne]; omega
          have hz2 : ((f2 : Int) != 0) = true := by rw [bne_iff_ne]; omega
          obtain rfl : a2 = a := hst.stay hf2
          have HB := hB.read hr2 hm2 hbx
          have hin := hB.rd.in_
          clear hB hr2 hm2 hbx
          have Hst := Lib.hid hst
          clear hst hf2
          go_wp2_with fail
          refine (Fault_any _ _ _ _ _ _ HB.rd).mono ?_
          rintro e w5 ⟨rfl, rfl⟩
          go_wp2_with fail
          refine (At_any _ _ _ _ _ _ HB.rd).mono ?_
          rintro e w5 ⟨rfl, rfl⟩
          go_wp2_with fail
          refine (At_any _ _ _ _ _ _ HB.rd).mono ?_
          rintro e w5 ⟨rfl, rfl⟩
          go_wp2_with fail
          refine (At_any _ _ _ _ _ _ HB.rd).mono ?_
          rintro e w5 ⟨rfl, rfl⟩
          go_wp2_with fail
          go_roundw
          case rel => exact ⟨k + 1, a2, f2, vw, by omega, by go_num, HB⟩
          case measure => simp [intOf]; omega
      · rw [hpk] at hpick
        have HP := Lib.hid hpick
        clear hpick hpk
        go_wp2_with fail
        refine (At_any _ _ _ _ _ _ hB.rd).mono ?_
        rintro e w3 ⟨rfl, rfl⟩
        go_wp2_with fail
        refine HP.out.mono ?_
        rintro e w3 ⟨rfl, rfl⟩
        go_wp2_with fail
        obtain ⟨x, a2, f2, hst, hx, hcall⟩ := one_uint hB.rd
        refine hcall.mono ?_
        rintro e w2 ⟨rfl, hr2, hm2⟩
        clear hcall
        have hbx := hB.box hm2
        go_wp2_with fail
        refine (Fault_any _ _ _ _ _ _ hr2).mono ?_
        rintro e w3 ⟨rfl, rfl⟩
        by_cases hf2 : f2 = 0
        · subst hf2
          have hup := hst.up
          have hin := hst.in_
          go_wp2_with fail
          refine (WUint_any _ _ x _ _ hbx hx (by rw [List.length_take]; omega)).mono ?_
          rintro e w3 ⟨rfl, v3, hb3, hm3, hf3⟩
          rw [hst.same rfl] at hb3
          have HB := hB.write hr2 hm2 hb3 hm3 hf3
          clear hB hr2 hm2 hb3 hm3 hf3 hbx
          have Hst := Lib.hid hst
          clear hst
          go_wp2_with fail
          refine (Fault_any _ _ _ _ _ _ HB.rd).mono ?_
          rintro e w5 ⟨rfl, rfl⟩
          go_wp2_with fail
          refine (At_any _ _ _ _ _ _ HB.rd).mono ?_
          rintro e w5 ⟨rfl, rfl⟩
          go_wp2_with fail
          refine (At_any _ _ _ _ _ _ HB.rd).mono ?_
          rintro e w5 ⟨rfl, rfl⟩
          go_wp2_with fail
          go_roundw
          case rel => exact ⟨k + 1, a2, 0, v3, by omega, by go_num, HB⟩
          case measure => simp [intOf]; omega
        · have hz : ((f2 : Int) == 0) = false := by rw [beq_eq_false_iff_ne]; omega
          have hz2 : ((f2 : Int) != 0) = true := by rw [bne_iff_ne]; omega
          obtain rfl : a2 = a := hst.stay hf2
          have HB := hB.read hr2 hm2 hbx
          have hin := hB.rd.in_
          clear hB hr2 hm2 hbx
          have Hst := Lib.hid hst
          clear hst hf2
          go_wp2_with fail
          refine (Fault_any _ _ _ _ _ _ HB.rd).mono ?_
          rintro e w5 ⟨rfl, rfl⟩
          go_wp2_with fail
          refine (At_any _ _ _ _ _ _ HB.rd).mono ?_
          rintro e w5 ⟨rfl, rfl⟩
          go_wp2_with fail
          refine (At_any _ _ _ _ _ _ HB.rd).mono ?_
          rintro e w5 ⟨rfl, rfl⟩
          go_wp2_with fail
          refine (At_any _ _ _ _ _ _ HB.rd).mono ?_
          rintro e w5 ⟨rfl, rfl⟩
          go_wp2_with fail
          go_roundw
          case rel => exact ⟨k + 1, a2, f2, vw, by omega, by go_num, HB⟩
          case measure => simp [intOf]; omega
      · rw [hpk] at hpick
        have HP := Lib.hid hpick
        clear hpick hpk
        go_wp2_with fail
        refine (At_any _ _ _ _ _ _ hB.rd).mono ?_
        rintro e w3 ⟨rfl, rfl⟩
        go_wp2_with fail
        refine HP.out.mono ?_
        rintro e w3 ⟨rfl, rfl⟩
        go_wp2_with fail
        obtain ⟨x, a2, f2, hst, hx, hcall⟩ := one_int hB.rd
        refine hcall.mono ?_
        rintro e w2 ⟨rfl, hr2, hm2⟩
        clear hcall
        have hbx := hB.box hm2
        go_wp2_with fail
        refine (Fault_any _ _ _ _ _ _ hr2).mono ?_
        rintro e w3 ⟨rfl, rfl⟩
        by_cases hf2 : f2 = 0
        · subst hf2
          have hup := hst.up
          have hin := hst.in_
          go_wp2_with fail
          refine (WInt_any _ _ x _ _ hbx hx.1 hx.2 (by rw [List.length_take]; omega)).mono ?_
          rintro e w3 ⟨rfl, v3, hb3, hm3, hf3⟩
          rw [hst.same rfl] at hb3
          have HB := hB.write hr2 hm2 hb3 hm3 hf3
          clear hB hr2 hm2 hb3 hm3 hf3 hbx
          have Hst := Lib.hid hst
          clear hst
          go_wp2_with fail
          refine (Fault_any _ _ _ _ _ _ HB.rd).mono ?_
          rintro e w5 ⟨rfl, rfl⟩
          go_wp2_with fail
          refine (At_any _ _ _ _ _ _ HB.rd).mono ?_
          rintro e w5 ⟨rfl, rfl⟩
          go_wp2_with fail
          refine (At_any _ _ _ _ _ _ HB.rd).mono ?_
          rintro e w5 ⟨rfl, rfl⟩
          go_wp2_with fail
          go_roundw
          case rel => exact ⟨k + 1, a2, 0, v3, by omega, by go_num, HB⟩
          case measure => simp [intOf]; omega
        · have hz : ((f2 : Int) == 0) = false := by rw [beq_eq_false_iff_ne]; omega
          have hz2 : ((f2 : Int) != 0) = true := by rw [bne_iff_ne]; omega
          obtain rfl : a2 = a := hst.stay hf2
          have HB := hB.read hr2 hm2 hbx
          have hin := hB.rd.in_
          clear hB hr2 hm2 hbx
          have Hst := Lib.hid hst
          clear hst hf2
          go_wp2_with fail
          refine (Fault_any _ _ _ _ _ _ HB.rd).mono ?_
          rintro e w5 ⟨rfl, rfl⟩
          go_wp2_with fail
          refine (At_any _ _ _ _ _ _ HB.rd).mono ?_
          rintro e w5 ⟨rfl, rfl⟩
          go_wp2_with fail
          refine (At_any _ _ _ _ _ _ HB.rd).mono ?_
          rintro e w5 ⟨rfl, rfl⟩
          go_wp2_with fail
          refine (At_any _ _ _ _ _ _ HB.rd).mono ?_
          rintro e w5 ⟨rfl, rfl⟩
          go_wp2_with fail
          go_roundw
          case rel => exact ⟨k + 1, a2, f2, vw, by omega, by go_num, HB⟩
          case measure => simp [intOf]; omega
      · rw [hpk] at hpick
        have HP := Lib.hid hpick
        clear hpick hpk
        go_wp2_with fail
        refine (At_any _ _ _ _ _ _ hB.rd).mono ?_
        rintro e w3 ⟨rfl, rfl⟩
        go_wp2_with fail
        refine HP.out.mono ?_
        rintro e w3 ⟨rfl, rfl⟩
        go_wp2_with fail
        obtain ⟨x, a2, f2, hst, hx, hcall⟩ := one_text hB.rd
        refine hcall.mono ?_
        rintro e w2 ⟨rfl, hr2, hm2⟩
        clear hcall
        have hbx := hB.box hm2
        go_wp2_with fail
        refine (Fault_any _ _ _ _ _ _ hr2).mono ?_
        rintro e w3 ⟨rfl, rfl⟩
        by_cases hf2 : f2 = 0
        · subst hf2
          have hup := hst.up
          have hin := hst.in_
          go_wp2_with fail
          refine (WText_any _ _ x _ _ hbx (by have hh := congrArg List.length (hst.same rfl); simp only [List.length_append, List.length_take, Cod.str_len] at hh ⊢; omega)).mono ?_
          rintro e w3 ⟨rfl, v3, hb3, hm3, hf3⟩
          rw [hst.same rfl] at hb3
          have HB := hB.write hr2 hm2 hb3 hm3 hf3
          clear hB hr2 hm2 hb3 hm3 hf3 hbx
          have Hst := Lib.hid hst
          clear hst
          go_wp2_with fail
          refine (Fault_any _ _ _ _ _ _ HB.rd).mono ?_
          rintro e w5 ⟨rfl, rfl⟩
          go_wp2_with fail
          refine (At_any _ _ _ _ _ _ HB.rd).mono ?_
          rintro e w5 ⟨rfl, rfl⟩
          go_wp2_with fail
          refine (At_any _ _ _ _ _ _ HB.rd).mono ?_
          rintro e w5 ⟨rfl, rfl⟩
          go_wp2_with fail
          go_roundw
          case rel => exact ⟨k + 1, a2, 0, v3, by omega, by go_num, HB⟩
          case measure => simp [intOf]; omega
        · have hz : ((f2 : Int) == 0) = false := by rw [beq_eq_false_iff_ne]; omega
          have hz2 : ((f2 : Int) != 0) = true := by rw [bne_iff_ne]; omega
          obtain rfl : a2 = a := hst.stay hf2
          have HB := hB.read hr2 hm2 hbx
          have hin := hB.rd.in_
          clear hB hr2 hm2 hbx
          have Hst := Lib.hid hst
          clear hst hf2
          go_wp2_with fail
          refine (Fault_any _ _ _ _ _ _ HB.rd).mono ?_
          rintro e w5 ⟨rfl, rfl⟩
          go_wp2_with fail
          refine (At_any _ _ _ _ _ _ HB.rd).mono ?_
          rintro e w5 ⟨rfl, rfl⟩
          go_wp2_with fail
          refine (At_any _ _ _ _ _ _ HB.rd).mono ?_
          rintro e w5 ⟨rfl, rfl⟩
          go_wp2_with fail
          refine (At_any _ _ _ _ _ _ HB.rd).mono ?_
          rintro e w5 ⟨rfl, rfl⟩
          go_wp2_with fail
          go_roundw
          case rel => exact ⟨k + 1, a2, f2, vw, by omega, by go_num, HB⟩
          case measure => simp [intOf]; omega
    · go_wp2_with fail
      refine (At_any _ _ _ _ _ _ hB.rd).mono ?_
      rintro e w3 ⟨rfl, rfl⟩
      have hrb : Reads wr (.slice a' a c') (l.take a) := (h.past hB.mod (by simp)).short hain
      have hcb := conv_reads hrb
      have hll : (l.take a).length ≤ 140737488355328 := by rw [List.length_take]; omega
      have hout0 : BoxIs wr.drew bw vw (l.take a) := ⟨hB.wt.at_, hB.wt.row, hB.wt.out, hB.wt.byte⟩
      have hbyte := hB.wt.byte
      have hmod := hB.mod
      clear hB hlt h hk
      go_wp2_with fail
      have hrd : Reads wr.drew (.slice a' a c') (l.take a) := hrb
      have hcbd := conv_reads hrd
      have hbx : BoxIs wr.drew bw vw (l.take a) := hout0
      have hac : (a : Int) ≤ (c' : Int) := by omega
      have ha0 : (0 : Int) ≤ (a : Int) := by omega
      refine wp_region_held_drew (S := (fun w' => Mod [] wr w' ∧ (convert 22 9 (.slice a' a c')).run Try.prog w' = .ok (.string (ofStr (l.take a))) w')) (by kernel_rfl) (by (try dsimp only); exact ⟨(Mod.refl _ _).drew, hcbd⟩) (fun hHeld => ?_)
      refine wpAnyH_take (i := 0) (oi := ?_) (v := ?_) ?_ ?_ ?_ ?_ ?_ ?_ (by assumption) ?_
      rotate_left 2
      · (simp only [List.getElem?_toArray, List.getElem?_cons_succ, List.getElem?_cons_zero]) <;> rfl
      · kernel_rfl
      · kernel_rfl
      · kernel_rfl
      rotate_left 1
      · refine Or.inl ⟨by rfl, ?_⟩
        intro w hSw
        (try dsimp only at hSw)
        go_simp
        all_goals with_reducible rfl
      rotate_left 1
      · exact fun _ _ _ h => h
      try simp only [Act.put, List.setIfInBounds_toArray, List.set_cons_zero, List.set_cons_succ]
      refine wpAnyH_take (i := 1) (oi := ?_) (v := ?_) ?_ ?_ ?_ ?_ ?_ ?_ (by assumption) ?_
      rotate_left 2
      · (simp only [List.getElem?_toArray, List.getElem?_cons_succ, List.getElem?_cons_zero]) <;> rfl
      · kernel_rfl
      · kernel_rfl
      · kernel_rfl
      rotate_left 1
      · refine Or.inl ⟨by rfl, ?_⟩
        intro w hSw
        (try dsimp only at hSw)
        go_simp
        all_goals with_reducible rfl
      rotate_left 1
      · exact fun _ _ _ h => h
      try simp only [Act.put, List.setIfInBounds_toArray, List.set_cons_zero, List.set_cons_succ]
      refine wpAnyH_take (i := 2) (oi := ?_) (v := ?_) ?_ ?_ ?_ ?_ ?_ ?_ (by assumption) ?_
      rotate_left 2
      · (simp only [List.getElem?_toArray, List.getElem?_cons_succ, List.getElem?_cons_zero]) <;> rfl
      · kernel_rfl
      · kernel_rfl
      · kernel_rfl
      rotate_left 1
      · refine Or.inl ⟨by rfl, ?_⟩
        intro w hSw
        (try dsimp only at hSw)
        go_simp
        all_goals with_reducible rfl
      rotate_left 1
      · exact fun _ _ _ h => h
      try simp only [Act.put, List.setIfInBounds_toArray, List.set_cons_zero, List.set_cons_succ]
      refine wpAnyH_take (i := 3) (oi := ?_) (v := ?_) ?_ ?_ ?_ ?_ ?_ ?_ (by assumption) ?_
      rotate_left 2
      · (simp only [List.getElem?_toArray, List.getElem?_cons_succ, List.getElem?_cons_zero]) <;> rfl
      · kernel_rfl
      · kernel_rfl
      · kernel_rfl
      rotate_left 1
      · refine Or.inl ⟨by rfl, ?_⟩
        intro w hSw
        (try dsimp only at hSw)
        go_simp
        all_goals with_reducible rfl
      rotate_left 1
      · exact fun _ _ _ h => h
      try simp only [Act.put, List.setIfInBounds_toArray, List.set_cons_zero, List.set_cons_succ]
      refine wpAnyH_take (i := 4) (oi := ?_) (v := ?_) ?_ ?_ ?_ ?_ ?_ ?_ (by assumption) ?_
      rotate_left 2
      · (simp only [List.getElem?_toArray, List.getElem?_cons_succ, List.getElem?_cons_zero]) <;> rfl
      · kernel_rfl
      · kernel_rfl
      · kernel_rfl
      rotate_left 1
      · refine Or.inl ⟨by rfl, ?_⟩
        intro w hSw
        (try dsimp only at hSw)
        go_simp
        all_goals with_reducible rfl
      rotate_left 1
      · exact fun _ _ _ h => h
      try simp only [Act.put, List.setIfInBounds_toArray, List.set_cons_zero, List.set_cons_succ]
      refine wpAnyH_take (i := 5) (oi := ?_) (v := ?_) ?_ ?_ ?_ ?_ ?_ ?_ (by assumption) ?_
      rotate_left 2
      · (simp only [List.getElem?_toArray, List.getElem?_cons_succ, List.getElem?_cons_zero]) <;> rfl
      · kernel_rfl
      · kernel_rfl
      · kernel_rfl
      rotate_left 1
      · refine Or.inl ⟨by rfl, ?_⟩
        intro w hSw
        (try dsimp only at hSw)
        go_simp
        all_goals with_reducible rfl
      rotate_left 1
      · exact fun _ _ _ h => h
      try simp only [Act.put, List.setIfInBounds_toArray, List.set_cons_zero, List.set_cons_succ]
      refine wpAnyH_take (i := 6) (oi := ?_) (v := ?_) ?_ ?_ ?_ ?_ ?_ ?_ (by assumption) ?_
      rotate_left 2
      · (simp only [List.getElem?_toArray, List.getElem?_cons_succ, List.getElem?_cons_zero]) <;> rfl
      · kernel_rfl
      · kernel_rfl
      · kernel_rfl
      rotate_left 1
      · refine Or.inl ⟨by rfl, ?_⟩
        intro w hSw
        (try dsimp only at hSw)
        go_simp
        all_goals with_reducible rfl
      rotate_left 1
      · exact fun _ _ _ h => h
      try simp only [Act.put, List.setIfInBounds_toArray, List.set_cons_zero, List.set_cons_succ]
      refine wpAnyH_take (i := 7) (oi := ?_) (v := ?_) ?_ ?_ ?_ ?_ ?_ ?_ (by assumption) ?_
      rotate_left 2
      · (simp only [List.getElem?_toArray, List.getElem?_cons_succ, List.getElem?_cons_zero]) <;> rfl
      · kernel_rfl
      · kernel_rfl
      · kernel_rfl
      rotate_left 1
      · refine Or.inl ⟨by rfl, ?_⟩
        intro w hSw
        (try dsimp only at hSw)
        go_simp
        all_goals with_reducible rfl
      rotate_left 1
      · exact fun _ _ _ h => h
      try simp only [Act.put, List.setIfInBounds_toArray, List.set_cons_zero, List.set_cons_succ]
      refine wpAnyH_take (i := 8) (oi := ?_) (v := ?_) ?_ ?_ ?_ ?_ ?_ ?_ (by assumption) ?_
      rotate_left 2
      · (simp only [List.getElem?_toArray, List.getElem?_cons_succ, List.getElem?_cons_zero]) <;> rfl
      · kernel_rfl
      · kernel_rfl
      · kernel_rfl
      rotate_left 1
      · refine Or.inl ⟨by rfl, ?_⟩
        intro w hSw
        (try dsimp only at hSw)
        go_simp
        all_goals with_reducible rfl
      rotate_left 1
      · exact fun _ _ _ h => h
      try simp only [Act.put, List.setIfInBounds_toArray, List.set_cons_zero, List.set_cons_succ]
      refine wpAnyH_take (i := 9) (oi := ?_) (v := ?_) ?_ ?_ ?_ ?_ ?_ ?_ (by assumption) ?_
      rotate_left 2
      · (simp only [List.getElem?_toArray, List.getElem?_cons_succ, List.getElem?_cons_zero]) <;> rfl
      · kernel_rfl
      · kernel_rfl
      · kernel_rfl
      rotate_left 1
      · refine Or.inl ⟨by rfl, ?_⟩
        intro w hSw
        (try dsimp only at hSw)
        go_simp
        all_goals with_reducible rfl
      rotate_left 1
      · exact fun _ _ _ h => h
      try simp only [Act.put, List.setIfInBounds_toArray, List.set_cons_zero, List.set_cons_succ]
      refine wpAnyH_take (i := 10) (oi := ?_) (v := ?_) ?_ ?_ ?_ ?_ ?_ ?_ (by assumption) ?_
      rotate_left 2
      · (simp only [List.getElem?_toArray, List.getElem?_cons_succ, List.getElem?_cons_zero]) <;> rfl
      · kernel_rfl
      · kernel_rfl
      · kernel_rfl
      rotate_left 1
      · refine Or.inl ⟨by rfl, ?_⟩
        intro w hSw
        (try dsimp only at hSw)
        go_simp
        all_goals with_reducible rfl
      rotate_left 1
      · exact fun _ _ _ h => h
      try simp only [Act.put, List.setIfInBounds_toArray, List.set_cons_zero, List.set_cons_succ]
      refine wpAnyH_take (i := 11) (oi := ?_) (v := ?_) ?_ ?_ ?_ ?_ ?_ ?_ (by assumption) ?_
      rotate_left 2
      · (simp only [List.getElem?_toArray, List.getElem?_cons_succ, List.getElem?_cons_zero]) <;> rfl
      · kernel_rfl
      · kernel_rfl
      · kernel_rfl
      rotate_left 1
      · refine Or.inl ⟨by rfl, ?_⟩
        intro w hSw
        (try dsimp only at hSw)
        go_simp
        all_goals with_reducible rfl
      rotate_left 1
      · exact fun _ _ _ h => h
      try simp only [Act.put, List.setIfInBounds_toArray, List.set_cons_zero, List.set_cons_succ]
      refine wpAnyH_take (i := 12) (oi := ?_) (v := ?_) ?_ ?_ ?_ ?_ ?_ ?_ (by assumption) ?_
      rotate_left 2
      · (simp only [List.getElem?_toArray, List.getElem?_cons_succ, List.getElem?_cons_zero]) <;> rfl
      · kernel_rfl
      · kernel_rfl
      · kernel_rfl
      rotate_left 1
      · refine Or.inl ⟨by rfl, ?_⟩
        intro w hSw
        (try dsimp only at hSw)
        go_simp
        all_goals with_reducible rfl
      rotate_left 1
      · exact fun _ _ _ h => h
      try simp only [Act.put, List.setIfInBounds_toArray, List.set_cons_zero, List.set_cons_succ]
      refine wpAnyH_take (i := 15) (oi := ?_) (v := ?_) ?_ ?_ ?_ ?_ ?_ ?_ (by assumption) ?_
      rotate_left 2
      · (simp only [List.getElem?_toArray, List.getElem?_cons_succ, List.getElem?_cons_zero]) <;> rfl
      · kernel_rfl
      · kernel_rfl
      · kernel_rfl
      rotate_left 1
      · refine Or.inl ⟨by rfl, ?_⟩
        intro w hSw
        (try dsimp only at hSw)
        go_simp
        all_goals with_reducible rfl
      rotate_left 1
      · exact fun _ _ _ h => h
      try simp only [Act.put, List.setIfInBounds_toArray, List.set_cons_zero, List.set_cons_succ]
      refine wpAnyH_take (i := 16) (oi := ?_) (v := ?_) ?_ ?_ ?_ ?_ ?_ ?_ (by assumption) ?_
      rotate_left 2
      · (simp only [List.getElem?_toArray, List.getElem?_cons_succ, List.getElem?_cons_zero]) <;> rfl
      · kernel_rfl
      · kernel_rfl
      · kernel_rfl
      rotate_left 1
      · refine Or.inl ⟨by rfl, ?_⟩
        intro w hSw
        (try dsimp only at hSw)
        go_simp
        all_goals with_reducible rfl
      rotate_left 1
      · exact fun _ _ _ h => h
      try simp only [Act.put, List.setIfInBounds_toArray, List.set_cons_zero, List.set_cons_succ]
      refine wpAnyH_take (i := 17) (oi := ?_) (v := ?_) ?_ ?_ ?_ ?_ ?_ ?_ (by assumption) ?_
      rotate_left 2
      · (simp only [List.getElem?_toArray, List.getElem?_cons_succ, List.getElem?_cons_zero]) <;> rfl
      · kernel_rfl
      · kernel_rfl
      · kernel_rfl
      rotate_left 1
      · refine Or.inl ⟨by rfl, ?_⟩
        intro w hSw
        (try dsimp only at hSw)
        go_simp
        all_goals with_reducible rfl
      rotate_left 1
      · exact fun _ _ _ h => h
      try simp only [Act.put, List.setIfInBounds_toArray, List.set_cons_zero, List.set_cons_succ]
      refine wpAnyH_take (i := 18) (oi := ?_) (v := ?_) ?_ ?_ ?_ ?_ ?_ ?_ (by assumption) ?_
      rotate_left 2
      · (simp only [List.getElem?_toArray, List.getElem?_cons_succ, List.getElem?_cons_zero]) <;> rfl
      · kernel_rfl
      · kernel_rfl
      · kernel_rfl
      rotate_left 1
      · refine Or.inl ⟨by rfl, ?_⟩
        intro w hSw
        (try dsimp only at hSw)
        go_simp
        all_goals with_reducible rfl
      rotate_left 1
      · exact fun _ _ _ h => h
      try simp only [Act.put, List.setIfInBounds_toArray, List.set_cons_zero, List.set_cons_succ]
      refine wpAnyH_ready (rs := [13]) (by kernel_rfl) (by simp) ?_
      refine AllReadyH.cons (o := ?_) ?_ ?_ AllReadyH.nil
      rotate_left 1
      · (simp only [List.getElem?_toArray, List.getElem?_cons_succ, List.getElem?_cons_zero]) <;> rfl
      intro K hK
      go_simp
      refine (Out_any bw vw (l.take a) _ hbx hll).mono ?_
      rintro e w8 ⟨v8, rfl, hown8, hm8, hf8, hn8⟩
      have hconv8 := conv_reads (reads_own hown8 hbyte hll)
      have hcb8 := conv_reads (hrd.past hm8 (by simp))
      have hS8 := Mod.trans (Mod.refl [] wr).drew hm8 (by simp)
      refine hK.out _ _ (by (try dsimp only); exact ⟨hS8, hcb8⟩) (fun hHeld => ?_)
      clear hK K
      try simp only [Act.put, List.setIfInBounds_toArray, List.set_cons_zero, List.set_cons_succ]
      refine wpAnyH_ready (rs := [14]) (by kernel_rfl) (by simp) ?_
      refine AllReadyH.cons (o := ?_) ?_ ?_ AllReadyH.nil
      rotate_left 1
      · (simp only [List.getElem?_toArray, List.getElem?_cons_succ, List.getElem?_cons_zero]) <;> rfl
      intro K hK
      go_simp
      refine hK.out _ _ (by (try dsimp only); exact ⟨hS8, hcb8⟩) (fun hHeld => ?_)
      clear hK K
      try simp only [Act.put, List.setIfInBounds_toArray, List.set_cons_zero, List.set_cons_succ]
      refine wpAnyH_take (i := 19) (oi := ?_) (v := ?_) ?_ ?_ ?_ ?_ ?_ ?_ (by assumption) ?_
      rotate_left 2
      · (simp only [List.getElem?_toArray, List.getElem?_cons_succ, List.getElem?_cons_zero]) <;> rfl
      · kernel_rfl
      · kernel_rfl
      · kernel_rfl
      rotate_left 1
      · refine Or.inl ⟨by rfl, ?_⟩
        intro w hSw
        (try dsimp only at hSw)
        go_simp
        all_goals with_reducible rfl
      rotate_left 1
      · exact fun _ _ _ h => h
      try simp only [Act.put, List.setIfInBounds_toArray, List.set_cons_zero, List.set_cons_succ]
      refine wpAnyH_take (i := 20) (oi := ?_) (v := ?_) ?_ ?_ ?_ ?_ ?_ ?_ (by assumption) ?_
      rotate_left 2
      · (simp only [List.getElem?_toArray, List.getElem?_cons_succ, List.getElem?_cons_zero]) <;> rfl
      · kernel_rfl
      · kernel_rfl
      · kernel_rfl
      rotate_left 1
      · refine Or.inl ⟨by rfl, ?_⟩
        intro w hSw
        (try dsimp only at hSw)
        go_simp
        all_goals with_reducible rfl
      rotate_left 1
      · exact fun _ _ _ h => h
      try simp only [Act.put, List.setIfInBounds_toArray, List.set_cons_zero, List.set_cons_succ]
      refine wpAnyH_take (i := 21) (oi := ?_) (v := ?_) ?_ ?_ ?_ ?_ ?_ ?_ (by assumption) ?_
      rotate_left 2
      · (simp only [List.getElem?_toArray, List.getElem?_cons_succ, List.getElem?_cons_zero]) <;> rfl
      · kernel_rfl
      · kernel_rfl
      · kernel_rfl
      rotate_left 1
      · refine Or.inl ⟨by rfl, ?_⟩
        intro w hSw
        (try dsimp only at hSw)
        go_simp
        all_goals with_reducible rfl
      rotate_left 1
      · exact fun _ _ _ h => h
      try simp only [Act.put, List.setIfInBounds_toArray, List.set_cons_zero, List.set_cons_succ]
      refine wpAnyH_done (by kernel_rfl) ?_ _
      go_wp2_with fail
      go_ret
      exact ⟨rfl, hmod.trans hS8 (by simp)⟩
end Go.Proofs.Ytaaeahhcbmnbgaa
