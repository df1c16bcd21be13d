/- LexScans. -/
import Derived.Test.YtobimhmllkfmfaaDoorLawPlay
import Derived.Test.YtobimhmllkfmfaaDoorOps
namespace Go.Proofs.YtobimhmllkfmfaaDoor
open Go.RowKit
set_option linter.unusedVariables false
set_option linter.unusedSimpArgs false
set_option maxRecDepth 100000

/-- the loop over the script: what it holds -/
structure ScLoop (s t : ByteArray) (w wr : World) (b1 b2 c1 c2 : Nat) : Prop where
  p1 : ∃ s1 x a, ScIs wr b1 s1 x ∧ RsIs wr c1 s a x
  p2 : ∃ s2 x a, ScIs wr b2 s2 x ∧ RsIs wr c2 t a x
  ne : b1 ≠ c1 ∧ b1 ≠ b2 ∧ b1 ≠ c2 ∧ b2 ≠ c1 ∧ b2 ≠ c2 ∧ c1 ≠ c2
  new : w.heap.size ≤ b1 ∧ w.heap.size ≤ b2 ∧ w.heap.size ≤ c1 ∧ w.heap.size ≤ c2
  lt : b1 < wr.heap.size ∧ b2 < wr.heap.size ∧ c1 < wr.heap.size ∧ c2 < wr.heap.size
  mod : Mod [] w wr

/-- new memory alone -/
theorem ScLoop.past {s t : ByteArray} {w wr w' : World} {b1 b2 c1 c2 : Nat} (h : ScLoop s t w wr b1 b2 c1 c2) (hm : Mod [] wr w') : ScLoop s t w w' b1 b2 c1 c2 := by
  obtain ⟨⟨s1, x, a, q1, q2⟩, ⟨s2, y, a', q3, q4⟩, h3, h4, h5, h6⟩ := h
  have := hm.size
  exact ⟨⟨s1, x, a, q1.past hm (by simp), q2.past hm (by simp)⟩, ⟨s2, y, a', q3.past hm (by simp), q4.past hm (by simp)⟩, h3, h4, by omega, h6.trans hm (by simp)⟩
/-- a new pair -/
theorem ScLoop.new1 {s t : ByteArray} {w wr w' : World} {b1 b2 c1 c2 b c : Nat} (h : ScLoop s t w wr b1 b2 c1 c2) (hm : Mod [] wr w') {s1 : ByteArray} {x : Lx.St} {a : Nat} (q1 : ScIs w' b s1 x) (q2 : RsIs w' c s a x) (hb : wr.heap.size ≤ b) (hc : wr.heap.size ≤ c) (hbc : b ≠ c) :
    ScLoop s t w w' b b2 c c2 := by
  have h' := h.past hm
  obtain ⟨l1, l2, l3, l4⟩ := h.lt
  obtain ⟨n1, n2, n3, n4⟩ := h.new
  have := q1.lt; have := q2.lt; have := hm.size; have := h.mod.size
  obtain ⟨e1, e2, e3, e4, e5, e6⟩ := h.ne
  exact ⟨⟨_, _, _, q1, q2⟩, h'.p2, ⟨hbc, by omega, by omega, by omega, by omega, by omega⟩, ⟨by omega, by omega, by omega, by omega⟩, ⟨by omega, by omega, by omega, by omega⟩, h'.mod⟩
theorem ScLoop.new2 {s t : ByteArray} {w wr w' : World} {b1 b2 c1 c2 b c : Nat} (h : ScLoop s t w wr b1 b2 c1 c2) (hm : Mod [] wr w') {s1 : ByteArray} {x : Lx.St} {a : Nat} (q1 : ScIs w' b s1 x) (q2 : RsIs w' c t a x) (hb : wr.heap.size ≤ b) (hc : wr.heap.size ≤ c) (hbc : b ≠ c) :
    ScLoop s t w w' b1 b c1 c := by
  have h' := h.past hm
  obtain ⟨l1, l2, l3, l4⟩ := h.lt
  obtain ⟨n1, n2, n3, n4⟩ := h.new
  have := q1.lt; have := q2.lt; have := hm.size; have := h.mod.size
  obtain ⟨e1, e2, e3, e4, e5, e6⟩ := h.ne
  exact ⟨h'.p1, ⟨_, _, _, q1, q2⟩, ⟨by omega, by omega, by omega, by omega, hbc, by omega⟩, ⟨by omega, by omega, by omega, by omega⟩, ⟨by omega, by omega, by omega, by omega⟩, h'.mod⟩
/-- one of the pairs is asked -/
theorem ScLoop.play1 {s t : ByteArray} {w wr w' : World} {b1 b2 c1 c2 : Nat} (h : ScLoop s t w wr b1 b2 c1 c2) (hm : Mod [b1, c1] wr w') (q : ∃ s1 x a, ScIs w' b1 s1 x ∧ RsIs w' c1 s a x) : ScLoop s t w w' b1 b2 c1 c2 := by
  obtain ⟨l1, l2, l3, l4⟩ := h.lt
  obtain ⟨n1, n2, n3, n4⟩ := h.new
  have := hm.size
  obtain ⟨e1, e2, e3, e4, e5, e6⟩ := h.ne
  obtain ⟨s2, y, a', q3, q4⟩ := h.p2
  refine ⟨q, ⟨s2, y, a', q3.keep hm (by simp; omega), q4.keep hm (by simp; omega)⟩, h.ne, h.new, ⟨by omega, by omega, by omega, by omega⟩, h.mod.trans hm (fun t ht => .inr ?_)⟩
  simp at ht; omega
theorem ScLoop.play2 {s t : ByteArray} {w wr w' : World} {b1 b2 c1 c2 : Nat} (h : ScLoop s t w wr b1 b2 c1 c2) (hm : Mod [b2, c2] wr w') (q : ∃ s1 x a, ScIs w' b2 s1 x ∧ RsIs w' c2 t a x) : ScLoop s t w w' b1 b2 c1 c2 := by
  obtain ⟨l1, l2, l3, l4⟩ := h.lt
  obtain ⟨n1, n2, n3, n4⟩ := h.new
  have := hm.size
  obtain ⟨e1, e2, e3, e4, e5, e6⟩ := h.ne
  obtain ⟨s2, y, a', q3, q4⟩ := h.p1
  refine ⟨⟨s2, y, a', q3.keep hm (by simp; omega), q4.keep hm (by simp; omega)⟩, q, h.ne, h.new, ⟨by omega, by omega, by omega, by omega⟩, h.mod.trans hm (fun t ht => .inr ?_)⟩
  simp at ht; omega

set_option maxHeartbeats 4000000 in
theorem LexScans_any (s t : ByteArray) (ao : Option Addr) (co : Nat) (xs : List ROp) (hs : s.size ≤ 140737488355328) (ht : t.size ≤ 140737488355328) (hx : xs.length ≤ 140737488355328) (w : World) (hO : Ops w (.slice ao xs.length co) xs) (hG : Glob w) :
    Calls Tryd.prog 4 #[.string s, .string t, .slice ao xs.length co] w fun e w' => e = .returned (.bool true) ∧ Mod [] w w' := by
  have hk := known_any w hG
  have h1 := fun w => Scan_any s hs w
  have h2 := fun w => Scan_any t ht w
  have r1 := fun w => rNew_any s hs w
  have r2 := fun w => rNew_any t ht w
  have hw3 := hG.size
  have HK := Lib.hid hk; have H1 := Lib.hid h1; have H2 := Lib.hid h2; have R1 := Lib.hid r1; have R2 := Lib.hid r2; have HO := Lib.hid hO
  clear hk h1 h2 r1 r2 hO
  go_enter Tryd.func4, Tryd.ntmps4
  go_wp2_with fail
  refine HK.out.mono ?_
  rintro e w1 ⟨rfl, hm1⟩
  have HM1 := Lib.hid hm1
  clear hm1
  go_wp2_with fail
  refine (H1.out _).mono ?_
  rintro e w2 ⟨b1, rfl, s1, hb1, hm2⟩
  have HM2 := Lib.hid hm2; have S1 := Lib.hid s1
  clear hm2 s1
  go_wp2_with fail
  refine (H2.out _).mono ?_
  rintro e w3 ⟨b2, rfl, s2, hb2, hm3⟩
  have HM3 := Lib.hid hm3; have S2 := Lib.hid s2
  clear hm3 s2
  go_wp2_with fail
  refine (R1.out _).mono ?_
  rintro e w4 ⟨c1, rfl, s3, hc1, hm4⟩
  have HM4 := Lib.hid hm4; have S3 := Lib.hid s3
  clear hm4 s3
  go_wp2_with fail
  refine (R2.out _).mono ?_
  rintro e w5 ⟨c2, rfl, s4, hc2, hm5⟩
  have hL : Hid (ScLoop s t w w5 b1 b2 c1 c2) := Lib.hid (by
    have z1 := HM1.out.size; have z2 := HM2.out.size; have z3 := HM3.out.size; have z4 := HM4.out.size; have z5 := hm5.size
    have q1 := S1.out.lt; have q2 := S2.out.lt; have q3 := S3.out.lt; have q4 := s4.lt
    exact ⟨⟨_, _, _, ((S1.out.past HM3.out (by simp)).past HM4.out (by simp)).past hm5 (by simp), S3.out.past hm5 (by simp)⟩, ⟨_, _, _, (S2.out.past HM4.out (by simp)).past hm5 (by simp), s4⟩,
      ⟨by omega, by omega, by omega, by omega, by omega, by omega⟩, ⟨by omega, by omega, by omega, by omega⟩, ⟨by omega, by omega, by omega, by omega⟩, (((HM1.out.trans HM2.out (by simp)).trans HM3.out (by simp)).trans HM4.out (by simp)).trans hm5 (by simp)⟩)
  clear hm5 s4 hb1 hb2 hc1 hc2 HM2 HM3 HM4 S1 S2 S3 HM1
  go_wp2_with fail
  go_loopw [8, 9, 10, 11, 12] (fun p1 p2 p3 p4 iv wr => ∃ (b1 b2 c1 c2 k : Nat), k ≤ xs.length ∧ p1 = .pointer (some ⟨b1, 0, none⟩) ∧ p2 = .pointer (some ⟨b2, 0, none⟩) ∧ p3 = .pointer (some ⟨c1, 0, none⟩) ∧ p4 = .pointer (some ⟨c2, 0, none⟩) ∧ iv = .int .i64 (k : Nat) ∧ ScLoop s t w wr b1 b2 c1 c2) (fun _ _ _ _ iv _ => xs.length - (intOf iv).toNat)
  case atStart => exact ⟨b1, b2, c1, c2, 0, Nat.zero_le _, rfl, rfl, rfl, rfl, rfl, hL.out⟩
  case round =>
    clear hL
    obtain ⟨b1, b2, c1, c2, k, hk, rfl, rfl, rfl, rfl, rfl, hL⟩ := hrel
    by_cases hlt : k < xs.length
    · have hkI : (k : Int) < (xs.length : Int) := by omega
      have hk0 : (0 : Int) ≤ (k : Int) := by omega
      obtain ⟨g, off, rfl, hc⟩ := HO.out.at hL.mod k hlt
      obtain ⟨d0, d1⟩ := hc
      generalize xs[k] = o at *
      obtain ⟨one, kind⟩ := o
      simp only at d0 d1
      have hgl : g < wr.heap.size := World.block_lt_of_cell? wr _ d0
      have hL1 := hL.past ((Mod.refl [] wr).alloc (Obj.cells #[Value.bool one, Value.int IntKind.i64 kind] 39))
      have HL := Lib.hid hL1
      have hb13 : 3 ≤ b1 := by have := hL.new; omega
      have hb23 : 3 ≤ b2 := by have := hL.new; omega
      have hc13 : 3 ≤ c1 := by have := hL.new; omega
      have hc23 : 3 ≤ c2 := by have := hL.new; omega
      have hGr := hG.past hL1.mod (by simp)
      have HG := Lib.hid hGr
      clear hL hL1 hGr hlt
      by_cases k3 : kind = 3
      · subst k3
        cases one
        · go_wp2_with fail
          refine (H2.out _).mono ?_
          rintro e v1 ⟨nb, rfl, q1, hnb, n1⟩
          have N1 := Lib.hid n1; have Q1 := Lib.hid q1
          clear n1 q1
          go_wp2_with fail
          refine (R2.out _).mono ?_
          rintro e v2 ⟨nc, rfl, q2, hnc, n2⟩
          have hLn := HL.out.new2 (N1.out.trans n2 (by simp)) (Q1.out.past n2 (by simp)) q2 hnb (by have := N1.out.size; omega) (by have := Q1.out.lt; omega)
          clear n2 q2 hnb hnc
          go_wp2_with fail
          go_roundw
          case rel => exact ⟨b1, nb, c1, nc, k + 1, by omega, rfl, rfl, rfl, rfl, by go_num, hLn⟩
          case measure => simp [intOf]; omega
        · go_wp2_with fail
          refine (H1.out _).mono ?_
          rintro e v1 ⟨nb, rfl, q1, hnb, n1⟩
          have N1 := Lib.hid n1; have Q1 := Lib.hid q1
          clear n1 q1
          go_wp2_with fail
          refine (R1.out _).mono ?_
          rintro e v2 ⟨nc, rfl, q2, hnc, n2⟩
          have hLn := HL.out.new1 (N1.out.trans n2 (by simp)) (Q1.out.past n2 (by simp)) q2 hnb (by have := N1.out.size; omega) (by have := Q1.out.lt; omega)
          clear n2 q2 hnb hnc
          go_wp2_with fail
          go_roundw
          case rel => exact ⟨nb, b2, nc, c2, k + 1, by omega, rfl, rfl, rfl, rfl, by go_num, hLn⟩
          case measure => simp [intOf]; omega
      · have k3B : (kind == 3) = false := by rw [beq_eq_false_iff_ne]; exact k3
        by_cases k4 : kind = 4
        · subst k4
          clear k3 k3B
          go_wp2_with fail
          refine (none_any _).mono ?_
          rintro e v1 ⟨rfl, n1⟩
          have hLn := HL.out.past n1
          clear n1
          go_wp2_with fail
          go_roundw
          case rel => exact ⟨b1, b2, c1, c2, k + 1, by omega, rfl, rfl, rfl, rfl, by go_num, hLn⟩
          case measure => simp [intOf]; omega
        · have k4B : (kind == 4) = false := by rw [beq_eq_false_iff_ne]; exact k4
          cases one
          · obtain ⟨s2, y, a', q3, q4⟩ := HL.out.p2
            have hp := play_any b2 c2 a' s2 t kind y _ q3 q4 HG.out hb23 hc23 HL.out.ne.2.2.2.2.1
            have HP := Lib.hid hp
            clear hp q3 q4
            go_wp2_with fail
            refine HP.out.mono ?_
            rintro e v1 ⟨rfl, ⟨s3, a3, q5, q6⟩, n1⟩
            have hLn := HL.out.play2 n1 ⟨_, _, _, q5, q6⟩
            clear n1 q5 q6
            go_wp2_with fail
            go_roundw
            case rel => exact ⟨b1, b2, c1, c2, k + 1, by omega, rfl, rfl, rfl, rfl, by go_num, hLn⟩
            case measure => simp [intOf]; omega
          · obtain ⟨s2, y, a', q3, q4⟩ := HL.out.p1
            have hp := play_any b1 c1 a' s2 s kind y _ q3 q4 HG.out hb13 hc13 HL.out.ne.1
            have HP := Lib.hid hp
            clear hp q3 q4
            go_wp2_with fail
            refine HP.out.mono ?_
            rintro e v1 ⟨rfl, ⟨s3, a3, q5, q6⟩, n1⟩
            have hLn := HL.out.play1 n1 ⟨_, _, _, q5, q6⟩
            clear n1 q5 q6
            go_wp2_with fail
            go_roundw
            case rel => exact ⟨b1, b2, c1, c2, k + 1, by omega, rfl, rfl, rfl, rfl, by go_num, hLn⟩
            case measure => simp [intOf]; omega
    · obtain rfl : k = xs.length := by omega
      have hkI : ¬ (xs.length : Int) < (xs.length : Int) := by omega
      go_wp2_with fail
      go_ret
      exact ⟨rfl, hL.mod⟩
end Go.Proofs.YtobimhmllkfmfaaDoor
