/- slices.swapRangeCmpFunc: two parts of a row, as long as each other, exchanged. (Th) -/
import Derived.Test.YtcalbbfkgdfidaaDoorSoRow
namespace Go.Proofs.YtcalbbfkgdfidaaDoor
open Go.RowKit Go.Sort Go.Lib
set_option linter.unusedVariables false
set_option linter.unusedSimpArgs false
set_option maxRecDepth 100000


set_option maxHeartbeats 4000000 in
theorem swapRangeTh_any {enc : Nat → List Value} (E : Enc enc 2) (X U M V Y : List Nat) (a b n g cap : Nat) (fv : Value) (W : World) (ha : a = X.length) (hU : U.length = n) (hV : V.length = n) (hb : b = X.length + n + M.length)
    (hR : Row enc 2 W g (X ++ (U ++ (M ++ (V ++ Y))))) (hg : g < W.heap.size) (L : Nat) (hL : (X ++ (U ++ (M ++ (V ++ Y)))).length = L) (hsz : L ≤ 1152921504606846976) :
    Calls Tryd.prog 83 #[.slice (some ⟨g, 0, none⟩) L cap, .int .i64 a, .int .i64 b, .int .i64 n, fv] W fun e W' => e = .returned (.tuple #[]) ∧ Row enc 2 W' g (X ++ (V ++ (M ++ (U ++ Y)))) ∧ Mod [g] W W' := by
  have HR := Lib.hid hR; have HE := Lib.hid E; have HG := Lib.hid hg
  have HA := Lib.hid ha; have HB := Lib.hid hb
  clear hR E hg
  have hlen : X.length + (n + (M.length + (n + Y.length))) = L := by rw [← hL]; simp [hU, hV]
  have HL := Lib.hid hL
  have han : a + n ≤ L := by omega
  have hbn : b + n ≤ L := by omega
  have HLN := Lib.hid hlen
  clear hL ha hb hlen
  go_enter Tryd.func83, Tryd.ntmps83
  go_wp2_with fail
  go_loopw [10] (fun iv wr => ∃ (i : Nat), i ≤ n ∧ iv = .int .i64 (i : Nat) ∧ Row enc 2 wr g (X ++ ((V.take i ++ U.drop i) ++ (M ++ ((U.take i ++ V.drop i) ++ Y)))) ∧ Mod [g] W wr) (fun iv _ => n - (intOf iv).toNat)
  case atStart => exact ⟨0, by omega, rfl, by simpa using HR.out, Mod.refl _ _⟩
  case round =>
    obtain ⟨i, hi, rfl, hr, hm⟩ := hrel
    have HRR := Lib.hid hr; have HM := Lib.hid hm
    clear hr hm
    by_cases hlt : i < n
    · have hiI : (i : Int) < (n : Int) := by omega
      obtain ⟨lc, hlc⟩ : ∃ lc, lc = X ++ ((V.take i ++ U.drop i) ++ (M ++ ((U.take i ++ V.drop i) ++ Y))) := ⟨_, rfl⟩
      rw [← hlc] at HRR
      have hll : lc.length = L := by rw [hlc]; simp [hU, hV]; have := HLN.out; omega
      have Hlc := Lib.hid hlc
      clear hlc
      have NX := HRR.out.swap2 HE.out Tryd.prog (a + i) (b + i) (by omega) (by omega)
      obtain ⟨x0, x1, y0, y1, hx, hy, ca0, ca1, cb0, cb1, s0, s1, s2, s3, hn⟩ := NX
      have HN := Lib.hid hn
      clear hx hy hn
      have w1 : IntKind.i64.wrap ((a : Int) + (i : Int)) = (a : Int) + (i : Int) := by rw [IntKind.wrap_i64]; omega
      have w2 : IntKind.i64.wrap ((b : Int) + (i : Int)) = (b : Int) + (i : Int) := by rw [IntKind.wrap_i64]; omega
      have t1 : ((a : Int) + (i : Int)).toNat = a + i := by omega
      have t2 : ((b : Int) + (i : Int)).toNat = b + i := by omega
      have q1 : (a : Int) + (i : Int) < (L : Int) := by omega
      have q2 : (b : Int) + (i : Int) < (L : Int) := by omega
      have q3 : (0 : Int) ≤ (a : Int) + (i : Int) := by omega
      have q4 : (0 : Int) ≤ (b : Int) + (i : Int) := by omega
      go_wp2_with fail
      go_region
      have MN := Lib.hid (HM.out.trans (HN.out.2) (fun t ht => .inl ht))
      have RN := Lib.hid HN.out.1
      clear HN s0 s1 s2 s3 ca0 ca1 cb0 cb1
      generalize World.setCell _ _ _ = wn at *
      go_wp2_with fail
      go_roundw
      case rel =>
        refine ⟨i + 1, by omega, by go_num, ?_, MN.out⟩
        have h := RN.out
        rw [Hlc.out, swap_step X U M V Y i n (a + i) (b + i) hU hV hlt (by rw [HA.out]) (by rw [HB.out])] at h
        exact h
      case measure => simp [intOf]; omega
    · obtain rfl : i = n := by omega
      have hiI : ¬ (i : Int) < (i : Int) := by omega
      go_wp2_with fail
      go_end0
      refine ⟨rfl, ?_, HM.out⟩
      have h := HRR.out
      rw [List.take_of_length_le (by omega), List.take_of_length_le (by omega), List.drop_of_length_le (by omega), List.drop_of_length_le (by omega), List.append_nil, List.append_nil] at h
      exact h
end Go.Proofs.YtcalbbfkgdfidaaDoor
