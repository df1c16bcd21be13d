/- slices.stableCmpFunc: chunks of twenty sorted, then merged. (Th) -/
import Derived.Test.YtcalbbfkgdfidaaDoorSoInsTh
import Derived.Test.YtcalbbfkgdfidaaDoorSoSymATh
import Derived.Test.YtcalbbfkgdfidaaDoorSoSymBTh
import Derived.Test.YtcalbbfkgdfidaaDoorSoSymCTh
import Derived.Deep.DeepCutAuto
namespace Go.Proofs.YtcalbbfkgdfidaaDoor
open Go.RowKit Go.Sort Go.Lib
set_option linter.unusedVariables false
set_option linter.unusedSimpArgs false
set_option maxRecDepth 100000


theorem symTh_all {enc : Nat → List Value} {f : Nat → Nat → Int} (E : Enc enc 2) : ∀ n, SymKTh enc f n
  | 0 => fun X A B Y a m b g cap L W hn hA hB => by omega
  | n + 1 => fun X A B Y a m b g cap L W hn hA hB hC ha hm hb hR hg hL hsz => by
    by_cases h1 : A.length = 1
    · obtain ⟨x, rfl⟩ : ∃ x, A = [x] := by
        match A, h1 with
        | [x], _ => exact ⟨x, rfl⟩
      exact symATh_any E X B Y x a m b g cap W hC ha (by simpa using hm) (by simpa using hb) (by simpa using hR) hg L (by simpa using hL) hsz
    · by_cases h2 : B.length = 1
      · obtain ⟨y, rfl⟩ : ∃ y, B = [y] := by
          match B, h2 with
          | [y], _ => exact ⟨y, rfl⟩
        exact symBTh_any E X A Y y a m b g cap W hC ha hm (by rw [hb, hm]; simp) h1 (by simpa using hR) hg L (by simpa using hL) hsz
      · exact symCTh_any E n (symTh_all E n) X A B Y a m b g cap L W hn (by omega) (by omega) hC ha hm hb hR hg hL hsz
theorem symTh_any {enc : Nat → List Value} {f : Nat → Nat → Int} (E : Enc enc 2) (X A B Y : List Nat) (a m b g cap L : Nat) (W : World) (hA : 0 < A.length) (hB : 0 < B.length) (hC : CmpOk 11 enc f W g)
    (ha : a = X.length) (hm : m = X.length + A.length) (hb : b = X.length + A.length + B.length) (hR : Row enc 2 W g (X ++ (A ++ (B ++ Y)))) (hg : g < W.heap.size) (hL : (X ++ (A ++ (B ++ Y))).length = L) (hsz : L ≤ 1152921504606846976) :
    Calls Tryd.prog 64 #[.slice (some ⟨g, 0, none⟩) L cap, .int .i64 a, .int .i64 m, .int .i64 b, .func (.func 11) #[] #[]] W fun e W' => e = .returned (.tuple #[]) ∧ ∃ C, So.Merged f A B C ∧ Row enc 2 W' g (X ++ (C ++ Y)) ∧ Mod [g] W W' :=
  symTh_all E _ X A B Y a m b g cap L W (Nat.le_refl _) hA hB hC ha hm hb hR hg hL hsz

/-- what stands when a chunk of the row has been done: D done, R not yet -/
def StsTh (enc : Nat → List Value) (f : Nat → Nat → Int) (s : Nat) (n g : Nat) (W w : World) (a : Nat) : Prop :=
  ∃ D R, So.Hd f (2 * s) a D ∧ So.Ch f s a R ∧ a + R.length = n ∧ Row enc 2 w g (D ++ R) ∧ Mod [g] W w
set_option maxHeartbeats 4000000 in
theorem stableTh_any {enc : Nat → List Value} {f : Nat → Nat → Int} (E : Enc enc 2) (n g cap : Nat) (W : World) (hC : CmpOk 11 enc f W g) (hR : Row enc 2 W g (List.range' 0 n)) (hg : g < W.heap.size) (hsz : n ≤ 1152921504606846976) :
    Calls Tryd.prog 46 #[.slice (some ⟨g, 0, none⟩) n cap, .int .i64 n, .func (.func 11) #[] #[]] W fun e W' => e = .returned (.tuple #[]) ∧ ∃ C, So.Chunk f 0 C ∧ C.length = n ∧ Row enc 2 W' g C ∧ Mod [g] W W' := by
  have HR := Lib.hid hR; have HE := Lib.hid E; have HG := Lib.hid hg; have HCC := Lib.hid hC; have HSZ := Lib.hid hsz
  clear hR E hg hC
  go_enter Tryd.func46, Tryd.ntmps46
  go_wp2_with fail
  go_loopw [7, 8] (fun av bv wr => ∃ (a : Nat) (D : List Nat), av = .int .i64 (a : Nat) ∧ bv = .int .i64 ((a + 20 : Nat) : Int) ∧ a ≤ n ∧ So.Hd f 20 a D ∧ Row enc 2 wr g (D ++ List.range' a (n - a)) ∧ Mod [g] W wr) (fun av _ _ => n - (intOf av).toNat)
  case atStart => exact ⟨0, [], rfl, rfl, by omega, .nil _, by simpa using HR.out, Mod.refl _ _⟩
  case round =>
    obtain ⟨a, D, rfl, rfl, han, hD, hr, hm⟩ := hrel
    obtain ⟨b, hb⟩ : ∃ b, a + 20 = b := ⟨_, rfl⟩
    rw [hb]
    have HRR := Lib.hid hr; have HM := Lib.hid hm; have HD := Lib.hid hD; have HB := Lib.hid hb
    have hgw : g < wr.heap.size := Nat.lt_of_lt_of_le HG.out HM.out.size
    clear hr hm hD hb
    by_cases hlt : b ≤ n
    · have hltI : (b : Int) ≤ (n : Int) := by omega
      have hl : D.length = a := HD.out.1
      have e1 : List.range' a (n - a) = List.range' a 20 ++ List.range' b (n - b) := by rw [← HB.out, List.range'_append_1]; congr 1; have := HB.out; omega
      have HC := Lib.hid (insertionTh_any HE.out D (List.range' a 20) (List.range' b (n - b)) a b g cap wr (HCC.out.past HM.out) hl.symm (by rw [hl, List.length_range']; exact HB.out.symm) (by rw [← e1]; exact HRR.out) hgw n (by rw [← e1, List.length_append, hl, List.length_range']; omega) HSZ.out)
      clear hl e1 hgw
      go_wp2_with fail
      refine Calls.mono HC.out ?_
      rintro e2 w2 ⟨rfl, C, hS, r2, m2⟩
      have R2 := Lib.hid r2; have M2 := Lib.hid m2; have HS := Lib.hid hS
      clear r2 m2 HC hS
      go_wp2_with fail
      go_roundw
      case rel => exact ⟨b, D ++ C, rfl, by go_num, by omega, by rw [← HB.out]; exact HD.out.snoc (by rw [HS.out.1.length_eq, List.length_range']) (So.Chunk.sorted HS.out), by rw [List.append_assoc]; exact R2.out, HM.out.trans M2.out (fun t ht => .inl ht)⟩
      case measure => have := HB.out; simp [intOf]; omega
    · have hltI : ¬ (b : Int) ≤ (n : Int) := by omega
      have hl : D.length = a := HD.out.1
      have HC := Lib.hid (insertionTh_any HE.out D (List.range' a (n - a)) [] a n g cap wr (HCC.out.past HM.out) hl.symm (by rw [hl, List.length_range']; omega) (by rw [List.append_nil]; exact HRR.out) hgw n (by rw [List.append_nil, List.length_append, hl, List.length_range']; omega) HSZ.out)
      have hnb : n - a ≤ 20 := by have := HB.out; omega
      have HNB := Lib.hid hnb
      clear hl hgw hnb
      go_wp2_with fail
      refine Calls.mono HC.out ?_
      rintro e2 w2 ⟨rfl, C, hS, r2, m2⟩
      have hc0 : So.Ch f 20 0 (D ++ C) := HD.out.end (by rw [hS.1.length_eq, List.length_range']; exact HNB.out) (So.Chunk.sorted hS)
      have hlen : (D ++ C).length = n := by rw [List.length_append, hS.1.length_eq, List.length_range', HD.out.1]; omega
      have R2 : Hid (∃ l, So.Ch f 20 0 l ∧ l.length = n ∧ Row enc 2 w2 g l ∧ Mod [g] W w2) := Lib.hid ⟨_, hc0, hlen, by simpa using r2, HM.out.trans m2 (fun t ht => .inl ht)⟩
      clear r2 m2 HC hS hc0 hlen HRR HM HD HNB
      go_wp2_with fail
      go_loopw [6, 7, 8] (fun sv _ _ wr => ∃ (s : Nat) (l : List Nat), sv = .int .i64 (s : Nat) ∧ 0 < s ∧ s ≤ 2305843009213693952 ∧ So.Ch f s 0 l ∧ l.length = n ∧ Row enc 2 wr g l ∧ Mod [g] W wr) (fun sv _ _ _ => n - (intOf sv).toNat)
      case atStart =>
        obtain ⟨l, h1, h2, h3, h4⟩ := R2.out
        exact ⟨20, l, rfl, by omega, by omega, h1, h2, h3, h4⟩
      case round =>
        obtain ⟨s, l, rfl, hs0, hsM, hCh, hll, hr, hm⟩ := hrel
        have HRR := Lib.hid hr; have HM := Lib.hid hm; have HCh := Lib.hid hCh; have HLL := Lib.hid hll
        clear hr hm hCh hll R2
        by_cases hlt : s < n
        · have hltI : (s : Int) < (n : Int) := by omega
          obtain ⟨t, ht⟩ : ∃ t, t = 2 * s := ⟨_, rfl⟩
          have htI : (2 : Int) * (s : Int) = (t : Nat) := by omega
          have htI2 : (s : Int) * (2 : Int) = (t : Nat) := by omega
          have HT := Lib.hid ht
          have htM : t ≤ 2305843009213693952 := by omega
          clear ht
          go_wp2_with fail
          go_loopw [7, 8] (fun av bv wq => ∃ (a b : Nat), av = .int .i64 (a : Nat) ∧ bv = .int .i64 (b : Nat) ∧ b = a + t ∧ a ≤ n ∧ StsTh enc f s n g W wq a) (fun av _ _ => n - (intOf av).toNat)
          case atStart => exact ⟨0, t, rfl, rfl, by omega, by omega, [], l, .nil _, HCh.out, by rw [HLL.out]; omega, HRR.out, HM.out⟩
          case round =>
            obtain ⟨a, b, rfl, rfl, hb, han, hS⟩ := hrel
            obtain ⟨D, R, hD, hCR, hlR, hr, hm⟩ := hS
            have R3 := Lib.hid hr; have M3 := Lib.hid hm; have HD := Lib.hid hD; have HCR := Lib.hid hCR; have HLR := Lib.hid hlR; have HB := Lib.hid hb
            have hgw : g < wr.heap.size := Nat.lt_of_lt_of_le HG.out M3.out.size
            have hbM : b ≤ 4611686018427387904 := by omega
            clear hr hm hD hCR hlR hb HRR HM HCh HLL
            by_cases hlt2 : b ≤ n
            · have hltI2 : (b : Int) ≤ (n : Int) := by omega
              obtain ⟨A, B, R', eR, hA, hB, cA, cB, cR⟩ := So.Ch.two hs0 HCR.out (by have := HLR.out; have := HB.out; have := HT.out; omega)
              have hDl := HD.out.1
              obtain ⟨m, hm⟩ : ∃ m, m = a + s := ⟨_, rfl⟩
              have hmI : (a : Int) + (s : Int) = (m : Nat) := by omega
              have wm : IntKind.i64.wrap (m : Int) = (m : Int) := by rw [IntKind.wrap_i64]; omega
              have HC := Lib.hid (symTh_any HE.out D A B R' a m b g cap n wr (by omega) (by omega) (HCC.out.past M3.out) hDl.symm (by omega) (by have := HB.out; have := HT.out; omega) (by rw [← eR]; exact R3.out) hgw (by rw [← eR, List.length_append, hDl]; exact HLR.out) HSZ.out)
              have hR'l : b + R'.length = n := by have := HLR.out; rw [eR] at this; simp only [List.length_append] at this; have := HB.out; have := HT.out; omega
              have HA := Lib.hid hA; have HBl := Lib.hid hB; have CA := Lib.hid cA; have CB := Lib.hid cB; have CR := Lib.hid cR; have HRl := Lib.hid hR'l
              clear eR hA hB cA cB cR hDl hm hR'l hgw
              go_wp2_with fail
              refine Calls.mono HC.out ?_
              rintro e2 w2 ⟨rfl, C, hS, r2, m2⟩
              have R4 := Lib.hid r2; have M4 := Lib.hid m2; have HS := Lib.hid hS
              clear r2 m2 HC hS
              have hnx : (b : Int) + (t : Int) = ((b + t : Nat) : Int) := by omega
              obtain ⟨b2, hb2⟩ : ∃ b2, b2 = b + t := ⟨_, rfl⟩
              rw [← hb2] at hnx
              have HB2 := Lib.hid hb2
              clear hb2
              go_wp2_with fail
              go_roundw
              case rel =>
                refine ⟨b, b2, rfl, rfl, HB2.out, by omega, D ++ C, R', ?_, ?_, HRl.out, by simpa only [List.append_assoc] using R4.out, M3.out.trans M4.out (fun t ht => .inl ht)⟩
                · rw [HB.out, HT.out]
                  exact HD.out.snoc (by rw [HS.out.1.length_eq, List.length_append, HA.out, HBl.out]; omega) (CA.out.merge (by rw [HA.out]; exact CB.out) HS.out)
                · rw [HB.out, HT.out]; exact CR.out
              case measure => have := HB.out; have := HT.out; simp [intOf]; omega
            · have hltI2 : ¬ (b : Int) ≤ (n : Int) := by omega
              have hDl := HD.out.1
              obtain ⟨m, hm⟩ : ∃ m, m = a + s := ⟨_, rfl⟩
              have hmI : (a : Int) + (s : Int) = (m : Nat) := by omega
              have wm : IntKind.i64.wrap (m : Int) = (m : Int) := by rw [IntKind.wrap_i64]; omega
              have hRl : R.length < 2 * s := by have := HLR.out; have := HB.out; have := HT.out; omega
              by_cases hmn : m < n
              · have hmnI : (m : Int) < (n : Int) := by omega
                obtain ⟨A, B, eR, hA, cA, cB⟩ := So.Ch.split hs0 HCR.out (by have := HLR.out; omega) hRl
                have hlB : 0 < B.length := by have := HLR.out; rw [eR, List.length_append] at this; omega
                have HC := Lib.hid (symTh_any HE.out D A B [] a m n g cap n wr (by omega) hlB (HCC.out.past M3.out) hDl.symm (by omega) (by have := HLR.out; rw [eR, List.length_append] at this; omega) (by rw [List.append_nil, ← eR]; exact R3.out) hgw (by rw [List.append_nil, ← eR, List.length_append, hDl]; exact HLR.out) HSZ.out)
                have FIN : Hid (∀ w2 C, So.Merged f A B C → Row enc 2 w2 g (D ++ (C ++ [])) → Mod [g] wr w2 → ∃ l, So.Ch f t 0 l ∧ l.length = n ∧ Row enc 2 w2 g l ∧ Mod [g] W w2) := Lib.hid (by
                  intro w2 C hS r2 m2
                  have hCl : C.length = R.length := by rw [hS.1.length_eq, eR]
                  refine ⟨D ++ C, ?_, by rw [List.length_append, hCl, hDl]; exact HLR.out, by simpa using r2, M3.out.trans m2 (fun t ht => .inl ht)⟩
                  rw [HT.out]
                  exact HD.out.end (by rw [hCl]; omega) (cA.merge (by rw [hA]; exact cB) hS))
                clear eR hA cA cB hDl hm hRl hlB hgw HLR HCR
                go_wp2_with fail
                refine Calls.mono HC.out ?_
                rintro e2 w2 ⟨rfl, C, hS, r2, m2⟩
                have R4 := Lib.hid (FIN.out _ _ hS r2 m2)
                clear r2 m2 HC hS FIN
                go_wp2_with fail
                go_roundw
                case rel =>
                  obtain ⟨l, h1, h2, h3, h4⟩ := R4.out
                  exact ⟨t, l, rfl, by omega, htM, h1, h2, h3, h4⟩
                case measure => have := HT.out; simp [intOf]; omega
              · have hmnI : ¬ (m : Int) < (n : Int) := by omega
                have R4 : Hid (∃ l, So.Ch f t 0 l ∧ l.length = n ∧ Row enc 2 wr g l ∧ Mod [g] W wr) := Lib.hid ⟨D ++ R, by rw [HT.out]; exact HD.out.end (by omega) (So.Ch.one hs0 HCR.out (by have := HLR.out; omega)), by rw [List.length_append, hDl]; exact HLR.out, R3.out, M3.out⟩
                clear hDl hm hRl hgw HLR HCR R3 M3
                go_wp2_with fail
                go_roundw
                case rel =>
                  obtain ⟨l, h1, h2, h3, h4⟩ := R4.out
                  exact ⟨t, l, rfl, by omega, htM, h1, h2, h3, h4⟩
                case measure => have := HT.out; simp [intOf]; omega
        · have hltI : ¬ (s : Int) < (n : Int) := by omega
          go_wp2_with fail
          go_end0
          exact ⟨rfl, l, HCh.out.one hs0 (by rw [HLL.out]; omega), HLL.out, HRR.out, HM.out⟩
end Go.Proofs.YtcalbbfkgdfidaaDoor
