/- ValueSortsAny: the law's walk. -/
import Derived.Test.YtcalbbfkgdfidaaDoorSoSdTh
import Derived.Test.YtcalbbfkgdfidaaDoorSoLow
import Derived.Test.YtcalbbfkgdfidaaDoorVaAwake
import Derived.Laws.StructEq
namespace Go.Proofs.YtcalbbfkgdfidaaDoor
open Go.RowKit Go.Sort Go.Lib
set_option linter.unusedVariables false
set_option linter.unusedSimpArgs false
set_option maxRecDepth 100000

/-- a slice of things as it lies -/
def TRow (w : World) (v : Value) (T : Nat → Thg) (n : Nat) : Prop :=
  (∃ a c, v = .slice a 0 c ∧ n = 0) ∨ (∃ b off cap, v = .slice (some ⟨b, off, none⟩) n cap ∧ ∀ i, i < n → w.cell? ⟨b, off + i * 2, none⟩ = some (.int .i64 (T i).n) ∧ w.cell? ⟨b, off + i * 2 + 1, none⟩ = some (.bool (T i).odd))
theorem TRow.lit {w : World} {v : Value} {T : Nat → Thg} {n : Nat} (h : TRow w v T n) : ∃ a c, v = .slice a n c := by
  rcases h with ⟨a, c, rfl, rfl⟩ | ⟨b, off, cap, rfl, -⟩
  · exact ⟨_, _, rfl⟩
  · exact ⟨_, _, rfl⟩
theorem TRow.keep {w w' : World} {v : Value} {T : Nat → Thg} {n : Nat} (h : TRow w v T n) (hm : Mod [] w w') : TRow w' v T n := by
  rcases h with h | ⟨b, off, cap, rfl, h⟩
  · exact .inl h
  · exact .inr ⟨b, off, cap, rfl, fun i hi => ⟨hm.cell (h i hi).1 (by simp), hm.cell (h i hi).2 (by simp)⟩⟩
theorem TRow.src {w : World} {v : Value} {T : Nat → Thg} {n : Nat} (h : TRow w v T n) : Src Tryd.prog 2 35 v n (flL (encT T) 2 (List.range' 0 n)) w := by
  rcases h with ⟨a, c, rfl, rfl⟩ | ⟨b, off, cap, rfl, h⟩
  · cases a with
    | none => rw [show flL (encT T) 2 (List.range' 0 0) = [] by simp [flL, flatK]]; exact Src.ofNil (size := 2) w Tryd.underlying35 c
    | some a => rw [show flL (encT T) 2 (List.range' 0 0) = [] by simp [flL, flatK]]; exact Src.ofSlice w Tryd.underlying35 a 0 c [] (by simp) (by simp) (by simp)
  · refine Src.ofSlice w Tryd.underlying35 _ _ cap _ (by rw [flL_len]; simp) (fun j u hu => ?_) (flL_one (encT_enc T) _)
    have hj : j < (List.range' 0 n).length * 2 := by have := (List.getElem?_eq_some_iff.1 hu).1; rwa [flL_len] at this
    rw [flL_get _ _ _ _ hj, get_flatK _ _ _ j (by rw [List.size_toArray]; exact hj)] at hu
    rw [List.length_range'] at hj
    have hj2 : j / 2 < n := by omega
    have e1 : (List.range' 0 n).toArray[j / 2]! = j / 2 := by simp [hj2]
    rw [e1] at hu
    obtain ⟨h1, h2⟩ := h (j / 2) hj2
    rw [addr_add, ← Option.some.inj hu]
    rcases Nat.mod_two_eq_zero_or_one j with hm | hm
    · rw [hm, show off + j = off + j / 2 * 2 by omega, h1]; rfl
    · rw [hm, show off + j = off + j / 2 * 2 + 1 by omega, h2]; rfl
theorem TRow.at {w : World} {a : Option Addr} {c : Nat} {T : Nat → Thg} {n : Nat} (h : TRow w (.slice a n c) T n) (i : Nat) (hi : i < n) :
    ∃ b off, a = some ⟨b, off, none⟩ ∧ w.cell? ⟨b, off + i * 2, none⟩ = some (.int .i64 (T i).n) ∧ w.cell? ⟨b, off + i * 2 + 1, none⟩ = some (.bool (T i).odd) := by
  rcases h with ⟨a, c, -, h0⟩ | ⟨b, off, cap, hh, h⟩
  · omega
  · simp only [Value.slice.injEq] at hh
    exact ⟨b, off, hh.1, h i hi⟩
theorem Row.thg {T : Nat → Thg} {W : World} {g : Nat} {l : List Nat} (h : Row (encT T) 2 W g l) (p x : Nat) (hp : p < l.length) (hx : l.getD p 0 = x) : W.cell? ⟨g, p * 2, none⟩ = some (.int .i64 (T x).n) ∧ W.cell? ⟨g, p * 2 + 1, none⟩ = some (.bool (T x).odd) := by
  subst hx
  have h1 := (h.cell (encT_enc T) p hp 0 _ rfl).1
  have h2 := (h.cell (encT_enc T) p hp 1 _ rfl).1
  rw [Nat.add_zero] at h1
  exact ⟨h1, h2⟩
theorem fst_step {f : Nat → Nat → Int} (j : Nat) : ((List.range (j + 1)).filter (So.fst? f)).length = ((List.range j).filter (So.fst? f)).length + (if So.fst? f j then 1 else 0) := by
  rw [List.range_succ, List.filter_append, List.length_append]
  by_cases h : So.fst? f j = true
  · rw [if_pos h]; simp [h]
  · rw [if_neg h]; simp [h]
def fstK (f : Nat → Nat → Int) (j k : Nat) : Bool := (List.range k).all fun x => decide (f x j ≠ 0)
theorem fstK_end (f : Nat → Nat → Int) (j : Nat) : fstK f j j = So.fst? f j := rfl
theorem fstK_no {f : Nat → Nat → Int} {j k : Nat} (hk : k ≤ j) (h : fstK f j k = false) : So.fst? f j = false := by
  unfold fstK at h; unfold So.fst?
  rw [List.all_eq_false] at h ⊢
  obtain ⟨x, hx, hh⟩ := h
  exact ⟨x, List.mem_range.2 (Nat.lt_of_lt_of_le (List.mem_range.1 hx) hk), hh⟩
theorem fstK_step (f : Nat → Nat → Int) (j k : Nat) (h : fstK f j k = true) : fstK f j (k + 1) = decide (f k j ≠ 0) := by
  unfold fstK at h ⊢
  rw [List.range_succ, List.all_append, h]; simp
theorem range_get (n p : Nat) (hp : p < n) : (List.range' 0 n).getD p 0 = p := by simp [hp]
theorem range_snoc (n : Nat) : List.range' 0 (n + 1) = List.range' 0 n ++ [n] := by rw [List.range'_1_concat]; simp
set_option maxHeartbeats 4000000 in
theorem ValueSortsAny_any (T : Nat → Thg) (n : Nat) (hn : n * 16 ≤ 140737488351232) (hT : T n = ⟨-7, false⟩) (hT2 : ∀ i, n ≤ i → (T i).odd = false) (v : Value) (w : World) (h : TRow w v T n) (hg : GlobV w) :
    Calls Tryd.prog 4 #[v] w fun e w' => e = .returned (.bool true) ∧ Mod [] w w' := by
  obtain ⟨a, c, rfl⟩ := h.lit
  obtain ⟨i0, hinf, hz0, hz1, hz2⟩ := info_parts Tryd.infoTh
  have HT := Lib.hid hT; have HT2 := Lib.hid hT2; have H := Lib.hid h; have HG := Lib.hid hg
  have HA := Lib.hid (awake_any w hg)
  clear h hg hT hT2
  go_enter Tryd.func4, Tryd.ntmps4
  go_wp2_with fail
  refine Calls.mono HA.out ?_
  rintro e1 w1 ⟨rfl, m1⟩
  have H1 := Lib.hid (H.out.keep m1); have M1 := Lib.hid m1
  clear m1 HA H
  go_wp2_with fail
  go_loopw [4, 5] (fun ov iv wr => ∃ (i : Nat), ov = .bool ((List.range i).any fun k => (T k).odd) ∧ iv = .int .i64 (i : Nat) ∧ i ≤ n ∧ w1 = wr) (fun _ iv _ => n - (intOf iv).toNat)
  case atStart => exact ⟨0, rfl, rfl, by omega, rfl⟩
  case round =>
    obtain ⟨i, rfl, rfl, hi, rfl⟩ := hrel
    by_cases hlt : i < n
    · have hltI : (i : Int) < (n : Int) := by omega
      obtain ⟨b, off, rfl, c0, c1⟩ := H1.out.at i hlt
      obtain ⟨o, ho⟩ : ∃ o, o = (List.range i).any fun k => (T k).odd := ⟨_, rfl⟩
      obtain ⟨oo, hoo⟩ : ∃ oo, oo = (T i).odd := ⟨_, rfl⟩
      have hs : (List.range (i + 1)).any (fun k => (T k).odd) = (o || oo) := by rw [List.range_succ, List.any_append, ← ho, hoo]; simp
      rw [← hoo] at c1
      rw [← ho]
      have HS := Lib.hid hs
      clear hs ho hoo
      cases o with
      | true =>
        go_wp2_with fail
        go_roundw
        case rel => exact ⟨i + 1, by rw [HS.out]; rfl, by go_num, by omega, trivial⟩
        case measure => simp [intOf]; omega
      | false =>
        go_wp2_with fail
        go_roundw
        case rel => exact ⟨i + 1, by rw [HS.out]; rfl, by go_num, by omega, trivial⟩
        case measure => simp [intOf]; omega
    · obtain rfl : i = n := by omega
      have hltI : ¬ (i : Int) < (i : Int) := by omega
      obtain ⟨o, ho⟩ : ∃ o, o = (List.range i).any fun k => (T k).odd := ⟨_, rfl⟩
      rw [← ho]
      have HO := Lib.hid ho
      clear ho
      have S1 := Lib.hid H1.out.src
      go_wp2_with (at_builtin; refine wpList_append_src _ rfl _ _ 35 35 rfl 37 i0 (.agg #[.int .i64 0, .bool false]) 2 16 Tryd.underlying35 hinf hz0 hz1 hz2 rfl (.slice none 0 0) 0 [] rfl (World.ownsRow_nil _ _ _ _) _ i (flL (encT T) 2 (List.range' 0 i)) rfl S1.out (by unfold maxLen; omega) (by omega) ?_)
      intro v2 w2 hown2 hm2 hf2 hn2
      try rw [List.nil_append] at hown2
      try rw [Nat.zero_add] at hown2
      have hm2q : Mod [] w1 w2 := hm2
      have hs2 : ∃ a2 c2, v2 = .slice a2 i c2 := by
        rcases hown2.2 with ⟨rfl, h0⟩ | ⟨g, cap, cur, rfl, -⟩
        · exact ⟨_, _, by rw [h0]⟩
        · exact ⟨_, _, rfl⟩
      obtain ⟨a2, c2, rfl⟩ := hs2
      have mA := (Mod.refl [] w2).alloc (Obj.cells #[.int .i64 (-7), .bool false] 37)
      have O2 := Lib.hid (mA.owns hown2 (by simp))
      have S2 : Hid (Src Tryd.prog 2 35 (.slice (some ⟨w2.heap.size, 0, none⟩) 1 1) 1 [.int .i64 (-7), .bool false] (w2.alloc (Obj.cells #[.int .i64 (-7), .bool false] 37))) := Lib.hid (by
        refine Src.ofSlice _ Tryd.underlying35 ⟨w2.heap.size, 0, none⟩ 1 1 _ rfl (fun j u hu => ?_) (fun u hu => by simp at hu; rcases hu with rfl | rfl <;> rfl)
        rw [addr_add, Nat.zero_add]
        unfold World.cell?
        simp only [heap_alloc_new]
        rw [← Array.getElem?_toList]; exact hu)
      have M2 := Lib.hid (hm2q.trans mA (by simp)); have F2 := Lib.hid hf2
      clear hown2 hm2 hf2 hn2 hm2q mA S1
      go_wp2_with (at_builtin; refine wpList_append_src _ rfl _ _ 35 35 rfl 37 i0 (.agg #[.int .i64 0, .bool false]) 2 16 Tryd.underlying35 hinf hz0 hz1 hz2 rfl _ i (flL (encT T) 2 (List.range' 0 i)) rfl O2.out _ 1 [.int .i64 (-7), .bool false] rfl S2.out (by unfold maxLen; omega) (by omega) ?_)
      intro v3 w3 hown3 hm3 hf3 hn3
      have M3 : Mod [] w w3 := (M1.out.trans M2.out (by simp)).trans hm3 (fun t ht => .inr (by
        have := (F2.out t ht).resolve_left (by simp [fp])
        have := M1.out.size
        omega))
      have M13 : Mod [] w1 w3 := M2.out.trans hm3 (fun t ht => .inr ((F2.out t ht).resolve_left (by simp [fp])))
      have hfl : flL (encT T) 2 (List.range' 0 i) ++ [.int .i64 (-7), .bool false] = flL (encT T) 2 (List.range' 0 (i + 1)) := by
        rw [range_snoc, flL_app (encT_enc T)]
        simp only [encT, HT.out, thL]
      rw [hfl] at hown3
      obtain ⟨g, cap, rfl, hcap, -, hR3, hg3⟩ := Row.own hown3 (by simp) hn3
      have hicap : i ≤ cap := by omega
      have HSD := Lib.hid (sortedTh_any (encT_enc T) i g cap w3 (fun w' _ q _ => low_cmp T w' q) (Row.pre (R := [i]) (by rw [← range_snoc]; exact hR3)) (by omega))
      have R3 := Lib.hid hR3; have G3 := Lib.hid hg3; have H3 := Lib.hid (H1.out.keep M13); have MM := Lib.hid M3
      clear hown3 hm3 hf3 hn3 M3 M13 hfl hR3 hg3 O2 S2 M2 F2 M1 H1
      have hin : i ≤ i + 1 := by omega
      go_wp2_with fail
      refine Calls.mono HSD.out ?_
      rintro e4 w4 ⟨q, C, rfl, hCh, hCl, hRK, hq1, hq2, m4⟩
      have RH := Lib.hid (R3.out.past m4 G3.out); have H4 := Lib.hid (H3.out.keep m4); have M4 := Lib.hid (MM.out.trans m4 (by simp)); have RK := Lib.hid hRK
      have GH := Lib.hid (Nat.lt_of_lt_of_le G3.out m4.size); have GQ := Lib.hid hq2
      clear HSD R3 G3 H3 MM m4 hRK hq1 hq2
      cases o with
      | true =>
        clear hCh hCl
        go_wp2_with fail
        go_ret
        exact ⟨rfl, M4.out⟩
      | false =>
        have hTe : ∀ k, (T k).odd = false := fun k => by
          rcases Nat.lt_or_ge k i with h | h
          · have := HO.out.symm
            rw [List.any_eq_false] at this
            simpa using this k (List.mem_range.2 h)
          · exact HT2.out k h
        have ord := low_ord T hTe
        have hK : So.Kinds (lowT T) i (So.cpt (lowT T) C) := So.Kinds.of ord (by have := hCh.1; rw [hCl, ← List.range_eq_range'] at this; exact this) (hCh.2 ord)
        obtain ⟨K, hKe⟩ : ∃ K, K = So.cpt (lowT T) C := ⟨_, rfl⟩
        rw [← hKe] at hK RK ⊢
        obtain ⟨nk, hnk⟩ : ∃ nk, nk = K.length := ⟨_, rfl⟩
        rw [← hnk]
        have HTE := Lib.hid hTe; have ORD := Lib.hid ord; have HK := Lib.hid hK; have HNK := Lib.hid hnk
        have c7 := (RH.out.thg i i (by simp) (range_get _ _ (by omega)))
        rw [HT.out] at c7
        obtain ⟨c70, c71⟩ := c7
        have hii : i < i + 1 := by omega
        have hnki : nk ≤ i := by have h1 := hK.count ord; have h2 := List.length_filter_le (So.fst? (lowT T)) (List.range i); rw [List.length_range] at h2; omega
        clear hTe ord hK hCh hCl hKe hnk
        go_wp2_with fail
        go_loopw [8, 9] (fun sv kv wr => ∃ (k : Nat), sv = .bool true ∧ kv = .int .i64 (k : Nat) ∧ k ≤ i ∧ Mod [] w4 wr) (fun _ kv _ => i - (intOf kv).toNat)
        case atStart => exact ⟨0, rfl, rfl, by omega, Mod.refl _ _⟩
        case round =>
          clear c70 c71
          obtain ⟨k, rfl, rfl, hk, hm⟩ := hrel
          have HM := Lib.hid hm
          clear hm
          by_cases hlt : k < i
          · have hltI : (k : Int) < (i : Int) := by omega
            obtain ⟨b, off, rfl, c0, c1⟩ := (H4.out.keep HM.out).at k hlt
            obtain ⟨d0, d1⟩ := (RH.out.past HM.out GH.out).thg k k (by simp; omega) (range_get _ _ (by omega))
            have hk1 : k < i + 1 := by omega
            obtain ⟨nn, hnn⟩ : ∃ nn, (T k).n = nn := ⟨_, rfl⟩
            obtain ⟨oo, hoo⟩ : ∃ oo, (T k).odd = oo := ⟨_, rfl⟩
            rw [hnn] at c0 d0; rw [hoo] at c1 d1
            clear hnn hoo
            go_wp2_with fail
            go_quiet (fail)
            go_wp2_with fail
            go_roundw
            case rel => exact ⟨k + 1, by simp, by go_num, by omega, HM.out.drewN _⟩
            case measure => simp [intOf]; omega
          · have hltI : ¬ (k : Int) < (i : Int) := by omega
            go_wp2_with fail
            clear hltI hlt
            go_loopw [10] (fun kv wr => ∃ (k : Nat), kv = .int .i64 ((k + 1 : Nat) : Int) ∧ Mod [] w4 wr) (fun kv _ => nk + 1 - (intOf kv).toNat)
            case atStart => exact ⟨0, rfl, HM.out⟩
            case round =>
              clear HM
              obtain ⟨k', rfl, hm⟩ := hrel
              have HM := Lib.hid hm
              obtain ⟨kk, hkk⟩ : ∃ kk, k' + 1 = kk := ⟨_, rfl⟩
              rw [hkk]
              have HKK := Lib.hid hkk
              clear hm hkk
              by_cases hlt : kk < nk
              · have hltI : (kk : Int) < (nk : Int) := by omega
                have hpI : (kk : Int) - 1 = (k' : Nat) := by have := HKK.out; omega
                have wp1 : IntKind.i64.wrap (k' : Int) = (k' : Int) := by rw [IntKind.wrap_i64]; have := HKK.out; omega
                have hk1 : k' < nk := by have := HKK.out; omega
                have hl1 : kk < K.length := by rw [← HNK.out]; exact hlt
                have hl0 : k' < K.length := by rw [← HNK.out]; exact hk1
                obtain ⟨c0, -⟩ := (RK.out.past HM.out GQ.out).thg k' K[k'] hl0 (by simp [List.getD_eq_getElem?_getD, hl0])
                obtain ⟨d0, -⟩ := (RK.out.past HM.out GQ.out).thg kk K[kk] hl1 (by simp [List.getD_eq_getElem?_getD, hl1])
                have hpw := List.pairwise_iff_getElem.1 HK.out.pw k' kk hl0 hl1 (by have := HKK.out; omega)
                simp only [lowT, lowI, HTE.out, Bool.or_self, Bool.false_eq_true, if_false] at hpw
                obtain ⟨nn, hnn⟩ : ∃ nn, (T K[k']).n = nn := ⟨_, rfl⟩
                obtain ⟨mm, hmm⟩ : ∃ mm, (T K[kk]).n = mm := ⟨_, rfl⟩
                rw [hnn] at c0 hpw; rw [hmm] at d0 hpw
                have hge : ¬ Go.bits BinOp.and IntKind.i64 mm 1023 ≤ Go.bits BinOp.and IntKind.i64 nn 1023 := by
                  show ¬ msk mm ≤ msk nn
                  omega
                clear hnn hmm hpw hl1 hl0
                go_wp2_with fail
                go_quiet (fail)
                go_wp2_with fail
                go_roundw
                case rel => exact ⟨kk, by go_num, HM.out.drewN _⟩
                case measure => simp [intOf]; omega
              · have hltI : ¬ (kk : Int) < (nk : Int) := by omega
                go_wp2_with fail
                clear hltI hlt
                go_loopw [11, 12] (fun cv jv wr => ∃ (j : Nat), cv = .int .i64 ((((List.range j).filter (So.fst? (lowT T))).length : Nat) : Int) ∧ jv = .int .i64 (j : Nat) ∧ j ≤ i ∧ Mod [] w4 wr) (fun _ jv _ => i - (intOf jv).toNat)
                case atStart => exact ⟨0, rfl, rfl, by omega, HM.out⟩
                case round =>
                  clear HM HKK
                  obtain ⟨j, rfl, rfl, hj, hm⟩ := hrel
                  have HM := Lib.hid hm
                  have hcn : ((List.range j).filter (So.fst? (lowT T))).length ≤ i := by
                    have h2 := List.length_filter_le (So.fst? (lowT T)) (List.range j); rw [List.length_range] at h2; omega
                  obtain ⟨cn, hce⟩ : ∃ cn, ((List.range j).filter (So.fst? (lowT T))).length = cn := ⟨_, rfl⟩
                  rw [hce] at hcn ⊢
                  have HCE := Lib.hid hce
                  clear hm hce
                  by_cases hlt : j < i
                  · have hltI : (j : Int) < (i : Int) := by omega
                    go_wp2_with fail
                    go_loopw [13, 14] (fun fv kv wr => ∃ (k : Nat), fv = .bool (fstK (lowT T) j k) ∧ kv = .int .i64 (k : Nat) ∧ k ≤ j ∧ Mod [] w4 wr) (fun _ kv _ => j - (intOf kv).toNat)
                    case atStart => exact ⟨0, rfl, rfl, by omega, HM.out⟩
                    case round =>
                      clear HM
                      obtain ⟨k, rfl, rfl, hk, hm⟩ := hrel
                      have HM := Lib.hid hm
                      clear hm
                      obtain ⟨fb, hfb⟩ : ∃ fb, fstK (lowT T) j k = fb := ⟨_, rfl⟩
                      rw [hfb]
                      have HFB := Lib.hid hfb
                      clear hfb
                      cases fb with
                      | false =>
                        have hst : So.fst? (lowT T) j = false := fstK_no hk HFB.out
                        have HST := Lib.hid hst
                        clear hst
                        have hnx : Hid (Value.int .i64 (cn : Nat) = .int .i64 ((((List.range (j + 1)).filter (So.fst? (lowT T))).length : Nat) : Int)) := Lib.hid (by rw [fst_step, HST.out, HCE.out]; simp)
                        by_cases hkj : k < j
                        · have hkI : (k : Int) < (j : Int) := by omega
                          go_wp2_with fail
                          go_roundw
                          case rel => exact ⟨j + 1, hnx.out, by go_num, by omega, HM.out⟩
                          case measure => simp [intOf]; omega
                        · have hkI : ¬ (k : Int) < (j : Int) := by omega
                          go_wp2_with fail
                          go_roundw
                          case rel => exact ⟨j + 1, hnx.out, by go_num, by omega, HM.out⟩
                          case measure => simp [intOf]; omega
                      | true =>
                        by_cases hkj : k < j
                        · have hkI : (k : Int) < (j : Int) := by omega
                          obtain ⟨b, off, hab, c0, -⟩ := (H4.out.keep HM.out).at k (by omega)
                          subst hab
                          obtain ⟨b', off', hab', d0, -⟩ := (H4.out.keep HM.out).at j hlt
                          simp only [Option.some.injEq, Addr.mk.injEq, and_true] at hab'
                          obtain ⟨rfl, rfl⟩ := hab'
                          have hki : k < i := by omega
                          have hstep := fstK_step (lowT T) j k HFB.out
                          simp only [lowT, lowI, HTE.out, Bool.or_self, Bool.false_eq_true, if_false] at hstep
                          obtain ⟨nn, hnn⟩ : ∃ nn, (T k).n = nn := ⟨_, rfl⟩
                          obtain ⟨mm, hmm⟩ : ∃ mm, (T j).n = mm := ⟨_, rfl⟩
                          rw [hnn] at c0 hstep; rw [hmm] at d0 hstep
                          have HSTEP := Lib.hid hstep
                          clear hstep hnn hmm
                          by_cases he : msk nn = msk mm
                          · have hb1 : (Go.bits BinOp.and IntKind.i64 nn 1023 == Go.bits BinOp.and IntKind.i64 mm 1023) = true := by rw [beq_iff_eq]; exact he
                            have hb2 : (Go.bits BinOp.and IntKind.i64 nn 1023 != Go.bits BinOp.and IntKind.i64 mm 1023) = false := by rw [bne, hb1]; rfl
                            have HE2 := Lib.hid he
                            clear he
                            go_wp2_with fail
                            go_quiet (fail)
                            go_wp2_with fail
                            go_roundw
                            case rel => exact ⟨k + 1, by rw [HSTEP.out]; simp [HE2.out], by go_num, by omega, HM.out.drewN _⟩
                            case measure => simp [intOf]; omega
                          · have hb1 : (Go.bits BinOp.and IntKind.i64 nn 1023 == Go.bits BinOp.and IntKind.i64 mm 1023) = false := by rw [beq_eq_false_iff_ne]; exact he
                            have hb2 : (Go.bits BinOp.and IntKind.i64 nn 1023 != Go.bits BinOp.and IntKind.i64 mm 1023) = true := by rw [bne, hb1]; rfl
                            have HE2 := Lib.hid he
                            clear he
                            go_wp2_with fail
                            go_quiet (fail)
                            go_wp2_with fail
                            go_roundw
                            case rel => exact ⟨k + 1, by rw [HSTEP.out, decide_eq_true (by have := HE2.out; omega)], by go_num, by omega, HM.out.drewN _⟩
                            case measure => simp [intOf]; omega
                        · obtain rfl : k = j := by omega
                          have hkI : ¬ (k : Int) < (k : Int) := by omega
                          have hfs : So.fst? (lowT T) k = true := by rw [← fstK_end]; exact HFB.out
                          have HNX : Hid (Value.int .i64 ((cn : Int) + 1) = .int .i64 ((((List.range (k + 1)).filter (So.fst? (lowT T))).length : Nat) : Int)) := Lib.hid (by rw [fst_step, hfs, HCE.out]; simp)
                          have HIN : Hid (∃ x, ∃ (h : x < K.length), K[x] = k) := Lib.hid (List.mem_iff_getElem.1 (HK.out.mem ORD.out hlt (So.fst?_iff.1 hfs)))
                          have hcw : (cn : Int) + 1 ≤ 9000000000000 := by omega
                          clear hfs
                          go_wp2_with fail
                          go_loopw [15, 16] (fun tv xv wr => ∃ (x : Nat) (tb : Bool), tv = .bool tb ∧ xv = .int .i64 (x : Nat) ∧ x ≤ nk ∧ (tb = false → ∀ y, (h : y < K.length) → y < x → K[y] ≠ k) ∧ Mod [] w4 wr) (fun _ xv _ => nk - (intOf xv).toNat)
                          case atStart => exact ⟨0, false, rfl, rfl, by omega, fun _ y _ hy => by omega, HM.out⟩
                          case round =>
                            clear HM
                            obtain ⟨x, tb, rfl, rfl, hx, htb, hm⟩ := hrel
                            have HM := Lib.hid hm; have HTB := Lib.hid htb
                            clear hm htb
                            cases tb with
                            | true =>
                              by_cases hxn : x < nk
                              · have hxI : (x : Int) < (nk : Int) := by omega
                                go_wp2_with fail
                                go_roundw
                                case rel => exact ⟨k + 1, HNX.out, by go_num, by omega, HM.out⟩
                                case measure => simp [intOf]; omega
                              · have hxI : ¬ (x : Int) < (nk : Int) := by omega
                                go_wp2_with fail
                                go_roundw
                                case rel => exact ⟨k + 1, HNX.out, by go_num, by omega, HM.out⟩
                                case measure => simp [intOf]; omega
                            | false =>
                              by_cases hxn : x < nk
                              · have hxI : (x : Int) < (nk : Int) := by omega
                                have hxl : x < K.length := by rw [← HNK.out]; exact hxn
                                obtain ⟨c0, c1⟩ := (RK.out.past HM.out GQ.out).thg x K[x] hxl (by simp [List.getD_eq_getElem?_getD, hxl])
                                obtain ⟨b, off, hab, d0, d1⟩ := (H4.out.keep HM.out).at k hlt
                                subst hab
                                have HNE : Hid ((T K[x]).n ≠ (T k).n → ∀ y, (h : y < K.length) → y < x + 1 → K[y] ≠ k) := Lib.hid (fun hne y hy hyx he => by
                                  rcases Nat.lt_or_ge y x with h | h
                                  · exact HTB.out rfl y hy h he
                                  · obtain rfl : y = x := by omega
                                    exact hne (by rw [he]))
                                rw [HTE.out] at c1 d1
                                obtain ⟨nn, hnn⟩ : ∃ nn, (T K[x]).n = nn := ⟨_, rfl⟩
                                obtain ⟨mm, hmm⟩ : ∃ mm, (T k).n = mm := ⟨_, rfl⟩
                                rw [hnn] at c0 HNE; rw [hmm] at d0 HNE
                                clear hnn hmm hxl
                                by_cases he : nn = mm
                                · subst he
                                  go_wp2_with fail
                                  go_quiet (fail)
                                  go_wp2_with fail
                                  go_roundw
                                  case rel => exact ⟨x + 1, true, by simp, by go_num, by omega, (by intro h; cases h), HM.out.drewN _⟩
                                  case measure => simp [intOf]; omega
                                · have hb1 : (nn == mm) = false := by rw [beq_eq_false_iff_ne]; exact he
                                  have HE2 := Lib.hid he
                                  clear he
                                  go_wp2_with fail
                                  go_quiet (fail)
                                  go_wp2_with fail
                                  go_roundw
                                  case rel => exact ⟨x + 1, false, by simp, by go_num, by omega, (fun _ => HNE.out HE2.out), HM.out.drewN _⟩
                                  case measure => simp [intOf]; omega
                              · exfalso
                                obtain ⟨y, hy, he⟩ := HIN.out
                                exact HTB.out rfl y hy (by have := HNK.out; omega) he
                  · obtain rfl : j = i := by omega
                    have hltI : ¬ (j : Int) < (j : Int) := by omega
                    have hcc : cn = nk := by rw [← HCE.out, HNK.out]; exact HK.out.count ORD.out
                    subst hcc
                    go_wp2_with fail
                    go_ret
                    exact ⟨by simp, M4.out.trans HM.out (by simp)⟩
end Go.Proofs.YtcalbbfkgdfidaaDoor
