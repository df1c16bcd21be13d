/- LexReserved. -/
import Derived.Test.YtobimhmllkfmfaaDoorLawTok
namespace Go.Proofs.YtobimhmllkfmfaaDoor
open Go.RowKit
set_option linter.unusedVariables false
set_option linter.unusedSimpArgs false
set_option maxRecDepth 100000

/-- a reserved word is one name in a text -/
theorem res_tok1 (s : ByteArray) (h : resB s = true) : Lx.tokens (Cod.str s) = [⟨1, Cod.str s, 0, 0, [], 1, 1⟩] ∧ Lx.fault (Cod.str s) = (0, 0, 0) := by
  have hs : Cod.str s = s.toList.map UInt8.toNat := by rw [ByteArray.toList_eq]; rfl
  rw [hs]
  unfold resB at h
  rw [List.contains_iff_mem] at h
  generalize s.toList = l at *
  simp only [resW, List.mem_cons, List.not_mem_nil, or_false] at h
  rcases h with rfl | rfl | rfl | rfl | rfl | rfl | rfl | rfl | rfl <;> decide

set_option maxHeartbeats 2000000 in
theorem LexReserved_any (s : ByteArray) (hs : s.size ≤ 140737488355328) (w : World) (hG : Glob w) :
    Calls Tryd.prog 5 #[.string s] w fun e w' => e = .returned (.bool true) ∧ Mod [] w w' := by
  have hk := known_any w hG
  have ht := fun w hG => Tokens_any s hs w hG
  have h1 := fun w => Reserved_any s w
  have h2 := fun w => rReserved_any s w
  unfold Toks at ht
  cases hb : resB s
  · rw [hb] at h1 h2
    have HK := Lib.hid hk; have HT := Lib.hid ht; have H1 := Lib.hid h1; have H2 := Lib.hid h2
    clear hk ht h1 h2 hb
    go_enter Tryd.func5, Tryd.ntmps5
    go_wp2_with fail
    refine HK.out.mono ?_
    rintro e w1 ⟨rfl, hm1⟩
    go_wp2_with fail
    refine (H1.out _).mono ?_
    rintro e w2 ⟨rfl, rfl⟩
    go_wp2_with fail
    refine (H2.out _).mono ?_
    rintro e w2 ⟨rfl, rfl⟩
    go_wp2_with fail
    refine (HT.out _ (hG.past hm1 (by simp))).mono ?_
    rintro e w2 ⟨v, rfl, hv, hm2⟩
    have hlv := hv.lit
    obtain ⟨va, vc, rfl⟩ := hlv
    have HM := Lib.hid (hm1.trans hm2 (by simp))
    generalize Lx.fault (Cod.str s) = f at *
    generalize (Lx.tokens (Cod.str s)).length = n at *
    clear hm1 hm2 hv
    rw [fltV]
    go_wp2_with fail
    go_ret
    exact ⟨rfl, HM.out.alloc _⟩
  · obtain ⟨hr1, hr2⟩ := res_tok1 s hb
    rw [hb] at h1 h2
    rw [hr1, hr2] at ht
    have HK := Lib.hid hk; have HT := Lib.hid ht; have H1 := Lib.hid h1; have H2 := Lib.hid h2
    clear hk ht h1 h2 hb hr1 hr2
    go_enter Tryd.func5, Tryd.ntmps5
    go_wp2_with fail
    refine HK.out.mono ?_
    rintro e w1 ⟨rfl, hm1⟩
    go_wp2_with fail
    refine (H1.out _).mono ?_
    rintro e w2 ⟨rfl, rfl⟩
    go_wp2_with fail
    refine (H2.out _).mono ?_
    rintro e w2 ⟨rfl, rfl⟩
    go_wp2_with fail
    refine (HT.out _ (hG.past hm1 (by simp))).mono ?_
    rintro e w2 ⟨v, rfl, hv, hm2⟩
    obtain ⟨g, c, rfl, a0, a1, a2, a3, a4, a5, a6⟩ := hv.at 0 _ rfl
    rw [Nat.zero_mul] at a0
    rw [Nat.zero_mul, Nat.zero_add] at a1
    simp only [Lx.ofS_str] at a1
    have hgl : g < w2.heap.size := World.block_lt_of_cell? w2 _ a0
    have HM := Lib.hid (hm1.trans hm2 (by simp))
    clear hm1 hm2 hv a2 a3 a4 a5 a6
    rw [fltV]
    go_wp2_with fail
    go_ret
    exact ⟨rfl, HM.out.alloc _⟩
end Go.Proofs.YtobimhmllkfmfaaDoor
