/- WHAT ALL STATEMENTS OF LAYER 1 CALL: the document's examples, pick. -/
import Derived.Test.YtaaeahhcbmnbgaaCodeM3
import Derived.Test.YtaaeahhcbmnbgaaCrc
import Derived.Lib.SlBytesConst
namespace Go.Proofs.Ytaaeahhcbmnbgaa
open Go.RowKit
set_option linter.unusedVariables false
set_option maxRecDepth 100000

def pickF (c n : Int) : Nat := ((if c < 0 then -(c + 1) else c) % n).toNat
theorem pickF_lt (c n : Int) (hn : 1 ≤ n) : (pickF c n : Int) < n := by
  unfold pickF
  have e3 := Int.emod_lt_of_pos (if c < 0 then -(c + 1) else c) (show 0 < n by omega)
  omega
theorem pick_any (c n : Int) (w : World) (h1 : -9223372036854775808 ≤ c) (h2 : c ≤ 9223372036854775807) (hn : 1 ≤ n) (hn2 : n ≤ 9223372036854775807) :
    Calls Try.prog 13 #[.int .i64 c, .int .i64 n] w fun e w' => e = .returned (.int .i64 (pickF c n : Nat)) ∧ w = w' := by
  by_cases hc : c < 0
  · have e2 := Int.emod_nonneg (-(c + 1)) (show n ≠ 0 by omega)
    have e4 : Hid (((pickF c n : Nat) : Int) = -(c + 1) % n) := Lib.hid (by unfold pickF; rw [if_pos hc, Int.toNat_of_nonneg e2])
    have e5 : Hid ((-(c + 1)).tmod n = -(c + 1) % n) := Lib.hid (Int.tmod_eq_emod_of_nonneg (by omega))
    have e1 : 0 ≤ -(c + 1) := by omega
    clear e2
    go_enter Try.func13, Try.ntmps13
    go_wp2
    go_ret
    refine ⟨ret_int ?_, rfl⟩
    rw [e4.out]
    exact (Int.neg_tmod _ _).symm.trans e5.out
  · have e2 := Int.emod_nonneg c (show n ≠ 0 by omega)
    have e4 : Hid (((pickF c n : Nat) : Int) = c % n) := Lib.hid (by unfold pickF; rw [if_neg hc, Int.toNat_of_nonneg e2])
    clear e2
    go_enter Try.func13, Try.ntmps13
    go_wp2
    go_ret
    exact ⟨ret_int e4.out.symm, rfl⟩

theorem reads_lit (w : World) (l : List Nat) (fr : Nat × Nat) (hl : l.length ≤ 140737488355328) (hb : ∀ c ∈ l, c < 256) :
    Reads (w.alloc (.cells (toCells l).toArray 5 fr)) (.slice (some ⟨w.heap.size, 0, none⟩) l.length l.length) l := by
  refine ⟨hb, hl, .inr ⟨_, _, _, rfl, fun i hi => ?_⟩⟩
  have := toCells_get l i hi
  rw [World.cell?_alloc_mark, List.getElem?_toArray, Nat.zero_add, this]

theorem RdIs.keep {S : List Nat} {w w' : World} {b : Nat} {v : Value} {l : List Nat} {a f : Nat} (h : RdIs w b v l a f) (hm : Mod S w w') (hb : b ∉ S) (hv : ∀ k ∈ fp v, k ∉ S) : RdIs w' b v l a f :=
  ⟨hm.at h.at_ hb, hm.owns h.row hv, h.out, h.byte, h.len, h.in_⟩
theorem BoxIs.keep {S : List Nat} {w w' : World} {b : Nat} {v : Value} {l : List Nat} (h : BoxIs w b v l) (hm : Mod S w w') (hb : b ∉ S) (hv : ∀ k ∈ fp v, k ∉ S) : BoxIs w' b v l :=
  ⟨hm.at h.at_ hb, hm.owns h.row hv, h.out, h.byte⟩

theorem fp_lt {w : World} {base : Nat} {e : TypeId} {size : Nat} {v : Value} {n : Nat} {xs : List Value} (h : w.ownsRow base e size v n xs) : ∀ k ∈ fp v, k < w.heap.size := by
  intro k hk
  rcases h.2 with ⟨rfl, _⟩ | ⟨g, cap, cur, rfl, hb, hg, _⟩
  · simp [fp] at hk
  · simp [fp] at hk
    subst hk
    exact lt_of_block hg
theorem BoxIs.lt {w : World} {b : Nat} {v : Value} {l : List Nat} (h : BoxIs w b v l) : b < w.heap.size := lt_of_block h.at_
theorem RdIs.lt {w : World} {b : Nat} {v : Value} {l : List Nat} {a f : Nat} (h : RdIs w b v l a f) : b < w.heap.size := lt_of_block h.at_
/-- a writer stays as it is while newer memory is written -/
theorem BoxIs.past {S : List Nat} {w w' : World} {b : Nat} {v : Value} {l : List Nat} (h : BoxIs w b v l) (hm : Mod S w w') (hS : ∀ t ∈ S, w.heap.size ≤ t) : BoxIs w' b v l :=
  h.keep hm (fun hb => by have := hS b hb; have := h.lt; omega) (fun k hk hs => by have := hS k hs; have := fp_lt h.row k hk; omega)
theorem RdIs.past {S : List Nat} {w w' : World} {b : Nat} {v : Value} {l : List Nat} {a f : Nat} (h : RdIs w b v l a f) (hm : Mod S w w') (hS : ∀ t ∈ S, w.heap.size ≤ t) : RdIs w' b v l a f :=
  h.keep hm (fun hb => by have := hS b hb; have := h.lt; omega) (fun k hk hs => by have := hS k hs; have := fp_lt h.row k hk; omega)

theorem Reads.past {S : List Nat} {w w' : World} {v : Value} {l : List Nat} (h : Reads w v l) (hm : Mod S w w') (hS : ∀ t ∈ S, w.heap.size ≤ t) : Reads w' v l := by
  obtain ⟨h1, h2, h3 | ⟨b, off, cap, rfl, hc⟩⟩ := h
  · exact ⟨h1, h2, .inl h3⟩
  · refine ⟨h1, h2, .inr ⟨b, off, cap, rfl, fun i hi => hm.cell (hc i hi) (fun hb => ?_)⟩⟩
    have := hS _ hb
    have := World.block_lt_of_cell? w _ (hc i hi)
    simp at *
    omega

theorem shown_any (w : World) :
    Calls Try.prog 8 #[] w fun e w' => e = .returned (.bool true) ∧ Mod [] w w' := by
  go_enter Try.func8, Try.ntmps8
  go_wp2_with fail
  refine (New_any w).mono ?_
  rintro e w1 ⟨rfl, hb1, hm1⟩
  go_wp2_with fail
  refine (WUint_any _ _ 300 [] _ hb1 (by decide) (by simp)).mono ?_
  rintro e w2 ⟨rfl, v2, hb2, hm2, hf2⟩
  go_wp2_with fail
  refine (WInt_any _ _ (-64) _ _ hb2 (by decide) (by decide) (by decide +kernel)).mono ?_
  rintro e w3 ⟨rfl, v3, hb3, hm3, hf3⟩
  go_wp2_with fail
  refine (WText_any _ _ ⟨#[97, 98]⟩ _ _ hb3 (by decide +kernel)).mono ?_
  rintro e w4 ⟨rfl, v4, hb4, hm4, hf4⟩
  have m4 : Mod [] w w4 := by
    refine ((hm1.trans hm2 ?_).trans hm3 ?_).trans hm4 ?_
    · simp [fp]
    · intro t ht
      rcases List.mem_cons.1 ht with rfl | h
      · exact .inr (Nat.le_refl _)
      · rcases hf2 t h with h | h
        · simp [fp] at h
        · exact .inr (by have := hm1.size; omega)
    · intro t ht
      rcases List.mem_cons.1 ht with rfl | h
      · exact .inr (Nat.le_refl _)
      · rcases hf3 t h with h | h
        · rcases hf2 t h with h | h
          · simp [fp] at h
          · exact .inr (by have := hm1.size; omega)
        · exact .inr (by have := hm1.size; have := hm2.size; omega)
  rw [show ((([] ++ Cod.uv 300) ++ Cod.uv (Cod.zz (-64))) ++ (Cod.uv (ByteArray.mk #[97, 98]).size ++ Cod.str ⟨#[97, 98]⟩)) = [172, 2, 127, 2, 97, 98] from by decide +kernel] at hb4
  clear hb1 hb2 hb3 hm1 hm2 hm3 hm4 hf2 hf3 hf4
  go_wp2_with fail
  refine (Read_any _ [128, 1, 7] _ (reads_lit w4 [128, 1, 7] (0, 0) (by simp) (by decide))).mono ?_
  rintro e w5 ⟨br, vr, rfl, hr5, hm5, hbr, hfr⟩
  go_wp2_with fail
  have hu := RUint_any _ _ _ _ _ 200 _ hr5
  rw [show Cod.rUint [128, 1, 7] 0 0 200 = (128, 2, 0) from by decide +kernel] at hu
  refine hu.mono ?_
  rintro e w6 ⟨rfl, hr6, hm6⟩
  clear hu
  go_wp2_with fail
  have he := End_any _ _ _ _ _ _ hr6
  rw [show endF [128, 1, 7] (128, 2, 0).2.1 (128, 2, 0).2.2 = 13 from by decide +kernel] at he
  refine he.mono ?_
  rintro e w7 ⟨rfl, hme⟩
  clear he
  have hm7 : Mod [br] w4 w7 := ((((Mod.refl [br] w4).alloc _).trans hm5 (by simp)).trans hm6 (by simp)).trans hme (by simp)
  have hsz := hbr
  have hsz4 : w4.heap.size ≤ br := by simp at hbr; omega
  clear hsz
  have hb7 := hb4.past hm7 (by simpa using hsz4)
  go_wp2_with fail
  refine (Out_any _ _ _ _ hb7 (by decide +kernel)).mono ?_
  rintro e w8 ⟨v8, rfl, hown8, hm8, hf8, hn8⟩
  have hconv := conv_reads (reads_own hown8 hb7.byte (by decide +kernel))
  rw [show ofStr [172, 2, 127, 2, 97, 98] = ByteArray.mk #[172, 2, 127, 2, 97, 98] from rfl] at hconv
  have hb8 := hb7.past hm8 (by simp)
  clear hn8 hown8
  go_wp2_with fail
  refine (WLen_any _ _ _ _ hb8).mono ?_
  rintro e w9 ⟨rfl, rfl⟩
  have kc := fun (w : World) (C : Array Value) (n c : Nat) => Lib.run_convert_bytes_const (P := Try.prog) w 22 5 C n c Try.underlying22 Try.underlying5
  go_wp2_with fail
  have hs := codeSum_any _ _ _ (reads_lit w8 [49, 50, 51, 52, 53, 54, 55, 56, 57] (9, 10) (by simp) (by decide))
  rw [show 4294967295 - Crc.sum [49, 50, 51, 52, 53, 54, 55, 56, 57] 4294967295 = 3808858755 from by decide +kernel] at hs
  have HS := Lib.hid hs
  clear hs
  refine HS.out.mono ?_
  rintro e w10 ⟨rfl, rfl⟩
  go_wp2_with fail
  go_ret
  exact ⟨rfl, ((m4.trans hm7 (by simpa using (by have := m4.size; omega))).trans hm8 (by simp)).alloc _⟩
end Go.Proofs.Ytaaeahhcbmnbgaa
