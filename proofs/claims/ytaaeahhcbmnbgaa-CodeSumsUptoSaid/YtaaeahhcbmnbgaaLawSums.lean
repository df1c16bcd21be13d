/- THE STATEMENT CodeSums: the walk. -/
import Derived.Test.YtaaeahhcbmnbgaaLent
namespace Go.Proofs.Ytaaeahhcbmnbgaa
open Go.RowKit
set_option linter.unusedVariables false
set_option maxRecDepth 100000

theorem RowIs.setI {w : World} {g cap : Nat} {l : List Nat} (h : RowIs w g cap l) (i : Nat) (x : Int) (h0 : 0 ≤ x) (h1 : x < 256) : RowIs (w.setCell ⟨g, i, none⟩ (.int .u8 x)) g cap (l.set i x.toNat) := by
  have := h.set i x.toNat (by omega)
  rwa [Int.toNat_of_nonneg h0] at this

theorem set_drop (l : List Nat) (i n x : Nat) (h : i < n) : (l.set i x).drop n = l.drop n := by
  rw [List.drop_set, if_pos h]
theorem set_take_succ (l : List Nat) (i x : Nat) (h : i < l.length) : (l.set i x).take (i + 1) = l.take i ++ [x] := by
  rw [List.take_succ_eq_append_getElem (by simpa using h), List.take_set_of_le (Nat.le_refl _), List.getElem_set_self]

set_option maxHeartbeats 4000000 in
theorem sums_walk (va vb : Value) (a b : List Nat) (w : World) (ha : Reads w va a) (hb : Reads w vb b) (hla : a.length ≤ 1048576) :
    Calls Try.prog 3 #[va, vb] w fun e w' => e = .returned (.bool true) ∧ Mod [] w w' := by
  obtain ⟨i0, hi, hz0, hz1, hz2⟩ := info_parts Try.infoU8
  obtain ⟨a', c', rfl⟩ : ∃ x c, va = .slice x a.length c := by
    obtain ⟨-, -, ⟨x, c, rfl, rfl⟩ | ⟨b, off, cap, rfl, -⟩⟩ := ha
    · exact ⟨_, _, rfl⟩
    · exact ⟨_, _, rfl⟩
  have hfpa : ∀ k ∈ fp (.slice a' a.length c'), 0 < a.length → k < w.heap.size := by
    intro k hk hp
    obtain ⟨-, -, ⟨x, c, hv, rfl⟩ | ⟨b, off, cap, hv, hc⟩⟩ := ha
    · simp at hp
    · cases hv
      simp [fp] at hk
      subst hk
      exact World.block_lt_of_cell? w _ (hc 0 hp)
  go_enter Try.func3, Try.ntmps3
  go_wp2_with fail
  refine (shown_any w).mono ?_
  rintro e w1 ⟨rfl, hm1⟩
  go_wp2_with fail
  refine (lent_any _ a w1 (ha.past hm1 (by simp)) hla).mono ?_
  rintro e w2 ⟨g, cap, rfl, hrow, hm2, hg1⟩
  have hm2' : Mod [] w w2 := hm1.trans hm2 (by simp)
  have hg : w.heap.size ≤ g := by have := hm1.size; omega
  have hcap := hrow.cap
  rw [List.length_append, List.length_replicate] at hcap
  obtain ⟨hcap1, hcap2⟩ := hcap
  unfold maxLen at hcap2
  have hra := hrow.reads a.length cap (by simp)
  rw [List.take_left] at hra
  go_wp2_with fail
  refine (codeSum_any _ a _ hra).mono ?_
  rintro e w3 ⟨rfl, rfl⟩
  go_wp2_with fail
  refine (codeSum_any _ b _ (hb.past hm2' (by simp))).mono ?_
  rintro e w3 ⟨rfl, rfl⟩
  go_wp2_with fail
  refine (codeSum_any _ a _ hra).mono ?_
  rintro e w3 ⟨rfl, rfl⟩
  clear hra
  go_wp2_with fail
  go_loopw [10] (fun i wr => ∃ (k : Nat) (m : List Nat), k ≤ a.length ∧ i = .int .i64 (k : Int) ∧ RowIs wr g cap m ∧ m.length = a.length + 8 ∧ m.drop a.length = List.replicate 8 201 ∧ Mod [] w wr) (fun i _ => a.length - (intOf i).toNat)
  case atStart => exact ⟨0, _, by omega, rfl, hrow, by simp, by simp, hm2'⟩
  case round =>
    obtain ⟨k, m, hk, rfl, hrk, hml, hmd, hmk⟩ := hrel
    clear hrow hm2 hm2'
    have hml' := Lib.hid hml
    have hmd' := Lib.hid hmd
    by_cases hlt : k < a.length
    · have hcell := hrk.cell (i := k) (by omega)
      have hfree := hrk.free k
      have hcb := getD_lt hrk.byte k
      clear hml hmd
      generalize m.getD k 0 = c at *
      go_wp2_with fail
      go_roundw
      case rel =>
        refine ⟨k + 1, m.set k (((c : Int) + k + 1) % 256).toNat, by omega, by go_num, hrk.setI k _ (by omega) (by omega), by rw [List.length_set]; exact hml'.out, by rw [set_drop _ _ _ _ hlt]; exact hmd'.out, ?_⟩
        exact Mod.setCell (p := ⟨g, k, none⟩) hmk (.inr hg) _
      case measure => simp [intOf]; omega
    · obtain rfl : k = a.length := by omega
      clear hlt
      have hrm := hrk.reads a.length cap (by omega)
      have hsrc := src_reads hrm
      have hml2 : (m.take a.length).length = a.length := by rw [List.length_take]; omega
      rw [hml2] at hsrc
      clear hml hmd
      go_wp2_with (at_builtin; refine wpList_append_src _ rfl _ _ 22 22 rfl 5 i0 (.int .u8 0) 1 1 Try.underlying22 hi hz0 hz1 hz2 rfl (.slice none 0 0) 0 [] rfl (World.ownsRow_nil _ _ _ _) _ a.length (toCells (m.take a.length)) rfl hsrc (by unfold maxLen; omega) (by omega) ?_)
      intro vt w4 hown hmod hfresh hnil
      try simp only [Nat.zero_add, List.nil_append] at hown
      have hm4 : Mod [] w w4 := hmk.trans hmod (by simp [fp])
      have hr4 := hrk.keep hmod (by simp [fp])
      have hgt : g ∉ fp vt := fun hx => by
        rcases hfresh g hx with r | r
        · simp [fp] at r
        · have := hrk.lt; omega
      obtain ⟨at_, ct, rfl⟩ := owns_slice hown
      have hrm4 := hr4.reads a.length cap (by have := hml'.out; omega)
      clear hnil hfresh hmod hsrc hrm hrk hmk
      go_wp2_with fail
      refine (codeSum_any _ _ _ hrm4).mono ?_
      rintro e w5 ⟨rfl, rfl⟩
      have htb := Lib.hid hrm4.1
      clear hrm4
      generalize m.take a.length = tl at *
      have hml2' := Lib.hid hml2
      clear hml2
      go_wp2_with fail
      go_loopw [13] (fun i wr => ∃ (k : Nat) (m : List Nat), k ≤ a.length ∧ i = .int .i64 (k : Int) ∧ RowIs wr g cap m ∧ m.length = a.length + 8 ∧ m.drop a.length = List.replicate 8 201 ∧ m.take k = a.take k ∧
          wr.ownsRow 0 5 1 (.slice at_ a.length ct) a.length (toCells tl) ∧ Mod [] w wr) (fun i _ => a.length - (intOf i).toNat)
      case atStart => exact ⟨0, m, by omega, rfl, hr4, hml'.out, hmd'.out, rfl, hown, hm4⟩
      case round =>
        obtain ⟨k, m2, hk, rfl, hrk, hml, hmd, hmt, hown2, hmk⟩ := hrel
        clear hr4 hown hm4
        have hml3 := Lib.hid hml
        have hmd3 := Lib.hid hmd
        have hmt3 := Lib.hid hmt
        by_cases hlt : k < a.length
        · have hcell := hrk.cell (i := k) (by omega)
          have hfree := hrk.free k
          clear hml hmd hmt
          generalize m2.getD k 0 = c at *
          have hra := ha.past hmk (by simp)
          obtain ⟨b0, off, rfl, hcb⟩ : ∃ b off, a' = some ⟨b, off, none⟩ ∧ wr.cell? ⟨b, off + k, none⟩ = some (.int .u8 (a.getD k 0 : Nat)) := by
            obtain ⟨-, -, ⟨x, c, hv, rfl⟩ | ⟨b, off, cap, hv, hc⟩⟩ := hra
            · simp at hlt
            · cases hv; exact ⟨b, off, rfl, hc k hlt⟩
          have hb256 := getD_lt ha.1 k
          have hset := set_take_succ m2 k (a.getD k 0) (by have := hml3.out; omega)
          have htk := take_snoc a 0 k hlt
          have HT : Hid ((m2.set k (a.getD k 0)).take (k + 1) = a.take (k + 1)) := Lib.hid (by rw [hset, htk, hmt3.out])
          clear hset htk
          generalize a.getD k 0 = y at *
          have hst := hrk.set k y hb256
          go_wp2_with fail
          go_roundw
          case rel =>
            refine ⟨k + 1, m2.set k y, by omega, by go_num, hst, by rw [List.length_set]; exact hml3.out, by rw [set_drop _ _ _ _ hlt]; exact hmd3.out, HT.out, ?_, ?_⟩
            · exact ownsRow_setCell_other hown2 (fun e => hgt (ownBlock_fp _ _ e)) _
            · exact Mod.setCell (p := ⟨g, k, none⟩) hmk (.inr hg) _
          case measure => simp [intOf]; omega
        · obtain rfl : k = a.length := by omega
          have e : m2 = a ++ List.replicate 8 201 := by
            rw [← List.take_append_drop a.length m2, hmd]
            congr 1
            rw [hmt, List.take_length]
          subst e
          clear hml hmd hmt hml3 hmd3 hmt3 hlt
          have hra := ha.past hmk (by simp)
          have hrb := hb.past hmk (by simp)
          have hrt : Reads wr (.slice at_ a.length ct) tl := by
            have h0 := hml2'.out
            have := reads_own (l := tl) (by rw [h0]; exact hown2) ?_ (by omega)
            · exact this
            · exact htb.out
          go_wp2_with fail
          refine (refSum_any _ a _ hra).mono ?_
          rintro e w6 ⟨rfl, rfl⟩
          go_wp2_with fail
          refine (refSum_any _ b _ hrb).mono ?_
          rintro e w6 ⟨rfl, rfl⟩
          go_wp2_with fail
          refine (refSum_any _ tl _ hrt).mono ?_
          rintro e w6 ⟨rfl, rfl⟩
          go_wp2_with fail
          refine (still_any g cap (a.length + 8) cap _ a _ hrk hra ?_ rfl hla).mono ?_
          · intro hp ht
            have := hfpa g ht hp
            omega
          rintro e w6 ⟨rfl, hm6⟩
          go_wp2_with fail
          go_ret
          exact ⟨rfl, hmk.trans hm6 (by simpa using hg)⟩
end Go.Proofs.Ytaaeahhcbmnbgaa
