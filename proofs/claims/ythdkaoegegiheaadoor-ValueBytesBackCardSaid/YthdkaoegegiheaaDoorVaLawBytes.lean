/- ValueBytesBack. -/
import Derived.Test.YthdkaoegegiheaaDoorVaGet
import Derived.Test.YthdkaoegegiheaaDoorVaAwake
namespace Go.Proofs.YthdkaoegegiheaaDoor
open Go.RowKit
set_option linter.unusedVariables false
set_option linter.unusedSimpArgs false
set_option maxRecDepth 100000

theorem Reads.short {w : World} {x : Option Addr} {n c a : Nat} {l : List Nat} (h : Reads w (.slice x n c) l) (ha : a ≤ l.length) : Reads w (.slice x a c) (l.take a) := by
  have hl : (l.take a).length = a := by rw [List.length_take]; omega
  refine ⟨fun b hb => h.1 b (List.mem_of_mem_take hb), by have := h.2.1; omega, ?_⟩
  obtain ⟨-, -, ⟨y, d, hv, rfl⟩ | ⟨b, off, cap, hv, hc⟩⟩ := h
  · simp at ha
    subst ha
    exact .inl ⟨_, _, rfl, by simp⟩
  · cases hv
    refine .inr ⟨b, off, c, by rw [hl], fun i hi => ?_⟩
    rw [hl] at hi
    rw [hc i (by omega), List.getD_eq_getElem?_getD, List.getD_eq_getElem?_getD, List.getElem?_take, if_pos hi]
theorem Reads.lit {w : World} {v : Value} {l : List Nat} (h : Reads w v l) : ∃ a c, v = .slice a l.length c := by
  obtain ⟨-, -, ⟨x, c, rfl, rfl⟩ | ⟨b, off, cap, rfl, -⟩⟩ := h
  · exact ⟨_, _, rfl⟩
  · exact ⟨_, _, rfl⟩
theorem owns_cap {w : World} {base : Nat} {e : TypeId} {size : Nat} {x : Option Addr} {m c n : Nat} {xs : List Value} (h : w.ownsRow base e size (.slice x m c) n xs) : n ≤ c ∧ c ≤ maxLen := by
  rcases h.2 with ⟨hv, rfl⟩ | ⟨g, cap, cur, hv, h1, h2, h3, h4, -⟩
  · cases hv; exact ⟨Nat.le_refl _, Nat.zero_le _⟩
  · cases hv; exact ⟨h3, h4⟩
theorem putB_lt {ts : List Va.Val} (hm : ts.all Va.may = true) (hb : ∀ x ∈ ts, VB x) : ∀ c ∈ putB ts, c < 256 := by
  intro c hc
  unfold putB at hc
  rcases List.mem_append.1 hc with h | h
  · exact Cod.uvF_lt _ _ _ h
  · obtain ⟨x, hx, hcx⟩ := List.mem_flatMap.1 h
    rcases Va.enc1_cases (List.all_eq_true.1 hm x hx) with ⟨-, -, -, -, e⟩ | ⟨-, -, -, e⟩
    · rw [e] at hcx
      rcases List.mem_cons.1 hcx with rfl | h
      · decide
      · exact Cod.uvF_lt _ _ _ h
    · rw [e] at hcx
      rcases List.mem_cons.1 hcx with rfl | h
      · decide
      · rcases List.mem_append.1 h with h | h
        · exact Cod.uvF_lt _ _ _ h
        · exact hb x hx c h
theorem putE_ok {ts : List Va.Val} (h : putE ts = 0) : ts.length ≤ 8 ∧ ts.all Va.may = true ∧ putL ts = putB ts := by
  unfold putE at h
  unfold putL
  by_cases h1 : 8 < ts.length
  · rw [if_pos h1] at h; simp at h
  · rw [if_neg h1] at h ⊢
    by_cases h2 : ts.all Va.may = true
    · rw [if_pos h2]
      exact ⟨by omega, h2, rfl⟩
    · rw [if_neg h2] at h; simp at h
theorem ok_putE {ts : List Va.Val} (h1 : ts.length ≤ 8) (h2 : ts.all Va.may = true) : putE ts = 0 ∧ putL ts = putB ts := by
  unfold putE putL
  rw [if_neg (by omega), if_pos h2, if_neg (by omega), if_pos h2]
  exact ⟨rfl, rfl⟩
theorem get_none {l : List Nat} (h : (Va.get l).2 ≠ 0) : (Va.get l).1 = [] := by
  unfold Va.get at h ⊢
  split
  · rfl
  · split
    · rfl
    · split
      · rfl
      · rename_i h1 h2 h3
        rw [if_neg h1, if_neg h2, if_neg h3] at h
        exact absurd rfl h
theorem putB_len {ts : List Va.Val} (h1 : ts.length ≤ 8) (h2 : ts.all Va.may = true) : (putB ts).length ≤ 900 := by
  have := encs_len ts h2
  have := Cod.uvF_len 10 ts.length
  unfold putB
  rw [List.length_append]
  unfold Cod.uv
  omega
/-- the beginning's length -/
def cutN (c : Int) (n : Nat) : Nat := (if c < 0 then (-(c + 1)).toNat else c.toNat) % n

set_option maxHeartbeats 4000000 in
theorem ValueBytesBack_any (ts : List Va.Val) (u : Value) (l : List Nat) (v : Value) (c : Int) (hts : ∀ x ∈ ts, VB x) (hl : ts.length ≤ 4398046511103)
    (hc : -9223372036854775808 ≤ c ∧ c ≤ 9223372036854775807) (w : World) (hR : VRow w u ts) (hS : Reads w v l) (hG : GlobV w) :
    Calls Tryd.prog 9 #[u, v, .int .i64 c] w fun e w' => e = .returned (.bool true) ∧ Mod [] w w' := by
  obtain ⟨hc1, hc2⟩ := hc
  obtain ⟨i0, hinf, hz0, hz1, hz2⟩ := info_parts Tryd.infoU8
  obtain ⟨ua, uc, rfl⟩ := hR.lit
  obtain ⟨sa, sc, rfl⟩ := hS.lit
  have hll := hS.2.1
  have HA := Lib.hid (fun w hG => awake_any w hG)
  have HCT := Lib.hid (fun w h => CopyTuple_any (.slice ua ts.length uc) ts hl w h)
  have HP := Lib.hid (fun u w h => Put_any u ts hts (by omega) w h)
  have HST := Lib.hid (fun u w h h2 => sameTuple_any u (.slice ua ts.length uc) ts ts hts hts (by omega) (by omega) w h h2)
  have hpe := fun h => putE_ok (ts := ts) h
  have HPB := Lib.hid (fun h1 h2 => And.intro (putB_lt (ts := ts) h1 hts) (putB_len (ts := ts) h2 h1))
  have HR := Lib.hid hR; have HS := Lib.hid hS; have HG := Lib.hid hG
  clear hR hS hG
  go_enter Tryd.func9, Tryd.ntmps9
  go_wp2_with fail
  refine (HA.out _ HG.out).mono ?_
  rintro e w1 ⟨rfl, m1⟩
  have M1 := Lib.hid m1
  clear m1
  go_wp2_with fail
  refine (HCT.out _ (HR.out.past M1.out (by simp))).mono ?_
  rintro e w2 ⟨u2, rfl, O2, m2⟩
  have M2 := Lib.hid (M1.out.trans m2 (by simp))
  have OH2 := Lib.hid O2
  obtain ⟨a2, c2, rfl⟩ := O2.lit
  clear m2 O2 M1
  go_wp2_with fail
  refine (HP.out _ _ OH2.out.vrow).mono ?_
  rintro e w3 ⟨p, rfl, own3, m3, fr3⟩
  have M3 := Lib.hid (M2.out.trans m3 (by simp))
  obtain ⟨pa, pc, rfl⟩ := owns_slice own3
  have OW3 := Lib.hid own3
  clear m3 own3 M2 OH2 fr3
  have HPE := Lib.hid hpe
  clear hpe
  generalize putE ts = pe at *
  generalize putL ts = B at *
  go_upto_if 28 with fail
  go_cut [] (fun wx => Mod [] w wx)
  case first =>
    by_cases hok : pe = 0
    · subst hok
      obtain ⟨g1, g2, g3⟩ := HPE.out rfl
      have hget := Va.get_put g2 g1
      have hgc := fun j hj => Va.get_cut g2 g1 (j := j) hj
      have hpos := Va.putB_pos ts
      obtain ⟨hbb, hbl⟩ := HPB.out g2 g1
      have own := OW3.out
      rw [← g3] at hget hgc hpos hbb hbl
      clear OW3 HPE HPB g1 g2 g3
      have HRP := Lib.hid (reads_own own hbb (by omega))
      have HGET := Lib.hid hget; have HGC := Lib.hid hgc; have HBB := Lib.hid hbb
      obtain ⟨hcap, hcap2⟩ := owns_cap own
      have hsrc := src_reads HRP.out
      clear own hget hgc hbb
      go_wp2_with (at_builtin; refine wpList_append_src _ rfl _ _ 64 64 rfl 5 i0 (.int .u8 0) 1 1 Tryd.underlying64 hinf hz0 hz1 hz2 rfl (.slice none 0 0) 0 [] rfl (World.ownsRow_nil _ _ _ _) _ B.length (toCells B) rfl hsrc (by unfold maxLen; omega) (by omega) ?_)
      intro v' w4 hown hmod hfresh hnil
      have hR4 := reads_own (by simpa using hown) HBB.out (by omega)
      obtain ⟨va4, vc4, rfl⟩ := owns_slice hown
      have M4 := Lib.hid (M3.out.trans (show Mod [] w3 w4 from hmod) (by simp))
      have m34 := Lib.hid (show Mod [] w3 w4 from hmod)
      have HR4 := Lib.hid hR4
      clear hown hmod hfresh hnil hsrc hR4
      go_wp2_with fail
      refine (Get_any _ B _ HR4.out).mono ?_
      rintro e w5 ⟨bk, rfl, O5, m5⟩
      rw [HGET.out] at O5 ⊢
      have M5 := Lib.hid (M4.out.trans m5 (by simp))
      have m35 := Lib.hid (m34.out.trans m5 (by simp))
      obtain ⟨a5, c5, rfl⟩ := O5.lit
      have OH5 := Lib.hid O5
      clear m5 O5 M4 m34 HR4
      simp only
      go_wp2_with fail
      refine (HST.out _ _ OH5.out.vrow (HR.out.past M5.out (by simp))).mono ?_
      rintro e w6 ⟨rfl, m6⟩
      have M6 := Lib.hid (M5.out.trans m6 (by simp))
      have m36 := Lib.hid (m35.out.trans m6 (by simp))
      have hBI : ((B.length : Int) == 0) = false := by rw [beq_eq_false_iff_ne]; omega
      clear m6 M5 m35 OH5
      go_upto_if 49 with fail
      go_cut [2] (fun cv wx => cv = .int .i64 ((if c < 0 then (-(c + 1)).toNat else c.toNat : Nat) : Int) ∧ wx = w6)
      case first =>
        by_cases h0 : c < 0
        · have e1 : Hid ((((if c < 0 then (-(c + 1)).toNat else c.toNat : Nat) : Int)) = -(c + 1)) := Lib.hid (by rw [if_pos h0]; omega)
          go_wp2_with fail
          go_meet
          exact ⟨by rw [e1.out], rfl⟩
        · have e1 : Hid ((((if c < 0 then (-(c + 1)).toNat else c.toNat : Nat) : Int)) = c) := Lib.hid (by rw [if_neg h0]; omega)
          go_wp2_with fail
          go_meet
          exact ⟨by rw [e1.out], rfl⟩
      case rest =>
        obtain ⟨rfl, rfl⟩ := hcut
        have hq : (if c < 0 then (-(c + 1)).toNat else c.toNat) ≤ 9223372036854775807 := by split <;> omega
        generalize (if c < 0 then (-(c + 1)).toNat else c.toNat) = q at *
        have hrem : ((q : Int).tmod (B.length : Int)) = ((q % B.length : Nat) : Int) := (Int.ofNat_tmod q B.length).symm
        have hj := Nat.mod_lt q hpos
        generalize q % B.length = j at *
        have hjI : (j : Int) < (B.length : Int) := by omega
        have hjp : (j : Int) ≤ (pc : Int) := by omega
        have hj0 : (0 : Int) ≤ (j : Int) := by omega
        go_wp2_with fail
        refine (Get_any _ (B.take j) _ ((HRP.out.past m36.out (by simp)).short (by omega))).mono ?_
        rintro e w7 ⟨bk, rfl, O7, m7⟩
        rw [HGC.out j hj] at O7 ⊢
        obtain ⟨a7, c7, rfl⟩ := O7.lit
        simp only
        have M7 := Lib.hid (M6.out.trans m7 (by simp))
        clear O7 m7
        go_wp2_with fail
        go_meet
        exact M7.out
    · have nB : (pe == 0) = false := by rw [beq_eq_false_iff_ne]; exact hok
      have HN := Lib.hid hok
      clear hok
      go_wp2_with fail
      go_meet
      exact M3.out
  case rest =>
    have M4 := Lib.hid hcut
    clear hcut M3 OW3 HPE HPB
    have hsrc := src_reads (HS.out.past M4.out (by simp))
    go_wp2_with (at_builtin; refine wpList_append_src _ rfl _ _ 64 64 rfl 5 i0 (.int .u8 0) 1 1 Tryd.underlying64 hinf hz0 hz1 hz2 rfl (.slice none 0 0) 0 [] rfl (World.ownsRow_nil _ _ _ _) _ l.length (toCells l) rfl hsrc (by unfold maxLen; omega) (by omega) ?_)
    intro v' w5 hown hmod hfresh hnil
    have hR5 := reads_own (by simpa using hown) HS.out.1 (by omega)
    obtain ⟨va5, vc5, rfl⟩ := owns_slice hown
    have M5 := Lib.hid (M4.out.trans (show Mod [] wc w5 from hmod) (by simp))
    have HR5 := Lib.hid hR5
    clear hown hmod hfresh hnil hsrc hR5
    go_wp2_with fail
    refine (Get_any _ l _ HR5.out).mono ?_
    rintro e w6 ⟨gk, rfl, O6, m6⟩
    have M6 := Lib.hid (M5.out.trans m6 (by simp))
    have hnone := get_none (l := l)
    have hput := Va.put_get HS.out.1
    generalize Va.get l = g at *
    obtain ⟨gl, gf⟩ := g
    dsimp only at O6 hnone hput ⊢
    obtain ⟨a6, c6, rfl⟩ := O6.lit
    have OH6 := Lib.hid O6
    clear m6 O6 M5 HR5
    by_cases hgf : gf = 0
    · subst hgf
      obtain ⟨g1, g2, g3, g4⟩ := hput rfl
      obtain ⟨e1, e2⟩ := ok_putE g2 g1
      have HPP := Lib.hid (fun w h => Put_any (.slice a6 gl.length c6) gl g3 (by omega) w h)
      have E1 := Lib.hid e1; have E2 := Lib.hid (e2.trans g4)
      clear hput hnone g1 g2 g3 g4 e1 e2
      go_wp2_with fail
      refine (HPP.out _ OH6.out.vrow).mono ?_
      rintro e w7 ⟨q, rfl, own7, m7, fr7⟩
      rw [E1.out]
      rw [E2.out] at own7
      have M7 := Lib.hid (M6.out.trans m7 (by simp))
      have hcv := conv_reads (reads_own own7 HS.out.1 (by omega))
      have hcv2 := conv_reads (HS.out.past M7.out (by simp))
      have hre : ((Lx.ofS l).toList == (Lx.ofS l).toList) = true := by simp
      obtain ⟨a7, c7, rfl⟩ := owns_slice own7
      clear own7 m7 fr7
      go_wp2_with fail
      go_ret
      exact ⟨rfl, M7.out⟩
    · have nB : ((gf : Int) != 0) = true := by rw [bne_iff_ne]; omega
      have hgl := hnone hgf
      subst hgl
      clear hnone hput hgf
      go_wp2_with fail
      go_ret
      exact ⟨rfl, M6.out⟩
end Go.Proofs.YthdkaoegegiheaaDoor
