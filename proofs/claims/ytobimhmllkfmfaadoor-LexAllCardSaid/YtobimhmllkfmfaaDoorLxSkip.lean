/- THE SCANNER: going over blanks and remarks. -/
import Derived.Test.YtobimhmllkfmfaaDoorLxScan
import Derived.Deep.LoopGhost
import Derived.Outline
namespace Go.Proofs.YtobimhmllkfmfaaDoor
open Go.RowKit
set_option linter.unusedVariables false
set_option linter.unusedSimpArgs false
set_option maxRecDepth 100000

def St.at (x : Lx.St) (m : Nat) : Lx.St := { x with s := x.s.drop m, pos := Lx.adv x.pos (x.s.take m) }
theorem St.at_at (x : Lx.St) (m n : Nat) : { St.at x m with s := (St.at x m).s.drop n, pos := Lx.adv (St.at x m).pos ((St.at x m).s.take n) } = St.at x (m + n) := by
  unfold St.at
  simp only [List.drop_drop]
  rw [← Lx.adv_append, ← List.take_add]

theorem toList_isEmpty (s : ByteArray) : s.toList.isEmpty = decide (s.size = 0) := by
  rw [ByteArray.toList_eq]
  obtain ⟨⟨l⟩⟩ := s
  cases l <;> simp [ByteArray.size]

set_option maxHeartbeats 1000000 in
theorem skip_any (b : Nat) (s : ByteArray) (x : Lx.St) (w : World) (h : ScIs w b s x) (hl : x.long = false) :
    Calls Tryd.prog 35 #[.pointer (some ⟨b, 0, none⟩)] w fun e w' => e = .returned (.tuple #[]) ∧ ∃ s', ScIs w' b s' x.skip ∧ Mod [b] w w' := by
  have hls := (h.lim hl).1
  have hstr := h.str
  have hxl : x.s.length = s.size := by rw [← hstr, Cod.str_len]
  go_enter Tryd.func35, Tryd.ntmps35
  go_wp2_with fail
  go_loopg [] x.s.length (fun g wr => ∃ m s', x.s.length = g + m ∧ ScIs wr b s' (St.at x m) ∧ Lx.skipN false x.s = m + Lx.skipN false (x.s.drop m) ∧ Mod [b] w wr)
  case atStart => exact ⟨0, s, rfl, by simpa [St.at, Lx.adv] using h, by simp, Mod.refl _ _⟩
  case round =>
    obtain ⟨m, s', hg, hS, hk, hmr⟩ := hrel
    have q0 : wr.cell? ⟨b, 0, none⟩ = some (.string s') := hS.cell 0
    have hsz : s'.size = (x.s.drop m).length := by rw [← Cod.str_len, hS.str]; rfl
    have hss := hS.size
    cases hd : x.s.drop m with
    | nil =>
      have HD := Lib.hid hd
      rw [hd] at hsz hk
      have hem : s'.toList.isEmpty = true := by rw [toList_isEmpty, hsz]; rfl
      have HK := Lib.hid hk
      clear hd hsz hk
      go_wp2_with fail
      go_end0
      refine ⟨rfl, s', ?_, hmr⟩
      have e : x.skip = St.at x m := by
        unfold Lx.St.skip St.at
        rw [HK.out]; rfl
      rw [e]; exact hS
    | cons c t =>
      have HD := Lib.hid hd
      rw [hd] at hsz hk
      have hem : s'.toList.isEmpty = false := by rw [toList_isEmpty, hsz]; rfl
      have h0 : 0 < s'.size := by rw [hsz]; simp
      have hst : Cod.str s' = c :: t := by rw [hS.str, ← hd]; rfl
      have hc0 : s'[0].toNat = c := by rw [← Lx.get_str s' 0 h0, hst]; rfl
      have hrn := Lx.run_le Lx.blank (c :: t)
      have hcallb := len_blank s' (by omega) wr
      have hcalll := fun w => len_line s' (by omega) w
      rw [hst] at hcallb
      simp only [hst] at hcalll
      have hgm : (c :: t).length = gk := by rw [← hd, List.length_drop]; omega
      by_cases hb : Lx.blank c = true
      · have hr1 : 1 ≤ Lx.run Lx.blank (c :: t) := Lx.run_pos (by simp) (by simpa using hb)
        have hsk := Lx.skip_blank (c :: t)
        rw [← hd, List.drop_drop, hd] at hsk
        generalize hrr : Lx.run Lx.blank (c :: t) = r at *
        have hz : ((r : Int) == 0) = false := by rw [beq_eq_false_iff_ne]; omega
        have hpass := pass_any b s' (St.at x m) r
        rw [St.at_at] at hpass
        have HSK := Lib.hid hsk; have HK := Lib.hid hk; have HP := Lib.hid hpass; have HB := Lib.hid hcallb; have HSZ := Lib.hid hsz; have HGM := Lib.hid hgm; have HG := Lib.hid hg
        clear hrr hsk hk hpass hcallb hcalll hst hc0 hsz hd hgm hxl hg hstr
        go_wp2_with fail
        refine HB.out.mono ?_
        rintro e w2 ⟨rfl, hm2⟩
        have hS2 := hS.past hm2 (by simp)
        go_wp2_with fail
        refine (HP.out w2 hS2 (by rw [HSZ.out]; exact hrn) hl).mono ?_
        rintro e w3 ⟨rfl, s3, hS3, hm3⟩
        have hm3' := (hmr.trans hm2 (by simp)).trans hm3 (fun t ht => .inl ht)
        go_wp2_with fail
        go_roundg (gk - r)
        case measure => have := HGM.out; simp at this; omega
        case rel =>
          have h1 := HGM.out
          have h2 := HG.out
          exact ⟨m + r, s3, by rw [← h1] at h2 ⊢; omega, hS3, by rw [HK.out, HSK.out, Nat.add_assoc], hm3'⟩
      · have hb' : Lx.blank c = false := by simpa using hb
        have hrb : Lx.run Lx.blank (c :: t) = 0 := by rw [Lx.run_cons, hb']; rfl
        rw [hrb] at hcallb
        by_cases hc : c = 35
        · subst hc
          have hr1 : 1 ≤ Lx.run Lx.line (35 :: t) := Lx.run_pos (by simp) rfl
          have hrn := Lx.run_le Lx.line (35 :: t)
          have hsk := Lx.skip_remark t
          rw [← hd, List.drop_drop, hd] at hsk
          generalize hrr : Lx.run Lx.line (35 :: t) = r at *
          have hz : ((r : Int) == 0) = false := by rw [beq_eq_false_iff_ne]; omega
          have hpass := pass_any b s' (St.at x m) r
          rw [St.at_at] at hpass
          have hidx : ((s'[0].toNat : Int) == 35) = true := by rw [hc0]; rfl
          have HSK := Lib.hid hsk; have HK := Lib.hid hk; have HP := Lib.hid hpass; have HB := Lib.hid hcallb; have HL := Lib.hid hcalll; have HSZ := Lib.hid hsz; have HGM := Lib.hid hgm; have HG := Lib.hid hg
          clear hrr hsk hk hpass hcallb hcalll hst hc0 hsz hd hgm hxl hg hstr hrb
          go_wp2_with fail
          refine HB.out.mono ?_
          rintro e w2 ⟨rfl, hm2⟩
          have hS2 := hS.past hm2 (by simp)
          have q2 : w2.cell? ⟨b, 0, none⟩ = some (.string s') := hS2.cell 0
          go_wp2_with fail
          refine (HL.out _).mono ?_
          rintro e w3 ⟨rfl, hm3⟩
          have hS3 := hS2.past hm3 (by simp)
          go_wp2_with fail
          refine (HP.out w3 hS3 (by rw [HSZ.out]; exact hrn) hl).mono ?_
          rintro e w4 ⟨rfl, s4, hS4, hm4⟩
          have hm4' := ((hmr.trans hm2 (by simp)).trans hm3 (by simp)).trans hm4 (fun t ht => .inl ht)
          go_wp2_with fail
          go_roundg (gk - r)
          case measure => have := HGM.out; simp at this; omega
          case rel =>
            have h1 := HGM.out
            have h2 := HG.out
            exact ⟨m + r, s4, by rw [← h1] at h2 ⊢; omega, hS4, by rw [HK.out, HSK.out, Nat.add_assoc], hm4'⟩
        · have hsk := Lx.skip_none (t := t) hb' hc
          have hidx : ((s'[0].toNat : Int) == 35) = false := by rw [hc0, beq_eq_false_iff_ne]; omega
          have HSK := Lib.hid hsk; have HK := Lib.hid hk; have HB := Lib.hid hcallb; have HSZ := Lib.hid hsz; have HGM := Lib.hid hgm; have HG := Lib.hid hg; have HDD := Lib.hid hd
          clear hsk hk hcallb hcalll hst hc0 hsz hd hgm hxl hg hstr hrb hc
          go_wp2_with fail
          refine HB.out.mono ?_
          rintro e w2 ⟨rfl, hm2⟩
          have hS2 := hS.past hm2 (by simp)
          have q2 : w2.cell? ⟨b, 0, none⟩ = some (.string s') := hS2.cell 0
          go_wp2_with fail
          refine bodyPost_ret (results_none rfl _ _ _) rfl ?_
          refine ⟨rfl, s', ?_, hmr.trans hm2 (by simp)⟩
          have e : x.skip = St.at x m := by
            unfold Lx.St.skip St.at
            rw [HK.out, HSK.out]; rfl
          rw [e]; exact hS2
end Go.Proofs.YtobimhmllkfmfaaDoor
