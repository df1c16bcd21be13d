/- LexStands. -/
import Derived.Test.YtobimhmllkfmfaaDoorLawPlace
import Derived.Deep.RegionHeld3
import Derived.Deep.RegionWith
import Derived.Deep.DeepCutAuto
namespace Go.Proofs.YtobimhmllkfmfaaDoor
open Go.RowKit
set_option linter.unusedVariables false
set_option linter.unusedSimpArgs false
set_option maxRecDepth 100000

theorem given_long {l : List Nat} (h : (Lx.given l).2.code = 0) : l.length ≤ 65536 := by
  refine Nat.le_of_not_lt fun hl => ?_
  have hlo : (Lx.start l).long = true := by simp [Lx.start]; omega
  have : (Lx.given l).2.code = 2 := by
    unfold Lx.given
    rw [allF_succ]
    have : Lx.next (Lx.start l) = ({ Lx.start l with code := 2 }, none) := by
      unfold Lx.next
      rw [if_neg (by simp [Lx.start]), if_pos hlo]
    rw [this]; rfl
  omega

theorem wrap_small (x : Int) (h1 : -1000000000 ≤ x) (h2 : x ≤ 1000000000) : IntKind.i64.wrap x = x := by
  rw [IntKind.wrap_i64]
  omega
/-- the loop over all words: what it holds -/
structure StLoop (l : List Lx.Tok) (s : ByteArray) (wL wr : World) (p a i kk : Nat) (x : Lx.St) : Prop where
  str : x.s = (Cod.str s).drop a
  al : a ≤ s.size
  all : l.drop i = (Lx.allF (kk + 1) x).1
  code : (Lx.allF (kk + 1) x).2.code = 0
  fuel : x.s.length < kk + 1
  il : i ≤ l.length
  box : wr.heap[p]? = some (.cells (posV x.pos) 26 (0, 0))
  pl1 : x.pos.1 + 2 * x.s.length ≤ 200000
  pl2 : x.pos.2 + 2 * x.s.length ≤ 200000
  mod : Mod [p] wL wr

set_option maxHeartbeats 8000000 in
theorem LexStands_any (s : ByteArray) (hs : s.size ≤ 140737488355328) (w : World) (hG : Glob w) :
    Calls Tryd.prog 6 #[.string s] w fun e w' => e = .returned (.bool true) ∧ Mod [] w w' := by
  have hk := known_any w hG
  have h1 := fun w hG => Tokens_any s hs w hG
  unfold Toks at h1
  by_cases e1 : (Lx.given (Cod.str s)).2.code = 0
  · have hf : Lx.fault (Cod.str s) = (0, 0, 0) := by unfold Lx.fault; rw [if_pos e1]
    have htk : Lx.tokens (Cod.str s) = (Lx.given (Cod.str s)).1 := by unfold Lx.tokens; rw [if_pos e1]
    have hsz : s.size ≤ 65536 := by have := given_long e1; rwa [Cod.str_len] at this
    have hll := tokens_len s
    have hbs := Cod.str_lt s
    rw [htk] at hll
    rw [hf, htk] at h1
    have hall : (Lx.given (Cod.str s)).1 = (Lx.allF (s.size + 1) (Lx.start (Cod.str s))).1 := by unfold Lx.given; rw [Cod.str_len]
    have hcod : (Lx.allF (s.size + 1) (Lx.start (Cod.str s))).2.code = 0 := by rw [← Cod.str_len]; exact e1
    generalize (Lx.given (Cod.str s)).1 = l at *
    have HK := Lib.hid hk; have H1 := Lib.hid h1; have HALL := Lib.hid hall; have HCOD := Lib.hid hcod; have HBS := Lib.hid hbs
    clear hk h1 hall hcod hf htk e1 hbs
    simp only [fltV, show ((0 : Nat) : Int) = 0 from rfl] at H1
    go_enter Tryd.func6, Tryd.ntmps6
    go_wp2_with fail
    refine HK.out.mono ?_
    rintro e w1 ⟨rfl, hm1⟩
    have HM1 := Lib.hid hm1
    clear hm1
    go_wp2_with fail
    refine (H1.out w1 (hG.past HM1.out (by simp))).mono ?_
    rintro e w2 ⟨v1, rfl, hv1, hm2⟩
    have hm2' := hm2.alloc (Obj.cells #[Value.int IntKind.i64 0, Value.int IntKind.i64 0, Value.int IntKind.i64 0] 28)
    have hm3' := ((Mod.refl [] w2).alloc (Obj.cells #[Value.int IntKind.i64 0, Value.int IntKind.i64 0, Value.int IntKind.i64 0] 28)).alloc (Obj.cells #[Value.int IntKind.i64 1, Value.int IntKind.i64 1] 26)
    have hP := heap_alloc_new (w2.alloc (Obj.cells #[Value.int IntKind.i64 0, Value.int IntKind.i64 0, Value.int IntKind.i64 0] 28)) (Obj.cells #[Value.int IntKind.i64 1, Value.int IntKind.i64 1] 26)
    have hlv := hv1.lit
    have hr1 := hv1.past hm3' (by simp)
    have hM := (HM1.out.trans hm2 (by simp)).trans hm3' (by simp)
    have hpf : w2.heap.size + 1 ∉ fp v1 := fun h => by have := fp_lt hv1.row _ h; omega
    have hpw : w.heap.size ≤ w2.heap.size := (HM1.out.trans hm2 (by simp)).size
    have HM := Lib.hid hM; have HR := Lib.hid hr1; have HP := Lib.hid hP; have HPF := Lib.hid hpf
    clear hm2' hm3' hr1 hM hm2 hP hv1 hpf
    obtain ⟨va, vc, rfl⟩ := hlv
    go_wp2_with fail
    have hP2 : ((w2.alloc (Obj.cells #[Value.int IntKind.i64 0, Value.int IntKind.i64 0, Value.int IntKind.i64 0] 28)).alloc (Obj.cells #[Value.int IntKind.i64 1, Value.int IntKind.i64 1] 26)).heap[w2.heap.size + 1]? = some (.cells (posV (1, 1)) 26 (0, 0)) := alloc_at _ (by simp)
    have HP2 := Lib.hid hP2
    clear HP hP2
    generalize ((w2.alloc (Obj.cells #[Value.int IntKind.i64 0, Value.int IntKind.i64 0, Value.int IntKind.i64 0] 28)).alloc (Obj.cells #[Value.int IntKind.i64 1, Value.int IntKind.i64 1] 26)) = wL at *
    generalize hp : w2.heap.size + 1 = p at *
    go_loopw [6, 8] (fun av iv wr => ∃ (a i kk : Nat) (x : Lx.St), av = .int .i64 (a : Nat) ∧ iv = .int .i64 (i : Nat) ∧ StLoop l s wL wr p a i kk x) (fun _ iv _ => l.length - (intOf iv).toNat)
    case atStart =>
      refine ⟨0, 0, s.size, Lx.start (Cod.str s), rfl, rfl, ⟨rfl, Nat.zero_le _, HALL.out, HCOD.out, ?_, Nat.zero_le _, HP2.out, ?_, ?_, Mod.refl _ _⟩⟩
      · show (Cod.str s).length < _; rw [Cod.str_len]; omega
      · show 1 + 2 * (Cod.str s).length ≤ _; rw [Cod.str_len]; omega
      · show 1 + 2 * (Cod.str s).length ≤ _; rw [Cod.str_len]; omega
    case round =>
      obtain ⟨a, i, kk, x, rfl, rfl, hT⟩ := hrel
      have hxl : x.s.length = s.size - a := by rw [hT.str, List.length_drop, Cod.str_len]
      have hxb : ∀ c ∈ x.s, c < 256 := fun c hc => by rw [hT.str] at hc; exact HBS.out c (List.mem_of_mem_drop hc)
      have hal := hT.al
      have hB := hT.box
      have hil := hT.il
      have hpl1 := hT.pl1
      have hpl2 := hT.pl2
      have hmr := hT.mod
      have hrr := HR.out.keep hmr (fun k hk hS => HPF.out (by simp at hS; subst hS; exact hk))
      rcases Lx.stands hxb (by omega) hT.fuel hT.code with ⟨h0, hbare⟩ | ⟨g, n, t, y, h1, h2, h3, h4, h5, h6, h7, h8, h9, h10, h11, h12, h13, h14⟩
      · have hii : i = l.length := by
          have := hT.all
          rw [h0] at this
          have := congrArg List.length this
          simp at this
          omega
        subst hii
        have hkI : ¬ (l.length : Int) < (l.length : Int) := by omega
        have haI : (a : Int) ≤ (s.size : Int) := by omega
        have haI0 : (0 : Int) ≤ (a : Int) := by omega
        have he := empty_any (s.extract a s.size) (by rw [ByteArray.size_extract]; omega)
        have hes : Lx.bare false (Cod.str (s.extract a s.size)) = true := by
          rw [Lx.str_extract, ← hT.str, List.take_of_length_le (by omega)]; exact hbare
        rw [hes] at he
        have HE := Lib.hid he; have HMr := Lib.hid hmr
        clear he hes hT hxb hxl hB hrr hbare h0 hmr
        go_wp2_with fail
        refine (HE.out _).mono ?_
        rintro e w5 ⟨rfl, rfl⟩
        go_wp2_with fail
        go_ret
        exact ⟨rfl, HM.out.trans HMr.out (by simp; omega)⟩
      · obtain ⟨kk, rfl⟩ : ∃ k', kk = k' + 1 := ⟨kk - 1, by omega⟩
        have hdr := hT.all
        rw [h1] at hdr
        have hil2 : i < l.length := by
          have := congrArg List.length hdr
          simp at this
          omega
        have hti : l[i]? = some t := by
          have := congrArg (fun l => l[0]?) hdr
          simpa using this
        have hdr2 : l.drop (i + 1) = (Lx.allF (kk + 1) y).1 := by
          rw [← List.drop_drop, hdr]; rfl
        have hne : ∀ j, j < g → Lx.adv x.pos (x.s.take j) ≠ (t.line, t.col) := fun j hj => by rw [h11]; exact Lx.adv_ne _ _ hj (by omega)
        have hbd : ∀ j, (Lx.adv x.pos (x.s.take j)).1 ≤ 200000 ∧ (Lx.adv x.pos (x.s.take j)).2 ≤ 200000 := fun j => by
          have := Lx.adv_le x.pos (x.s.take j)
          rw [List.length_take] at this
          omega
        have hstep : ∀ j, j < g → Lx.adv x.pos (x.s.take (j + 1)) = Lx.adv (Lx.adv x.pos (x.s.take j)) (Cod.str (s.extract (a + j) (a + j + 1))) := fun j hj => by
          rw [take_snoc _ 0 _ (by omega), Lx.adv_append, Lx.str_extract, hT.str]
          congr 1
          have hlt : a + j < (Cod.str s).length := by rw [Cod.str_len]; omega
          rw [show a + j + 1 - (a + j) = 1 by omega, List.drop_eq_getElem_cons hlt]
          simp only [List.take_succ_cons, List.take_zero, List.getD_eq_getElem?_getD, List.getElem?_drop, List.getElem?_eq_getElem hlt, Option.getD_some]
        have hgap : Lx.bare false (Cod.str (s.extract a (a + g))) = true := by
          rw [Lx.str_extract, show a + g - a = g by omega, ← hT.str]; exact h7
        have hXs : Cod.str (Lx.ofS t.text) = t.text := Lx.str_ofS (fun c hc => by rw [h8] at hc; exact hxb c (List.mem_of_mem_drop (List.mem_of_mem_take hc)))
        have hXz : (Lx.ofS t.text).size = n := by rw [ofS_size, h9]
        have hXe : s.extract (a + g) (a + g + n) = Lx.ofS t.text := by
          apply Lx.str_inj
          rw [Lx.str_extract, hXs, h8, hT.str, List.drop_drop, show a + g + n - (a + g) = n by omega]
        have hyp : y.pos = Lx.adv (Lx.adv x.pos (x.s.take g)) (Cod.str (Lx.ofS t.text)) := by rw [hXs]; exact h12
        have hys : y.s = (Cod.str s).drop (a + g + n) := by rw [h10, hT.str, List.drop_drop, Nat.add_assoc]
        have hyl : y.s.length = s.size - (a + g + n) := by rw [hys, List.length_drop, Cod.str_len]
        have hyb : y.pos.1 + 2 * y.s.length ≤ 200000 ∧ y.pos.2 + 2 * y.s.length ≤ 200000 := by
          have q1 := Lx.adv_le x.pos (x.s.take g)
          have q2 := Lx.adv_le (Lx.adv x.pos (x.s.take g)) t.text
          rw [List.length_take] at q1
          rw [← h12, h9] at q2
          rw [hyl]
          omega
        have htk := fun w hG => Tokens_any (Lx.ofS t.text) (by omega) w hG
        unfold Toks at htk
        rw [hXs, h13, h14] at htk
        simp only [fltV, show ((0 : Nat) : Int) = 0 from rfl] at htk
        have hem := empty_any (s.extract a (a + g)) (by rw [ByteArray.size_extract]; omega)
        rw [hgap] at hem
        have HTK := Lib.hid htk; have HEM := Lib.hid hem; have HNE := Lib.hid hne; have HBD := Lib.hid hbd; have HST := Lib.hid hstep; have HTI := Lib.hid hti; have HRR := Lib.hid hrr; have HMR := Lib.hid hmr
        have HXE := Lib.hid hXe; have HYP := Lib.hid hyp; have HYS := Lib.hid hys; have HYB := Lib.hid hyb; have HDR := Lib.hid hdr2; have HCY := Lib.hid h2; have HPG := Lib.hid h11
        have hBX := Lib.hid hB
        have h3' : y.s.length < kk + 1 := h3
        clear htk hem hne hbd hstep hti hrr hmr hXe hyp hys hyb hdr2 h2 h7 h8 h10 h11 h12 h13 h14 h9 hgap hdr h1 hT hB hXs hxb
        have hiI : (i : Int) < (l.length : Int) := by omega
        have hi0 : (0 : Int) ≤ (i : Int) := by omega
        go_wp2_with fail
        go_loopw [6] (fun av wi => ∃ j : Nat, j ≤ g ∧ av = .int .i64 ((a + j : Nat) : Int) ∧ wi.heap[p]? = some (.cells (posV (Lx.adv x.pos (x.s.take j))) 26 (0, 0)) ∧ Mod [p] wr wi) (fun av _ => g - ((intOf av).toNat - a))
        case atStart => exact ⟨0, Nat.zero_le _, by simp, hBX.out, Mod.refl _ _⟩
        case round =>
          obtain ⟨j, hj, rfl, hBi, hmi⟩ := hrel
          have hri := HRR.out.keep hmi (fun k hk hS => HPF.out (by simp at hS; subst hS; exact hk))
          obtain ⟨g1, k1, ev, a0, a1, a2, a3, a4, a5, a6⟩ := hri.at i t HTI.out
          simp only [Value.slice.injEq, true_and] at ev
          obtain ⟨rfl, rfl⟩ := ev
          have hpg1 : p ≠ g1 := fun h => HPF.out (by simp [fp, h])
          obtain ⟨hb1, hb2⟩ := HBD.out j
          have hpli := lt_of_block hBi
          have hfz : ∀ k, wr.frozen? ⟨p, k, none⟩ = false := fun k => by simp [World.frozen?, hBi]
          by_cases hjg : j < g
          · have hnej := HNE.out j hjg
            have hstj := HST.out j hjg
            have hb3 := HBD.out (j + 1)
            generalize hqd : a + j = q at *
            have hqI : (q : Int) < (s.size : Int) := by omega
            have hq0 : (0 : Int) ≤ (q : Int) := by omega
            generalize Lx.adv x.pos (x.s.take j) = P at *
            generalize hRd : Lx.adv x.pos (x.s.take (j + 1)) = R at *
            have HRD := Lib.hid hRd
            clear hRd
            obtain ⟨P1, P2⟩ := P
            obtain ⟨R1, R2⟩ := R
            simp only [posV] at hBi
            have c0 : wr.cell? ⟨p, 0, none⟩ = some (.int .i64 (P1 : Nat)) := by simp [World.cell?, hBi]
            have c1 : wr.cell? ⟨p, 1, none⟩ = some (.int .i64 (P2 : Nat)) := by simp [World.cell?, hBi]
            have hbe := fun w => behind_any (P1, P2) (s.extract q (q + 1)) (by rw [ByteArray.size_extract]; omega) (by simp only; simp only at hb1; omega) (by simp only; simp only at hb2; omega) w
            rw [← hstj] at hbe
            simp only [posV] at hbe
            have hdec : (P1 ≠ t.line) ∨ (P1 = t.line ∧ P2 ≠ t.col) := by
              by_cases h : P1 = t.line
              · exact .inr ⟨h, fun h2 => hnej (by rw [h, h2])⟩
              · exact .inl h
            have HBE := Lib.hid hbe; have HBi := Lib.hid hBi; have HMi := Lib.hid hmi
            have hqq : ((q + 1 : Nat) : Int) = (q : Int) + 1 := by omega
            have hlen1 : q + 1 ≤ s.size := by omega
            have hP1 : (P1 : Int) ≤ 200000 := by simp only at hb1; omega
            have hP2 : (P2 : Int) ≤ 200000 := by simp only at hb2; omega
            have hnp : p ∉ ([] : List Nat) := by simp
            have hq2 : (q : Int) + 1 ≤ (s.size : Int) := by omega
            have hq3 : (0 : Int) ≤ (q : Int) + 1 := by omega
            have hq4 : (q : Int) ≤ (q : Int) + 1 := by omega
            have hq5 : ((q : Int) + 1).toNat = q + 1 := by omega
            have hq6 : IntKind.i64.wrap ((q : Int) + 1) = (q : Int) + 1 := wrap_small _ (by omega) (by omega)
            clear hnej hbe hBi hmi hstj hb3 hri hb1 hb2
            rcases hdec with hd | ⟨hd1, hd2⟩
            · have n1 : ((P1 : Int) == (t.line : Int)) = false := by rw [beq_eq_false_iff_ne]; omega
              have n2 : ¬ ((P1 : Int) = (t.line : Int)) := by omega
              go_wp2_with fail
              go_quiet (fail)
              go_wp2_with fail
              have hD : Mod [] wr (wr.drewN nq) := (Mod.refl [] wr).drewN nq
              have hBd := hD.at HBi.out hnp
              have hmd := HMi.out.trans hD (by simp)
              generalize wr.drewN nq = wd at *
              have d0 : wd.cell? ⟨p, 0, none⟩ = some (.int .i64 (P1 : Nat)) := by simp [World.cell?, hBd]
              have d1 : wd.cell? ⟨p, 1, none⟩ = some (.int .i64 (P2 : Nat)) := by simp [World.cell?, hBd]
              have hfd : ∀ k, wd.frozen? ⟨p, k, none⟩ = false := fun k => by simp [World.frozen?, hBd]
              have e0 : wd.drew.cell? ⟨p, 0, none⟩ = some (.int .i64 (P1 : Nat)) := d0
              have e1 : wd.drew.cell? ⟨p, 1, none⟩ = some (.int .i64 (P2 : Nat)) := d1
              have HC0 := Lib.hid d0; have HC1 := Lib.hid d1; have HD0 := Lib.hid e0; have HD1 := Lib.hid e1; have HBd := Lib.hid hBd; have HMd := Lib.hid hmd
              clear e0 e1 hBd hmd hD a0 a1 a2 a3 a4 a5 a6 c0 c1 hfz
              go_region_with ((go_at_call 20; refine (HBE.out _).mono ?_; rintro e w4 ⟨rfl, hm4⟩; have z0 := hm4.cell HC0.out hnp; have z1 := hm4.cell HC1.out hnp; have hB4 := hm4.at HBd.out hnp; have fz4 : ∀ k, w4.frozen? ⟨p, k, none⟩ = false := (fun k => (by simp [World.frozen?, hB4])); have HB4 := Lib.hid hB4; have HM4 : Hid (Mod [] wd w4) := Lib.hid (((Mod.refl [] wd).drew).trans hm4 (fun t ht => .inl ht)); clear hm4 hB4))
              go_wp2_with fail
              go_roundw
              case rel =>
                refine ⟨j + 1, by omega, ?_, ?_, ?_⟩
                · rw [show a + (j + 1) = q + 1 by omega, hqq]
                · rw [HRD.out]; exact store2 HB4.out _ _
                · exact ((HMd.out.trans HM4.out (by simp)).setCell (p := ⟨p, 0, none⟩) (by simp) _).setCell (p := ⟨p, 1, none⟩) (by simp) _
              case measure => simp [intOf]; omega
            · subst hd1
              have n3 : ((P2 : Int) == (t.col : Int)) = false := by rw [beq_eq_false_iff_ne]; omega
              have n4 : ¬ ((P2 : Int) = (t.col : Int)) := by omega
              go_wp2_with fail
              go_quiet (fail)
              go_wp2_with fail
              have hD : Mod [] wr (wr.drewN nq) := (Mod.refl [] wr).drewN nq
              have hBd := hD.at HBi.out hnp
              have hmd := HMi.out.trans hD (by simp)
              generalize wr.drewN nq = wd at *
              have d0 : wd.cell? ⟨p, 0, none⟩ = some (.int .i64 (t.line : Nat)) := by simp [World.cell?, hBd]
              have d1 : wd.cell? ⟨p, 1, none⟩ = some (.int .i64 (P2 : Nat)) := by simp [World.cell?, hBd]
              have hfd : ∀ k, wd.frozen? ⟨p, k, none⟩ = false := fun k => by simp [World.frozen?, hBd]
              have e0 : wd.drew.cell? ⟨p, 0, none⟩ = some (.int .i64 (t.line : Nat)) := d0
              have e1 : wd.drew.cell? ⟨p, 1, none⟩ = some (.int .i64 (P2 : Nat)) := d1
              have HC0 := Lib.hid d0; have HC1 := Lib.hid d1; have HD0 := Lib.hid e0; have HD1 := Lib.hid e1; have HBd := Lib.hid hBd; have HMd := Lib.hid hmd
              clear e0 e1 hBd hmd hD a0 a1 a2 a3 a4 a5 a6 c0 c1 hfz
              go_region_with ((go_at_call 20; refine (HBE.out _).mono ?_; rintro e w4 ⟨rfl, hm4⟩; have z0 := hm4.cell HC0.out hnp; have z1 := hm4.cell HC1.out hnp; have hB4 := hm4.at HBd.out hnp; have fz4 : ∀ k, w4.frozen? ⟨p, k, none⟩ = false := (fun k => (by simp [World.frozen?, hB4])); have HB4 := Lib.hid hB4; have HM4 : Hid (Mod [] wd w4) := Lib.hid (((Mod.refl [] wd).drew).trans hm4 (fun t ht => .inl ht)); clear hm4 hB4))
              go_wp2_with fail
              go_roundw
              case rel =>
                refine ⟨j + 1, by omega, ?_, ?_, ?_⟩
                · rw [show a + (j + 1) = q + 1 by omega, hqq]
                · rw [HRD.out]; exact store2 HB4.out _ _
                · exact ((HMd.out.trans HM4.out (by simp)).setCell (p := ⟨p, 0, none⟩) (by simp) _).setCell (p := ⟨p, 1, none⟩) (by simp) _
              case measure => simp [intOf]; omega
          · obtain rfl : j = g := by omega
            have hpg := HPG.out
            generalize Lx.adv x.pos (x.s.take j) = P at *
            obtain ⟨P1, P2⟩ := P
            simp only [Prod.mk.injEq] at hpg
            obtain ⟨rfl, rfl⟩ := hpg
            simp only [posV] at hBi
            have c0 : wr.cell? ⟨p, 0, none⟩ = some (.int .i64 (t.line : Nat)) := by simp [World.cell?, hBi]
            have c1 : wr.cell? ⟨p, 1, none⟩ = some (.int .i64 (t.col : Nat)) := by simp [World.cell?, hBi]
            have hbe := fun w => behind_any (t.line, t.col) (Lx.ofS t.text) (by omega) (by simp only; simp only at hb1; omega) (by simp only; simp only at hb2; omega) w
            rw [← HYP.out] at hbe
            have hyb := HYB.out
            generalize hyd : y.pos = R at hbe hyb
            obtain ⟨R1, R2⟩ := R
            simp only [posV] at hbe
            have HBE := Lib.hid hbe; have HBi := Lib.hid hBi; have HMi := Lib.hid hmi; have HYD := Lib.hid hyd
            have hxe := HXE.out
            have htl : ((Lx.ofS t.text).size : Int) = (n : Int) := by rw [hXz]
            clear hbe hBi hmi hyd hri hb1 hb2 hyb
            generalize hqd : a + j = q at *
            generalize hnd : q + n = qn at *
            generalize hXd : Lx.ofS t.text = X at *
            have HXD := Lib.hid hXd
            clear hXd
            have hqI : (q : Int) < (s.size : Int) := by omega
            have hq0 : (0 : Int) ≤ (q : Int) := by omega
            have hq1 : (q : Int) ≤ (s.size : Int) := by omega
            have hn0 : (0 : Int) ≤ (n : Int) := by omega
            have hnB : ((n : Int) == 0) = false := by rw [beq_eq_false_iff_ne]; omega
            have haq : (a : Int) ≤ (q : Int) := by omega
            have ha0 : (0 : Int) ≤ (a : Int) := by omega
            have hqn2 : (q : Int) + (n : Int) ≤ (s.size : Int) := by omega
            have hqn3 : (q : Int) ≤ (q : Int) + (n : Int) := by omega
            have hqn4 : (0 : Int) ≤ (q : Int) + (n : Int) := by omega
            have hqn5 : ¬ ((s.size : Int) < (q : Int) + (n : Int)) := by omega
            have hqn7 : decide ((s.size : Int) < (q : Int) + (n : Int)) = false := decide_eq_false hqn5
            have hnp : p ∉ ([] : List Nat) := by simp
            go_wp2_with fail
            go_quiet (fail)
            have hD : Mod [] wr (wr.drewN nq) := (Mod.refl [] wr).drewN nq
            have hBd := hD.at HBi.out hnp
            have hmd := HMi.out.trans hD (by simp)
            replace a0 := hD.cell a0 (by simp)
            replace a1 := hD.cell a1 (by simp)
            replace a2 := hD.cell a2 (by simp)
            replace a3 := hD.cell a3 (by simp)
            replace a4 := hD.cell a4 (by simp)
            replace a5 := hD.cell a5 (by simp)
            replace a6 := hD.cell a6 (by simp)
            replace c0 := hD.cell c0 (by simp)
            replace c1 := hD.cell c1 (by simp)
            clear hfz hpli HBi HMi hD
            generalize wr.drewN nq = wd at *
            have HBd := Lib.hid hBd; have HMd := Lib.hid hmd
            clear hBd hmd
            go_wp2_with fail
            refine (HEM.out _).mono ?_
            rintro e w5 ⟨rfl, rfl⟩
            have hqw : IntKind.i64.wrap ((q : Int) + (n : Int)) = (q : Int) + (n : Int) := wrap_small _ (by omega) (by omega)
            have hqn6 : ((q : Int) + (n : Int)).toNat = qn := by omega
            clear hjg hj hnd
            go_wp2_with fail
            go_quiet (fail)
            go_wp2_with fail
            have hD : Mod [] w5 (w5.drewN nq) := (Mod.refl [] w5).drewN nq
            have hBq := hD.at HBd.out hnp
            have hmq := HMd.out.trans hD (by simp)
            replace a0 := hD.cell a0 (by simp)
            replace a1 := hD.cell a1 (by simp)
            replace a2 := hD.cell a2 (by simp)
            replace a3 := hD.cell a3 (by simp)
            replace a4 := hD.cell a4 (by simp)
            replace a5 := hD.cell a5 (by simp)
            replace a6 := hD.cell a6 (by simp)
            replace c0 := hD.cell c0 (by simp)
            replace c1 := hD.cell c1 (by simp)
            clear HBd HMd hD
            generalize w5.drewN nq = wq at *
            have b1 : wq.drew.cell? ⟨g1, i * 7 + 1, none⟩ = some (.string X) := a1
            have e0 : wq.drew.cell? ⟨p, 0, none⟩ = some (.int .i64 (t.line : Nat)) := c0
            have e1 : wq.drew.cell? ⟨p, 1, none⟩ = some (.int .i64 (t.col : Nat)) := c1
            have HC0 := Lib.hid c0; have HC1 := Lib.hid c1; have HBq := Lib.hid hBq; have HMq := Lib.hid hmq
            have HA : Hid (∀ w', Mod [p] wq w' → w'.cell? ⟨g1, i * 7, none⟩ = some (.int .i64 (t.kind : Nat)) ∧ w'.cell? ⟨g1, i * 7 + 1, none⟩ = some (.string X) ∧ w'.cell? ⟨g1, i * 7 + 2, none⟩ = some (.int .i64 (t.vk : Nat)) ∧ w'.cell? ⟨g1, i * 7 + 3, none⟩ = some (.int .i64 (t.num : Nat)) ∧ w'.cell? ⟨g1, i * 7 + 4, none⟩ = some (.string (Lx.ofS t.sym))) :=
              Lib.hid (fun w' hm => ⟨hm.cell a0 (by simp; omega), hm.cell a1 (by simp; omega), hm.cell a2 (by simp; omega), hm.cell a3 (by simp; omega), hm.cell a4 (by simp; omega)⟩)
            clear hBq hmq a0 a2 a3 a4 a5 a6
            go_cut [] (fun wx => wx.heap[p]? = some (.cells #[.int .i64 (R1 : Nat), .int .i64 (R2 : Nat)] 26 (0, 0)) ∧ Mod [p] wq wx)
            case first =>
              go_region_with ((go_at_call 20; refine (HBE.out _).mono ?_; rintro e w4 ⟨rfl, hm4⟩; have z0 := hm4.cell HC0.out hnp; have z1 := hm4.cell HC1.out hnp; have hB4 := hm4.at HBq.out hnp; have fz4 : ∀ k, w4.frozen? ⟨p, k, none⟩ = false := (fun k => (by simp [World.frozen?, hB4])); have HB4 := Lib.hid hB4; have HM4 : Hid (Mod [] wq w4) := Lib.hid (((Mod.refl [] wq).drew).trans hm4 (fun t ht => .inl ht)); clear hm4 hB4))
              all_goals go_wp2_with fail
              all_goals go_meet
              all_goals exact ⟨store2 HB4.out _ _, ((HM4.out.mono (T := [p]) (by simp)).setCell (p := ⟨p, 0, none⟩) (by simp) _).setCell (p := ⟨p, 1, none⟩) (by simp) _⟩
            case rest =>
              obtain ⟨hB6, hm6⟩ := hcut
              clear HC0 HC1 e0 e1 b1 c0 c1 a1 HBq
              generalize wc = w6 at *
              obtain ⟨a0, a1, a2, a3, a4⟩ := HA.out w6 hm6
              have hML6 : Mod [p] wL w6 := (HMR.out.trans HMq.out (fun t ht => .inl ht)).trans hm6 (fun t ht => .inl ht)
              have hMw6 : Mod [] w w6 := HM.out.trans hML6 (by simp; omega)
              have HB6 := Lib.hid hB6; have HML6 := Lib.hid hML6; have HMW6 := Lib.hid hMw6; have HM6 := Lib.hid hm6
              clear hB6 hML6 hMw6 hm6 a0 a2 a3 a4
              go_wp2_with fail
              refine (HTK.out _ (hG.past HMW6.out (by simp))).mono ?_
              rintro e w7 ⟨v7, rfl, hv7, hm7⟩
              have hm8 := hm7.alloc (Obj.cells #[Value.int IntKind.i64 0, Value.int IntKind.i64 0, Value.int IntKind.i64 0] 28)
              have hF8 := heap_alloc_new w7 (Obj.cells #[Value.int IntKind.i64 0, Value.int IntKind.i64 0, Value.int IntKind.i64 0] 28)
              have hr8 := hv7.past ((Mod.refl [] w7).alloc (Obj.cells #[Value.int IntKind.i64 0, Value.int IntKind.i64 0, Value.int IntKind.i64 0] 28)) (by simp)
              obtain ⟨g7, k7, rfl, m0, m1, m2, m3, m4, m5, m6⟩ := hr8.at 0 _ rfl
              rw [Nat.zero_mul] at m0
              rw [Nat.zero_mul, Nat.zero_add] at m1 m2 m3 m4 m5 m6
              simp only [List.length_singleton]
              have HM8 := Lib.hid hm8; have HF8 := Lib.hid hF8
              clear hv7 hm7 hm8 hF8 hr8 a1
              go_wp2_with fail
              obtain ⟨a0, a1, a2, a3, a4⟩ := HA.out _ (HM6.out.trans HM8.out (by simp))
              have f0 : (w7.alloc (Obj.cells #[Value.int IntKind.i64 0, Value.int IntKind.i64 0, Value.int IntKind.i64 0] 28)).cell? ⟨w7.heap.size, 0, none⟩ = some (.int .i64 0) := by simp only [World.cell?, HF8.out]; rfl
              simp only [HXD.out] at m1
              generalize (w7.alloc (Obj.cells #[Value.int IntKind.i64 0, Value.int IntKind.i64 0, Value.int IntKind.i64 0] 28)) = w8 at *
              have HQN : Hid ((qn : Int) = (q : Int) + (n : Int) ∧ qn ≤ s.size) := Lib.hid ⟨by omega, by omega⟩
              clear hqn2 hqn3 hqn4 hqn5 hqn6 hqn7 hqw htl hnB hxe
              go_quiet (fail)
              go_wp2_with fail
              go_roundw
              case rel =>
                refine ⟨qn, i + 1, kk, y, by rw [HQN.out.1], by go_num, ⟨HYS.out, HQN.out.2, HDR.out, HCY.out, h3', by omega, ?_, HYB.out.1, HYB.out.2, (HML6.out.trans HM8.out (by simp)).drewN _⟩⟩
                have := HM8.out.at HB6.out (by simp)
                rw [HYD.out]
                exact this
              case measure => simp [intOf]; omega
  · have hf : (Lx.fault (Cod.str s)).1 ≠ 0 := by unfold Lx.fault; rw [if_neg e1]; exact e1
    have htk : Lx.tokens (Cod.str s) = [] := by unfold Lx.tokens; rw [if_neg e1]
    rw [htk] at h1
    generalize Lx.fault (Cod.str s) = f at *
    obtain ⟨f1, f2, f3⟩ := f
    simp only [fltV] at h1
    have HK := Lib.hid hk; have H1 := Lib.hid h1
    have b1 : ((f1 : Int) != 0) = true := by rw [bne_iff_ne]; simp only at hf; omega
    clear hk h1 e1 hf htk
    go_enter Tryd.func6, Tryd.ntmps6
    go_wp2_with fail
    refine HK.out.mono ?_
    rintro e w1 ⟨rfl, hm1⟩
    have HM1 := Lib.hid hm1
    clear hm1
    go_wp2_with fail
    refine (H1.out w1 (hG.past HM1.out (by simp))).mono ?_
    rintro e w2 ⟨v1, rfl, hv1, hm2⟩
    have hlv := hv1.lit
    have HM2 := Lib.hid (HM1.out.trans hm2 (by simp))
    clear hv1 hm2
    obtain ⟨va, vc, rfl⟩ := hlv
    go_wp2_with fail
    go_ret
    exact ⟨rfl, HM2.out.alloc _⟩
end Go.Proofs.YtobimhmllkfmfaaDoor
