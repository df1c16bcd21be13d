/- value.Get: bytes read as a tuple. -/
import Derived.Test.YthdkaoegegiheaaDoorVaGetPlain
import Derived.Test.YthdkaoegegiheaaDoorVaRdM3
import Derived.Test.YthdkaoegegiheaaDoorVaOwn
import Derived.Deep.DeepCutAuto
import Derived.Deep.CutBlock
namespace Go.Proofs.YthdkaoegegiheaaDoor
open Go.RowKit
set_option linter.unusedVariables false
set_option linter.unusedSimpArgs false
set_option maxRecDepth 100000

namespace Va
open Cod
def gr (n : Nat) (l : List Nat) (a f : Nat) (acc : List Val) : List Val × Nat :=
  if f ≠ 0 then ([], f)
  else if (gt n l a acc).2.2 ≠ 0 then ([], (gt n l a acc).2.2)
  else if (gt n l a acc).2.1 < l.length then ([], 13)
  else ((gt n l a acc).1, 0)
theorem get_gr (l : List Nat) : get l = gr (rUint l 0 0 8).1 l (rUint l 0 0 8).2.1 (rUint l 0 0 8).2.2 [] := rfl
theorem gr_zero (l : List Nat) (a f : Nat) (acc : List Val) : gr 0 l a f acc = if endF l a f ≠ 0 then ([], endF l a f) else (acc, 0) := by
  unfold gr endF
  by_cases hf : f = 0
  · subst hf
    by_cases ha : a < l.length
    · simp [gt, ha]
    · simp [gt, ha]
  · simp [hf]
theorem gr_bad (n : Nat) {l : List Nat} {a : Nat} (acc : List Val) (h : (gv l a).2.2 ≠ 0) : gr (n + 1) l a 0 acc = ([], (gv l a).2.2) := by
  simp only [gr, gt, if_pos h]
  simp [h]
theorem gr_good (n : Nat) {l : List Nat} {a : Nat} (acc : List Val) (h : (gv l a).2.2 = 0) : gr (n + 1) l a 0 acc = gr n l (gv l a).2.1 0 (acc ++ [(gv l a).1]) := by
  simp only [gr, gt, h]
  simp
theorem rUint8_le (l : List Nat) : (rUint l 0 0 8).1 ≤ 8 ∧ ((rUint l 0 0 8).2.2 ≠ 0 → (rUint l 0 0 8).1 = 0) := by
  unfold rUint
  rw [if_neg (by simp)]
  split
  split
  · simp
  · split
    · simp
    · simp; omega
theorem rByte_lt {l : List Nat} (hb : ∀ c ∈ l, c < 256) (a : Nat) : (rByte l a 0).1 < 256 := by
  unfold rByte
  rw [if_neg (by simp)]
  split
  · simp
  · rename_i h
    simp only
    rw [List.getD_eq_getElem?_getD, List.getElem?_eq_getElem (by omega)]
    exact hb _ (List.getElem_mem _)
end Va

/-- what Get answers -/
def GetR (l : List Nat) (w : World) (e : Ending) (w' : World) : Prop :=
  ∃ v, e = .returned (.tuple #[v, .int .i64 ((Va.get l).2 : Nat)]) ∧ VOwn w' w.heap.size v (Va.get l).1 ∧ Mod [] w w'
theorem getR_of {l : List Nat} {ts : List Va.Val} {f : Nat} (hg : Va.get l = (ts, f)) {w w' : World} {v : Value} (h : VOwn w' w.heap.size v ts) (hm : Mod [] w w') :
    GetR l w (.returned (.tuple #[v, .int .i64 (f : Int)])) w' := ⟨v, by rw [hg], by rw [hg]; exact h, hm⟩
theorem RdIs.keep {S : List Nat} {w w' : World} {b : Nat} {v : Value} {l : List Nat} {a f : Nat} (h : RdIs w b v l a f) (hm : Mod S w w') (hb : b ∉ S) (hv : ∀ k ∈ fp v, k ∉ S) : RdIs w' b v l a f :=
  ⟨hm.at h.at_ hb, hm.owns h.row hv, h.out, h.byte, h.len, h.in_⟩
theorem RdIs.lt {w : World} {b : Nat} {v : Value} {l : List Nat} {a f : Nat} (h : RdIs w b v l a f) : b < w.heap.size := lt_of_block h.at_
theorem RdIs.past {S : List Nat} {w w' : World} {b : Nat} {v : Value} {l : List Nat} {a f : Nat} (h : RdIs w b v l a f) (hm : Mod S w w') (hS : ∀ t ∈ S, w.heap.size ≤ t) : RdIs w' b v l a f :=
  h.keep hm (fun hb => by have := hS b hb; have := h.lt; omega) (fun k hk hs => by have := hS k hs; have := fp_lt h.row k hk; omega)

set_option maxHeartbeats 4000000 in
theorem Get_any (src : Value) (l : List Nat) (w : World) (h : Reads w src l) :
    Calls Tryd.prog 44 #[src] w (GetR l w) := by
  obtain ⟨i0, hinf, hz0, hz1, hz2⟩ := info_parts Tryd.infoVal
  have hbt := Lib.hid h.1
  have HS := Lib.hid h
  have HG := Va.get_gr l
  obtain ⟨hu8, huf⟩ := Va.rUint8_le l
  clear h
  go_enter Tryd.func44, Tryd.ntmps44
  go_wp2_with fail
  refine (Read_any src l _ HS.out).mono ?_
  rintro e w1 ⟨b, v, rfl, h1, m1, hb1, hv1⟩
  have hlt1 := h1.lt
  have hfv1 := fp_lt h1.row
  go_wp2_with fail
  refine (RUint_any b v l 0 0 8 w1 h1).mono ?_
  rintro e w2 ⟨rfl, h2, m2⟩
  have M2 := m1.trans m2 (fun t ht => .inr (by simp at ht; omega))
  have hsz2 := m2.size
  generalize Cod.rUint l 0 0 8 = t at *
  obtain ⟨n0, a0, f0⟩ := t
  simp only at hu8 huf HG h2 ⊢
  have HG0 := Lib.hid HG; have H2 := Lib.hid h2; have HM2 := Lib.hid M2; have HUF := Lib.hid huf; have HFV := Lib.hid hfv1; have HV1 := Lib.hid hv1
  clear HG h2 M2 huf h1 m1 m2 hfv1 hv1
  go_wp2_with fail
  go_loopw [5, 6] (fun ov nv wr => ∃ (n a f : Nat) (acc : List Va.Val) (va : Option Addr) (vc : Nat), ov = .slice va acc.length vc ∧ nv = .int .u64 (n : Nat) ∧ RdIs wr b v l a f ∧ VOwn wr w1.heap.size (.slice va acc.length vc) acc ∧ Mod [] w wr ∧ w1.heap.size ≤ wr.heap.size ∧ Va.get l = Va.gr n l a f acc ∧ (f ≠ 0 → n = 0) ∧ acc.length + n ≤ 8) (fun _ nv _ => (intOf nv).toNat)
  case atStart => exact ⟨n0, a0, f0, [], none, 0, rfl, rfl, H2.out, VOwn.nil _ _, HM2.out, hsz2, HG0.out, HUF.out, by simpa using hu8⟩
  case round =>
    obtain ⟨n, a, f, acc, va, vc, rfl, rfl, hrd, hown, hmr, hwr, hg, hf, hln⟩ := hrel
    cases n with
    | zero =>
      rw [Va.gr_zero] at hg
      have hnI : ¬ ((0 : Nat) : Int) > 0 := by omega
      have HE := Lib.hid (fun w h => End_any b v l a f w h)
      have HRD := Lib.hid hrd; have HO := Lib.hid hown; have HM := Lib.hid hmr
      generalize endF l a f = ef at *
      clear hrd hown hmr hf
      by_cases he : ef = 0
      · subst he
        have HGG := Lib.hid (hg.trans (if_neg (by simp)))
        clear hg
        go_wp2_with fail
        refine (HE.out _ HRD.out).mono ?_
        rintro e w3 ⟨rfl, m3⟩
        go_wp2_with fail
        go_ret2
        exact getR_of HGG.out ((HO.out.past m3 (by simp)).base (by omega)) (HM.out.trans m3 (by simp))
      · have nB : ((ef : Int) != 0) = true := by rw [bne_iff_ne]; omega
        have HGG := Lib.hid (hg.trans (if_pos he))
        clear hg
        go_wp2_with fail
        refine (HE.out _ HRD.out).mono ?_
        rintro e w3 ⟨rfl, m3⟩
        go_wp2_with fail
        go_ret2
        exact getR_of HGG.out (VOwn.nil _ _) (HM.out.trans m3 (by simp))
    | succ n =>
      obtain rfl : f = 0 := by
        by_cases e : f = 0
        · exact e
        · exact absurd (hf e) (by omega)
      have hnI : ((n + 1 : Nat) : Int) > 0 := by omega
      have hbad := Va.gr_bad n (l := l) (a := a) acc
      have hgood := Va.gr_good n (l := l) (a := a) acc
      have hk := Va.rByte_lt hbt.out a
      rw [← hg] at hbad hgood
      have HB := Lib.hid (fun w h => RByte_any b v l a 0 w h)
      have hgv1 : (Cod.rByte l a 0).2.2 ≠ 0 → (Va.gv l a).2.2 = (Cod.rByte l a 0).2.2 := fun h => by unfold Va.gv; rw [if_pos h]
      have hgv2 : ¬ (Cod.rByte l a 0).2.2 ≠ 0 → (Cod.rByte l a 0).1 = 1 → Va.gv l a = (⟨1, (Cod.rInt l (Cod.rByte l a 0).2.1 0 (-2147483647) 2147483647).1, []⟩, (Cod.rInt l (Cod.rByte l a 0).2.1 0 (-2147483647) 2147483647).2.1, (Cod.rInt l (Cod.rByte l a 0).2.1 0 (-2147483647) 2147483647).2.2) := fun h h1 => by unfold Va.gv; rw [if_neg h, if_pos h1]
      have hgv3 : ¬ (Cod.rByte l a 0).2.2 ≠ 0 → (Cod.rByte l a 0).1 = 2 → Va.gv l a = (⟨2, 0, (Cod.rText l (Cod.rByte l a 0).2.1 0 64).1⟩, (Cod.rText l (Cod.rByte l a 0).2.1 0 64).2.1, (Cod.rText l (Cod.rByte l a 0).2.1 0 64).2.2) := fun h h1 => by unfold Va.gv; rw [if_neg h, if_neg (by omega), if_pos h1]
      have hgv4 : ¬ (Cod.rByte l a 0).2.2 ≠ 0 → (Cod.rByte l a 0).1 ≠ 1 → (Cod.rByte l a 0).1 ≠ 2 → (Va.gv l a).2.2 = 20 := fun h h1 h2 => by unfold Va.gv; rw [if_neg h, if_neg h1, if_neg h2]
      generalize Cod.rByte l a 0 = t at *
      obtain ⟨k, a2, f2⟩ := t
      dsimp only at HB hgv1 hgv2 hgv3 hgv4 hk
      generalize Va.gv l a = gv at *
      have HBad := Lib.hid hbad; have HGood := Lib.hid hgood; have HG1 := Lib.hid hgv1; have HG2 := Lib.hid hgv2; have HG3 := Lib.hid hgv3; have HG4 := Lib.hid hgv4
      have HRD := Lib.hid hrd; have HO := Lib.hid hown; have HM := Lib.hid hmr; have HGET := Lib.hid hg
      clear hbad hgood hgv1 hgv2 hgv3 hgv4 hrd hown hmr hg hf
      go_wp2_with fail
      refine (HB.out _ HRD.out).mono ?_
      rintro e w3 ⟨rfl, h3, m3⟩
      have M3 := Lib.hid (HM.out.trans m3 (fun t ht => .inr (by simp at ht; omega)))
      have O3 := Lib.hid (HO.out.keep m3 (fun k hk => by have := HO.out.new k hk; simp; omega))
      have hw3 : w1.heap.size ≤ w3.heap.size := by have := m3.size; omega
      have R3 := Lib.hid h3
      clear m3 h3 HM HO HRD HB
      have hX := heap_alloc_new w3 (Obj.cells #[Value.int IntKind.i64 k, Value.int IntKind.i64 0, Value.string { data := #[] }] 23)
      have hMB := (Mod.refl [] w3).alloc (Obj.cells #[Value.int IntKind.i64 k, Value.int IntKind.i64 0, Value.string { data := #[] }] 23)
      have hszb : w3.heap.size < (w3.alloc (Obj.cells #[Value.int IntKind.i64 k, Value.int IntKind.i64 0, Value.string { data := #[] }] 23)).heap.size := by simp
      go_upto_block 2 with fail
      generalize w3.alloc (Obj.cells #[Value.int IntKind.i64 k, Value.int IntKind.i64 0, Value.string { data := #[] }] 23) = wb at *
      have RB := Lib.hid (R3.out.past hMB (by simp)); have OB := Lib.hid (O3.out.past hMB (by simp)); have MB := Lib.hid (M3.out.trans hMB (by simp))
      have hbp : b ≠ w3.heap.size := by omega
      have hvp : Hid (∀ k ∈ fp v, k ≠ w3.heap.size) := Lib.hid (fun k hk => by have := HFV.out k hk; omega)
      have hop : Hid (∀ k ∈ fp (.slice va acc.length vc), k ≠ w3.heap.size) := Lib.hid (fun k hk => by have := fp_lt O3.out.row k hk; omega)
      have hob : Hid (∀ k ∈ fp (.slice va acc.length vc), k ≠ b) := Lib.hid (fun k hk => by have := O3.out.new k hk; omega)
      have hpw : w.heap.size ≤ w3.heap.size := M3.out.size
      have HX := Lib.hid hX
      clear R3 O3 M3 hMB hX
      generalize w3.heap.size = p at *
      go_cut [] (fun wx => ∃ (x : Va.Val) (a' fl : Nat), RdIs wx b v l a' fl ∧ wx.heap[p]? = some (.cells (valV x) 23 (0, 0)) ∧ VOwn wx w1.heap.size (.slice va acc.length vc) acc ∧ Mod [] w wx ∧ w1.heap.size ≤ wx.heap.size ∧ (fl ≠ 0 → gv.2.2 = fl) ∧ (fl = 0 → gv = (x, a', 0)))
      case first =>
        have hX := HX.out
        have d0 : wb.cell? ⟨p, 0, none⟩ = some (.int .i64 k) := by simp only [World.cell?, hX]; rfl
        by_cases hf2 : f2 = 0
        · subst hf2
          by_cases k1 : k = 1
          · subst k1
            have HGV := Lib.hid (HG2.out (by simp) rfl)
            clear HG1 HG2 HG3 HG4 hX hk
            have HRI := Lib.hid (fun w h => RInt_any b v l a2 0 (-2147483647) 2147483647 w h)
            generalize Cod.rInt l a2 0 (-2147483647) 2147483647 = t at *
            obtain ⟨xn, a5, f5⟩ := t
            dsimp only at HGV HRI
            go_wp2_with fail
            refine (Fault_any b v l a2 0 _ RB.out).mono ?_
            rintro e w4 ⟨rfl, rfl⟩
            go_wp2_with fail
            refine (HRI.out _ RB.out).mono ?_
            rintro e w5 ⟨rfl, h5, m5⟩
            have hX5 := m5.at HX.out (by simp; omega)
            have fz : ∀ j, w5.frozen? ⟨p, j, none⟩ = false := fun j => by simp [World.frozen?, hX5]
            have e0 : w5.cell? ⟨p, 1, none⟩ = some (.int .i64 0) := by simp only [World.cell?, hX5]; rfl
            have hst := setCell_at hX5 1 (.int .i64 xn)
            have hms := mod_one w5 p 1 (.int .i64 xn)
            have HST : Hid ((w5.setCell ⟨p, 1, none⟩ (.int .i64 xn)).heap[p]? = some (.cells (valV ⟨1, xn, []⟩) 23 (0, 0))) := Lib.hid (hst.trans (by rfl))
            have HR5 := Lib.hid (h5.keep hms (by simp; omega) (fun k hk => by simp; exact hvp.out k hk))
            have HO5 := Lib.hid ((OB.out.keep m5 (fun k hk => by simp; exact hob.out k hk)).keep hms (fun k hk => by simp; exact hop.out k hk))
            have HZ5 : Hid (w1.heap.size ≤ (w5.setCell ⟨p, 1, none⟩ (.int .i64 xn)).heap.size) := Lib.hid (by have := hms.size; have := m5.size; omega)
            have HM5 := Lib.hid ((MB.out.trans m5 (fun t ht => .inr (by simp at ht; omega))).trans hms (fun t ht => .inr (by simp at ht; omega)))
            clear hst hms m5 h5 hX5
            go_wp2_with fail
            go_meet
            exact ⟨_, a5, f5, HR5.out, HST.out, HO5.out, HM5.out, HZ5.out, fun h => by rw [HGV.out], fun h => by rw [HGV.out, h]⟩
          · by_cases k2 : k = 2
            · subst k2
              have HGV := Lib.hid (HG3.out (by simp) rfl)
              clear HG1 HG2 HG3 HG4 hX hk
              have HRI := Lib.hid (fun w h => RText_any b v l a2 0 64 w h (by decide))
              generalize Cod.rText l a2 0 64 = t at *
              obtain ⟨xs, a5, f5⟩ := t
              dsimp only at HGV HRI
              go_wp2_with fail
              refine (Fault_any b v l a2 0 _ RB.out).mono ?_
              rintro e w4 ⟨rfl, rfl⟩
              go_wp2_with fail
              refine (HRI.out _ RB.out).mono ?_
              rintro e w5 ⟨rfl, h5, m5⟩
              have hX5 := m5.at HX.out (by simp; omega)
              have fz : ∀ j, w5.frozen? ⟨p, j, none⟩ = false := fun j => by simp [World.frozen?, hX5]
              have e0 : w5.cell? ⟨p, 2, none⟩ = some (.string { data := #[] }) := by simp only [World.cell?, hX5]; rfl
              have hst := setCell_at hX5 2 (.string (ofStr xs))
              have hms := mod_one w5 p 2 (.string (ofStr xs))
              have HST : Hid ((w5.setCell ⟨p, 2, none⟩ (.string (ofStr xs))).heap[p]? = some (.cells (valV ⟨2, 0, xs⟩) 23 (0, 0))) := Lib.hid (hst.trans (by rfl))
              have HR5 := Lib.hid (h5.keep hms (by simp; omega) (fun k hk => by simp; exact hvp.out k hk))
              have HO5 := Lib.hid ((OB.out.keep m5 (fun k hk => by simp; exact hob.out k hk)).keep hms (fun k hk => by simp; exact hop.out k hk))
              have HZ5 : Hid (w1.heap.size ≤ (w5.setCell ⟨p, 2, none⟩ (.string (ofStr xs))).heap.size) := Lib.hid (by have := hms.size; have := m5.size; omega)
              have HM5 := Lib.hid ((MB.out.trans m5 (fun t ht => .inr (by simp at ht; omega))).trans hms (fun t ht => .inr (by simp at ht; omega)))
              clear hst hms m5 h5 hX5
              go_wp2_with fail
              go_meet
              exact ⟨_, a5, f5, HR5.out, HST.out, HO5.out, HM5.out, HZ5.out, fun h => by rw [HGV.out], fun h => by rw [HGV.out, h]⟩
            · have kB1 : ((k : Int) == 1) = false := by rw [beq_eq_false_iff_ne]; omega
              have kB2 : ((k : Int) == 2) = false := by rw [beq_eq_false_iff_ne]; omega
              have HGV := Lib.hid (HG4.out (by simp) k1 k2)
              clear HG1 HG2 HG3 HG4 hX k1 k2
              go_wp2_with fail
              refine (Fault_any b v l a2 0 _ RB.out).mono ?_
              rintro e w4 ⟨rfl, rfl⟩
              go_wp2_with fail
              go_ret2
              exact getR_of ((HBad.out (by rw [HGV.out]; simp)).trans (by rw [HGV.out])) (VOwn.nil _ _) MB.out
        · have nB : ((f2 : Int) != 0) = true := by rw [bne_iff_ne]; omega
          have HGV := Lib.hid (HG1.out hf2)
          have HF := Lib.hid hf2
          clear HG1 HG2 HG3 HG4 hX hf2
          go_wp2_with fail
          refine (Fault_any b v l a2 f2 _ RB.out).mono ?_
          rintro e w4 ⟨rfl, rfl⟩
          go_wp2_with fail
          go_meet
          exact ⟨⟨k, 0, []⟩, a2, f2, RB.out, HX.out, OB.out, MB.out, by omega, fun _ => HGV.out, fun h => absurd h HF.out⟩
      case rest =>
        obtain ⟨x, a', fl, hr, hX, hO, hM, hsw, hbad', hgood'⟩ := hcut
        have HW6 := Lib.hid hsw
        have HR := Lib.hid hr; have HXC := Lib.hid hX
        clear HG1 HG2 HG3 HG4 RB OB MB HX
        by_cases hfl : fl = 0
        · have hgv := hgood' hfl
          subst hfl
          have HGET2 := Lib.hid ((HGood.out (by rw [hgv])).trans (by rw [hgv]))
          have d0 : wc.cell? ⟨p, 0, none⟩ = some (.int .i64 x.k) := by simp only [World.cell?, hX]; rfl
          have d1 : wc.cell? ⟨p, 1, none⟩ = some (.int .i64 x.n) := by simp only [World.cell?, hX]; rfl
          have d2 : wc.cell? ⟨p, 2, none⟩ = some (.string (Lx.ofS x.s)) := by simp only [World.cell?, hX]; rfl
          have hsrc := src_val (heap_alloc_new wc (Obj.cells (valV x) 23))
          have hown := hO.row
          have HO := Lib.hid hO; have HMC := Lib.hid hM
          clear hbad' hgood' hX hr hgv HBad HGood HGET hO hM
          go_wp2_with fail
          refine (Fault_any b v l a' 0 _ HR.out).mono ?_
          rintro e w6 ⟨rfl, rfl⟩
          go_wp2_with (at_builtin; refine wpList_append_src _ rfl _ _ 32 32 rfl 23 i0 (.agg (valV Va.zero)) 3 32 Tryd.underlying32 hinf hz0 hz1 hz2 rfl (.slice va acc.length vc) acc.length (rowVals acc) rfl (hown.alloc _) _ 1 (valV x).toList rfl hsrc (by unfold maxLen; omega) (by omega) ?_)
          intro v' w7 hown7 hm7 hf7 hn7
          obtain ⟨va3, vc3, rfl⟩ := owns_slice hown7
          have hma : Mod [] wc (wc.alloc (Obj.cells (valV x) 23)) := (Mod.refl [] wc).alloc _
          have hm7r : Mod (fp (.slice va acc.length vc)) wc w7 := (hma.mono (by simp)).trans hm7 (fun t ht => .inl ht)
          have hcl : rowVals acc ++ (valV x).toList = rowVals (acc ++ [x]) := by rw [rowVals_app]; simp [rowVals]
          have hlen : acc.length + 1 = (acc ++ [x]).length := by simp
          have HR7 := Lib.hid (HR.out.keep hm7r (fun hb => by have := HO.out.new _ hb; omega) (fun k hk hk2 => by have := HO.out.new _ hk2; have := HFV.out k hk; omega))
          have HM7 := Lib.hid (HMC.out.trans hm7r (fun t ht => .inr (by have := HO.out.new t ht; omega)))
          have hsz7 : w1.heap.size ≤ w7.heap.size := by have := HMC.out.size; have := hm7r.size; have := HR.out.lt; have := hlt1; have := HW6.out; omega
          have HO7 : Hid (VOwn w7 w1.heap.size (.slice va3 (acc ++ [x]).length vc3) (acc ++ [x])) := Lib.hid ⟨by rw [← hcl, ← hlen]; exact hown7, fun k hk => by
            rw [← hlen] at hk
            rcases hf7 k hk with h | h
            · exact HO.out.new k h
            · have := HW6.out; omega⟩
          have HL := Lib.hid hlen
          have hln2 : (acc ++ [x]).length + n ≤ 8 := by rw [← hlen]; omega
          have HLN := Lib.hid hln2
          clear hown7 hm7 hf7 hn7 hcl hlen hln2 hm7r hma hown hsrc d0 d1 d2
          go_wp2_with fail
          go_roundw
          case rel => exact ⟨n, a', 0, acc ++ [x], va3, vc3, by rw [← HL.out], by go_num, HR7.out, HO7.out, HM7.out, hsz7, HGET2.out, fun h => absurd rfl h, HLN.out⟩
          case measure => simp [intOf]
        · have nB : ((fl : Int) != 0) = true := by rw [bne_iff_ne]; omega
          have hg2 := hbad' hfl
          have HG2 := Lib.hid ((HBad.out (by rw [hg2]; exact hfl)).trans (by rw [hg2]))
          have HMC := Lib.hid hM
          clear hbad' hgood' hX hr HBad HGood HGET hO hM hg2 hfl
          go_wp2_with fail
          refine (Fault_any b v l a' fl _ HR.out).mono ?_
          rintro e w6 ⟨rfl, rfl⟩
          go_wp2_with fail
          go_ret2
          exact getR_of HG2.out (VOwn.nil _ _) HMC.out
end Go.Proofs.YthdkaoegegiheaaDoor
