/- ROWS WHOLE: laws at one operation (build with one part; load and store of a row). -/
import Derived.Test.YtppigckioalhhaaGreatDoorRKB4
import Derived.Laws.Tables
import Derived.Deep.WholeRow
/- THE PARSER: body. -/
namespace Go.Proofs.YtppigckioalhhaaGreatDoorR
open Go.RowKit
set_option linter.unusedVariables false
set_option linter.unusedSimpArgs false
set_option maxRecDepth 100000

def LiC (b : Nat) (ra : Option Addr) (rc : Nat) (f : Value) (v : Sy.Env) (k br : Nat) : Prop := ∀ (i : Nat) (w : World), RdP w b ra rc f v i → i ≤ v.ws.length →
  Calls Tryz.prog 41 #[.pointer (some ⟨b, 0, none⟩), .int .i64 (br : Nat)] w (PRes b ra rc f v (Sy.litF v k br i) (valL w.heap.size) w)
def BoC (b : Nat) (ra : Option Addr) (rc : Nat) (f : Value) (v : Sy.Env) (k br : Nat) : Prop := ∀ (i : Nat) (w : World), RdP w b ra rc f v i → i ≤ v.ws.length →
  Calls Tryz.prog 79 #[.pointer (some ⟨b, 0, none⟩), .int .i64 (br : Nat)] w (PRes b ra rc f v (Sy.bodyOf v (Sy.litF v k br) i) (valB w.heap.size) w)
theorem bodyF_eq (v : Sy.Env) (one : Nat → Sy.PR Pr.Li) (k : Nat) (acc : List Pr.Li) (i : Nat) : Sy.bodyF v one (k + 1) acc i =
    if Sy.sign (v.tk i) [44] = true then (one (i + 1)).bind fun a j => Sy.bodyF v one k (acc ++ [a]) j else .ok acc i := by rw [Sy.bodyF]
/-- literals read so far: their row, their slices in other blocks -/
structure BI (w0 W : World) (b : Nat) (acc : List (Pr.Li × LU)) (va : Option Addr) (vc : Nat) : Prop where
  row : W.ownsRow 0 50 30 (.slice va acc.length vc) acc.length (rowCells (fun p : Pr.Li × LU => liV p.1 p.2) acc)
  new : ∀ k ∈ fp (.slice va acc.length vc), w0.heap.size ≤ k
  sub : ∀ p ∈ acc, LB (fun k => w0.heap.size ≤ k ∧ k ∉ fp (.slice va acc.length vc)) W p.1 p.2
  bl : b < w0.heap.size
  mod : Mod [b] w0 W
theorem BI.keep {w0 W W' : World} {b : Nat} {acc : List (Pr.Li × LU)} {va : Option Addr} {vc : Nat} (h : BI w0 W b acc va vc) (hm : Mod [b] W W') : BI w0 W' b acc va vc := by
  have hb := h.bl
  refine ⟨hm.owns h.row (fun k hk => ?_), h.new, fun p hp => (h.sub p hp).keep hm (fun s hs => ?_), h.bl, h.mod.trans hm (by simp)⟩
  · have := h.new k hk
    simp; omega
  · rw [List.mem_singleton] at hs
    omega
theorem BI.grow {w0 W W' : World} {b : Nat} {acc : List (Pr.Li × LU)} {va va' : Option Addr} {vc vc' : Nat} {p : Pr.Li × LU} {n : Nat} (h : BI w0 W b acc va vc) (hm : Mod (fp (.slice va acc.length vc)) W W') (hp : LB (fun k => n ≤ k) W p.1 p.2) (hn : ∀ k ∈ fp (.slice va acc.length vc), k < n) (hn0 : w0.heap.size ≤ n)
    (hown : W'.ownsRow 0 50 30 (.slice va' (acc.length + 1) vc') (acc.length + 1) (rowCells (fun p : Pr.Li × LU => liV p.1 p.2) acc ++ (liV p.1 p.2).toList)) (hf : ∀ k ∈ fp (.slice va' (acc.length + 1) vc'), k ∈ fp (.slice va acc.length vc) ∨ W.heap.size ≤ k) :
    BI w0 W' b (acc ++ [p]) va' vc' := by
  have e1 : (acc ++ [p]).length = acc.length + 1 := by simp
  have hnew := h.new
  have hsz := h.mod.size
  have hnew' : ∀ k ∈ fp (.slice va' (acc.length + 1) vc'), w0.heap.size ≤ k := fun k hk => by
    rcases hf k hk with hh | hh
    · exact hnew k hh
    · omega
  refine ⟨?_, by rw [e1]; exact hnew', ?_, h.bl, h.mod.trans hm (fun k hk => .inr (hnew k hk))⟩
  · rw [e1, rowCells_snoc]
    exact hown
  · intro q hq
    rw [e1]
    rcases List.mem_append.1 hq with hq | hq
    · refine ((h.sub q hq).mono (F' := fun k => w0.heap.size ≤ k ∧ k ∉ fp (.slice va acc.length vc) ∧ k < W.heap.size) (fun k hk hk2 => ⟨hk.1, hk.2, hk2⟩)).keep hm (fun s hs hh => hh.2.1 hs) |>.mono (fun k hk hk2 => ⟨hk.1, fun hh => ?_⟩)
      rcases hf k hh with h1 | h1
      · exact hk.2.1 h1
      · have := hk.2.2; omega
    · rw [List.mem_singleton] at hq
      subst hq
      refine (hp.mono (F' := fun k => n ≤ k ∧ k < W.heap.size) (fun k hk hk2 => ⟨hk, hk2⟩)).keep hm (fun s hs hh => by have := hn s hs; omega) |>.mono (fun k hk hk2 => ⟨by omega, fun hh => ?_⟩)
      rcases hf k hh with h1 | h1
      · have := hn k h1; omega
      · have := hk.2; omega
theorem BI.body {w0 W : World} {b : Nat} {acc : List (Pr.Li × LU)} {va : Option Addr} {vc : Nat} (h : BI w0 W b acc va vc) : BB (fun k => w0.heap.size ≤ k) W (acc.map (·.1)) (.slice va acc.length vc) :=
  BB.of_row acc (RowB.of_owns liV_size h.row h.new) (fun p hp => (h.sub p hp).mono (fun k hk _ => hk.1))
theorem liV_one (p : Pr.Li × LU) {F : Nat → Prop} {w : World} (h : LB F w p.1 p.2) : ∀ u ∈ (liV p.1 p.2).toList, u.oneCell' = true := by
  obtain ⟨e, U⟩ := p
  cases h with
  | mk ht hl hr ho hb h1 h2 =>
    rename_i U'
    obtain ⟨t, l, r, o, b⟩ := U
    obtain ⟨a1, c1, rfl⟩ := ht.lit
    obtain ⟨a2, c2, rfl⟩ := hl.lit
    obtain ⟨a3, c3, rfl⟩ := hr.lit
    obtain ⟨a4, c4, rfl⟩ := ho.lit
    subst hb
    intro u hu
    simp only [liV, List.mem_cons, List.not_mem_nil, or_false] at hu
    rcases hu with rfl | rfl | rfl | rfl | rfl | rfl | rfl | rfl | rfl | rfl | rfl | rfl | rfl | rfl | rfl | rfl | rfl | rfl | rfl | rfl | rfl | rfl | rfl | rfl | rfl | rfl | rfl | rfl | rfl | rfl <;> rfl
theorem Tryz.infoLit : (Tryz.prog.info? 50).map (fun i => (i.zero, i.size, i.bytes)) = some (some (.agg #[Value.int IntKind.i64 0, Value.string { data := #[] }, Value.slice none 0 0, Value.int IntKind.i64 0, Value.int IntKind.i64 0, Value.string { data := #[] }, Value.int IntKind.i64 0, Value.int IntKind.i64 0, Value.string { data := #[] }, Value.int IntKind.i64 0, Value.slice none 0 0, Value.int IntKind.i64 0, Value.string { data := #[] }, Value.int IntKind.i64 0, Value.int IntKind.i64 0, Value.string { data := #[] }, Value.int IntKind.i64 0, Value.slice none 0 0, Value.int IntKind.i64 0, Value.string { data := #[] }, Value.int IntKind.i64 0, Value.string { data := #[] }, Value.int IntKind.i64 0, Value.int IntKind.i64 0, Value.string { data := #[] }, Value.int IntKind.i64 0, Value.slice none 0 0, Value.slice none 0 0, Value.int IntKind.i64 0, Value.int IntKind.i64 0]), 30, 384) := by kernel_rfl

set_option maxHeartbeats 4000000 in
theorem body_of (b : Nat) (ra : Option Addr) (rc : Nat) (f : Value) (v : Sy.Env) (k br : Nat) (hv : EnvOk v) (hL : LiC b ra rc f v k br) : BoC b ra rc f v k br := by
  intro i w h hi
  have hlen := hv.len
  have HL := Lib.hid hL
  have HR : Hid (Sy.bodyOf v (Sy.litF v k br) i = (Sy.litF v k br i).bind fun a j => Sy.bodyF v (Sy.litF v k br) (v.ws.length + 1) [a] j) := Lib.hid rfl
  have HA := Lib.hid (Sy.adv_litF v k br)
  have H0 := Lib.hid h
  have hbl := h.lt
  have HLo := Lib.hid h.low
  clear h hL
  generalize hq : Sy.bodyOf v (Sy.litF v k br) i = q at *
  clear hq
  cases ho : Sy.litF v k br i with
  | err g =>
    have hq := HR.out
    rw [ho] at hq
    have hq2 : q = .err g := hq
    subst hq2
    have HHo := Lib.hid ho
    clear hq ho HR
    go_enter Tryz.func79, Tryz.ntmps79
    go_wp2_with fail
    refine (HL.out i w H0.out hi).mono ?_
    rw [HHo.out]
    rintro e2 w2 ⟨rfl, m2⟩
    have M2 := Lib.hid m2
    clear m2
    unfold stopE
    go_wp2_with fail
    exact ⟨rfl, rfl, M2.out⟩
  | ok a0 j0 =>
    have hq := HR.out
    rw [ho] at hq
    have HQ : Hid (q = Sy.bodyF v (Sy.litF v k br) (v.ws.length + 1) [a0] j0) := Lib.hid hq
    have hj0 := HA.out i a0 j0 hi ho
    have HHo := Lib.hid ho
    clear hq ho HR
    go_enter Tryz.func79, Tryz.ntmps79
    go_wp2_with fail
    refine (HL.out i w H0.out hi).mono ?_
    rw [HHo.out]
    rintro e2 w2 ⟨y2, rfl, ⟨U2, rfl, hb2⟩, h2, m2⟩
    have z2 := m2.size
    have FB : Hid (∀ wX, wX = w2.alloc (Obj.cells (liV a0 U2) 50) → BI w wX b [(a0, U2)] (some ⟨w2.heap.size, 0, none⟩) 1 ∧ RdP wX b ra rc f v j0) := Lib.hid (fun wX e => by
      subst e
      have mA := (Mod.refl [] w2).alloc (Obj.cells (liV a0 U2) 50)
      refine ⟨⟨?_, fun k hk => by simp [fp] at hk; omega, fun p hp => ?_, hbl, m2.trans mA (by simp)⟩, h2.past mA (by simp)⟩
      · have := World.ownsRow_lit (base := 0) (e := 50) (size := 30) w2 (liV a0 U2) 1 (by omega) (by unfold maxLen; omega) (by rw [liV_size (a0, U2)])
        simpa [rowCells] using this
      · rw [List.mem_singleton] at hp
        subst hp
        refine (hb2.mono (F' := fun k => w.heap.size ≤ k ∧ k ∉ fp (.slice (some ⟨w2.heap.size, 0, none⟩) 1 1)) (fun k hk hk2 => ⟨hk, by simp [fp]; omega⟩)).keep mA (by simp))
    clear h2 m2 hb2
    obtain ⟨c1, c2, c3, c4, c5, c6, c7, c8, c9, c10, c11⟩ := a0
    obtain ⟨U2t, U2l, U2r, U2o, U2b⟩ := U2
    unfold liV
    simp only
    go_upto_region 2 with fail
    generalize hwX : w2.alloc (Obj.cells _ 50) = wX
    obtain ⟨BX, HX⟩ := FB.out wX hwX.symm
    have BX := Lib.hid BX; have HX := Lib.hid HX
    clear FB hwX
    obtain ⟨iL, hinf, hz0, hz1, hz2⟩ := info_parts Tryz.infoLit
    go_loopg [5] (v.ws.length + 1) (fun gk lv wr => ∃ (j : Nat) (acc : List (Pr.Li × LU)) (va : Option Addr) (vc : Nat), lv = .slice va acc.length vc ∧ BI w wr b acc va vc ∧ RdP wr b ra rc f v j ∧ j ≤ v.ws.length ∧ v.ws.length + 1 ≤ gk + j ∧ acc.length ≤ j + 1 ∧ q = Sy.bodyF v (Sy.litF v k br) gk (acc.map (·.1)) j)
    case atStart => exact ⟨j0, _, _, _, rfl, BX.out, HX.out, hj0.2, by omega, by simp, HQ.out⟩
    case round =>
      obtain ⟨j, acc, va, vc, rfl, hI, hr, hj, hgk, hal, hq⟩ := hrel
      obtain ⟨g', rfl⟩ : ∃ g', gk = g' + 1 := ⟨gk - 1, by omega⟩
      rw [bodyF_eq] at hq
      have HI := Lib.hid hI; have HQ2 := Lib.hid hq
      have HMy := Lib.hid (may_any b ra rc f v j [44] { data := #[44] } wr hr hv (by omega) rfl (by decide))
      have hslt := fun h => Sy.sign_lt (v := v) (i := j) (s := [44]) h
      clear hI hr hq HQ BX HX
      generalize Sy.sign (v.tk j) [44] = sg at *
      cases sg
      · have hq : q = .ok (acc.map (·.1)) j := HQ2.out
        subst hq
        clear HQ2 hslt
        go_wp2_with fail
        refine HMy.out.mono ?_
        rintro e3 w3 ⟨rfl, h3, m3⟩
        have I3 := Lib.hid (HI.out.keep m3); have H3 := Lib.hid (show RdP w3 b ra rc f v j from h3)
        clear h3 m3
        go_wp2_with fail
        go_ret
        exact ⟨_, rfl, by have := I3.out.body; unfold valB; simpa using this, H3.out, I3.out.mod⟩
      · have hq : q = (Sy.litF v k br (j + 1)).bind fun a j => Sy.bodyF v (Sy.litF v k br) g' (acc.map (·.1) ++ [a]) j := HQ2.out
        have hjl : j < v.ws.length := hslt rfl
        clear HQ2 hslt
        cases ho : Sy.litF v k br (j + 1) with
        | err g =>
          rw [ho] at hq
          have hq2 : q = .err g := hq
          subst hq2
          have HHo2 := Lib.hid ho
          clear hq ho
          go_wp2_with fail
          refine HMy.out.mono ?_
          rintro e3 w3 ⟨rfl, h3, m3⟩
          have I3 := Lib.hid (HI.out.keep m3); have H3 := Lib.hid (show RdP w3 b ra rc f v (j + 1) from h3)
          clear h3 m3
          go_wp2_with fail
          refine (HL.out (j + 1) w3 H3.out (by omega)).mono ?_
          rw [HHo2.out]
          rintro e4 w4 ⟨rfl, m4⟩
          have M4 := Lib.hid (I3.out.mod.trans m4 (by simp))
          clear m4
          unfold stopE
          go_wp2_with fail
          exact ⟨rfl, rfl, M4.out⟩
        | ok a1 j1 =>
          rw [ho] at hq
          have HQ3 : Hid (q = Sy.bodyF v (Sy.litF v k br) g' (acc.map (·.1) ++ [a1]) j1) := Lib.hid hq
          have hj1 := HA.out (j + 1) a1 j1 (by omega) ho
          have HHo2 := Lib.hid ho
          clear hq ho
          go_wp2_with fail
          refine HMy.out.mono ?_
          rintro e3 w3 ⟨rfl, h3, m3⟩
          have I3 := Lib.hid (HI.out.keep m3); have H3 := Lib.hid (show RdP w3 b ra rc f v (j + 1) from h3)
          clear h3 m3
          go_wp2_with fail
          refine (HL.out (j + 1) w3 H3.out (by omega)).mono ?_
          rw [HHo2.out]
          rintro e4 w4 ⟨y4, rfl, ⟨U4, rfl, hb4⟩, h4, m4⟩
          have I4 := Lib.hid (I3.out.keep m4)
          have hn4 := Lib.hid (fun k hk => fp_lt I3.out.row k hk)
          have hz3 := Lib.hid I3.out.mod.size
          have FB : Hid (∀ wX, wX = w4.alloc (Obj.cells (liV a1 U4) 50) → BI w wX b acc va vc ∧ RdP wX b ra rc f v j1 ∧ LB (fun k => w3.heap.size ≤ k) wX a1 U4 ∧ Src Tryz.prog 30 46 (.slice (some ⟨w4.heap.size, 0, none⟩) 1 1) 1 (liV a1 U4).toList wX) := Lib.hid (fun wX e => by
            subst e
            have mA := (Mod.refl [] w4).alloc (Obj.cells (liV a1 U4) 50)
            exact ⟨I4.out.keep (mA.mono (by simp)), h4.past mA (by simp), hb4.keep mA (by simp), src_one Tryz.underlying46 (heap_alloc_new w4 (Obj.cells (liV a1 U4) 50)) (liV_size (a1, U4)) (liV_one (a1, U4) hb4)⟩)
          clear h4 m4 hb4
          obtain ⟨d1, d2, d3, d4, d5, d6, d7, d8, d9, d10, d11⟩ := a1
          obtain ⟨U4t, U4l, U4r, U4o, U4b⟩ := U4
          unfold liV
          simp only
          go_wp2_with (at_builtin; refine wpList_append_src _ rfl _ _ 46 46 rfl 50 iL (.agg #[Value.int IntKind.i64 0, Value.string { data := #[] }, Value.slice none 0 0, Value.int IntKind.i64 0, Value.int IntKind.i64 0, Value.string { data := #[] }, Value.int IntKind.i64 0, Value.int IntKind.i64 0, Value.string { data := #[] }, Value.int IntKind.i64 0, Value.slice none 0 0, Value.int IntKind.i64 0, Value.string { data := #[] }, Value.int IntKind.i64 0, Value.int IntKind.i64 0, Value.string { data := #[] }, Value.int IntKind.i64 0, Value.slice none 0 0, Value.int IntKind.i64 0, Value.string { data := #[] }, Value.int IntKind.i64 0, Value.string { data := #[] }, Value.int IntKind.i64 0, Value.int IntKind.i64 0, Value.string { data := #[] }, Value.int IntKind.i64 0, Value.slice none 0 0, Value.slice none 0 0, Value.int IntKind.i64 0, Value.int IntKind.i64 0]) 30 384 Tryz.underlying46 hinf hz0 hz1 hz2 rfl (.slice va acc.length vc) acc.length (rowCells (fun p : Pr.Li × LU => liV p.1 p.2) acc) rfl (FB.out _ rfl).1.row _ 1 (liV (.mk d1 d2 d3 d4 d5 d6 d7 d8 d9 d10 d11) ⟨U4t, U4l, U4r, U4o, U4b⟩).toList rfl (FB.out _ rfl).2.2.2 (by unfold maxLen; omega) (by omega) ?_)
          intro v' w5 hown5 hm5 hf5 hn5
          obtain ⟨va5, vc5, rfl⟩ := owns_slice hown5
          obtain ⟨BX, HX, LX, SX⟩ := FB.out _ rfl
          have G5 := Lib.hid (BX.grow (p := (.mk d1 d2 d3 d4 d5 d6 d7 d8 d9 d10 d11, ⟨U4t, U4l, U4r, U4o, U4b⟩)) hm5 LX hn4.out hz3.out hown5 (fun k hk => by
            rcases hf5 k hk with hh | hh
            · exact .inl hh
            · exact .inr (by simpa using hh)))
          have H5 := Lib.hid (HX.new HLo.out hm5 BX.new)
          clear hown5 hm5 hf5 hn5 BX HX LX SX FB
          go_wp2_with fail
          go_roundg g'
          case measure => omega
          case rel => exact ⟨j1, _, va5, vc5, by simp, G5.out, H5.out, hj1.2, by omega, by simp; omega, by rw [HQ3.out]; simp⟩
end Go.Proofs.YtppigckioalhhaaGreatDoorR
/- THE PARSER: aggregate. Printed by wip/gen_syagg.py. -/
namespace Go.Proofs.YtppigckioalhhaaGreatDoorR
open Go.RowKit
set_option linter.unusedVariables false
set_option linter.unusedSimpArgs false
set_option maxRecDepth 100000

theorem cells10 {w : World} {b : Nat} {a0 a1 a2 a3 a4 a5 a6 a7 a8 a9 : Value} {T : TypeId} {fr : Nat × Nat} (h : w.heap[b]? = some (.cells #[a0, a1, a2, a3, a4, a5, a6, a7, a8, a9] T fr)) :
    w.cell? ⟨b, 0, none⟩ = some a0 ∧ w.cell? ⟨b, 1, none⟩ = some a1 ∧ w.cell? ⟨b, 2, none⟩ = some a2 ∧ w.cell? ⟨b, 3, none⟩ = some a3 ∧ w.cell? ⟨b, 4, none⟩ = some a4 ∧ w.cell? ⟨b, 5, none⟩ = some a5 ∧ w.cell? ⟨b, 6, none⟩ = some a6 ∧ w.cell? ⟨b, 7, none⟩ = some a7 ∧ w.cell? ⟨b, 8, none⟩ = some a8 ∧ w.cell? ⟨b, 9, none⟩ = some a9 :=
  ⟨cell_at h 0, cell_at h 1, cell_at h 2, cell_at h 3, cell_at h 4, cell_at h 5, cell_at h 6, cell_at h 7, cell_at h 8, cell_at h 9⟩

def AgC (b : Nat) (ra : Option Addr) (rc : Nat) (f : Value) (v : Sy.Env) (k br : Nat) : Prop := ∀ (i : Nat) (w : World), RdP w b ra rc f v i → i + 3 ≤ v.ws.length →
  Calls Tryz.prog 74 #[.pointer (some ⟨b, 0, none⟩), .int .i64 (br : Nat)] w (PRes b ra rc f v (Sy.aggOf v (Sy.litF v k (br + 1)) br i) (valG w.heap.size) w)
theorem aggOf_eq (v : Sy.Env) (one : Nat → Sy.PR Pr.Li) (br i : Nat) : Sy.aggOf v one br i =
  if Sy.sign (v.tk (i + 3)) [123] = true ∧ 16 ≤ br then .err (v.give 41 (i + 3))
  else (Sy.must v [123] (i + 3)).bind fun _ j =>
    (if Sy.fnOf (v.tk (i + 2)) ≠ 1 then (Sy.expr v j).bind fun e j => (Sy.must v [58] j).bind fun _ j => .ok e j else .ok Sy.ex0 j).bind fun o j =>
      (Sy.bodyOf v one j).bind fun b j => (Sy.must v [125] j).bind fun _ j => .ok ⟨(Sy.fnOf (v.tk (i + 2)) : Nat), Sy.txt (v.tk i).text, o, b⟩ j := rfl

set_option maxHeartbeats 8000000 in
theorem agg_of (b : Nat) (ra : Option Addr) (rc : Nat) (f : Value) (v : Sy.Env) (k br : Nat) (hv : EnvOk v) (hbr : br ≤ 16) (hB0 : br < 16 → BoC b ra rc f v k (br + 1)) : AgC b ra rc f v k br := by
  intro i w h hi
  have hlen := hv.len
  have mA := (Mod.refl [] w).alloc (Obj.cells #[.int .i64 0, .string { data := #[] }, .int .i64 0, .string { data := #[] }, .int .i64 0, .int .i64 0, .string { data := #[] }, .int .i64 0, .slice none 0 0, .slice none 0 0] 48)
  have hA := h.past mA (by simp)
  have eA := heap_alloc_new w (Obj.cells #[.int .i64 0, .string { data := #[] }, .int .i64 0, .string { data := #[] }, .int .i64 0, .int .i64 0, .string { data := #[] }, .int .i64 0, .slice none 0 0, .slice none 0 0] 48)
  have zA : (w.alloc (Obj.cells #[.int .i64 0, .string { data := #[] }, .int .i64 0, .string { data := #[] }, .int .i64 0, .int .i64 0, .string { data := #[] }, .int .i64 0, .slice none 0 0, .slice none 0 0] 48)).heap.size = w.heap.size + 1 := by simp
  have HP := Lib.hid (peek0 b ra rc f v i _ hA hv (by omega))
  have HP2 := Lib.hid (fun w h => peek2 b ra rc f v i w h hv (by omega))
  have HFn := Lib.hid (fun w => function_any (v.tk (i + 2)) w (hv.tbyte (i + 2)))
  have HR := Lib.hid (aggOf_eq v (Sy.litF v k (br + 1)) br i)
  have HIs := Lib.hid (fun w h => is_any b ra rc f v (i + 3) [123] { data := #[123] } w h hv (by omega) rfl (by decide))
  have HMu := Lib.hid (fun w h => must_any b ra rc f v (i + 3) [123] { data := #[123] } w h hv (by omega) rfl (by decide))
  have hmadv := Sy.adv_must v [123] (i + 3)
  have hms : ∀ a j, Sy.must v [123] (i + 3) = .ok a j → Sy.sign (v.tk (i + 3)) [123] = true := fun a j hm => by
    unfold Sy.must at hm
    split at hm
    · assumption
    · cases hm
  have HLo := Lib.hid h.low
  have hbl := h.lt
  have HA := Lib.hid hA; have EA := Lib.hid eA; have MA := Lib.hid mA
  have hnb : w.heap.size ∉ [b] := by simp; omega
  clear h hA eA mA
  generalize Sy.sign (v.tk (i + 3)) [123] = rp at *
  generalize Sy.must v [123] (i + 3) = pm at *
  generalize hq : Sy.aggOf v (Sy.litF v k (br + 1)) br i = q at *
  generalize Sy.fnOf (v.tk (i + 2)) = fnn at *
  generalize v.tk (i + 2) = t2 at *
  generalize v.tk i = t at *
  have HMS := Lib.hid hms; have HMA := Lib.hid hmadv
  clear hq hms hmadv
  go_enter Tryz.func74, Tryz.ntmps74
  go_upto_region 1 with fail
  generalize w.alloc (Obj.cells #[.int .i64 0, .string { data := #[] }, .int .i64 0, .string { data := #[] }, .int .i64 0, .int .i64 0, .string { data := #[] }, .int .i64 0, .slice none 0 0, .slice none 0 0] 48) = wA at *
  go_wp2_with fail
  refine HP.out.mono ?_
  rintro e1 w1 ⟨rfl, m1⟩
  have A1 := Lib.hid (m1.at EA.out (by simp)); have H1 := Lib.hid (HA.out.past m1 (by simp)); have M1 := Lib.hid ((MA.out.mono (T := [b]) (by simp)).trans m1 (by simp))
  clear m1 HP
  have hfd := fun w => field_text t w
  unfold tokC
  go_wp2_with fail
  refine (HP2.out w1 H1.out).mono ?_
  rintro e2 w2 ⟨rfl, m2⟩
  have A2 := Lib.hid (m2.at A1.out (by simp)); have H2 := Lib.hid (H1.out.past m2 (by simp)); have M2 := Lib.hid (M1.out.trans m2 (by simp))
  clear m2 HP2
  go_wp2_with fail
  refine (HFn.out w2).mono ?_
  rintro e3 w3 ⟨rfl, m3⟩
  have A3 := Lib.hid (m3.at A2.out (by simp)); have H3 := Lib.hid (H2.out.past m3 (by simp)); have M3 := Lib.hid (M2.out.trans m3 (by simp))
  clear m3 HFn
  have z3 := lt_of_block A3.out
  have mD := (Mod.refl [] w3).alloc (Obj.cells #[.int .i64 (fnn : Nat), .string (Lx.ofS t.text), .int .i64 0, .string { data := #[] }, .int .i64 0, .int .i64 0, .string { data := #[] }, .int .i64 0, .slice none 0 0, .slice none 0 0] 48)
  have dD := heap_alloc_new w3 (Obj.cells #[.int .i64 (fnn : Nat), .string (Lx.ofS t.text), .int .i64 0, .string { data := #[] }, .int .i64 0, .int .i64 0, .string { data := #[] }, .int .i64 0, .slice none 0 0, .slice none 0 0] 48)
  have HD := Lib.hid (H3.out.past mD (by simp)); have MD := Lib.hid (M3.out.trans mD (by simp)); have AD := Lib.hid (mD.at A3.out (by simp)); have DD := Lib.hid dD
  clear mD dD
  go_upto_region 2 with fail
  generalize w3.alloc (Obj.cells _ 48) = wD at *
  clear hfd
  have hgb : w3.heap.size ∉ [b] := by simp; omega
  generalize hgg : w3.heap.size = g at *
  obtain ⟨c0, c1, c2, c3, c4, c5, fz⟩ := HD.out.cells
  have hT := HD.out.to (i + 3)
  have hcast : ((i + 3 : Nat) : Int) = (i : Int) + 3 := by omega
  rw [hcast] at hT
  have A4 := Lib.hid (hT.2.at AD.out hnb); have G4 := Lib.hid (hT.2.at DD.out hgb); have M4 := Lib.hid (MD.out.trans hT.2 (by simp)); have H4 := Lib.hid hT.1
  clear hT hcast
  go_upto_region 3 with fail
  generalize wD.setCell ⟨b, 1, none⟩ (.int .i64 ((i : Int) + 3)) = w4 at *
  clear c0 c1 c2 c3 c4 c5 fz HA EA MA A1 H1 M1 A2 H2 M2 A3 H3 M3 HD MD AD DD zA
  go_wp2_with fail
  refine (HIs.out w4 H4.out).mono ?_
  rintro e5 w5 ⟨rfl, m5⟩
  have A5 := Lib.hid (m5.at A4.out (by simp)); have G5 := Lib.hid (m5.at G4.out (by simp)); have M5 := Lib.hid (M4.out.trans m5 (by simp)); have H5 := Lib.hid (H4.out.past m5 (by simp))
  clear m5 A4 G4 M4 H4
  by_cases hc : rp = true ∧ 16 ≤ br
  · have hq : q = .err (v.give 41 (i + 3)) := by rw [HR.out, if_pos hc]
    subst hq
    obtain ⟨rfl, hc2⟩ := hc
    have hI : (16 : Int) ≤ (br : Int) := by omega
    clear HR
    go_wp2_with fail
    refine (give_any b ra rc f v (i + 3) 41 w5 H5.out hv (by omega)).mono ?_
    rintro e6 w6 ⟨rfl, m6⟩
    have M6 := Lib.hid (M5.out.trans m6 (by simp))
    clear m6
    unfold stopE
    go_wp2_with fail
    exact ⟨rfl, rfl, M6.out⟩

  · have HR5 : Hid (q = pm.bind fun _ j =>
        (if fnn ≠ 1 then (Sy.expr v j).bind fun e j => (Sy.must v [58] j).bind fun _ j => .ok e j else .ok Sy.ex0 j).bind fun o j =>
          (Sy.bodyOf v (Sy.litF v k (br + 1)) j).bind fun b j => (Sy.must v [125] j).bind fun _ j => .ok ⟨(fnn : Nat), Sy.txt t.text, o, b⟩ j) := Lib.hid (by rw [HR.out, if_neg hc])
    have hpa : rp = true → br < 16 := fun h => Nat.lt_of_not_le (fun hh => hc ⟨h, hh⟩)
    clear HR hc
    cases pm with
    | err g1 =>
      have hq : q = .err g1 := HR5.out
      subst hq
      clear HR5
      cases rp
      all_goals (
        try have hI : ¬ (16 : Int) ≤ (br : Int) := by have := hpa rfl; omega
        clear hpa
        go_wp2_with fail
        refine (HMu.out w5 H5.out).mono ?_
        rintro e6 w6 ⟨rfl, m6⟩
        have M6 := Lib.hid (M5.out.trans m6 (by simp))
        clear m6
        unfold stopE
        go_wp2_with fail
        exact ⟨rfl, rfl, M6.out⟩)

    | ok uu j =>
      have hj := HMA.out uu j hi rfl
      have hrp := HMS.out uu j rfl
      subst hrp
      have hab := hpa rfl
      have hB := hB0 hab
      have hI : ¬ (16 : Int) ≤ (br : Int) := by omega
      have HR6 : Hid (q = (if fnn ≠ 1 then (Sy.expr v j).bind fun e j => (Sy.must v [58] j).bind fun _ j => .ok e j else .ok Sy.ex0 j).bind fun o j =>
          (Sy.bodyOf v (Sy.litF v k (br + 1)) j).bind fun b j => (Sy.must v [125] j).bind fun _ j => .ok ⟨(fnn : Nat), Sy.txt t.text, o, b⟩ j) := Lib.hid HR5.out
      clear HR5 hpa
      go_wp2_with fail
      refine (HMu.out w5 H5.out).mono ?_
      rintro e6 w6 ⟨y6, rfl, hy6, h6, m6⟩
      unfold valU at hy6
      subst hy6
      have A6 := Lib.hid (m6.at A5.out hnb); have G6 := Lib.hid (m6.at G5.out hgb); have M6 := Lib.hid (M5.out.trans m6 (by simp)); have H6 := Lib.hid h6
      have z6 := lt_of_block G6.out
      clear m6 h6 A5 G5 M5 H5 HMu HIs
      have x0 : w6.cell? ⟨g, 0, none⟩ = some (.int .i64 (fnn : Nat)) := cell_at G6.out 0
      by_cases hf : fnn = 1
      · have HQ : Hid (q = (Sy.bodyOf v (Sy.litF v k (br + 1)) j).bind fun b j => (Sy.must v [125] j).bind fun _ j => .ok ⟨(fnn : Nat), Sy.txt t.text, Sy.ex0, b⟩ j) := Lib.hid (by rw [HR6.out, if_neg (by omega)]; rfl)
        have hfI : ((fnn : Int) != 1) = false := by simp; omega
        clear HR6
        have O6 : Hid (EB (fun k => w.heap.size < k ∧ k ≠ g) w6 Sy.ex0 (.slice none Sy.ex0.args.length 0)) := Lib.hid .nil
        clear hf
        go_upto_region 9 with fail
        clear x0 hfI
        have G6' : Hid (w6.heap[g]? = some (.cells #[.int .i64 (fnn : Nat), .string (Lx.ofS t.text), .int .i64 Sy.ex0.k, .string Sy.ex0.v, .int .i64 Sy.ex0.x.k, .int .i64 Sy.ex0.x.n, .string (Lx.ofS Sy.ex0.x.s), .int .i64 Sy.ex0.op, .slice none Sy.ex0.args.length 0, .slice none 0 0] 48 (0, 0))) := Lib.hid G6.out
        clear G6
        have G6 := G6'
        clear G6'
        have HB20 := Lib.hid (hB j w6 H6.out hj.2)
        have hadvB := Sy.adv_bodyOf (Sy.adv_litF v k (br + 1)) j
        generalize Sy.bodyOf v (Sy.litF v k (br + 1)) j = pb at *
        cases pb with
        | err g1 =>
          have hq : q = .err g1 := HQ.out
          subst hq
          clear HQ hadvB
          go_wp2_with fail
          refine HB20.out.mono ?_
          rintro e21 w21 ⟨rfl, m21⟩
          have M21 := Lib.hid (M6.out.trans m21 (by simp))
          clear m21
          unfold stopE
          go_wp2_with fail
          exact ⟨rfl, rfl, M21.out⟩

        | ok bd n =>
          have hn := hadvB bd n hj.2 rfl
          have HQ2 : Hid (q = (Sy.must v [125] n).bind fun _ j => .ok ⟨(fnn : Nat), Sy.txt t.text, Sy.ex0, bd⟩ j) := Lib.hid HQ.out
          clear HQ hadvB
          go_wp2_with fail
          refine HB20.out.mono ?_
          rintro e21 w21 ⟨y21, rfl, hb21, h21, m21⟩
          unfold valB at hb21
          obtain ⟨ub, cb, rfl⟩ := hb21.lit
          have zz21 := lt_of_block G6.out
          have z21 := m21.size
          have A21 := Lib.hid (m21.at A6.out hnb); have G21 := Lib.hid (m21.at G6.out hgb); have O21 := Lib.hid (O6.out.keep m21 (fun s hs => by rw [List.mem_singleton] at hs; omega)); have M21 := Lib.hid (M6.out.trans m21 (by simp))
          have B21 := Lib.hid (hb21.mono (F' := fun k => w.heap.size < k ∧ k ≠ g) (fun k hk hk2 => by omega))
          have mC : Mod [g] w21 (w21.setCell ⟨g, 9, none⟩ (.slice ub bd.length cb)) := setCs_mod g [.slice ub bd.length cb] 9 w21
          have GC : Hid ((w21.setCell ⟨g, 9, none⟩ (.slice ub bd.length cb)).heap[g]? = some (.cells #[.int .i64 (fnn : Nat), .string (Lx.ofS t.text), .int .i64 Sy.ex0.k, .string Sy.ex0.v, .int .i64 Sy.ex0.x.k, .int .i64 Sy.ex0.x.n, .string (Lx.ofS Sy.ex0.x.s), .int .i64 Sy.ex0.op, .slice none Sy.ex0.args.length 0, .slice ub bd.length cb] 48 (0, 0))) := Lib.hid (setCs_heap [.slice ub bd.length cb] 9 [.int .i64 (fnn : Nat), .string (Lx.ofS t.text), .int .i64 Sy.ex0.k, .string Sy.ex0.v, .int .i64 Sy.ex0.x.k, .int .i64 Sy.ex0.x.n, .string (Lx.ofS Sy.ex0.x.s), .int .i64 Sy.ex0.op, .slice none Sy.ex0.args.length 0, .slice none 0 0] w21 G21.out)
          have HC := Lib.hid (h21.new HLo.out mC (by simp; omega)); have AC := Lib.hid (mC.at A21.out (by simp; omega)); have OC := Lib.hid (O21.out.keep mC (fun s hs => by rw [List.mem_singleton] at hs; omega)); have BC := Lib.hid (B21.out.keep mC (fun s hs => by rw [List.mem_singleton] at hs; omega)); have MC := Lib.hid (M21.out.trans mC (by simp; omega))
          have c9 : w21.cell? ⟨g, 9, none⟩ = some (.slice none 0 0) := (cell_at G21.out 9)
          have fg : w21.frozen? ⟨g, 9, none⟩ = false := free_at G21.out 9
          clear mC h21 m21 hb21
          go_upto_region 10 with fail
          generalize (w21.setCell ⟨g, 9, none⟩ (.slice ub bd.length cb)) = wC at *
          clear c9 fg
          have HU := Lib.hid (must_any b ra rc f v n [125] { data := #[125] } wC HC.out hv (by omega) rfl (by decide))
          generalize Sy.must v [125] n = pm9 at *
          cases pm9 with
          | err g1 =>
            have hq : q = .err g1 := HQ2.out
            subst hq
            clear HQ2
            go_wp2_with fail
            refine HU.out.mono ?_
            rintro e22 w22 ⟨rfl, m22⟩
            have M22 := Lib.hid (MC.out.trans m22 (by simp))
            clear m22
            unfold stopE
            go_wp2_with fail
            exact ⟨rfl, rfl, M22.out⟩

          | ok uu n2 =>
            have hq : q = .ok ⟨(fnn : Nat), Sy.txt t.text, Sy.ex0, bd⟩ n2 := HQ2.out
            subst hq
            clear HQ2
            go_wp2_with fail
            refine HU.out.mono ?_
            rintro e22 w22 ⟨y22, rfl, hy22, h22, m22⟩
            unfold valU at hy22
            subst hy22
            have H22 := Lib.hid h22; have A22 := Lib.hid (m22.at AC.out hnb); have G22 := Lib.hid (m22.at GC.out hgb); have O22 := Lib.hid (OC.out.keep m22 (fun s hs => by rw [List.mem_singleton] at hs; omega)); have B22 := Lib.hid (BC.out.keep m22 (fun s hs => by rw [List.mem_singleton] at hs; omega)); have M22 := Lib.hid (MC.out.trans m22 (by simp))
            obtain ⟨x0, x1, x2, x3, x4, x5, x6, x7, x8, x9⟩ := cells10 G22.out
            obtain ⟨y0, y1, y2, y3, y4, y5, y6, y7, y8, y9⟩ := cells10 A22.out
            have fA : ∀ j, w22.frozen? ⟨w.heap.size, j, none⟩ = false := fun j => free_at A22.out j
            clear h22 m22
            go_wp2_with fail
            have mR := setCs_mod w.heap.size [.int .i64 (fnn : Nat), .string (Lx.ofS t.text), .int .i64 Sy.ex0.k, .string Sy.ex0.v, .int .i64 Sy.ex0.x.k, .int .i64 Sy.ex0.x.n, .string (Lx.ofS Sy.ex0.x.s), .int .i64 Sy.ex0.op, .slice none Sy.ex0.args.length 0, .slice ub bd.length cb] 0 w22
            refine bodyPost_ret (results_cell_row rfl _ _ _ _ _ _ _ rfl (setCs_row (vs := [.int .i64 (fnn : Nat), .string (Lx.ofS t.text), .int .i64 Sy.ex0.k, .string Sy.ex0.v, .int .i64 Sy.ex0.x.k, .int .i64 Sy.ex0.x.n, .string (Lx.ofS Sy.ex0.x.s), .int .i64 Sy.ex0.op, .slice none Sy.ex0.args.length 0, .slice ub bd.length cb]) A22.out rfl) Tryz.underlying48 rfl (by kernel_rfl)) rfl ⟨_, rfl, ⟨(.slice none Sy.ex0.args.length 0), .slice ub bd.length cb, rfl, (O22.out.keep mR (fun s hs => by rw [List.mem_singleton] at hs; omega)).mono (fun k hk _ => by omega), (B22.out.keep mR (fun s hs => by rw [List.mem_singleton] at hs; omega)).mono (fun k hk _ => by omega)⟩, H22.out.new HLo.out mR (by simp), M22.out.trans mR (by simp)⟩

      · have HE := Lib.hid (expr_any b ra rc f v j w6 H6.out hv hj.2)
        have hadvE := Sy.adv_exprF v 60 1 0 (by omega) j
        have HQ0 : Hid (q = (((Sy.exprF v 60 1 0 j).bind fun r j => .ok r.1 j).bind fun e j => (Sy.must v [58] j).bind fun _ j => .ok e j).bind fun o j => (Sy.bodyOf v (Sy.litF v k (br + 1)) j).bind fun b j => (Sy.must v [125] j).bind fun _ j => .ok ⟨(fnn : Nat), Sy.txt t.text, o, b⟩ j) := Lib.hid (by rw [HR6.out, if_pos hf]; rfl)
        have hfI : ((fnn : Int) != 1) = true := by simp; omega
        clear HR6
        generalize Sy.exprF v 60 1 0 j = px at *
        cases px with
        | err g1 =>
          have hq : q = .err g1 := HQ0.out
          subst hq
          clear HQ0 hadvE
          go_wp2_with fail
          refine HE.out.mono ?_
          rintro e7 w7 ⟨rfl, m7⟩
          have M7 := Lib.hid (M6.out.trans m7 (by simp))
          clear m7
          unfold stopE
          go_wp2_with fail
          exact ⟨rfl, rfl, M7.out⟩

        | ok r n0 =>
          obtain ⟨ex, dd⟩ := r
          have hn0 := hadvE _ n0 hj.2 rfl
          have HQ1 : Hid (q = ((Sy.must v [58] n0).bind fun _ j => .ok ex j).bind fun o j => (Sy.bodyOf v (Sy.litF v k (br + 1)) j).bind fun b j => (Sy.must v [125] j).bind fun _ j => .ok ⟨(fnn : Nat), Sy.txt t.text, o, b⟩ j) := Lib.hid HQ0.out
          clear HQ0 hadvE
          go_wp2_with fail
          refine HE.out.mono ?_
          rintro e7 w7 ⟨y7, rfl, ⟨u7, rfl, hb7⟩, h7, m7⟩
          obtain ⟨a7, c7, rfl⟩ := hb7.lit
          have z7 := m7.size
          have A7 := Lib.hid (m7.at A6.out hnb); have G7 := Lib.hid (m7.at G6.out hgb); have M7 := Lib.hid (M6.out.trans m7 (by simp))
          have O7 := Lib.hid (hb7.mono (F' := fun k => w.heap.size < k ∧ k ≠ g) (fun k hk hk2 => by omega))
          have mB : Mod [g] w7 (((((((w7.setCell ⟨g, 2, none⟩ (.int .i64 ex.k)).setCell ⟨g, 3, none⟩ (.string ex.v)).setCell ⟨g, 4, none⟩ (.int .i64 ex.x.k)).setCell ⟨g, 5, none⟩ (.int .i64 ex.x.n)).setCell ⟨g, 6, none⟩ (.string (Lx.ofS ex.x.s))).setCell ⟨g, 7, none⟩ (.int .i64 ex.op)).setCell ⟨g, 8, none⟩ (.slice a7 ex.args.length c7)) := setCs_mod g [.int .i64 ex.k, .string ex.v, .int .i64 ex.x.k, .int .i64 ex.x.n, .string (Lx.ofS ex.x.s), .int .i64 ex.op, .slice a7 ex.args.length c7] 2 w7
          have G8 : Hid ((((((((w7.setCell ⟨g, 2, none⟩ (.int .i64 ex.k)).setCell ⟨g, 3, none⟩ (.string ex.v)).setCell ⟨g, 4, none⟩ (.int .i64 ex.x.k)).setCell ⟨g, 5, none⟩ (.int .i64 ex.x.n)).setCell ⟨g, 6, none⟩ (.string (Lx.ofS ex.x.s))).setCell ⟨g, 7, none⟩ (.int .i64 ex.op)).setCell ⟨g, 8, none⟩ (.slice a7 ex.args.length c7)).heap[g]? = some (.cells #[.int .i64 (fnn : Nat), .string (Lx.ofS t.text), .int .i64 ex.k, .string ex.v, .int .i64 ex.x.k, .int .i64 ex.x.n, .string (Lx.ofS ex.x.s), .int .i64 ex.op, .slice a7 ex.args.length c7, .slice none 0 0] 48 (0, 0))) := Lib.hid (setCs_heap [.int .i64 ex.k, .string ex.v, .int .i64 ex.x.k, .int .i64 ex.x.n, .string (Lx.ofS ex.x.s), .int .i64 ex.op, .slice a7 ex.args.length c7] 2 [.int .i64 (fnn : Nat), .string (Lx.ofS t.text), .int .i64 0, .string { data := #[] }, .int .i64 0, .int .i64 0, .string { data := #[] }, .int .i64 0, .slice none 0 0, .slice none 0 0] w7 G7.out)
          have H8 := Lib.hid (h7.new HLo.out mB (by simp; omega)); have A8 := Lib.hid (mB.at A7.out (by simp; omega)); have O8 := Lib.hid (O7.out.keep mB (fun s hs => by rw [List.mem_singleton] at hs; omega)); have M8 := Lib.hid (M7.out.trans mB (by simp; omega))
          have YY := cells10 G7.out
          obtain ⟨-, -, y2, y3, y4, y5, y6, y7, y8, -⟩ := YY
          have fg : ∀ j, w7.frozen? ⟨g, j, none⟩ = false := fun j => free_at G7.out j
          clear mB h7 m7 hb7 HE x0
          unfold exV
          simp only
          go_upto_region 8 with fail
          generalize (((((((w7.setCell ⟨g, 2, none⟩ (.int .i64 ex.k)).setCell ⟨g, 3, none⟩ (.string ex.v)).setCell ⟨g, 4, none⟩ (.int .i64 ex.x.k)).setCell ⟨g, 5, none⟩ (.int .i64 ex.x.n)).setCell ⟨g, 6, none⟩ (.string (Lx.ofS ex.x.s))).setCell ⟨g, 7, none⟩ (.int .i64 ex.op)).setCell ⟨g, 8, none⟩ (.slice a7 ex.args.length c7)) = w8 at *
          clear y2 y3 y4 y5 y6 y7 y8 fg A7 G7 O7 M7 A6 G6 M6 H6
          have HU := Lib.hid (must_any b ra rc f v n0 [58] { data := #[58] } w8 H8.out hv (by omega) rfl (by decide))
          have hadvU := Sy.adv_must v [58] n0
          generalize Sy.must v [58] n0 = pm2 at *
          cases pm2 with
          | err g1 =>
            have hq : q = .err g1 := HQ1.out
            subst hq
            clear HQ1 hadvU
            go_wp2_with fail
            refine HU.out.mono ?_
            rintro e9 w9 ⟨rfl, m9⟩
            have M9 := Lib.hid (M8.out.trans m9 (by simp))
            clear m9
            unfold stopE
            go_wp2_with fail
            exact ⟨rfl, rfl, M9.out⟩

          | ok uu1 n1 =>
            have hn1 := hadvU _ n1 hn0.2 rfl
            have HQ : Hid (q = (Sy.bodyOf v (Sy.litF v k (br + 1)) n1).bind fun b j => (Sy.must v [125] j).bind fun _ j => .ok ⟨(fnn : Nat), Sy.txt t.text, ex, b⟩ j) := Lib.hid HQ1.out
            clear HQ1 hadvU
            go_wp2_with fail
            refine HU.out.mono ?_
            rintro e9 w9 ⟨y9, rfl, hy9, h9, m9⟩
            unfold valU at hy9
            subst hy9
            have A9 := Lib.hid (m9.at A8.out hnb); have G9 := Lib.hid (m9.at G8.out hgb); have O9 := Lib.hid (O8.out.keep m9 (fun s hs => by rw [List.mem_singleton] at hs; omega)); have M9 := Lib.hid (M8.out.trans m9 (by simp)); have H9 := Lib.hid h9
            clear m9 h9 A8 G8 O8 M8 H8 HU
            go_upto_region 9 with fail
            have HB20 := Lib.hid (hB n1 w9 H9.out hn1.2)
            have hadvB := Sy.adv_bodyOf (Sy.adv_litF v k (br + 1)) n1
            generalize Sy.bodyOf v (Sy.litF v k (br + 1)) n1 = pb at *
            cases pb with
            | err g1 =>
              have hq : q = .err g1 := HQ.out
              subst hq
              clear HQ hadvB
              go_wp2_with fail
              refine HB20.out.mono ?_
              rintro e21 w21 ⟨rfl, m21⟩
              have M21 := Lib.hid (M9.out.trans m21 (by simp))
              clear m21
              unfold stopE
              go_wp2_with fail
              exact ⟨rfl, rfl, M21.out⟩

            | ok bd n =>
              have hn := hadvB bd n hn1.2 rfl
              have HQ2 : Hid (q = (Sy.must v [125] n).bind fun _ j => .ok ⟨(fnn : Nat), Sy.txt t.text, ex, bd⟩ j) := Lib.hid HQ.out
              clear HQ hadvB
              go_wp2_with fail
              refine HB20.out.mono ?_
              rintro e21 w21 ⟨y21, rfl, hb21, h21, m21⟩
              unfold valB at hb21
              obtain ⟨ub, cb, rfl⟩ := hb21.lit
              have zz21 := lt_of_block G9.out
              have z21 := m21.size
              have A21 := Lib.hid (m21.at A9.out hnb); have G21 := Lib.hid (m21.at G9.out hgb); have O21 := Lib.hid (O9.out.keep m21 (fun s hs => by rw [List.mem_singleton] at hs; omega)); have M21 := Lib.hid (M9.out.trans m21 (by simp))
              have B21 := Lib.hid (hb21.mono (F' := fun k => w.heap.size < k ∧ k ≠ g) (fun k hk hk2 => by omega))
              have mC : Mod [g] w21 (w21.setCell ⟨g, 9, none⟩ (.slice ub bd.length cb)) := setCs_mod g [.slice ub bd.length cb] 9 w21
              have GC : Hid ((w21.setCell ⟨g, 9, none⟩ (.slice ub bd.length cb)).heap[g]? = some (.cells #[.int .i64 (fnn : Nat), .string (Lx.ofS t.text), .int .i64 ex.k, .string ex.v, .int .i64 ex.x.k, .int .i64 ex.x.n, .string (Lx.ofS ex.x.s), .int .i64 ex.op, .slice a7 ex.args.length c7, .slice ub bd.length cb] 48 (0, 0))) := Lib.hid (setCs_heap [.slice ub bd.length cb] 9 [.int .i64 (fnn : Nat), .string (Lx.ofS t.text), .int .i64 ex.k, .string ex.v, .int .i64 ex.x.k, .int .i64 ex.x.n, .string (Lx.ofS ex.x.s), .int .i64 ex.op, .slice a7 ex.args.length c7, .slice none 0 0] w21 G21.out)
              have HC := Lib.hid (h21.new HLo.out mC (by simp; omega)); have AC := Lib.hid (mC.at A21.out (by simp; omega)); have OC := Lib.hid (O21.out.keep mC (fun s hs => by rw [List.mem_singleton] at hs; omega)); have BC := Lib.hid (B21.out.keep mC (fun s hs => by rw [List.mem_singleton] at hs; omega)); have MC := Lib.hid (M21.out.trans mC (by simp; omega))
              have c9 : w21.cell? ⟨g, 9, none⟩ = some (.slice none 0 0) := (cell_at G21.out 9)
              have fg : w21.frozen? ⟨g, 9, none⟩ = false := free_at G21.out 9
              clear mC h21 m21 hb21
              go_upto_region 10 with fail
              generalize (w21.setCell ⟨g, 9, none⟩ (.slice ub bd.length cb)) = wC at *
              clear c9 fg
              have HU := Lib.hid (must_any b ra rc f v n [125] { data := #[125] } wC HC.out hv (by omega) rfl (by decide))
              generalize Sy.must v [125] n = pm9 at *
              cases pm9 with
              | err g1 =>
                have hq : q = .err g1 := HQ2.out
                subst hq
                clear HQ2
                go_wp2_with fail
                refine HU.out.mono ?_
                rintro e22 w22 ⟨rfl, m22⟩
                have M22 := Lib.hid (MC.out.trans m22 (by simp))
                clear m22
                unfold stopE
                go_wp2_with fail
                exact ⟨rfl, rfl, M22.out⟩

              | ok uu n2 =>
                have hq : q = .ok ⟨(fnn : Nat), Sy.txt t.text, ex, bd⟩ n2 := HQ2.out
                subst hq
                clear HQ2
                go_wp2_with fail
                refine HU.out.mono ?_
                rintro e22 w22 ⟨y22, rfl, hy22, h22, m22⟩
                unfold valU at hy22
                subst hy22
                have H22 := Lib.hid h22; have A22 := Lib.hid (m22.at AC.out hnb); have G22 := Lib.hid (m22.at GC.out hgb); have O22 := Lib.hid (OC.out.keep m22 (fun s hs => by rw [List.mem_singleton] at hs; omega)); have B22 := Lib.hid (BC.out.keep m22 (fun s hs => by rw [List.mem_singleton] at hs; omega)); have M22 := Lib.hid (MC.out.trans m22 (by simp))
                obtain ⟨x0, x1, x2, x3, x4, x5, x6, x7, x8, x9⟩ := cells10 G22.out
                obtain ⟨y0, y1, y2, y3, y4, y5, y6, y7, y8, y9⟩ := cells10 A22.out
                have fA : ∀ j, w22.frozen? ⟨w.heap.size, j, none⟩ = false := fun j => free_at A22.out j
                clear h22 m22
                go_wp2_with fail
                have mR := setCs_mod w.heap.size [.int .i64 (fnn : Nat), .string (Lx.ofS t.text), .int .i64 ex.k, .string ex.v, .int .i64 ex.x.k, .int .i64 ex.x.n, .string (Lx.ofS ex.x.s), .int .i64 ex.op, .slice a7 ex.args.length c7, .slice ub bd.length cb] 0 w22
                refine bodyPost_ret (results_cell_row rfl _ _ _ _ _ _ _ rfl (setCs_row (vs := [.int .i64 (fnn : Nat), .string (Lx.ofS t.text), .int .i64 ex.k, .string ex.v, .int .i64 ex.x.k, .int .i64 ex.x.n, .string (Lx.ofS ex.x.s), .int .i64 ex.op, .slice a7 ex.args.length c7, .slice ub bd.length cb]) A22.out rfl) Tryz.underlying48 rfl (by kernel_rfl)) rfl ⟨_, rfl, ⟨(.slice a7 ex.args.length c7), .slice ub bd.length cb, rfl, (O22.out.keep mR (fun s hs => by rw [List.mem_singleton] at hs; omega)).mono (fun k hk _ => by omega), (B22.out.keep mR (fun s hs => by rw [List.mem_singleton] at hs; omega)).mono (fun k hk _ => by omega)⟩, H22.out.new HLo.out mR (by simp), M22.out.trans mR (by simp)⟩

end Go.Proofs.YtppigckioalhhaaGreatDoorR
namespace Go.Proofs.YtppigckioalhhaaGreatDoorR
open Go.RowKit
set_option linter.unusedVariables false

section
variable {P : Program} {ops : Array Oper} {rest : List Oper} {o : Oper} {a : Act} {w : World} {Q : Exit → Act → World → Prop}
theorem wpList_built (hgd : o.guard = none) (t : TypeId) (n : Nat) (x : Operand) (ho : o.op = .build t #[(n, x)])
    (v : Value) (hv : a.eval x = v) (cells : Array Value) (hc : (Instr.build t #[(n, v)]).run P w = .ok (.agg cells) w) (h : wpList P ops Q rest (a.put o.dst (.agg cells)) w) : wpList P ops Q (o :: rest) a w :=
  wpList_plain hgd fun K hK => by
    unfold Oper.wp execOp
    simp only [ho, Sem.run_bind, List.map_toArray, List.map_cons, List.map_nil, hv, hc, Result.andThen_ok]
    exact hK _ _ h
theorem wpList_load_row (hgd : o.guard = none) (ty : TypeId) (x : Operand) (ho : o.op = .load ty x) (g : Nat) (cs : Array Value) (t : TypeId) (fr : Nat × Nat) (hx : a.eval x = .pointer (some ⟨g, 0, none⟩)) (hg : w.heap[g]? = some (.cells cs t fr))
    (d : TypeDesc) (hu : P.underlying ty = some d) (hd : (match d with | .struct _ | .array _ _ => true | _ => false) = true) (hi : (P.info? ty).map (·.size) = some cs.size) (h : wpList P ops Q rest (a.put o.dst (.agg cs)) w) : wpList P ops Q (o :: rest) a w :=
  wpList_plain hgd fun K hK => by
    unfold Oper.wp execOp
    simp only [ho, hx, Instr.loadAt, Instr.sureAddr, Sem.run_bind, Sem.run_pure, Result.andThen_ok, run_loadVar_row w g t ty cs fr d hg hu hd hi]
    exact hK _ _ h
theorem wpList_store_new (hgd : o.guard = none) (ty : TypeId) (x y : Operand) (ho : o.op = .store ty x y) (w0 : World) (g : Nat) (cells old : Array Value) (t : TypeId) (hx : a.eval x = .pointer (some ⟨g, 0, none⟩)) (hy : a.eval y = .agg cells)
    (hw : w = w0.alloc (.cells old t)) (hgg : g = w0.heap.size) (hi : (P.info? ty).map (·.size) = some cells.size) (hold : old.size = cells.size) (h1 : cells.toList.all (·.oneCell') = true)
    (h : wpList P ops Q rest (a.put o.dst undef) (w0.alloc (.cells cells t))) : wpList P ops Q (o :: rest) a w := by
  subst hw; subst hgg
  refine wpList_store_row hgd ty x y ho _ cells hx hy t old (heap_alloc_last w0 _) hi hold (by rw [← Array.all_toList]; exact h1) ?_
  rw [World.setRow_alloc_new]
  exact h
theorem wpList_store_at (hgd : o.guard = none) (ty : TypeId) (x y : Operand) (ho : o.op = .store ty x y) (g : Nat) (cells old : Array Value) (t : TypeId) (hx : a.eval x = .pointer (some ⟨g, 0, none⟩)) (hy : a.eval y = .agg cells)
    (hg : w.heap[g]? = some (.cells old t (0, 0))) (hi : (P.info? ty).map (·.size) = some cells.size) (hold : old.size = cells.size) (h1 : cells.toList.all (·.oneCell') = true)
    (h : wpList P ops Q rest (a.put o.dst undef) (w.setRow g cells)) : wpList P ops Q (o :: rest) a w :=
  wpList_store_row hgd ty x y ho _ cells hx hy t old hg hi hold (by rw [← Array.all_toList]; exact h1) h
end
theorem Mod.setRow (w : World) (g : Nat) (cs : Array Value) : Mod [g] w (w.setRow g cs) :=
  ⟨rfl, rfl, rfl, by simp, fun k hk hn => setRow_other w g k cs (by simpa using hn)⟩
theorem Tryz.sizeLit : (Tryz.prog.info? 50).map (·.size) = some 30 := by kernel_rfl
end Go.Proofs.YtppigckioalhhaaGreatDoorR
