/- THE WRITER: a strings.Builder in its first field: what it holds; WriteString, put, must. -/
import Derived.Test.YtbmmdficdeakfaaDoorPrText
import Derived.Test.YtbmmdficdeakfaaDoorPrPlain
import Derived.Lib.Builder
import Derived.Laws.Externs
namespace Go.Proofs.YtbmmdficdeakfaaDoor
open Go.RowKit
set_option linter.unusedVariables false
set_option linter.unusedSimpArgs false
set_option maxRecDepth 100000

/-- block p holds a writer: its bytes l (the slice v), whether there is none, how many braces are open -/
structure WrIs (w : World) (p : Nat) (q v : Value) (l : List Nat) (bad : Bool) (br : Int) : Prop where
  at_ : w.heap[p]? = some (.cells #[q, v, .bool bad, .int .i64 br] 70 (0, 0))
  adr : q = .pointer none ∨ q = .pointer (some ⟨p, 0, none⟩)
  row : w.ownsRow 0 5 1 v l.length (toCells l)
  out : p ∉ fp v
  byte : ∀ c ∈ l, c < 256
  nil_ : l = [] → v = .slice none 0 0
theorem WrIs.lt {w : World} {p : Nat} {q v : Value} {l : List Nat} {bad : Bool} {br : Int} (h : WrIs w p q v l bad br) : p < w.heap.size := lt_of_block h.at_
theorem WrIs.cells {w : World} {p : Nat} {q v : Value} {l : List Nat} {bad : Bool} {br : Int} (h : WrIs w p q v l bad br) :
    w.cell? ⟨p, 0, none⟩ = some q ∧ w.cell? ⟨p, 1, none⟩ = some v ∧ w.cell? ⟨p, 2, none⟩ = some (.bool bad) ∧ w.cell? ⟨p, 3, none⟩ = some (.int .i64 br) ∧ ∀ j, w.frozen? ⟨p, j, none⟩ = false := by
  have hh := h.at_
  refine ⟨?_, ?_, ?_, ?_, fun j => ?_⟩ <;> simp [World.cell?, World.frozen?, hh]
theorem WrIs.keep {S : List Nat} {w w' : World} {p : Nat} {q v : Value} {l : List Nat} {bad : Bool} {br : Int} (h : WrIs w p q v l bad br) (hm : Mod S w w') (hp : p ∉ S) (hv : ∀ k ∈ fp v, k ∉ S) : WrIs w' p q v l bad br :=
  ⟨hm.at h.at_ hp, h.adr, hm.owns h.row hv, h.out, h.byte, h.nil_⟩
theorem WrIs.past {S : List Nat} {w w' : World} {p : Nat} {q v : Value} {l : List Nat} {bad : Bool} {br : Int} (h : WrIs w p q v l bad br) (hm : Mod S w w') (hS : ∀ t ∈ S, w.heap.size ≤ t) : WrIs w' p q v l bad br :=
  h.keep hm (fun hb => by have := hS p hb; have := h.lt; omega) (fun k hk hs => by have := hS k hs; have := fp_lt h.row k hk; omega)
/-- what a call on a writer may turn: it, its bytes, what is new -/
def WMod (p : Nat) (v v' : Value) (w w' : World) : Prop := Mod (p :: fp v) w w' ∧ ∀ k ∈ fp v', k ∈ fp v ∨ w.heap.size ≤ k
theorem WMod.refl (p : Nat) (v : Value) (w : World) : WMod p v v w w := ⟨Mod.refl _ _, fun k hk => .inl hk⟩
theorem WMod.trans {p : Nat} {v v' v'' : Value} {a b c : World} (h : WMod p v v' a b) (k : WMod p v' v'' b c) : WMod p v v'' a c :=
  ⟨h.1.trans k.1 (fun t ht => by
    rcases List.mem_cons.1 ht with rfl | ht
    · exact .inl List.mem_cons_self
    · rcases h.2 t ht with q | q
      · exact .inl (List.mem_cons_of_mem _ q)
      · exact .inr q), fun t ht => by
    rcases k.2 t ht with q | q
    · exact h.2 t q
    · have := h.1.size
      exact .inr (by omega)⟩
theorem WMod.of {p : Nat} {v : Value} {a b : World} (h : Mod [] a b) : WMod p v v a b := ⟨h.mono (by simp), fun k hk => .inl hk⟩
theorem WMod.size {p : Nat} {v v' : Value} {a b : World} (h : WMod p v v' a b) : a.heap.size ≤ b.heap.size := h.1.size
/-- a cell beside the writer stays -/
theorem WMod.cell {p : Nat} {v v' : Value} {a b : World} (h : WMod p v v' a b) {x : Addr} {u : Value} (hc : a.cell? x = some u) (h1 : x.block ≠ p) (h2 : x.block ∉ fp v) : b.cell? x = some u :=
  h.1.cell hc (by simp; exact ⟨h1, h2⟩)

theorem Tryd.noEsc : ∃ fn, Tryd.prog.funcs[72]? = some fn ∧ (fn.name == "runtime.NumGoroutine") = false ∧ fn.body.isNone = true ∧ Extern.findNext fn = none ∧ Extern.find fn = some Extern.AbiNoEscape.same :=
  ⟨_, rfl, by kernel_rfl, by kernel_rfl, by kernel_rfl, by kernel_rfl⟩
theorem Tryd.infoBuilder : (Tryd.prog.info? 68).map (·.size) = some 2 := by kernel_rfl

set_option maxHeartbeats 1000000 in
theorem copyCheck_any (p : Nat) (q v : Value) (l : List Nat) (bad : Bool) (br : Int) (w : World) (h : WrIs w p q v l bad br) :
    Calls Tryd.prog 58 #[.pointer (some ⟨p, 0, none⟩)] w fun e w' => e = .returned (.tuple #[]) ∧ WrIs w' p (.pointer (some ⟨p, 0, none⟩)) v l bad br ∧ Mod [p] w w' := by
  obtain ⟨j, hj, hjs⟩ := Option.map_eq_some_iff.1 Tryd.infoBuilder
  have hh := h.at_
  have hsh : w.shape? p = some (70, 4) := by simp [World.shape?, hh]
  obtain ⟨c0, c1, c2, c3, fz⟩ := h.cells
  have H := Lib.hid h
  rcases h.adr with rfl | rfl
  · obtain ⟨fn, hf, hn1, hn2, hn3, hn4⟩ := Tryd.noEsc
    have hlies : liesAt Tryd.prog Tryd.prog.depth 70 (4 / Tryd.prog.cellsOf 70) 0 68 1 = true := by kernel_rfl
    go_enter Tryd.func58, Tryd.ntmps58
    go_wp2_with fail
    rw [Lib.run_to_unsafe w ⟨p, 0, none⟩ Tryd.underlying65 Tryd.underlying118 hj (by rw [hjs]; decide) hsh (show 0 < 4 by decide)]
    simp only [Result.andThen]
    rw [Oper.upon_value]
    go_wp2_with fail
    rw [run_callFunc_extern hf hn1 hn2 hn3 hn4]
    rw [Lib.run_noEscape]
    simp only [Result.andThen]
    rw [Oper.upon_value]
    go_wp2_with fail
    rw [Lib.run_from_unsafe w ⟨p, 0, none⟩ Tryd.underlying118 Tryd.underlying65 hj hsh hlies]
    simp only [Result.andThen]
    rw [Oper.upon_value]
    go_wp2_with fail
    go_end0
    refine ⟨rfl, ⟨?_, .inr rfl, ownsRow_setCell_other H.out.row (fun e => H.out.out (ownBlock_fp _ _ e)) _, H.out.out, H.out.byte, H.out.nil_⟩, Mod.setCell (p := ⟨p, 0, none⟩) (Mod.refl _ _) (.inl List.mem_cons_self) _⟩
    have := setCell_at H.out.at_ 0 (.pointer (some ⟨p, 0, none⟩))
    simpa using this
  · go_enter Tryd.func58, Tryd.ntmps58
    go_wp2_with fail
    rw [Lib.run_neq_ptr_same w _ Tryd.underlying65 hj]
    go_wp2_with fail
    go_end0
    exact ⟨rfl, H.out, Mod.refl _ _⟩

/-- what a call that writes leaves -/
def WLaid (p : Nat) (v : Value) (l : List Nat) (bad : Bool) (br : Int) (w : World) (e : Ending) (w' : World) : Prop :=
  e = .returned (.tuple #[]) ∧ ∃ q' v', WrIs w' p q' v' l bad br ∧ WMod p v v' w w'

set_option maxHeartbeats 1000000 in
theorem WriteString_any (p : Nat) (q v : Value) (l : List Nat) (bad : Bool) (br : Int) (s : ByteArray) (w : World) (h : WrIs w p q v l bad br) (hlen : l.length + s.size ≤ 140737488355328) :
    Calls Tryd.prog 37 #[.pointer (some ⟨p, 0, none⟩), .string s] w fun e w' => e = .returned (.tuple #[.int .i64 s.size, .nilIface]) ∧ ∃ q' v', WrIs w' p q' v' (l ++ Cod.str s) bad br ∧ WMod p v v' w w' := by
  obtain ⟨i0, hi, hz0, hz1, hz2⟩ := info_parts Tryd.infoU8
  go_enter Tryd.func37, Tryd.ntmps37
  go_wp2_with fail
  refine (copyCheck_any p q v l bad br w h).mono ?_
  rintro e w1 ⟨rfl, h1, m1⟩
  obtain ⟨c0, c1, c2, c3, fz⟩ := h1.cells
  have hsrc := Src.ofString (P := Tryd.prog) w1 Tryd.underlying9 s
  have H1 := Lib.hid h1; have M1 := Lib.hid m1
  clear h1 m1 h
  go_wp2_with (at_builtin; refine wpList_append_src _ rfl _ _ 66 9 rfl 5 i0 (.int .u8 0) 1 1 Tryd.underlying66 hi hz0 hz1 hz2 rfl v _ _ rfl H1.out.row _ _ _ rfl hsrc (by unfold maxLen; omega) (by omega) ?_)
  intro v' w2 hown hmod hfresh hnil
  have hat := hmod.at H1.out.at_ H1.out.out
  have d1 : w2.cell? ⟨p, 1, none⟩ = some v := by simp [World.cell?, hat]
  have fz2 : ∀ j, w2.frozen? ⟨p, j, none⟩ = false := fun j => by simp [World.frozen?, hat]
  have hpo : p ∉ fp v' := fun hb => by
    rcases hfresh p hb with r | r
    · exact H1.out.out r
    · have := H1.out.lt; omega
  have HH : WrIs (w2.setCell ⟨p, 1, none⟩ v') p (.pointer (some ⟨p, 0, none⟩)) v' (l ++ Cod.str s) bad br ∧ WMod p v v' w (w2.setCell ⟨p, 1, none⟩ v') := by
    refine ⟨⟨?_, .inr rfl, ?_, hpo, fun c hc => (List.mem_append.1 hc).elim (H1.out.byte c) (Cod.str_lt s c), fun e => ?_⟩, ?_, fun k hk => ?_⟩
    · have := setCell_at hat 1 v'
      have hq : w1.heap[p]? = _ := H1.out.at_
      rcases H1.out.adr with e | e
      · cases e
      · simpa using this
    · rw [List.length_append, Cod.str_len, toCells_append, ← byteCells_str]
      exact ownsRow_setCell_other hown (fun e => hpo (ownBlock_fp _ _ e)) _
    · obtain ⟨e1, e2⟩ := List.append_eq_nil_iff.1 e
      refine hnil.2 ⟨H1.out.nil_ e1, ?_⟩
      first
        | (rw [← Lx.ofS_str s, e2]; rfl)
        | (rw [← Cod.str_len, e2]; rfl)
    · exact Mod.setCell (p := ⟨p, 1, none⟩) ((M1.out.mono (by simp)).trans hmod (fun t ht => .inl (List.mem_cons_of_mem _ ht))) (.inl List.mem_cons_self) _
    · rcases hfresh k hk with r | r
      · exact .inl r
      · have := M1.out.size; exact .inr (by omega)
  obtain ⟨a', c', rfl⟩ := owns_slice hown
  have HHH := Lib.hid HH
  clear hnil hfresh hown hmod HH hpo hat
  go_wp2_with fail
  go_ret2
  exact ⟨rfl, _, _, HHH.out.1, HHH.out.2⟩

theorem must_any (p : Nat) (q v : Value) (l : List Nat) (bad : Bool) (br : Int) (b : Bool) (w : World) (h : WrIs w p q v l bad br) :
    Calls Tryd.prog 35 #[.pointer (some ⟨p, 0, none⟩), .bool b] w (WLaid p v l (bad || !b) br w) := by
  obtain ⟨c0, c1, c2, c3, fz⟩ := h.cells
  have H := Lib.hid h
  cases b
  · go_enter Tryd.func35, Tryd.ntmps35
    go_wp2_with fail
    go_end0
    refine ⟨rfl, q, v, ⟨?_, H.out.adr, ownsRow_setCell_other H.out.row (fun e => H.out.out (ownBlock_fp _ _ e)) _, H.out.out, H.out.byte, H.out.nil_⟩, Mod.setCell (p := ⟨p, 2, none⟩) (Mod.refl _ _) (.inl List.mem_cons_self) _, fun k hk => .inl hk⟩
    have := setCell_at H.out.at_ 2 (.bool true)
    simpa using this
  · go_enter Tryd.func35, Tryd.ntmps35
    go_wp2_with fail
    go_end0
    refine ⟨rfl, q, v, ?_, WMod.refl _ _ _⟩
    simpa using H.out

set_option maxHeartbeats 2000000 in
theorem put_any (p : Nat) (q v : Value) (l : List Nat) (bad : Bool) (br : Int) (g c : Nat) (ss : List ByteArray) (w : World) (h : WrIs w p q v l bad br)
    (hg : g < w.heap.size) (hgp : g ≠ p) (hgv : g ∉ fp v) (hc : ∀ i (hi : i < ss.length), w.cell? ⟨g, i, none⟩ = some (.string ss[i])) (hn : ss.length ≤ 1000) (hlen : l.length + (ss.flatMap Cod.str).length ≤ 140737488355328) :
    Calls Tryd.prog 24 #[.pointer (some ⟨p, 0, none⟩), .slice (some ⟨g, 0, none⟩) ss.length c] w (WLaid p v (l ++ ss.flatMap Cod.str) bad br w) := by
  have H := Lib.hid h; have HC := Lib.hid hc
  clear h hc
  go_enter Tryd.func24, Tryd.ntmps24
  go_wp2_with fail
  go_loopw [8] (fun iv wr => ∃ (k : Nat) (q' v' : Value), k ≤ ss.length ∧ iv = .int .i64 (k : Nat) ∧ WrIs wr p q' v' (l ++ (ss.take k).flatMap Cod.str) bad br ∧ WMod p v v' w wr) (fun iv _ => ss.length - (intOf iv).toNat)
  case atStart => exact ⟨0, q, v, Nat.zero_le _, rfl, by simpa using H.out, WMod.refl _ _ _⟩
  case round =>
    obtain ⟨k, q', v', hk, rfl, hw, hm⟩ := hrel
    by_cases hlt : k < ss.length
    · have hkI : (k : Int) < (ss.length : Int) := by omega
      have hk0 : (0 : Int) ≤ (k : Int) := by omega
      have hcell := hm.cell (HC.out k hlt) hgp hgv
      have hsn : (ss.take (k + 1)).flatMap Cod.str = (ss.take k).flatMap Cod.str ++ Cod.str ss[k] := by
        rw [List.take_succ_eq_append_getElem hlt, List.flatMap_append]; simp
      have hle : (l ++ (ss.take k).flatMap Cod.str).length + ss[k].size ≤ 140737488355328 := by
        have h1 : ss.flatMap Cod.str = (ss.take (k + 1)).flatMap Cod.str ++ (ss.drop (k + 1)).flatMap Cod.str := by
          rw [← List.flatMap_append, List.take_append_drop]
        have h2 := congrArg List.length h1
        rw [hsn, List.length_append, List.length_append, Cod.str_len] at h2
        rw [List.length_append]
        omega
      have HSN := Lib.hid hsn
      generalize ss[k] = s at *
      have HW := Lib.hid (WriteString_any p q' v' _ bad br s wr hw hle)
      have HM := Lib.hid hm
      clear hw hm hsn hle
      go_wp2_with fail
      refine HW.out.mono ?_
      rintro e w1 ⟨rfl, q2, v2, h2, m2⟩
      have R1 : Hid (WrIs w1 p q2 v2 (l ++ (ss.take (k + 1)).flatMap Cod.str) bad br) := Lib.hid (by rw [HSN.out, ← List.append_assoc]; exact h2)
      have R2 := Lib.hid (HM.out.trans m2)
      clear h2 m2
      go_wp2_with fail
      go_roundw
      case rel => exact ⟨k + 1, q2, v2, by omega, by go_num, R1.out, R2.out⟩
      case measure => simp [intOf]; omega
    · obtain rfl : k = ss.length := by omega
      have hkI : ¬ (ss.length : Int) < (ss.length : Int) := by omega
      rw [List.take_length] at hw
      have HW := Lib.hid hw; have HM := Lib.hid hm
      clear hw hm
      go_wp2_with fail
      go_end0
      exact ⟨rfl, q', v', HW.out, HM.out⟩
end Go.Proofs.YtbmmdficdeakfaaDoor
