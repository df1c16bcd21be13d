/- ROWS OF VALUES that a call owns: appended to, value by value or a whole row; copied. -/
import Derived.Test.YthdkaoegegiheaaDoorVaSame
namespace Go.Proofs.YthdkaoegegiheaaDoor
open Go.RowKit
set_option linter.unusedVariables false
set_option linter.unusedSimpArgs false
set_option maxRecDepth 100000

theorem Tryd.infoVal : (Tryd.prog.info? 23).map (fun i => (i.zero, i.size, i.bytes)) = some (some (.agg (valV Va.zero)), 3, 32) := by kernel_rfl
/-- the slice v, newer than base, owns these values -/
structure VOwn (w : World) (base : Nat) (v : Value) (ts : List Va.Val) : Prop where
  row : w.ownsRow 0 23 3 v ts.length (rowVals ts)
  new : ∀ k ∈ fp v, base ≤ k
theorem VOwn.nil (w : World) (base : Nat) : VOwn w base (.slice none 0 0) [] := ⟨World.ownsRow_nil _ _ _ _, by simp [fp]⟩
theorem VOwn.keep {S : List Nat} {w w' : World} {base : Nat} {v : Value} {ts : List Va.Val} (h : VOwn w base v ts) (hm : Mod S w w') (hS : ∀ k ∈ fp v, k ∉ S) : VOwn w' base v ts :=
  ⟨hm.owns h.row hS, h.new⟩
theorem VOwn.past {S : List Nat} {w w' : World} {base : Nat} {v : Value} {ts : List Va.Val} (h : VOwn w base v ts) (hm : Mod S w w') (hS : ∀ t ∈ S, w.heap.size ≤ t) : VOwn w' base v ts :=
  h.keep hm (fun k hk hs => by have := hS k hs; have := fp_lt h.row k hk; omega)
theorem VOwn.base {w : World} {b b' : Nat} {v : Value} {ts : List Va.Val} (h : VOwn w b v ts) (hb : b' ≤ b) : VOwn w b' v ts :=
  ⟨h.row, fun k hk => Nat.le_trans hb (h.new k hk)⟩
theorem VOwn.lit {w : World} {base : Nat} {v : Value} {ts : List Va.Val} (h : VOwn w base v ts) : ∃ a c, v = .slice a ts.length c := by
  rcases h.row.2 with ⟨rfl, h0⟩ | ⟨g, cap, cur, rfl, -⟩
  · exact ⟨_, _, by rw [h0]⟩
  · exact ⟨_, _, rfl⟩
theorem VOwn.vrow {w : World} {base : Nat} {v : Value} {ts : List Va.Val} (h : VOwn w base v ts) : VRow w v ts := by
  rcases h.row.2 with ⟨rfl, h0⟩ | ⟨g, cap, cur, rfl, -⟩
  · exact .inl ⟨_, _, rfl, List.eq_nil_of_length_eq_zero h0⟩
  · refine .inr ⟨g, 0, cap, rfl, fun i hi => ?_⟩
    obtain ⟨h0, h1, h2⟩ := rowVals_get ts i hi
    have hget : ∀ j u, (rowVals ts)[j]? = some u → w.cell? ⟨g, j, none⟩ = some u := fun j u hu => by
      have := h.row.cells (g := g) rfl j _ hu
      rwa [addr_add, Nat.zero_add] at this
    rw [Nat.zero_add]
    exact ⟨hget _ _ h0, hget _ _ h1, hget _ _ h2⟩
/-- one value, as what is appended -/
theorem src_val {w : World} {b : Nat} {t : Va.Val} {T : TypeId} {fr : Nat × Nat} (h : w.heap[b]? = some (.cells (valV t) T fr)) :
    Src Tryd.prog 3 32 (.slice (some ⟨b, 0, none⟩) 1 1) 1 (valV t).toList w := by
  refine Src.ofSlice w Tryd.underlying32 ⟨b, 0, none⟩ 1 1 _ (by simp [valV]) (fun j u hu => ?_) (fun u hu => rowVals_one [t] u (by simpa [rowVals] using hu))
  rw [addr_add, Nat.zero_add]
  simp [World.cell?, h]
  rw [← Array.getElem?_toList]; exact hu
theorem src_vals {w : World} {v : Value} {ts : List Va.Val} (h : VRow w v ts) : Src Tryd.prog 3 32 v ts.length (rowVals ts) w := by
  rcases h with ⟨a, c, rfl, rfl⟩ | ⟨b, off, cap, rfl, hc⟩
  · cases a with
    | none => exact Src.ofNil (size := 3) w Tryd.underlying32 c
    | some a => exact Src.ofSlice w Tryd.underlying32 a 0 c [] rfl (by simp) (by simp)
  · exact Src.ofSlice w Tryd.underlying32 _ _ _ _ (rowVals_len ts) (fun j u hu => VRow.src (c := 0) hc j u hu) (rowVals_one ts)

set_option maxHeartbeats 1000000 in
theorem CopyTuple_any (v : Value) (ts : List Va.Val) (hl : ts.length ≤ 4398046511103) (w : World) (h : VRow w v ts) :
    Calls Tryd.prog 43 #[v] w fun e w' => ∃ u, e = .returned u ∧ VOwn w' w.heap.size u ts ∧ Mod [] w w' := by
  obtain ⟨i0, hinf, hz0, hz1, hz2⟩ := info_parts Tryd.infoVal
  have hsrc := src_vals h
  clear h
  go_enter Tryd.func43, Tryd.ntmps43
  go_wp2_with (at_builtin; refine wpList_append_src _ rfl _ _ 32 32 rfl 23 i0 (.agg (valV Va.zero)) 3 32 Tryd.underlying32 hinf hz0 hz1 hz2 rfl (.slice none 0 0) 0 [] rfl (World.ownsRow_nil _ _ _ _) _ ts.length (rowVals ts) rfl hsrc (by unfold maxLen; omega) (by omega) ?_)
  intro v' w1 hown hmod hfresh hnil
  have HO : Hid (VOwn w1 w.heap.size v' ts ∧ Mod [] w w1) := Lib.hid ⟨⟨by simpa using hown, fun k hk => by simpa [fp] using hfresh k hk⟩, hmod⟩
  clear hown hmod hfresh hnil hsrc
  go_wp2_with fail
  go_ret
  exact ⟨_, rfl, HO.out⟩
end Go.Proofs.YthdkaoegegiheaaDoor
