/- VALUES: a value's text; what the library's variables hold: the program's. -/
import Derived.Test.YtcalbbfkgdfidaaDoorVaQuo
import Derived.Lib.LaidTab
namespace Go.Proofs.YtcalbbfkgdfidaaDoor
open Go.RowKit
set_option linter.unusedVariables false
set_option linter.unusedSimpArgs false
set_option maxRecDepth 100000

theorem var_heap {P : Program} {w : World} {n : String} {g : Nat} {cs : Array Value} (hg : P.globalNamed n = some g) (h : w.var? P n = some cs) : ∃ T fr, w.heap[g]? = some (.cells cs T fr) := by
  simp only [World.var?, hg, Option.bind_some] at h
  split at h
  · rename_i c T fr he
    cases h
    exact ⟨_, _, he⟩
  · cases h
theorem var_past {P : Program} {S : List Nat} {w w' : World} {n : String} {cs : Array Value} (h : w.var? P n = some cs) (hm : Mod S w w') (hS : ∀ t ∈ S, w.heap.size ≤ t) : w'.var? P n = some cs := by
  cases hg : P.globalNamed n with
  | none => simp [World.var?, hg] at h
  | some g =>
    obtain ⟨T, fr, hh⟩ := var_heap hg h
    have h2 := hm.at hh (fun hb => by have := hS g hb; have := lt_of_block hh; omega)
    simp [World.var?, hg, h2]
/-- what the library's package-level variables hold -/
structure GlobV (w : World) : Prop where
  tab : Lib.TabIs Tryd.prog w "internal/strconv.uint64pow10" .u64 Lib.pow10Tab
  syn : ∃ tp p, w.var? Tryd.prog "strconv.ErrSyntax" = some #[.iface tp p]
  rng : ∃ tp p, w.var? Tryd.prog "strconv.ErrRange" = some #[.iface tp p]
theorem GlobV.past {S : List Nat} {w w' : World} (h : GlobV w) (hm : Mod S w w') (hS : ∀ t ∈ S, w.heap.size ≤ t) : GlobV w' := by
  obtain ⟨h1, ⟨t2, p2, h2⟩, ⟨t3, p3, h3⟩⟩ := h
  exact ⟨var_past h1 hm hS, ⟨t2, p2, var_past h2 hm hS⟩, ⟨t3, p3, var_past h3 hm hS⟩⟩

theorem mod_grow (w : World) (k : Nat) (os : Array Obj) : Mod [] w (Sort.grow (w.drewN k) os) :=
  ⟨rfl, rfl, rfl, by simp [Sort.grow], fun i hi _ => by simp [Sort.grow, Array.getElem?_append, hi]⟩
theorem itoa_ofS (n : Int) : Lx.ofS (Va.itoa n) = ⟨(Lib.itoa n).toArray⟩ := by
  unfold Lx.ofS Va.itoa
  rw [Va.map_back]
theorem itoa_any (n : Int) (h0 : -9223372036854775808 ≤ n) (h1 : n ≤ 9223372036854775807) (w : World) (hG : GlobV w) :
    Calls Tryd.prog 47 #[.int .i64 n] w fun e w' => e = .returned (.string (Lx.ofS (Va.itoa n))) ∧ Mod [] w w' := by
  refine (Tryd.strconv_Itoa n h0 h1 w hG.tab).mono ?_
  rintro e w' ⟨rfl, k, os, rfl⟩
  exact ⟨by rw [itoa_ofS], mod_grow _ _ _⟩

/-- does it lie in its bounds? -/
structure Va.Val.Ok (v : Va.Val) : Prop where
  byte : ∀ c ∈ v.s, c < 256
  lo : -9223372036854775808 ≤ v.n
  hi : v.n ≤ 9223372036854775807
theorem may_len {v : Va.Val} (h : Va.may v = true) : v.s.length ≤ 64 := by
  unfold Va.may at h
  simp only [Bool.or_eq_true, Bool.and_eq_true, beq_iff_eq, decide_eq_true_eq] at h
  rcases h with ⟨-, h, -⟩ | ⟨-, -, h⟩
  · rw [h]; simp
  · exact h

theorem text_any (v : Va.Val) (hv : v.Ok) (hl : v.s.length ≤ 1000) (w : World) (hG : GlobV w) :
    Calls Tryd.prog 32 #[.agg (valV v)] w fun e w' => e = .returned (.string (Lx.ofS (Va.text v))) ∧ Mod [] w w' := by
  have h1 := fun w hG => itoa_any v.n hv.lo hv.hi w hG
  have hsz : (Lx.ofS v.s).size = v.s.length := ofS_size _
  have hst : Cod.str (Lx.ofS v.s) = v.s := Lx.str_ofS hv.byte
  have h2 := fun w => Name_any (Lx.ofS v.s) (by omega) w
  have h3 := fun w => quoted_any (Lx.ofS v.s) (by omega) w
  rw [hst] at h2 h3
  obtain ⟨k, n, s⟩ := v
  unfold valV
  simp only at h1 h2 h3 hsz hst ⊢
  by_cases k1 : k = 1
  · subst k1
    have e : Va.text ⟨1, n, s⟩ = Va.itoa n := if_pos rfl
    rw [e]
    have H1 := Lib.hid h1
    clear h1 h2 h3 e hst hv hl
    go_enter Tryd.func32, Tryd.ntmps32
    go_wp2_with fail
    refine (H1.out _ (hG.past ((Mod.refl [] w).alloc _) (by simp))).mono ?_
    rintro e w1 ⟨rfl, hm⟩
    go_wp2_with fail
    go_ret
    exact ⟨rfl, ((Mod.refl [] w).alloc _).trans hm (by simp)⟩
  · have k1B : (k == 1) = false := by rw [beq_eq_false_iff_ne]; exact k1
    cases hn : Va.name s
    · have e : Va.text ⟨k, n, s⟩ = Va.quoted s := by unfold Va.text; rw [if_neg k1]; simp [hn]
      rw [e]
      rw [hn] at h2
      have H2 := Lib.hid h2; have H3 := Lib.hid h3
      clear h1 h2 h3 e hst hv hl hn
      go_enter Tryd.func32, Tryd.ntmps32
      go_wp2_with fail
      refine (H2.out _).mono ?_
      rintro e w1 ⟨rfl, hm⟩
      have hB := hm.at (heap_alloc_new w (Obj.cells #[Value.int IntKind.i64 k, Value.int IntKind.i64 n, Value.string (Lx.ofS s)] 44)) (by simp)
      have c2 : w1.cell? ⟨w.heap.size, 2, none⟩ = some (.string (Lx.ofS s)) := by simp [World.cell?, hB]
      have HM := Lib.hid (((Mod.refl [] w).alloc (Obj.cells #[Value.int IntKind.i64 k, Value.int IntKind.i64 n, Value.string (Lx.ofS s)] 44)).trans hm (by simp))
      clear hB hm
      go_wp2_with fail
      refine (H3.out _).mono ?_
      rintro e w2 ⟨rfl, hm2⟩
      go_wp2_with fail
      go_ret
      exact ⟨rfl, HM.out.trans hm2 (by simp)⟩
    · have e : Va.text ⟨k, n, s⟩ = s := by unfold Va.text; rw [if_neg k1]; simp [hn]
      rw [e]
      rw [hn] at h2
      have H2 := Lib.hid h2
      clear h1 h2 h3 e hst hv hl hn
      go_enter Tryd.func32, Tryd.ntmps32
      go_wp2_with fail
      refine (H2.out _).mono ?_
      rintro e w1 ⟨rfl, hm⟩
      have hB := hm.at (heap_alloc_new w (Obj.cells #[Value.int IntKind.i64 k, Value.int IntKind.i64 n, Value.string (Lx.ofS s)] 44)) (by simp)
      have c2 : w1.cell? ⟨w.heap.size, 2, none⟩ = some (.string (Lx.ofS s)) := by simp [World.cell?, hB]
      have HM := Lib.hid (((Mod.refl [] w).alloc (Obj.cells #[Value.int IntKind.i64 k, Value.int IntKind.i64 n, Value.string (Lx.ofS s)] 44)).trans hm (by simp))
      clear hB hm
      go_wp2_with fail
      go_ret
      exact ⟨rfl, HM.out⟩

/-- what Text answers -/
def txtV (v : Va.Val) : Value := .tuple #[.string (Lx.ofS (if Va.may v then Va.text v else [])), .int .i64 (chk v)]
theorem Text_any (v : Va.Val) (hv : v.Ok) (w : World) (hG : GlobV w) :
    Calls Tryd.prog 14 #[.agg (valV v)] w fun e w' => e = .returned (txtV v) ∧ Mod [] w w' := by
  have h1 := fun w => check_any v w
  have hm0 := (Mod.refl [] w).alloc (Obj.cells (valV v) 44)
  have hB0 := heap_alloc_new w (Obj.cells (valV v) 44)
  unfold txtV
  cases hmv : Va.may v
  · have e : chk v = 20 := by unfold chk; rw [hmv]; rfl
    rw [e] at h1 ⊢
    have H1 := Lib.hid h1
    clear h1 hmv e hB0
    unfold valV at *
    go_enter Tryd.func14, Tryd.ntmps14
    go_wp2_with fail
    refine (H1.out _).mono ?_
    rintro e w1 ⟨rfl, hm⟩
    have HM := Lib.hid (hm0.trans hm (by simp))
    clear hm hm0
    go_wp2_with fail
    go_ret2
    exact ⟨rfl, HM.out⟩
  · have e : chk v = 0 := by unfold chk; rw [hmv]; rfl
    rw [e] at h1 ⊢
    have h2 := fun w hG => text_any v hv (by have := may_len hmv; omega) w hG
    have H1 := Lib.hid h1; have H2 := Lib.hid h2
    clear h1 h2 hmv e hv
    unfold valV at *
    go_enter Tryd.func14, Tryd.ntmps14
    go_wp2_with fail
    refine (H1.out _).mono ?_
    rintro e w1 ⟨rfl, hm⟩
    have hB := hm.at hB0 (by simp)
    have c0 : w1.cell? ⟨w.heap.size, 0, none⟩ = some (.int .i64 v.k) := by simp [World.cell?, hB]
    have c1 : w1.cell? ⟨w.heap.size, 1, none⟩ = some (.int .i64 v.n) := by simp [World.cell?, hB]
    have c2 : w1.cell? ⟨w.heap.size, 2, none⟩ = some (.string (Lx.ofS v.s)) := by simp [World.cell?, hB]
    have HM := Lib.hid (hm0.trans hm (by simp))
    clear hm hm0 hB hB0
    go_wp2_with fail
    refine (H2.out _ (hG.past HM.out (by simp))).mono ?_
    rintro e w2 ⟨rfl, hm2⟩
    go_wp2_with fail
    go_ret2
    exact ⟨rfl, HM.out.trans hm2 (by simp)⟩
end Go.Proofs.YtcalbbfkgdfidaaDoor
