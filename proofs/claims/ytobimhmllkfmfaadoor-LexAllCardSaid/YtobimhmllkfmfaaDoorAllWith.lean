/- lex.All made; within. -/
import Derived.Test.YtobimhmllkfmfaaDoorAllIt
import Derived.Test.YtobimhmllkfmfaaDoorRfSame
namespace Go.Proofs.YtobimhmllkfmfaaDoor
open Go.RowKit Go.Shelf
set_option linter.unusedVariables false
set_option linter.unusedSimpArgs false
set_option maxRecDepth 100000
attribute [local go_sem] Oper.semAt_some

theorem cell_at {w : World} {b : Nat} {cs : Array Value} {T : TypeId} {fr : Nat × Nat} (h : w.heap[b]? = some (.cells cs T fr)) (i : Nat) : w.cell? ⟨b, i, none⟩ = cs[i]? := by simp [World.cell?, h]
theorem free_at {w : World} {b : Nat} {cs : Array Value} {T : TypeId} (h : w.heap[b]? = some (.cells cs T (0, 0))) (i : Nat) : w.frozen? ⟨b, i, none⟩ = false := by simp [World.frozen?, h]
theorem mod_of_below {B : Nat} {A C : World} (h : Below B A C) : Mod ((List.range A.heap.size).filter (fun k => decide (B ≤ k))) A C :=
  ⟨h.os, h.tape, h.output, h.size, fun k hk hn => h.block k (by
    simp only [List.mem_filter, List.mem_range, decide_eq_true_eq, not_and] at hn
    have := hn hk
    omega)⟩
theorem TokRow.abides {B b : Nat} {A C : World} {v : Value} {l : List Lx.Tok} (h : TokRow A b v l) (hb : Below B A C) (hf : ∀ k ∈ fp v, k < B) : TokRow C b v l :=
  h.keep (mod_of_below hb) (fun k hk hm => by
    simp only [List.mem_filter, decide_eq_true_eq] at hm
    have := hf k hk
    omega)
theorem given_len (s : ByteArray) : (Lx.given (Cod.str s)).1.length ≤ 65536 := by
  have hb : ∀ c ∈ (Lx.start (Cod.str s)).s, c < 256 := Cod.str_lt s
  have h := allF_len ((Cod.str s).length + 1) (Lx.start (Cod.str s)) hb
  unfold Lx.given
  by_cases he : (Lx.allF ((Cod.str s).length + 1) (Lx.start (Cod.str s))).1 = []
  · rw [he]; simp
  · have h3 := h.2 he
    simp [Lx.start] at h3
    have h1 := h.1
    simp only [Lx.start] at h1 ⊢
    omega
theorem makeFunc_any (fn : Fn) (first cap : Array Value) (w : World) : (Instr.makeFunc fn first cap).run Tryd.prog w = .ok (.func fn first cap) w := rfl

theorem All_any (s : ByteArray) (w : World) :
    Calls Tryd.prog 25 #[.string s] w fun e w' => e = .returned (.func (.func 34) #[] #[.pointer (some ⟨w.heap.size, 0, none⟩)]) ∧ w'.cell? ⟨w.heap.size, 0, none⟩ = some (.string s) ∧ Mod [] w w' := by
  have hmf := makeFunc_any
  go_enter Tryd.func25, Tryd.ntmps25
  go_wp2
  go_ret
  exact ⟨rfl, by simp, (Mod.refl [] w).alloc _⟩

/-- what within's loop holds -/
structure WI (B0 : Nat) (w : World) (va : Option Addr) (vc : Nat) (L pre : List Lx.Tok) (W : World) : Prop where
  c0 : W.cell? ⟨w.heap.size, 0, none⟩ = some (.slice va L.length vc)
  c1 : W.cell? ⟨w.heap.size + 1, 0, none⟩ = some (.bool false)
  f1 : W.frozen? ⟨w.heap.size + 1, 0, none⟩ = false
  c2 : W.cell? ⟨w.heap.size + 1 + 1, 0, none⟩ = some (.int .i64 (pre.length : Nat))
  f2 : W.frozen? ⟨w.heap.size + 1 + 1, 0, none⟩ = false
  row : TokRow W B0 (.slice va L.length vc) L
  mod : Mod [] w W
  pf : pre <+: L
theorem WI.step {B0 : Nat} {w : World} {va : Option Addr} {vc : Nat} {L pre : List Lx.Tok} {A C : World} (h : WI B0 w va vc L pre A) (hb : Below (w.heap.size + 1 + 1 + 1) A C) (hf : ∀ k ∈ fp (.slice va L.length vc), k < w.heap.size) : WI B0 w va vc L pre C :=
  ⟨(hb.cell (p := ⟨w.heap.size, 0, none⟩) (by show w.heap.size < _; omega)).trans h.c0, (hb.cell (p := ⟨w.heap.size + 1, 0, none⟩) (by simp)).trans h.c1, (hb.frozen (p := ⟨w.heap.size + 1, 0, none⟩) (by simp)).trans h.f1,
   (hb.cell (p := ⟨w.heap.size + 1 + 1, 0, none⟩) (by simp)).trans h.c2, (hb.frozen (p := ⟨w.heap.size + 1 + 1, 0, none⟩) (by simp)).trans h.f2, h.row.abides hb (fun k hk => by have := hf k hk; omega),
   h.mod.trans (mod_of_below hb) (fun t ht => by
     simp only [List.mem_filter, decide_eq_true_eq] at ht
     exact .inr (by omega)), h.pf⟩
theorem WI.next {B0 : Nat} {w : World} {va : Option Addr} {vc : Nat} {L pre : List Lx.Tok} {A : World} {x : Lx.Tok} (h : WI B0 w va vc L pre A) (hf : ∀ k ∈ fp (.slice va L.length vc), k < w.heap.size) (hpf : pre ++ [x] <+: L) :
    WI B0 w va vc L (pre ++ [x]) (A.setCell ⟨w.heap.size + 1 + 1, 0, none⟩ (.int .i64 ((pre.length : Int) + 1))) :=
  ⟨(World.cell?_setCell_other _ _ _ _ (by simp)).trans h.c0, (World.cell?_setCell_other _ _ _ _ (by simp)).trans h.c1, by rw [World.frozen?_setCell]; exact h.f1,
   by rw [List.length_append]; exact World.cell?_setCell_same' _ _ _ (by rw [h.c2]; rfl), by rw [World.frozen?_setCell]; exact h.f2,
   h.row.keep (S := [w.heap.size + 1 + 1]) ((Mod.refl _ _).setCell (.inl (by simp)) _) (fun k hk => by have := hf k hk; simp; omega), h.mod.setCell (.inr (by simp; omega)) _, hpf⟩
theorem at_prefix {L pre : List Lx.Tok} {x : Lx.Tok} (h : pre ++ [x] <+: L) : pre.length < L.length ∧ L[pre.length]? = some x := by
  obtain ⟨r, rfl⟩ := h
  exact ⟨by simp, by simp⟩

set_option maxHeartbeats 4000000 in
theorem within_any (s : ByteArray) (hs : s.size ≤ 140737488355328) (p B0 : Nat) (v : Value) (w : World) (hbox : w.cell? ⟨p, 0, none⟩ = some (.string s)) (hG : Glob w) (hp : 3 ≤ p) (hrow : TokRow w B0 v (Lx.given (Cod.str s)).1) :
    Calls Tryd.prog 27 #[.func (.func 34) #[] #[.pointer (some ⟨p, 0, none⟩)], v] w fun e w' => e = .returned (.bool true) ∧ Mod [] w w' := by
  have hlen := given_len s
  have HA := Lib.hid (fun n => all_stops n s hs p w hbox hG)
  generalize (Lx.given (Cod.str s)).1 = L at *
  obtain ⟨va, vc, rfl⟩ := hrow.lit
  have hpl : p < w.heap.size := World.block_lt_of_cell? w ⟨p, 0, none⟩ hbox
  have hrf : ∀ k ∈ fp (.slice va L.length vc), k < w.heap.size := fun k hk => fp_lt hrow.row k hk
  have HR := Lib.hid hrow; have HG := Lib.hid hG; have HF := Lib.hid hrf
  clear hrow hG hbox hrf
  refine (callsIn_wide (n := 5)).1 ?_
  refine callsIn_of_wp_marks Tryd.func27 rfl trivial ?_
  simp only [Tryd.ntmps27, List.size_toArray, List.length_cons, List.length_nil, Nat.reduceAdd, Nat.reduceSub, Array.replicate_succ, Array.replicate_zero, List.push_toArray, List.append_toArray, List.nil_append, List.cons_append]
  gi_wp2_with fail
  have h0 : WI B0 w va vc L [] (((w.alloc (Obj.cells #[Value.slice va L.length vc] 23)).alloc (Obj.cells #[Value.bool false] 4)).alloc (Obj.cells #[Value.int IntKind.i64 0] 3)) :=
    by
    have m1 := (Mod.refl [] (w.alloc (Obj.cells #[Value.slice va L.length vc] 23))).alloc (Obj.cells #[Value.bool false] 4)
    have m2 := (Mod.refl [] ((w.alloc (Obj.cells #[Value.slice va L.length vc] 23)).alloc (Obj.cells #[Value.bool false] 4))).alloc (Obj.cells #[Value.int IntKind.i64 0] 3)
    have e0 := m2.at (m1.at (heap_alloc_new w (Obj.cells #[Value.slice va L.length vc] 23)) (by simp)) (by simp)
    have e1 := m2.at (alloc_at (w0 := w.alloc (Obj.cells #[Value.slice va L.length vc] 23)) (n := w.heap.size + 1) (Obj.cells #[Value.bool false] 4) (by simp)) (by simp)
    have e2 := alloc_at (w0 := (w.alloc (Obj.cells #[Value.slice va L.length vc] 23)).alloc (Obj.cells #[Value.bool false] 4)) (n := w.heap.size + 1 + 1) (Obj.cells #[Value.int IntKind.i64 0] 3) (by simp)
    exact ⟨cell_at e0 0, cell_at e1 0, free_at e1 0, cell_at e2 0, free_at e2 0, HR.out.past ((((Mod.refl [] w).alloc _).alloc _).alloc _) (by simp), (((Mod.refl [] w).alloc _).alloc _).alloc _, by simp⟩
  have hsz : (((w.alloc (Obj.cells #[Value.slice va L.length vc] 23)).alloc (Obj.cells #[Value.bool false] 4)).alloc (Obj.cells #[Value.int IntKind.i64 0] 3)).heap.size = w.heap.size + 1 + 1 + 1 := by simp
  generalize ((w.alloc (Obj.cells #[Value.slice va L.length vc] 23)).alloc (Obj.cells #[Value.bool false] 4)).alloc (Obj.cells #[Value.int IntKind.i64 0] 3) = wA at *
  have hw3 := HG.out.size
  refine wp_seq (gf := 34) (lb := #[.pointer (some ⟨p, 0, none⟩)]) rfl (enters_of Tryd.func34 (by kernel_rfl) rfl) (HA.out _) h0.mod (fun _ => rfl)
    [w.heap.size + 1 + 1] (by simp; omega) (fun u hu => ⟨by omega, by omega⟩)
    (fun pre W => WI B0 w va vc L pre W) (fun _ _ _ => False) (fun pre A C hs hb => hs.step (hb.mono (by omega)) HF.out) (fun _ _ _ _ hs _ => hs) h0
    (fun x a' W => ∃ q, a' = { tmps := #[Value.func (Fn.func 34) #[] #[Value.pointer (some ⟨p, 0, none⟩)], Value.slice va L.length vc, undef, Value.pointer (some ⟨w.heap.size, 0, none⟩), Value.pointer (some ⟨w.heap.size + 1, 0, none⟩),
        Value.pointer (some ⟨w.heap.size + 1 + 1, 0, none⟩), Value.pointer (some ⟨q, 0, none⟩), Value.func (Fn.func 34) #[] #[Value.pointer (some ⟨p, 0, none⟩)], .agg (tokC x),
        undef, undef, undef, undef, undef, undef, undef, undef, undef, undef, undef, undef, undef, undef, undef, undef, undef, undef], defers := [] } ∧ W.heap[q]? = some (.cells (tokC x) 45 (0, 0)) ∧ w.heap.size + 1 + 1 + 1 + 1 < q)
    ?hx ?assign ?body ?done ?stop
  case hx =>
    rintro x a' A C ⟨q, rfl, hb, hq⟩ hm
    exact ⟨q, rfl, hm.at hb (by simp; omega), hq⟩
  case assign =>
    intro l pre x W K hi hlt hK
    unfold tokC
    gi_wp2_with fail
    refine hK _ _ ((Mod.refl [] W).alloc _) (hi.step (((Mod.refl [] W).alloc _).below (by omega) (by simp)) HF.out) ⟨W.heap.size, rfl, heap_alloc_new W _, by omega⟩
  case body =>
    rintro l pre x a' W hi ⟨q, rfl, hb, hq⟩ hpf hlt
    obtain ⟨hln, hat⟩ := at_prefix hpf
    obtain ⟨g1, k1, e1, a0, a1, a2, a3, a4, a5, a6⟩ := hi.row.at _ _ hat
    simp only [Value.slice.injEq, true_and] at e1
    obtain ⟨rfl, rfl⟩ := e1
    obtain ⟨t0', t1, t2, t3, t4, t5, t6⟩ := tok_cells hb
    have hN := Lib.hid (hi.next HF.out hpf); have HL := Lib.hid hln
    have c0 := hi.c0
    have c2 := hi.c2
    have f2 := hi.f2
    have hiI : (pre.length : Int) < (L.length : Int) := by omega
    have hi0 : (0 : Int) ≤ (pre.length : Int) := by omega
    have hge : decide (L.length ≤ pre.length) = false := by simp; omega
    clear hi hat hb
    unfold tokC
    gi_wp2_with fail
    refine wpIn_region_quiet_lit (by kernel_rfl) (by kernel_rfl) (by kernel_rfl) ?_
    repeat (go_big_quiet_step (fail))
    refine wpQuiet_nil ?_
    intro _ hw'
    obtain ⟨nq, hw''⟩ := hw'
    subst hw''
    gi_wp2_with fail
    exact ⟨((Mod.refl _ W).setCell (.inl (by simp)) _).drewN nq, hN.out.step (((Mod.refl [] _).drewN nq).below (by simp [World.setCell]; omega) (by simp)) HF.out⟩
  case done =>
    rintro D xs W hD rfl hi hK
    have c0 := hi.c0
    have c1 := hi.c1
    have f1 := hi.f1
    have c2 := hi.c2
    have HI := Lib.hid hi; have HK := Lib.hid hK
    clear hi hK
    gi_wp2_with fail
    have hK2 := (KeepsOthers.setCell W ⟨w.heap.size + 1, 0, none⟩ (.bool true)).same D _ HK.out rfl
    have hc : (W.setCell ⟨w.heap.size + 1, 0, none⟩ (.bool true)).cell? ⟨w.heap.size + 1, 0, none⟩ = some (.bool true) := World.cell?_setCell_same' _ _ _ (by rw [c1]; rfl)
    have hD2 : D < (W.setCell ⟨w.heap.size + 1, 0, none⟩ (.bool true)).heap.size := lt_of_block hK2
    have hc2 := (World.cell?_of_block (w := W.setCell ⟨w.heap.size + 1, 0, none⟩ (.bool true)) (w' := (W.setCell ⟨w.heap.size + 1, 0, none⟩ (.bool true)).putObj D (.deferred none)) (a := ⟨w.heap.size + 1, 0, none⟩) (World.putObj_heap_other (by simp; omega))).trans hc
    refine ⟨by simp, .inl ⟨_, _, rfl, run_takeDeferred hK2, ?_⟩⟩
    refine ⟨.bool true, by simp [results, Tryd.results27, go_sem, hc2], rfl, ?_⟩
    exact (HI.out.mod.setCell (.inr (by simp)) _).trans (mod_putObj _ _ _) (by simp; omega)
  case stop =>
    rintro D c pre W _ _ h _
    exact h.elim
end Go.Proofs.YtobimhmllkfmfaaDoor
