/- LexAll: the law's walk. -/
import Derived.Test.YtobimhmllkfmfaaDoorAllWith
import Derived.Test.YtobimhmllkfmfaaDoorRfToks
import Derived.Laws.EntriesVeiled
namespace Go.Proofs.YtobimhmllkfmfaaDoor
open Go.RowKit Go.Shelf
set_option linter.unusedVariables false
set_option linter.unusedSimpArgs false
set_option maxRecDepth 100000
attribute [local go_sem] Oper.semAt_some

/-- LexAll's variables -/
structure LP where
  bl : Nat
  br : Nat
  b8 : Nat
  b9 : Nat
  b10 : Nat
  b12 : Nat
  b14 : Nat
  pT : Nat
  pO : Nat
  va : Option Addr
  vc : Nat
  ua : Option Addr
  uc : Nat
  leave : Int
  s : ByteArray
  t : ByteArray
  L : List Lx.Tok
  M : List Lx.Tok
def LP.fs (p : LP) (q : Nat) : Value := .func (.func 34) #[] #[.pointer (some ⟨q, 0, none⟩)]
structure LB (w : World) (p : LP) : Prop where
  olds : ∀ k ∈ [p.bl, p.br, p.b8, p.b9, p.b10, p.b12, p.pT, p.pO], k < p.b14
  new : w.heap.size ≤ p.b14
  h3 : 3 ≤ w.heap.size
  rn : w.heap.size ≤ p.br
  v : ∀ k ∈ fp (.slice p.va p.L.length p.vc), k < p.b14
  u : ∀ k ∈ fp (.slice p.ua p.M.length p.uc), k < p.b14
structure LI (w : World) (p : LP) (n : Nat) (W : World) : Prop where
  cl : W.cell? ⟨p.bl, 0, none⟩ = some (.int .i64 p.leave)
  cr : W.cell? ⟨p.br, 0, none⟩ = some (.bool false)
  fr : W.frozen? ⟨p.br, 0, none⟩ = false
  c8 : W.cell? ⟨p.b8, 0, none⟩ = some (p.fs p.pT)
  c9 : W.cell? ⟨p.b9, 0, none⟩ = some (p.fs p.pO)
  c10 : W.cell? ⟨p.b10, 0, none⟩ = some (.slice p.va p.L.length p.vc)
  c12 : W.cell? ⟨p.b12, 0, none⟩ = some (.slice p.ua p.M.length p.uc)
  c14 : W.cell? ⟨p.b14, 0, none⟩ = some (.int .i64 (n : Nat))
  f14 : W.frozen? ⟨p.b14, 0, none⟩ = false
  cT : W.cell? ⟨p.pT, 0, none⟩ = some (.string p.s)
  cO : W.cell? ⟨p.pO, 0, none⟩ = some (.string p.t)
  row : TokRow W 0 (.slice p.va p.L.length p.vc) p.L
  rowM : TokRow W 0 (.slice p.ua p.M.length p.uc) p.M
  glob : Glob W
  mod : Mod [] w W
theorem LI.keep {w : World} {p : LP} {n : Nat} {S : List Nat} {A C : World} (h : LI w p n A) (b : LB w p) (hm : Mod S A C) (hS : ∀ k ∈ S, p.b14 < k ∧ w.heap.size ≤ k ∧ 3 ≤ k) : LI w p n C := by
  have o := b.olds
  have no : ∀ k, k ≤ p.b14 → k ∉ S := fun k hk hs => by have := (hS k hs).1; omega
  simp only [List.mem_cons, List.not_mem_nil, or_false, forall_eq_or_imp, forall_eq] at o
  obtain ⟨o1, o2, o3, o4, o5, o6, o7, o8⟩ := o
  have fz : ∀ k, k ≤ p.b14 → k < A.heap.size → C.frozen? ⟨k, 0, none⟩ = A.frozen? ⟨k, 0, none⟩ := fun k hk hl => World.frozen?_of_block (hm.block k hl (no k hk))
  refine ⟨hm.cell h.cl (no p.bl (by omega)), hm.cell h.cr (no p.br (by omega)), (fz p.br (by omega) (World.block_lt_of_cell? A ⟨p.br, 0, none⟩ h.cr)).trans h.fr, hm.cell h.c8 (no p.b8 (by omega)), hm.cell h.c9 (no p.b9 (by omega)), hm.cell h.c10 (no p.b10 (by omega)), hm.cell h.c12 (no p.b12 (by omega)),
    hm.cell h.c14 (no p.b14 (by omega)), (fz p.b14 (by omega) (World.block_lt_of_cell? A ⟨p.b14, 0, none⟩ h.c14)).trans h.f14, hm.cell h.cT (no p.pT (by omega)), hm.cell h.cO (no p.pO (by omega)),
    h.row.keep hm (fun k hk => no k (by have := b.v k hk; omega)), h.rowM.keep hm (fun k hk => no k (by have := b.u k hk; omega)), h.glob.keep hm (fun k hk => (hS k hk).2.2), h.mod.trans hm (fun k hk => .inr (hS k hk).2.1)⟩
theorem LI.below {w : World} {p : LP} {n B : Nat} {A C : World} (h : LI w p n A) (b : LB w p) (hb : Below B A C) (hB : p.b14 < B) : LI w p n C := by
  refine h.keep b (mod_of_below hb) (fun k hk => ?_)
  simp only [List.mem_filter, decide_eq_true_eq] at hk
  have := b.new
  have := b.h3
  exact ⟨by omega, by omega, by omega⟩
/-- a number stored into the count -/
theorem LI.store {w : World} {p : LP} {n : Nat} {A : World} (h : LI w p n A) (b : LB w p) (m : Nat) : LI w p m (A.setCell ⟨p.b14, 0, none⟩ (.int .i64 (m : Nat))) := by
  have o := b.olds
  simp only [List.mem_cons, List.not_mem_nil, or_false, forall_eq_or_imp, forall_eq] at o
  obtain ⟨o1, o2, o3, o4, o5, o6, o7, o8⟩ := o
  have hm := (Mod.refl [p.b14] A).setCell (p := ⟨p.b14, 0, none⟩) (.inl (by simp)) (.int .i64 (m : Nat))
  have no : ∀ k, k < p.b14 → k ∉ [p.b14] := fun k hk hs => by simp at hs; omega
  refine ⟨hm.cell h.cl (no p.bl (by omega)), hm.cell h.cr (no p.br (by omega)), by rw [World.frozen?_setCell]; exact h.fr, hm.cell h.c8 (no p.b8 (by omega)), hm.cell h.c9 (no p.b9 (by omega)), hm.cell h.c10 (no p.b10 (by omega)), hm.cell h.c12 (no p.b12 (by omega)),
    World.cell?_setCell_same' _ _ _ (by rw [h.c14]; rfl), by rw [World.frozen?_setCell]; exact h.f14, hm.cell h.cT (no p.pT (by omega)), hm.cell h.cO (no p.pO (by omega)),
    h.row.keep hm (fun k hk => no k (by have := b.v k hk; omega)), h.rowM.keep hm (fun k hk => no k (by have := b.u k hk; omega)), h.glob.keep hm (fun k hk => by have := b.h3; have := b.new; simp at hk; omega), h.mod.trans hm (fun k hk => .inr (by have := b.new; simp at hk; omega))⟩

theorem All_at (s : ByteArray) (w : World) (q : Nat) (hq : w.heap.size = q) :
    Calls Tryd.prog 25 #[.string s] w fun e w' => e = .returned (.func (.func 34) #[] #[.pointer (some ⟨q, 0, none⟩)]) ∧ w'.cell? ⟨q, 0, none⟩ = some (.string s) ∧ Mod [] w w' := by
  subst hq
  exact All_any s w
set_option maxHeartbeats 8000000 in
theorem LexAll_any (s t : ByteArray) (leave : Int) (hs : s.size ≤ 140737488355328) (ht : t.size ≤ 140737488355328) (hr : -9223372036854775808 ≤ leave ∧ leave ≤ 9223372036854775807) (w : World) (hG : Glob w) :
    Calls Tryd.prog 9 #[.string s, .string t, .int .i64 leave] w fun e w' => e = .returned (.bool true) ∧ Mod [] w w' := by
  have hlenL := given_len s
  have hlenM := given_len t
  have HGL := Lib.hid (fun w => rGiven_any s hs w); have HGM := Lib.hid (fun w => rGiven_any t ht w)
  have HWL := Lib.hid (fun p B0 v w => within_any s hs p B0 v w); have HWM := Lib.hid (fun p B0 v w => within_any t ht p B0 v w)
  have HAL := Lib.hid (fun n p w => all_stops n s hs p w)
  unfold GivR at HGL HGM
  generalize hfL : faultV (Lx.given (Cod.str s)).2 = fL at *
  generalize hfM : faultV (Lx.given (Cod.str t)).2 = fM at *
  have hfL3 : ∃ a b c, fL = #[.int .i64 a, .int .i64 b, .int .i64 c] := ⟨_, _, _, hfL.symm⟩
  have hfM3 : ∃ a b c, fM = #[.int .i64 a, .int .i64 b, .int .i64 c] := ⟨_, _, _, hfM.symm⟩
  clear hfL hfM
  obtain ⟨fa, fb, fc, rfl⟩ := hfL3
  obtain ⟨ga, gb, gc, rfl⟩ := hfM3
  generalize (Lx.given (Cod.str s)).1 = L at *
  generalize (Lx.given (Cod.str t)).1 = M at *
  have hnil : ∀ (a : Fn) (b c : Array Value) (w : World), (binOp BinOp.eql 52 (.func a b c) .nilFunc).run Tryd.prog w = .ok (.bool false) w := fun _ _ _ _ => rfl
  have HG := Lib.hid hG
  clear hG
  refine (callsIn_wide (n := 9)).1 ?_
  refine callsIn_of_wp_marks Tryd.func9 rfl trivial ?_
  simp only [Tryd.ntmps9, List.size_toArray, List.length_cons, List.length_nil, Nat.reduceAdd, Nat.reduceSub, Array.replicate_succ, Array.replicate_zero, List.push_toArray, List.append_toArray, List.nil_append, List.cons_append]
  gi_wp2_with fail
  refine ⟨trivial, callsIn_wide.2 ?_⟩
  have mA := (Mod.refl [] w).alloc (Obj.cells #[Value.int IntKind.i64 leave] 3)
  have mB := (Mod.refl [] (w.alloc (Obj.cells #[Value.int IntKind.i64 leave] 3))).alloc (Obj.cells #[Value.bool false] 4)
  have el := mB.at (heap_alloc_new w (Obj.cells #[Value.int IntKind.i64 leave] 3)) (by simp)
  have er := alloc_at (w0 := w.alloc (Obj.cells #[Value.int IntKind.i64 leave] 3)) (n := w.heap.size + 1) (Obj.cells #[Value.bool false] 4) (by simp)
  have mC := mA.trans mB (by simp)
  refine (known_any _ (HG.out.past mC (by simp))).mono ?_
  rintro e1 w1 ⟨rfl, m1⟩
  have E1 := Lib.hid (m1.at el (by simp)); have E2 := Lib.hid (m1.at er (by simp)); have M1 := Lib.hid (mC.trans m1 (by simp))
  clear mA mB mC m1 el er
  gi_wp2_with fail
  refine ⟨trivial, callsIn_wide.2 ?_⟩
  refine (All_any s w1).mono ?_
  rintro e2 w2 ⟨rfl, hT, m2⟩
  have mA := m2.alloc (Obj.cells #[Value.func (Fn.func 34) #[] #[Value.pointer (some ⟨w1.heap.size, 0, none⟩)]] 52)
  have E1 := Lib.hid (mA.at E1.out (by simp)); have E2 := Lib.hid (mA.at E2.out (by simp)); have M2 := Lib.hid (M1.out.trans mA (by simp))
  have E3 := Lib.hid (((Mod.refl [] w2).alloc (Obj.cells #[Value.func (Fn.func 34) #[] #[Value.pointer (some ⟨w1.heap.size, 0, none⟩)]] 52)).cell hT (by simp))
  have E4 := Lib.hid (heap_alloc_new w2 (Obj.cells #[Value.func (Fn.func 34) #[] #[Value.pointer (some ⟨w1.heap.size, 0, none⟩)]] 52))
  have z1 := M1.out.size
  have z2 := m2.size
  have z2' : w1.heap.size < w2.heap.size := World.block_lt_of_cell? w2 ⟨w1.heap.size, 0, none⟩ hT
  clear mA m2 hT
  gi_wp2_with fail
  refine ⟨trivial, callsIn_wide.2 ?_⟩
  refine (All_at t _ (w2.heap.size + 1) (by simp)).mono ?_
  rintro e3 w3 ⟨rfl, hT, m3⟩
  have mA := m3.alloc (Obj.cells #[Value.func (Fn.func 34) #[] #[Value.pointer (some ⟨w2.heap.size + 1, 0, none⟩)]] 52)
  have E1 := Lib.hid (mA.at E1.out (by simp)); have E2 := Lib.hid (mA.at E2.out (by simp)); have M3 := Lib.hid (M2.out.trans mA (by simp))
  have E3 := Lib.hid (mA.cell E3.out (by simp)); have E4 := Lib.hid (mA.at E4.out (by simp))
  have E5 := Lib.hid (((Mod.refl [] w3).alloc (Obj.cells #[Value.func (Fn.func 34) #[] #[Value.pointer (some ⟨w2.heap.size + 1, 0, none⟩)]] 52)).cell hT (by simp))
  have E6 := Lib.hid (heap_alloc_new w3 (Obj.cells #[Value.func (Fn.func 34) #[] #[Value.pointer (some ⟨w2.heap.size + 1, 0, none⟩)]] 52))
  have z3 : w2.heap.size + 1 < w3.heap.size := World.block_lt_of_cell? w3 ⟨w2.heap.size + 1, 0, none⟩ hT
  have k8 := cell_at E4.out 0
  have k9 := cell_at E6.out 0
  clear mA m3 hT
  simp only [List.getElem?_toArray, List.getElem?_cons_zero] at k8 k9
  gi_wp2_with fail
  refine ⟨trivial, callsIn_wide.2 ?_⟩
  refine (HGL.out _).mono ?_
  rintro e4 w4 ⟨v, rfl, hv, m4⟩
  obtain ⟨va, vc, rfl⟩ := hv.lit
  have mA := (m4.alloc (Obj.cells #[Value.slice va L.length vc] 23)).alloc (Obj.cells #[Value.int .i64 fa, Value.int .i64 fb, Value.int .i64 fc] 28)
  have mB := ((Mod.refl [] w4).alloc (Obj.cells #[Value.slice va L.length vc] 23)).alloc (Obj.cells #[Value.int .i64 fa, Value.int .i64 fb, Value.int .i64 fc] 28)
  have E1 := Lib.hid (mA.at E1.out (by simp)); have E2 := Lib.hid (mA.at E2.out (by simp)); have M4 := Lib.hid (M3.out.trans mA (by simp))
  have E3 := Lib.hid (mA.cell E3.out (by simp)); have E4 := Lib.hid (mA.at E4.out (by simp)); have E5 := Lib.hid (mA.cell E5.out (by simp)); have E6 := Lib.hid (mA.at E6.out (by simp))
  have E7 := Lib.hid (((Mod.refl [] (w4.alloc (Obj.cells #[Value.slice va L.length vc] 23))).alloc (Obj.cells #[Value.int .i64 fa, Value.int .i64 fb, Value.int .i64 fc] 28)).at (heap_alloc_new w4 (Obj.cells #[Value.slice va L.length vc] 23)) (by simp))
  have E8 := Lib.hid ((hv.past mB (by simp)).base (b' := 0) (by omega))
  have F8 := Lib.hid (fun k hk => fp_lt hv.row k hk)
  have z4 : w3.heap.size + 1 ≤ w4.heap.size := by have := m4.size; simp at this; exact this
  clear mA mB m4 hv k8 k9
  gi_wp2_with fail
  refine ⟨trivial, callsIn_wide.2 ?_⟩
  refine (HGM.out _).mono ?_
  rintro e5 w5 ⟨u, rfl, hv, m5⟩
  obtain ⟨ua, uc, rfl⟩ := hv.lit
  have mA := (m5.alloc (Obj.cells #[Value.slice ua M.length uc] 23)).alloc (Obj.cells #[Value.int .i64 ga, Value.int .i64 gb, Value.int .i64 gc] 28)
  have mB := ((Mod.refl [] w5).alloc (Obj.cells #[Value.slice ua M.length uc] 23)).alloc (Obj.cells #[Value.int .i64 ga, Value.int .i64 gb, Value.int .i64 gc] 28)
  have mC := (Mod.refl [] ((w5.alloc (Obj.cells #[Value.slice ua M.length uc] 23)).alloc (Obj.cells #[Value.int .i64 ga, Value.int .i64 gb, Value.int .i64 gc] 28))).alloc (Obj.cells #[Value.int .i64 0] 3)
  have mD := mA.trans mC (by simp)
  have z5 : w4.heap.size + 2 ≤ w5.heap.size := by have := m5.size; simp at this; exact this
  have hLI : LI w ⟨w.heap.size, w.heap.size + 1, w2.heap.size, w3.heap.size, w4.heap.size, w5.heap.size, w5.heap.size + 1 + 1, w1.heap.size, w2.heap.size + 1, va, vc, ua, uc, leave, s, t, L, M⟩ 0
      (((w5.alloc (Obj.cells #[Value.slice ua M.length uc] 23)).alloc (Obj.cells #[Value.int .i64 ga, Value.int .i64 gb, Value.int .i64 gc] 28)).alloc (Obj.cells #[Value.int .i64 0] 3)) :=
    ⟨cell_at (mD.at E1.out (by simp)) 0, cell_at (mD.at E2.out (by simp)) 0, free_at (mD.at E2.out (by simp)) 0, cell_at (mD.at E4.out (by simp)) 0, cell_at (mD.at E6.out (by simp)) 0, cell_at (mD.at E7.out (by simp)) 0,
      cell_at (mC.at (((Mod.refl [] (w5.alloc (Obj.cells #[Value.slice ua M.length uc] 23))).alloc (Obj.cells #[Value.int .i64 ga, Value.int .i64 gb, Value.int .i64 gc] 28)).at (heap_alloc_new w5 (Obj.cells #[Value.slice ua M.length uc] 23)) (by simp)) (by simp)) 0,
      cell_at (alloc_at (n := w5.heap.size + 1 + 1) _ (by simp)) 0, free_at (alloc_at (n := w5.heap.size + 1 + 1) _ (by simp)) 0, mD.cell E3.out (by simp), mD.cell E5.out (by simp), E8.out.past mD (by simp), ((hv.past mB (by simp)).base (b' := 0) (by omega)).past mC (by simp), HG.out.past (M4.out.trans mD (by simp)) (by simp), M4.out.trans mD (by simp)⟩
  have hLB : LB w ⟨w.heap.size, w.heap.size + 1, w2.heap.size, w3.heap.size, w4.heap.size, w5.heap.size, w5.heap.size + 1 + 1, w1.heap.size, w2.heap.size + 1, va, vc, ua, uc, leave, s, t, L, M⟩ := by
    refine ⟨?_, ?_, HG.out.size, ?_, fun k hk => ?_, fun k hk => ?_⟩
    · simp; omega
    · simp; omega
    · simp
    · have := F8.out k hk; show k < w5.heap.size + 1 + 1; omega
    · have := fp_lt hv.row k hk; show k < w5.heap.size + 1 + 1; omega
  have HLI := Lib.hid hLI; have HLB := Lib.hid hLB
  have zS : (((w5.alloc (Obj.cells #[Value.slice ua M.length uc] 23)).alloc (Obj.cells #[Value.int .i64 ga, Value.int .i64 gb, Value.int .i64 gc] 28)).alloc (Obj.cells #[Value.int .i64 0] 3)).heap.size = w5.heap.size + 1 + 1 + 1 := by simp
  have k8 := hLI.c8
  clear E1 E2 E3 E4 E5 E6 E7 E8 F8 mA mB mC mD hv m5 M1 M2 M3 M4 hLI hLB HGL HGM
  unfold LP.fs at k8
  dsimp only at k8
  gi_wp2_with fail
  generalize ((w5.alloc (Obj.cells #[Value.slice ua M.length uc] 23)).alloc (Obj.cells #[Value.int .i64 ga, Value.int .i64 gb, Value.int .i64 gc] 28)).alloc (Obj.cells #[Value.int .i64 0] 3) = wA at *
  obtain ⟨p, hp⟩ : ∃ p : LP, p = (⟨w.heap.size, w.heap.size + 1, w2.heap.size, w3.heap.size, w4.heap.size, w5.heap.size, w5.heap.size + 1 + 1, w1.heap.size, w2.heap.size + 1, va, vc, ua, uc, leave, s, t, L, M⟩ : LP) := ⟨_, rfl⟩
  rw [← hp] at HLI HLB
  have hp14 : p.b14 = w5.heap.size + 1 + 1 := by rw [hp]
  have hpL : p.L = L := by rw [hp]
  have hpT : p.pT = w1.heap.size := by rw [hp]
  have hw3 := HG.out.size
  have hT1 : p.pT < p.b14 := HLB.out.olds _ (by simp)
  have hnw := HLB.out.new
  have hQ := HAL.out 8 p.pT wA (by have := HLI.out.cT; rwa [show p.s = s by rw [hp]] at this) HLI.out.glob
  refine wp_seq (gf := 34) (lb := #[.pointer (some ⟨w1.heap.size, 0, none⟩)]) rfl (enters_of Tryd.func34 (by kernel_rfl) rfl) (by rw [hpT] at hQ; exact hQ) (Mod.refl [] wA) (fun _ => rfl)
    [w5.heap.size + 1 + 1] (fun u hu => by rw [List.mem_singleton] at hu; rw [hp14] at hT1 hnw; exact ⟨⟨by omega, by omega⟩, by omega⟩) (fun u hu => by rw [hp14] at hT1 hnw; exact ⟨by omega, by omega⟩)
    (fun pre W => LI w p pre.length W ∧ pre <+: L) (fun c pre W => c = .exit 0 ∧ ∃ n, LI w p n W) (fun pre A C hs hb => ⟨hs.1.below HLB.out hb (by omega), hs.2⟩) (fun c pre A C hs hb => ⟨hs.1, hs.2.imp fun n hn => hn.below HLB.out hb (by omega)⟩) ⟨HLI.out, by simp⟩
    (fun x a' W => ∃ q, a' = { tmps := #[Value.string s, Value.string t, Value.int IntKind.i64 leave, undef, undef, Value.pointer (some { block := w.heap.size, off := 0 }), Value.pointer (some { block := w.heap.size + 1, off := 0 }), Value.bool true, Value.pointer (some { block := w2.heap.size, off := 0 }), Value.pointer (some { block := w3.heap.size, off := 0 }), Value.pointer (some { block := w4.heap.size, off := 0 }), Value.pointer (some { block := w4.heap.size + 1, off := 0 }), Value.pointer (some { block := w5.heap.size, off := 0 }), Value.pointer (some { block := w5.heap.size + 1, off := 0 }), Value.pointer (some { block := w5.heap.size + 1 + 1, off := 0 }), Value.pointer (some ⟨q, 0, none⟩), undef, undef, undef, undef, Value.bool true, Value.string s, Value.func (Fn.func 34) #[] #[Value.pointer (some { block := w1.heap.size, off := 0 })], Value.string t, Value.func (Fn.func 34) #[] #[Value.pointer (some { block := w2.heap.size + 1, off := 0 })], Value.bool true, Value.bool false, Value.bool false, Value.func (Fn.func 34) #[] #[Value.pointer (some { block := w1.heap.size, off := 0 })], Value.bool false, Value.bool false, Value.bool false, Value.func (Fn.func 34) #[] #[Value.pointer (some { block := w2.heap.size + 1, off := 0 })], Value.bool false, Value.bool false, Value.tuple #[Value.slice va L.length vc, Value.agg #[Value.int IntKind.i64 fa, Value.int IntKind.i64 fb, Value.int IntKind.i64 fc]], Value.string s, Value.tuple #[Value.slice va L.length vc, Value.agg #[Value.int IntKind.i64 fa, Value.int IntKind.i64 fb, Value.int IntKind.i64 fc]], Value.slice va L.length vc, Value.agg #[Value.int IntKind.i64 fa, Value.int IntKind.i64 fb, Value.int IntKind.i64 fc], Value.tuple #[Value.slice ua M.length uc, Value.agg #[Value.int IntKind.i64 ga, Value.int IntKind.i64 gb, Value.int IntKind.i64 gc]], Value.string t, Value.tuple #[Value.slice ua M.length uc, Value.agg #[Value.int IntKind.i64 ga, Value.int IntKind.i64 gb, Value.int IntKind.i64 gc]], Value.slice ua M.length uc, Value.agg #[Value.int IntKind.i64 ga, Value.int IntKind.i64 gb, Value.int IntKind.i64 gc], Value.func (Fn.func 34) #[] #[Value.pointer (some { block := w1.heap.size, off := 0 })], Value.agg (tokC x), undef, undef, undef, undef, undef, undef, undef, undef, undef, undef, undef, undef, undef, undef, undef, undef, undef, undef, undef, undef, undef, undef, undef, undef, undef, undef, undef, undef, undef, undef, undef, undef, undef, undef, undef, undef, undef, undef, undef, undef, undef, undef, undef, undef, undef, undef, undef, undef, undef, undef, undef, undef, undef, undef, undef, undef, undef], defers := [] } ∧ W.heap[q]? = some (.cells (tokC x) 45 (0, 0)) ∧ w5.heap.size + 1 + 1 + 1 + 1 < q)
    ?hx ?assign ?body ?done ?stop
  case hx =>
    rintro x a' A C ⟨q, rfl, hb, hq⟩ hm
    exact ⟨q, rfl, hm.at hb (by simp; omega), hq⟩
  case assign =>
    rintro l pre x W K ⟨hi, hpf⟩ hlt hK
    unfold tokC
    gi_wp2_with fail
    exact hK _ _ ((Mod.refl [] W).alloc _) ⟨hi.below HLB.out (((Mod.refl [] W).alloc _).below (B := wA.heap.size) (by omega) (by simp)) (by omega), hpf⟩ ⟨W.heap.size, rfl, heap_alloc_new W _, by omega⟩
  case body =>
    rintro l pre x a' W ⟨hi, -⟩ ⟨q, rfl, hb, hq⟩ hpf hlt
    obtain ⟨hln, hat⟩ := at_prefix hpf
    have hrw := hi.row
    rw [hpL] at hrw
    obtain ⟨g1, k1, e1, a0, a1, a2, a3, a4, a5, a6⟩ := hrw.at _ _ hat
    have hva : p.va = va := by rw [hp]
    have hvc : p.vc = vc := by rw [hp]
    rw [hva, hvc] at e1
    simp only [Value.slice.injEq, true_and] at e1
    obtain ⟨rfl, rfl⟩ := e1
    obtain ⟨t0', t1, t2, t3, t4, t5, t6⟩ := tok_cells hb
    have hN : Hid (LI w p (pre.length + 1) (W.setCell ⟨w5.heap.size + 1 + 1, 0, none⟩ (.int .i64 ((pre.length : Int) + 1)))) := Lib.hid (by
      have := hi.store HLB.out (pre.length + 1)
      rw [hp14] at this
      exact this)
    have HLN := Lib.hid hln
    have c10 := hi.c10
    have c14 := hi.c14
    have f14 := hi.f14
    have cl := hi.cl
    simp only [hp] at c10 c14 f14 cl
    have hiI : (pre.length : Int) < (L.length : Int) := by omega
    have hi0 : (0 : Int) ≤ (pre.length : Int) := by omega
    have hge : decide (L.length ≤ pre.length) = false := by simp; omega
    have HP := Lib.hid hp; have HP14 := Lib.hid hp14
    clear hi hat hb hva hvc hp hpL hpT hp14 hQ hrw
    unfold tokC
    gi_wp2_with fail
    refine wpIn_region_quiet_lit (by kernel_rfl) (by kernel_rfl) (by kernel_rfl) ?_
    repeat (go_big_quiet_step (fail))
    refine wpQuiet_nil ?_
    intro _ hw'
    obtain ⟨nq, hw''⟩ := hw'
    subst hw''
    gi_wp2_with fail
    · exact ⟨((Mod.refl _ W).setCell (.inl (by simp)) _).drewN nq, rfl, _, hN.out.keep HLB.out ((Mod.refl [] _).drewN nq) (by simp)⟩
    · refine ⟨((Mod.refl _ W).setCell (.inl (by simp)) _).drewN nq, ?_, hpf⟩
      rw [List.length_append]
      exact hN.out.keep HLB.out ((Mod.refl [] _).drewN nq) (by simp)
  case' done =>
    rintro D xs W hD hxs ⟨hi, -⟩ hK
    replace hi : ∃ n, LI w p n W := ⟨_, hi⟩
  case' stop =>
    rintro D c pre W hD hSp ⟨rfl, hi⟩ hK
  all_goals (
    obtain ⟨n0, hi⟩ := hi
    have c14 := hi.c14
    have f14 := hi.f14
    have hi2 := hi.store HLB.out 0
    have hK2 := (KeepsOthers.setCell W ⟨w5.heap.size + 1 + 1, 0, none⟩ (.int .i64 0)).same D _ hK rfl
    have c8 := hi.c8
    have hne1 : w2.heap.size ≠ w5.heap.size + 1 + 1 := by omega
    have hne2 : w5.heap.size + 1 + 1 ≠ w2.heap.size := by omega
    simp only [hp] at c14 f14 c8
    rw [hp14] at hi2
    have HI2 := Lib.hid hi2; have HK2 := Lib.hid hK2; have HP := Lib.hid hp; have HP14 := Lib.hid hp14; have HPL := Lib.hid hpL
    unfold LP.fs at c8
    clear hi hi2 hK hK2 hp hp14 hpL hpT hQ
    gi_wp2_with fail
    have zB : (W.setCell ⟨w5.heap.size + 1 + 1, 0, none⟩ (.int .i64 0)).heap.size = W.heap.size := by simp [World.setCell]
    have zW : D < W.heap.size := by have := lt_of_block HK2.out; omega
    generalize W.setCell ⟨w5.heap.size + 1 + 1, 0, none⟩ (.int .i64 0) = wB at *
    have hT1' := HLB.out.olds p.pT (by simp)
    have hP1 : p.pT = w1.heap.size := by rw [HP.out]
    have hP2 : p.pO = w2.heap.size + 1 := by rw [HP.out]
    have z1' := HG.out.size
    have hQ := HAL.out 8 p.pT wB (by have := HI2.out.cT; rwa [show p.s = s by rw [HP.out]] at this) HI2.out.glob
    have zb := World.block_lt_of_cell? wB ⟨p.b14, 0, none⟩ HI2.out.c14
    have zb' : w5.heap.size + 1 + 1 < wB.heap.size := by have := HP14.out; simp only at zb; omega
    have zp : w1.heap.size < w5.heap.size + 1 + 1 := by omega
    refine wp_seq (gf := 34) (lb := #[.pointer (some ⟨w1.heap.size, 0, none⟩)]) rfl (enters_of Tryd.func34 (by kernel_rfl) rfl) (by rw [hP1] at hQ; exact hQ) (Mod.refl [] wB) (fun _ => rfl)
      [w5.heap.size + 1 + 1] (fun u hu => by rw [List.mem_singleton] at hu; exact ⟨⟨by omega, by omega⟩, by omega⟩) (fun u hu => by exact ⟨by omega, by omega⟩)
      (fun pre W => (LI w p pre.length W ∧ pre <+: L) ∧ W.heap[D]? = some (.deferred (some []))) (fun c pre W => False) (fun pre A C hs hb => ⟨⟨hs.1.1.below HLB.out hb (by have := HP14.out; omega), hs.1.2⟩, (hb.block D (by omega)).trans hs.2⟩) (fun c pre A C hs hb => hs) ⟨⟨HI2.out, by simp⟩, HK2.out⟩
      (fun x a' W => ∃ q, a' = { tmps := #[Value.string s, Value.string t, Value.int IntKind.i64 leave, undef, undef, Value.pointer (some { block := w.heap.size, off := 0 }), Value.pointer (some { block := w.heap.size + 1, off := 0 }), Value.bool true, Value.pointer (some { block := w2.heap.size, off := 0 }), Value.pointer (some { block := w3.heap.size, off := 0 }), Value.pointer (some { block := w4.heap.size, off := 0 }), Value.pointer (some { block := w4.heap.size + 1, off := 0 }), Value.pointer (some { block := w5.heap.size, off := 0 }), Value.pointer (some { block := w5.heap.size + 1, off := 0 }), Value.pointer (some { block := w5.heap.size + 1 + 1, off := 0 }), undef, Value.pointer (some ⟨q, 0, none⟩), undef, undef, undef, Value.bool true, Value.string s, Value.func (Fn.func 34) #[] #[Value.pointer (some { block := w1.heap.size, off := 0 })], Value.string t, Value.func (Fn.func 34) #[] #[Value.pointer (some { block := w2.heap.size + 1, off := 0 })], Value.bool true, Value.bool false, Value.bool false, Value.func (Fn.func 34) #[] #[Value.pointer (some { block := w1.heap.size, off := 0 })], Value.bool false, Value.bool false, Value.bool false, Value.func (Fn.func 34) #[] #[Value.pointer (some { block := w2.heap.size + 1, off := 0 })], Value.bool false, Value.bool false, Value.tuple #[Value.slice va L.length vc, Value.agg #[Value.int IntKind.i64 fa, Value.int IntKind.i64 fb, Value.int IntKind.i64 fc]], Value.string s, Value.tuple #[Value.slice va L.length vc, Value.agg #[Value.int IntKind.i64 fa, Value.int IntKind.i64 fb, Value.int IntKind.i64 fc]], Value.slice va L.length vc, Value.agg #[Value.int IntKind.i64 fa, Value.int IntKind.i64 fb, Value.int IntKind.i64 fc], Value.tuple #[Value.slice ua M.length uc, Value.agg #[Value.int IntKind.i64 ga, Value.int IntKind.i64 gb, Value.int IntKind.i64 gc]], Value.string t, Value.tuple #[Value.slice ua M.length uc, Value.agg #[Value.int IntKind.i64 ga, Value.int IntKind.i64 gb, Value.int IntKind.i64 gc]], Value.slice ua M.length uc, Value.agg #[Value.int IntKind.i64 ga, Value.int IntKind.i64 gb, Value.int IntKind.i64 gc], Value.func (Fn.func 34) #[] #[Value.pointer (some { block := w1.heap.size, off := 0 })], undef, undef, undef, undef, undef, undef, undef, undef, undef, undef, undef, undef, undef, undef, undef, undef, undef, undef, Value.func (Fn.func 34) #[] #[Value.pointer (some { block := w1.heap.size, off := 0 })], Value.agg (tokC x), undef, undef, undef, undef, undef, undef, undef, undef, undef, undef, undef, undef, undef, undef, undef, undef, undef, undef, undef, undef, undef, undef, undef, undef, undef, undef, undef, undef, undef, undef, undef, undef, undef, undef, undef, undef, undef, undef], defers := [] } ∧ W.heap[q]? = some (.cells (tokC x) 45 (0, 0)) ∧ wB.heap.size + 1 < q)
      ?hx2 ?assign2 ?body2 ?done2 ?stop2
    case hx2 =>
      rintro x a' A C ⟨q, rfl, hb, hq⟩ hm
      exact ⟨q, rfl, hm.at hb (by simp; omega), hq⟩
    case assign2 =>
      rintro l pre x W2 K ⟨⟨hi, hpf⟩, hk⟩ hlt hK
      unfold tokC
      gi_wp2_with fail
      exact hK _ _ ((Mod.refl [] W2).alloc _) ⟨⟨hi.below HLB.out (((Mod.refl [] W2).alloc _).below (B := wB.heap.size) (by omega) (by simp)) (by have := HP14.out; omega), hpf⟩, ((Mod.refl [] W2).alloc _).at hk (by simp)⟩ ⟨W2.heap.size, rfl, heap_alloc_new W2 _, by omega⟩
    case body2 =>
      rintro l pre x a' W2 ⟨⟨hi, -⟩, hk⟩ ⟨q, rfl, hb, hq⟩ hpf hlt
      obtain ⟨hln, hat⟩ := at_prefix hpf
      have hrw := hi.row
      rw [HPL.out] at hrw
      obtain ⟨g1, k1, e1, a0, a1, a2, a3, a4, a5, a6⟩ := hrw.at _ _ hat
      have hva : p.va = va := by rw [HP.out]
      have hvc : p.vc = vc := by rw [HP.out]
      rw [hva, hvc] at e1
      simp only [Value.slice.injEq, true_and] at e1
      obtain ⟨rfl, rfl⟩ := e1
      obtain ⟨t0', t1, t2, t3, t4, t5, t6⟩ := tok_cells hb
      have HND := Lib.hid (fun nq => hi.keep HLB.out ((Mod.refl [] W2).drewN nq) (by simp)); have HLN := Lib.hid hln
      have c10 := hi.c10
      have c14 := hi.c14
      have f14 := hi.f14
      have hpfx := HP.out
      rw [hpfx] at c10 c14 f14
      simp only at c10 c14 f14
      have hiI : (pre.length : Int) < (L.length : Int) := by omega
      have hi0 : (0 : Int) ≤ (pre.length : Int) := by omega
      have hge : decide (L.length ≤ pre.length) = false := by simp; omega
      have HKD := Lib.hid hk
      clear hi hat hb hva hvc hrw hpfx hQ hk
      unfold tokC
      gi_wp2_with fail
      refine wpIn_region_quiet_lit (by kernel_rfl) (by kernel_rfl) (by kernel_rfl) ?_
      repeat (go_big_quiet_step (fail))
      refine wpQuiet_nil ?_
      intro _ hw'
      obtain ⟨nq, hw''⟩ := hw'
      subst hw''
      have hD := HND.out nq
      have hkd : (W2.drewN nq).heap[D]? = some (.deferred (some [])) := HKD.out
      have md := (Mod.refl [w5.heap.size + 1 + 1] W2).drewN nq
      clear t0' t1 t2 t3 t4 t5 t6 a0 a1 a2 a3 a4 a5 a6 c10 c14 f14
      generalize W2.drewN nq = Wd at *
      have c14 := hD.c14
      have f14 := hD.f14
      have hN : LI w p (pre.length + 1) (Wd.setCell ⟨w5.heap.size + 1 + 1, 0, none⟩ (.int .i64 ((pre.length : Int) + 1))) := by
        have := hD.store HLB.out (pre.length + 1)
        rw [HP14.out] at this
        exact this
      have hkn := (KeepsOthers.setCell Wd ⟨w5.heap.size + 1 + 1, 0, none⟩ (.int .i64 ((pre.length : Int) + 1))).same D _ hkd rfl
      have mn := (Mod.refl [w5.heap.size + 1 + 1] Wd).setCell (p := ⟨w5.heap.size + 1 + 1, 0, none⟩) (.inl (by simp)) (.int .i64 ((pre.length : Int) + 1))
      have hpfx := HP.out
      rw [hpfx] at c14 f14
      simp only at c14 f14
      have k8 := hN.c8
      have k9 := hN.c9
      have k10 := hN.c10
      have k12 := hN.c12
      rw [hpfx] at k8 k9 k10 k12
      unfold LP.fs at k8 k9
      simp only at k8 k9 k10 k12
      have HN := Lib.hid hN; have MN := Lib.hid (md.trans mn (by simp)); have HKN := Lib.hid hkn
      clear hD hN hkn hkd md mn hpfx HND
      by_cases h2 : pre.length = 1
      · have h2b : ((pre.length : Int) + 1 == 2) = true := by rw [h2]; rfl
        have H2 := Lib.hid h2
        clear h2
        gi_wp2_with fail
        refine ⟨trivial, CallsIn.inRound l (callsIn_wide.2 ?_)⟩
        refine (HWL.out w1.heap.size 0 (.slice (some ⟨g1, 0, none⟩) L.length vc) _ (by have := HN.out.cT; rw [HP.out] at this; exact this) HN.out.glob (by omega) (by have := HN.out.row; rw [HP.out] at this; exact this)).mono ?_
        rintro e6 w6 ⟨rfl, m6⟩
        have HN6 := Lib.hid (HN.out.keep HLB.out m6 (by simp)); have M6 := Lib.hid (MN.out.trans m6 (by simp)); have HK6 := Lib.hid (m6.at HKN.out (by simp))
        have k9 := m6.cell k9 (by simp)
        have k12 := m6.cell k12 (by simp)
        clear k8 k10 m6
        gi_wp2_with fail
        refine ⟨trivial, CallsIn.inRound l (callsIn_wide.2 ?_)⟩
        refine (HWM.out (w2.heap.size + 1) 0 (.slice ua M.length uc) _ (by have := HN6.out.cO; rw [HP.out] at this; exact this) HN6.out.glob (by omega) (by have := HN6.out.rowM; rw [HP.out] at this; exact this)).mono ?_
        rintro e7 w7 ⟨rfl, m7⟩
        have HN7 := Lib.hid (HN6.out.keep HLB.out m7 (by simp)); have M7 := Lib.hid (M6.out.trans m7 (by simp)); have HK7 := Lib.hid (m7.at HK6.out (by simp))
        clear k9 k12 m7
        gi_wp2_with fail
        refine ⟨M7.out, ⟨?_, hpf⟩, HK7.out⟩
        rw [List.length_append]
        exact HN7.out
      · have h2b : ((pre.length : Int) + 1 == 2) = false := by rw [beq_eq_false_iff_ne]; omega
        clear h2
        gi_wp2_with fail
        refine ⟨MN.out, ⟨?_, hpf⟩, HKN.out⟩
        rw [List.length_append]
        exact HN.out
    case done2 =>
      rintro D2 xs W2 hD2 hxs ⟨⟨hi, -⟩, hk⟩ hK
      have hpfx := HP.out
      have hlp : p.L.length = L.length := by rw [HPL.out]
      have hxl : xs.length = L.length := by rw [hxs]
      rw [hxl] at hi
      have k8 := hi.c8
      have k10 := hi.c10
      rw [hpfx] at k8 k10
      unfold LP.fs at k8
      simp only at k8 k10
      have HI := Lib.hid hi; have HK1 := Lib.hid hk; have HK3 := Lib.hid hK
      clear hi hk hK hpfx hlp hxl hxs hQ
      gi_wp2_with fail
      refine ⟨trivial, callsIn_wide.2 ?_⟩
      refine (HWL.out w1.heap.size 0 (.slice va L.length vc) _ (by have := HI.out.cT; rw [HP.out] at this; exact this) HI.out.glob (by omega) (by have := HI.out.row; rw [HP.out] at this; exact this)).mono ?_
      rintro e6 w6 ⟨rfl, m6⟩
      have hN6 := HI.out.keep HLB.out m6 (by simp)
      have k10 := m6.cell k10 (by simp)
      have k14 := hN6.c14
      have kr := hN6.cr
      have fr := hN6.fr
      have hpfx := HP.out
      rw [hpfx] at k14 kr fr
      simp only at k14 kr fr
      have HN6 := Lib.hid hN6; have HK6 := Lib.hid (m6.at HK1.out (by simp)); have HK7 := Lib.hid (m6.at HK3.out (by simp))
      clear hN6 hpfx m6 k8
      gi_wp2_with fail
      have hK2 := (KeepsOthers.setCell w6 ⟨w.heap.size + 1, 0, none⟩ (.bool true)).same D2 _ HK7.out rfl
      have hK1 := (KeepsOthers.setCell w6 ⟨w.heap.size + 1, 0, none⟩ (.bool true)).same D _ HK6.out rfl
      have hc : (w6.setCell ⟨w.heap.size + 1, 0, none⟩ (.bool true)).cell? ⟨w.heap.size + 1, 0, none⟩ = some (.bool true) := World.cell?_setCell_same' _ _ _ (by rw [kr]; rfl)
      have hmx : Mod [] w (w6.setCell ⟨w.heap.size + 1, 0, none⟩ (.bool true)) := HN6.out.mod.setCell (.inr (by simp)) _
      generalize w6.setCell ⟨w.heap.size + 1, 0, none⟩ (.bool true) = wF at *
      have hDD : D ≠ D2 := by have := HP14.out; omega
      have hc2 := (World.cell?_of_block (w := wF) (w' := wF.putObj D2 (.deferred none)) (a := ⟨w.heap.size + 1, 0, none⟩) (World.putObj_heap_other (by simp; omega))).trans hc
      have hK1' := (World.putObj_heap_other (w := wF) (r := D2) (o := .deferred none) hDD).trans hK1
      have hm2 := hmx.trans (mod_putObj wF D2 (.deferred none)) (fun k hk => by rw [List.mem_singleton] at hk; exact .inr (by omega))
      have hc3 := (World.cell?_of_block (w := wF.putObj D2 (.deferred none)) (w' := (wF.putObj D2 (.deferred none)).putObj D (.deferred none)) (a := ⟨w.heap.size + 1, 0, none⟩) (World.putObj_heap_other (by simp; omega))).trans hc2
      have hm3 := hm2.trans (mod_putObj (wF.putObj D2 (.deferred none)) D (.deferred none)) (fun k hk => by rw [List.mem_singleton] at hk; exact .inr (by omega))
      refine ⟨by simp, .inl ⟨_, _, rfl, run_takeDeferred hK2, ?_⟩⟩
      refine ⟨by simp, .inl ⟨_, _, rfl, run_takeDeferred hK1', ?_⟩⟩
      exact ⟨.bool true, by simp [results, Tryd.results9, go_sem, hc3], rfl, hm3⟩
    case stop2 =>
      rintro D c pre W _ _ h _
      exact h.elim)
end Go.Proofs.YtobimhmllkfmfaaDoor
