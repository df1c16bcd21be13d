/- THE WRITER: lacks, literal, aggregate, body. Printed by wip/gen_lit.py. -/
import Derived.Test.YtbmmdficdeakfaaDoorPrLitP
import Derived.Deep.CutBlock
namespace Go.Proofs.YtbmmdficdeakfaaDoor
open Go.RowKit
set_option linter.unusedVariables false
set_option linter.unusedSimpArgs false
set_option maxRecDepth 100000

structure LU where
  t : Value
  l : Value
  r : Value
  o : Value
  b : Value
def liV : Pr.Li → LU → Array Value
  | .mk k a op l r fn av of body ln cl, U => #[.int .i64 k, .string a.rel, U.t, .int .i64 op, .int .i64 l.k, .string l.v, .int .i64 l.x.k, .int .i64 l.x.n, .string (Lx.ofS l.x.s), .int .i64 l.op, U.l, .int .i64 r.k, .string r.v, .int .i64 r.x.k, .int .i64 r.x.n, .string (Lx.ofS r.x.s), .int .i64 r.op, U.r, .int .i64 fn, .string av, .int .i64 of.k, .string of.v, .int .i64 of.x.k, .int .i64 of.x.n, .string (Lx.ofS of.x.s), .int .i64 of.op, U.o, U.b, .int .i64 ln, .int .i64 cl]
def CellsAt (w : World) (b o : Nat) (xs : Array Value) : Prop := ∀ (i : Nat) (x : Value), xs[i]? = some x → w.cell? ⟨b, o + i, none⟩ = some x
theorem CellsAt.past {w w' : World} {b o : Nat} {xs : Array Value} (h : CellsAt w b o xs) (m : Mod [] w w') : CellsAt w' b o xs := fun i x hx => m.cell (h i x hx) (by simp)
theorem CellsAt.kept {w w' : World} {b o : Nat} {xs : Array Value} {B : List Nat} (h : CellsAt w b o xs) (m : Kept B w w') (hb : b ∈ B) : CellsAt w' b o xs := fun i x hx => m.cell (h i x hx) hb
theorem CellsAt.of {w : World} {b : Nat} {xs : Array Value} {T : TypeId} (h : w.heap[b]? = some (.cells xs T (0, 0))) : CellsAt w b 0 xs := fun i x hx => by
  simp only [World.cell?, h, Nat.zero_add]
  exact hx
theorem CellsAt.zero {w : World} {b : Nat} {xs : Array Value} (h : CellsAt w b 0 xs) (i : Nat) (x : Value) (hx : xs[i]? = some x) : w.cell? ⟨b, i, none⟩ = some x := by
  have := h i x hx
  rwa [Nat.zero_add] at this
inductive LOk (w : World) : Pr.Li → LU → Prop
  | nil {k : Int} {a : Pr.Atom} {op : Int} {l r : Pr.Ex} {fn : Int} {av : ByteArray} {of : Pr.Ex} {ln cl : Int} {U : LU} {ad : Option Addr} {c : Nat} (ha : TOk w a.terms U.t) (hl : EOk w l U.l) (hr : EOk w r U.r) (ho : EOk w of U.o) (hb : U.b = .slice ad 0 c) : LOk w (.mk k a op l r fn av of [] ln cl) U
  | row {k : Int} {a : Pr.Atom} {op : Int} {l r : Pr.Ex} {fn : Int} {av : ByteArray} {of : Pr.Ex} {body : List Pr.Li} {ln cl : Int} {U : LU} {b off c : Nat} {us : Nat → LU} (ha : TOk w a.terms U.t) (hl : EOk w l U.l) (hr : EOk w r U.r) (ho : EOk w of U.o) (hb : U.b = .slice (some ⟨b, off, none⟩) body.length c)
      (h1 : ∀ i (h : i < body.length), CellsAt w b (off + i * 30) (liV body[i] (us i))) (h2 : ∀ i (h : i < body.length), LOk w body[i] (us i)) : LOk w (.mk k a op l r fn av of body ln cl) U
def BOk (w : World) (ls : List Pr.Li) (u : Value) : Prop :=
  (ls = [] ∧ ∃ a c, u = .slice a 0 c) ∨ ∃ (b off c : Nat) (us : Nat → LU), u = .slice (some ⟨b, off, none⟩) ls.length c ∧ (∀ i (h : i < ls.length), CellsAt w b (off + i * 30) (liV ls[i] (us i))) ∧ ∀ i (h : i < ls.length), LOk w ls[i] (us i)
theorem LOk.parts {w : World} {k : Int} {a : Pr.Atom} {op : Int} {l r : Pr.Ex} {fn : Int} {av : ByteArray} {of : Pr.Ex} {body : List Pr.Li} {ln cl : Int} {U : LU} (h : LOk w (.mk k a op l r fn av of body ln cl) U) : TOk w a.terms U.t ∧ EOk w l U.l ∧ EOk w r U.r ∧ EOk w of U.o ∧ BOk w body U.b := by
  cases h with
  | nil ha hl hr ho hb => exact ⟨ha, hl, hr, ho, .inl ⟨rfl, _, _, hb⟩⟩
  | row ha hl hr ho hb h1 h2 => exact ⟨ha, hl, hr, ho, .inr ⟨_, _, _, _, hb, h1, h2⟩⟩
theorem LOk.past {w w' : World} {e : Pr.Li} {U : LU} (h : LOk w e U) (m : Mod [] w w') : LOk w' e U := by
  induction h with
  | nil ha hl hr ho hb => exact .nil (ha.past m) (hl.past m) (hr.past m) (ho.past m) hb
  | row ha hl hr ho hb h1 h2 ih => exact .row (ha.past m) (hl.past m) (hr.past m) (ho.past m) hb (fun i h => (h1 i h).past m) ih
theorem BOk.past {w w' : World} {ls : List Pr.Li} {u : Value} (h : BOk w ls u) (m : Mod [] w w') : BOk w' ls u := by
  rcases h with h | ⟨b, off, c, us, hu, h1, h2⟩
  · exact .inl h
  · exact .inr ⟨b, off, c, us, hu, fun i h => (h1 i h).past m, fun i h => (h2 i h).past m⟩
theorem BOk.lit {w : World} {ls : List Pr.Li} {u : Value} (h : BOk w ls u) : ∃ a c, u = .slice a ls.length c := by
  rcases h with ⟨rfl, a, c, rfl⟩ | ⟨b, off, c, us, rfl, -⟩
  · exact ⟨_, _, rfl⟩
  · exact ⟨_, _, rfl⟩
theorem BOk.at {w : World} {ls : List Pr.Li} {a : Option Addr} {c : Nat} (h : BOk w ls (.slice a ls.length c)) (i : Nat) (hi : i < ls.length) : ∃ b off U, a = some ⟨b, off, none⟩ ∧ CellsAt w b (off + i * 30) (liV ls[i] U) ∧ LOk w ls[i] U := by
  rcases h with ⟨rfl, a, c, h⟩ | ⟨b, off, c, us, hu, h1, h2⟩
  · simp at hi
  · simp only [Value.slice.injEq] at hu
    exact ⟨b, off, us i, hu.1, h1 i hi, h2 i hi⟩
mutual
def lWt : Pr.Li → Nat
  | .mk k a op l r fn av of body ln cl => aWt a + exWt l + exWt r + exWt of + av.size + 1000 + lsWt body
def lsWt : List Pr.Li → Nat
  | [] => 0
  | e :: r => lWt e + lsWt r
end
theorem lsWt_app : ∀ (a b : List Pr.Li), lsWt (a ++ b) = lsWt a + lsWt b
  | [], b => by simp [lsWt]
  | e :: r, b => by rw [List.cons_append]; simp only [lsWt]; rw [lsWt_app r b]; omega
theorem lWt_pos (e : Pr.Li) : 1000 ≤ lWt e := by cases e; simp only [lWt]; omega
theorem lsWt_len (ls : List Pr.Li) : ls.length ≤ lsWt ls := by
  induction ls with
  | nil => simp
  | cons a r ih => simp only [lsWt, List.length_cons]; have := lWt_pos a; omega
theorem lsWt_take (ls : List Pr.Li) (i : Nat) (h : i < ls.length) : lsWt (ls.take (i + 1)) = lsWt (ls.take i) + lWt ls[i] := by
  rw [List.take_succ_eq_append_getElem h, lsWt_app]
  simp [lsWt]
theorem lsWt_le (ls : List Pr.Li) (i : Nat) : lsWt (ls.take i) ≤ lsWt ls := by
  conv => rhs; rw [← List.take_append_drop i ls, lsWt_app]
  omega

set_option maxHeartbeats 4000000 in
theorem lacks_any (k : Int) (a : Pr.Atom) (op : Int) (l r : Pr.Ex) (fn : Int) (av : ByteArray) (of : Pr.Ex) (body : List Pr.Li) (ln cl : Int) (ta la ra oa ba : Option Addr) (tc lc rc oc bc : Nat) (w : World) :
    Calls Tryd.prog 40 #[.agg (liV (.mk k a op l r fn av of body ln cl) ⟨.slice ta a.terms.length tc, .slice la l.args.length lc, .slice ra r.args.length rc, .slice oa of.args.length oc, .slice ba body.length bc⟩)] w fun e w' => e = .returned (.bool (Pr.lacks k a op l r fn av of body.length)) ∧ Mod [] w w' := by
  have MA := Lib.hid ((Mod.refl [] w).alloc (Obj.cells #[Value.int IntKind.i64 k, Value.string a.rel, (Value.slice ta a.terms.length tc), Value.int IntKind.i64 op, Value.int IntKind.i64 l.k, Value.string l.v, Value.int IntKind.i64 l.x.k, Value.int IntKind.i64 l.x.n, Value.string (Lx.ofS l.x.s), Value.int IntKind.i64 l.op, (Value.slice la l.args.length lc), Value.int IntKind.i64 r.k, Value.string r.v, Value.int IntKind.i64 r.x.k, Value.int IntKind.i64 r.x.n, Value.string (Lx.ofS r.x.s), Value.int IntKind.i64 r.op, (Value.slice ra r.args.length rc), Value.int IntKind.i64 fn, Value.string av, Value.int IntKind.i64 of.k, Value.string of.v, Value.int IntKind.i64 of.x.k, Value.int IntKind.i64 of.x.n, Value.string (Lx.ofS of.x.s), Value.int IntKind.i64 of.op, (Value.slice oa of.args.length oc), (Value.slice ba body.length bc), Value.int IntKind.i64 ln, Value.int IntKind.i64 cl] 48))
  have XA : Hid (CellsAt _ w.heap.size 0 (liV (.mk k a op l r fn av of body ln cl) ⟨.slice ta a.terms.length tc, .slice la l.args.length lc, .slice ra r.args.length rc, .slice oa of.args.length oc, .slice ba body.length bc⟩)) := Lib.hid (CellsAt.of (heap_alloc_new w (Obj.cells #[Value.int IntKind.i64 k, Value.string a.rel, (Value.slice ta a.terms.length tc), Value.int IntKind.i64 op, Value.int IntKind.i64 l.k, Value.string l.v, Value.int IntKind.i64 l.x.k, Value.int IntKind.i64 l.x.n, Value.string (Lx.ofS l.x.s), Value.int IntKind.i64 l.op, (Value.slice la l.args.length lc), Value.int IntKind.i64 r.k, Value.string r.v, Value.int IntKind.i64 r.x.k, Value.int IntKind.i64 r.x.n, Value.string (Lx.ofS r.x.s), Value.int IntKind.i64 r.op, (Value.slice ra r.args.length rc), Value.int IntKind.i64 fn, Value.string av, Value.int IntKind.i64 of.k, Value.string of.v, Value.int IntKind.i64 of.x.k, Value.int IntKind.i64 of.x.n, Value.string (Lx.ofS of.x.s), Value.int IntKind.i64 of.op, (Value.slice oa of.args.length oc), (Value.slice ba body.length bc), Value.int IntKind.i64 ln, Value.int IntKind.i64 cl] 48)))
  have HL := Lib.hid (fun w => noExpr_any l la lc w)
  have HR := Lib.hid (fun w => noExpr_any r ra rc w)
  have HO := Lib.hid (fun w => noExpr_any of oa oc w)
  have hlk : Pr.lacks k a op l r fn av of body.length = ((decide (k = 1 ∨ k = 2) || (decide (a.rel.size = 0) && decide (a.terms.length = 0))) && ((decide (k = 3) || (decide (op = 0) && (Pr.noExpr l && Pr.noExpr r))) && (decide (k = 4) || (decide (fn = 0) && (decide (av.size = 0) && (Pr.noExpr of && decide (body.length = 0))))))) := rfl
  rw [hlk]
  clear hlk
  have he1 : a.rel.toList.isEmpty = decide (a.rel.size = 0) := toList_isEmpty a.rel
  have he2 : av.toList.isEmpty = decide (av.size = 0) := toList_isEmpty av
  have hl1 : ((a.terms.length : Int) == 0) = decide (a.terms.length = 0) := by rw [Bool.eq_iff_iff, beq_iff_eq, decide_eq_true_eq]; omega
  have hl2 : ((body.length : Int) == 0) = decide (body.length = 0) := by rw [Bool.eq_iff_iff, beq_iff_eq, decide_eq_true_eq]; omega
  unfold liV exV at *
  generalize Pr.noExpr l = nl at *
  generalize Pr.noExpr r = nr at *
  generalize Pr.noExpr of = no at *
  generalize hRR : (((decide (k = 1 ∨ k = 2) || (decide (a.rel.size = 0) && decide (a.terms.length = 0))) && ((decide (k = 3) || (decide (op = 0) && (nl && nr))) && (decide (k = 4) || (decide (fn = 0) && (decide (av.size = 0) && (no && decide (body.length = 0)))))))) = RR
  have HRR := Lib.hid hRR
  clear hRR
  go_enter Tryd.func40, Tryd.ntmps40
  go_upto_region 1 with fail
  generalize w.alloc (Obj.cells #[Value.int IntKind.i64 k, Value.string a.rel, (Value.slice ta a.terms.length tc), Value.int IntKind.i64 op, Value.int IntKind.i64 l.k, Value.string l.v, Value.int IntKind.i64 l.x.k, Value.int IntKind.i64 l.x.n, Value.string (Lx.ofS l.x.s), Value.int IntKind.i64 l.op, (Value.slice la l.args.length lc), Value.int IntKind.i64 r.k, Value.string r.v, Value.int IntKind.i64 r.x.k, Value.int IntKind.i64 r.x.n, Value.string (Lx.ofS r.x.s), Value.int IntKind.i64 r.op, (Value.slice ra r.args.length rc), Value.int IntKind.i64 fn, Value.string av, Value.int IntKind.i64 of.k, Value.string of.v, Value.int IntKind.i64 of.x.k, Value.int IntKind.i64 of.x.n, Value.string (Lx.ofS of.x.s), Value.int IntKind.i64 of.op, (Value.slice oa of.args.length oc), (Value.slice ba body.length bc), Value.int IntKind.i64 ln, Value.int IntKind.i64 cl] 48) = wA at *
  have c0 : wA.cell? ⟨w.heap.size, 0, none⟩ = some (.int .i64 k) := XA.out.zero 0 _ rfl
  have c1 : wA.cell? ⟨w.heap.size, 1, none⟩ = some (.string a.rel) := XA.out.zero 1 _ rfl
  have c2 : wA.cell? ⟨w.heap.size, 2, none⟩ = some ((.slice ta a.terms.length tc)) := XA.out.zero 2 _ rfl
  have c3 : wA.cell? ⟨w.heap.size, 3, none⟩ = some (.int .i64 op) := XA.out.zero 3 _ rfl
  have c4 : wA.cell? ⟨w.heap.size, 4, none⟩ = some (.int .i64 l.k) := XA.out.zero 4 _ rfl
  have c5 : wA.cell? ⟨w.heap.size, 5, none⟩ = some (.string l.v) := XA.out.zero 5 _ rfl
  have c6 : wA.cell? ⟨w.heap.size, 6, none⟩ = some (.int .i64 l.x.k) := XA.out.zero 6 _ rfl
  have c7 : wA.cell? ⟨w.heap.size, 7, none⟩ = some (.int .i64 l.x.n) := XA.out.zero 7 _ rfl
  have c8 : wA.cell? ⟨w.heap.size, 8, none⟩ = some (.string (Lx.ofS l.x.s)) := XA.out.zero 8 _ rfl
  have c9 : wA.cell? ⟨w.heap.size, 9, none⟩ = some (.int .i64 l.op) := XA.out.zero 9 _ rfl
  have c10 : wA.cell? ⟨w.heap.size, 10, none⟩ = some ((.slice la l.args.length lc)) := XA.out.zero 10 _ rfl
  have c11 : wA.cell? ⟨w.heap.size, 11, none⟩ = some (.int .i64 r.k) := XA.out.zero 11 _ rfl
  have c12 : wA.cell? ⟨w.heap.size, 12, none⟩ = some (.string r.v) := XA.out.zero 12 _ rfl
  have c13 : wA.cell? ⟨w.heap.size, 13, none⟩ = some (.int .i64 r.x.k) := XA.out.zero 13 _ rfl
  have c14 : wA.cell? ⟨w.heap.size, 14, none⟩ = some (.int .i64 r.x.n) := XA.out.zero 14 _ rfl
  have c15 : wA.cell? ⟨w.heap.size, 15, none⟩ = some (.string (Lx.ofS r.x.s)) := XA.out.zero 15 _ rfl
  have c16 : wA.cell? ⟨w.heap.size, 16, none⟩ = some (.int .i64 r.op) := XA.out.zero 16 _ rfl
  have c17 : wA.cell? ⟨w.heap.size, 17, none⟩ = some ((.slice ra r.args.length rc)) := XA.out.zero 17 _ rfl
  have c18 : wA.cell? ⟨w.heap.size, 18, none⟩ = some (.int .i64 fn) := XA.out.zero 18 _ rfl
  have c19 : wA.cell? ⟨w.heap.size, 19, none⟩ = some (.string av) := XA.out.zero 19 _ rfl
  have c20 : wA.cell? ⟨w.heap.size, 20, none⟩ = some (.int .i64 of.k) := XA.out.zero 20 _ rfl
  have c21 : wA.cell? ⟨w.heap.size, 21, none⟩ = some (.string of.v) := XA.out.zero 21 _ rfl
  have c22 : wA.cell? ⟨w.heap.size, 22, none⟩ = some (.int .i64 of.x.k) := XA.out.zero 22 _ rfl
  have c23 : wA.cell? ⟨w.heap.size, 23, none⟩ = some (.int .i64 of.x.n) := XA.out.zero 23 _ rfl
  have c24 : wA.cell? ⟨w.heap.size, 24, none⟩ = some (.string (Lx.ofS of.x.s)) := XA.out.zero 24 _ rfl
  have c25 : wA.cell? ⟨w.heap.size, 25, none⟩ = some (.int .i64 of.op) := XA.out.zero 25 _ rfl
  have c26 : wA.cell? ⟨w.heap.size, 26, none⟩ = some ((.slice oa of.args.length oc)) := XA.out.zero 26 _ rfl
  have c27 : wA.cell? ⟨w.heap.size, 27, none⟩ = some ((.slice ba body.length bc)) := XA.out.zero 27 _ rfl
  have c28 : wA.cell? ⟨w.heap.size, 28, none⟩ = some (.int .i64 ln) := XA.out.zero 28 _ rfl
  have c29 : wA.cell? ⟨w.heap.size, 29, none⟩ = some (.int .i64 cl) := XA.out.zero 29 _ rfl
  clear XA
  have hK2 : Hid (((k == 1) || (k == 2)) = decide (k = 1 ∨ k = 2)) := Lib.hid (by rw [Bool.eq_iff_iff]; simp)
  obtain ⟨A, hA⟩ : ∃ A, decide (k = 1 ∨ k = 2) = A := ⟨_, rfl⟩
  have hK3 : (k == 3) = decide (k = 3) := by rw [Bool.eq_iff_iff]; simp
  have hK4 : (k == 4) = decide (k = 4) := by rw [Bool.eq_iff_iff]; simp
  have hOp : (op == 0) = decide (op = 0) := by rw [Bool.eq_iff_iff]; simp
  have hFn : (fn == 0) = decide (fn = 0) := by rw [Bool.eq_iff_iff]; simp
  go_cut [3] (fun c wx => c = .bool (decide (k = 1 ∨ k = 2)) ∧ wx = wA)
  case first =>
    by_cases k1 : k = 1
    · subst k1
      go_wp2_with fail
      go_meet
      exact ⟨by rfl, rfl⟩
    · have k1B : (k == 1) = false := by rw [beq_eq_false_iff_ne]; exact k1
      have K1 := Lib.hid k1
      clear k1 hK3 hK4
      go_wp2_with fail
      go_meet
      exact ⟨by rw [← hK2.out, k1B]; rfl, rfl⟩
  case rest =>
    obtain ⟨rfl, rfl⟩ := hcut
    rw [hA]
    clear hK2
    have hl3 : decide (0 < a.terms.length) = !decide (a.terms.length = 0) := by generalize a.terms.length = n; cases n <;> simp
    go_upto_region 2 with fail
    go_cut [26] (fun c wx => c = .bool (!A && !(decide (a.rel.size = 0) && decide (a.terms.length = 0))) ∧ wx = wc)
    case first =>
      have hL3 := Lib.hid hl3
      clear hl3 hl1 hl2 he2 hK3 hK4 hOp hFn
      cases A
      · obtain ⟨E1, hE1⟩ : ∃ E1, decide (a.rel.size = 0) = E1 := ⟨_, rfl⟩
        rw [hE1] at he1
        have HE1 := Lib.hid hE1
        clear hE1 hA
        cases E1
        all_goals (
          go_wp2_with fail
          go_meet
          first | exact ⟨by rw [HE1.out]; rfl, rfl⟩ | exact ⟨by rw [HE1.out]; simp [hL3.out], rfl⟩)
      · clear hA
        go_wp2_with fail
        go_meet
        exact ⟨by rfl, rfl⟩
    case rest =>
      obtain ⟨rfl, rfl⟩ := hcut
      obtain ⟨D, hD⟩ : ∃ D, (decide (a.rel.size = 0) && decide (a.terms.length = 0)) = D := ⟨_, rfl⟩
      rw [hD]
      clear hl3 hl1 he1
      have HD := Lib.hid hD
      have HAA := Lib.hid hA
      clear hD hA
      by_cases hAD : (!A && !D) = true
      · have hr : (A || D) = false := by cases A <;> cases D <;> simp_all
        rw [hAD]
        clear hAD
        have HR0 := Lib.hid hr
        clear hr
        go_wp2_with fail
        go_ret
        exact ⟨by rw [← HRR.out, HAA.out, HD.out, HR0.out]; rfl, MA.out⟩
      · have hAD : (!A && !D) = false := by simpa using hAD
        have hr : (A || D) = true := by cases A <;> cases D <;> simp_all
        rw [hAD]
        have HR0 := Lib.hid hr
        clear hAD hr
        go_upto_region 4 with fail
        have HE2 := Lib.hid he2
        have HL2 := Lib.hid hl2
        clear hK4 hFn hl2 he2
        go_cut [46] (fun c wx => c = .bool (!decide (k = 3) && (!decide (op = 0) || (!nl || !nr))) ∧ Mod [] wc wx)
        case first =>
          by_cases k3 : k = 3
          · subst k3
            clear hK3
            go_wp2_with fail
            go_meet
            exact ⟨by simp, Mod.refl _ _⟩
          · have k3B : (k == 3) = false := by rw [beq_eq_false_iff_ne]; exact k3
            have K3 := Lib.hid k3
            clear k3 hK3
            by_cases o0 : op = 0
            · subst o0
              clear hOp
              go_wp2_with fail
              refine (HL.out _).mono ?_
              rintro e1 w1 ⟨rfl, m1⟩
              have c11' := m1.cell c11 (by simp)
              have c12' := m1.cell c12 (by simp)
              have c13' := m1.cell c13 (by simp)
              have c14' := m1.cell c14 (by simp)
              have c15' := m1.cell c15 (by simp)
              have c16' := m1.cell c16 (by simp)
              have c17' := m1.cell c17 (by simp)
              cases nl
              · go_wp2_with fail
                go_meet
                exact ⟨by simp [K3.out], m1⟩
              · go_wp2_with fail
                refine (HR.out _).mono ?_
                rintro e2 w2 ⟨rfl, m2⟩
                have M2 := Lib.hid (m1.trans m2 (by simp))
                clear m1 m2
                go_wp2_with fail
                go_meet
                exact ⟨by simp [K3.out], M2.out⟩
            · have oB : (op == 0) = false := by rw [beq_eq_false_iff_ne]; exact o0
              have O0 := Lib.hid o0
              clear o0 hOp
              go_wp2_with fail
              go_meet
              exact ⟨by simp [K3.out, O0.out], Mod.refl _ _⟩
        case rest =>
          obtain ⟨rfl, mF⟩ := hcut
          obtain ⟨F, hF⟩ : ∃ F, (decide (k = 3) || (decide (op = 0) && (nl && nr))) = F := ⟨_, rfl⟩
          have hnF : (!decide (k = 3) && (!decide (op = 0) || (!nl || !nr))) = !F := by rw [← hF]; simp [Bool.not_or, Bool.not_and]
          rw [hnF]
          have HF := Lib.hid hF
          have MW := Lib.hid (MA.out.trans mF (by simp))
          clear hF hnF hK3 hOp
          have d0 := mF.cell c0 (by simp)
          have d18 := mF.cell c18 (by simp)
          have d19 := mF.cell c19 (by simp)
          have d20 := mF.cell c20 (by simp)
          have d21 := mF.cell c21 (by simp)
          have d22 := mF.cell c22 (by simp)
          have d23 := mF.cell c23 (by simp)
          have d24 := mF.cell c24 (by simp)
          have d25 := mF.cell c25 (by simp)
          have d26 := mF.cell c26 (by simp)
          have d27 := mF.cell c27 (by simp)
          clear mF
          cases F
          · have hT : (!false) = true := rfl
            rw [hT]
            clear hT
            go_wp2_with fail
            go_ret
            exact ⟨by rw [← HRR.out, HAA.out, HD.out, HR0.out, HF.out]; rfl, MW.out⟩
          · have hT : (!true) = false := rfl
            rw [hT]
            clear hT
            go_upto_region 6 with fail
            by_cases k4 : k = 4
            · subst k4
              go_wp2_with fail
              go_ret
              exact ⟨by show Ending.returned (.bool true) = Ending.returned (.bool RR); rw [← HRR.out, HAA.out, HD.out, HR0.out, HF.out]; rfl, MW.out⟩
            · have k4B : (k == 4) = false := by rw [beq_eq_false_iff_ne]; exact k4
              have K4 := Lib.hid k4
              clear k4
              by_cases f0 : fn = 0
              · subst f0
                by_cases v0 : av.size = 0
                · have he2 : av.toList.isEmpty = true := by rw [HE2.out, v0]; rfl
                  have V0 := Lib.hid v0
                  clear v0
                  go_wp2_with fail
                  refine (HO.out _).mono ?_
                  rintro e1 w1 ⟨rfl, m1⟩
                  have MW1 := Lib.hid (MW.out.trans m1 (by simp))
                  have d27 := m1.cell d27 (by simp)
                  clear m1
                  have hl2 := HL2.out
                  cases no
                  · clear hl2
                    go_wp2_with fail
                    go_ret
                    exact ⟨by show Ending.returned (.bool false) = Ending.returned (.bool RR); rw [← HRR.out, HAA.out, HD.out, HR0.out, HF.out]; simp [K4.out], MW1.out⟩
                  · go_wp2_with fail
                    go_ret
                    exact ⟨by show Ending.returned (.bool (decide (body = []))) = Ending.returned (.bool RR); rw [← HRR.out, HAA.out, HD.out, HR0.out, HF.out]; simp [K4.out, V0.out], MW1.out⟩
                · have he2 : av.toList.isEmpty = false := by rw [HE2.out]; simpa using v0
                  have V0 := Lib.hid v0
                  clear v0
                  go_wp2_with fail
                  go_ret
                  exact ⟨by show Ending.returned (.bool false) = Ending.returned (.bool RR); rw [← HRR.out, HAA.out, HD.out, HR0.out, HF.out]; simp [K4.out, V0.out], MW.out⟩
              · have fB : (fn == 0) = false := by rw [beq_eq_false_iff_ne]; exact f0
                have F0 := Lib.hid f0
                clear f0
                go_wp2_with fail
                go_ret
                exact ⟨by show Ending.returned (.bool false) = Ending.returned (.bool RR); rw [← HRR.out, HAA.out, HD.out, HR0.out, HF.out]; simp [K4.out, F0.out], MW.out⟩
end Go.Proofs.YtbmmdficdeakfaaDoor
