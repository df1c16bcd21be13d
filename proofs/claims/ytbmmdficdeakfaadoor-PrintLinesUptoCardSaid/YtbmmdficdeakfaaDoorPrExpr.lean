/- THE WRITER: expressions: what is in memory; the contracts' form; argument. -/
import Derived.Test.YtbmmdficdeakfaaDoorPrFns
namespace Go.Proofs.YtbmmdficdeakfaaDoor
open Go.RowKit
set_option linter.unusedVariables false
set_option linter.unusedSimpArgs false
set_option maxRecDepth 100000

/-- an expression's cells -/
structure ExAt (w : World) (b o : Nat) (e : Pr.Ex) (u : Value) : Prop where
  c0 : w.cell? ⟨b, o, none⟩ = some (.int .i64 e.k)
  c1 : w.cell? ⟨b, o + 1, none⟩ = some (.string e.v)
  c2 : w.cell? ⟨b, o + 2, none⟩ = some (.int .i64 e.x.k)
  c3 : w.cell? ⟨b, o + 3, none⟩ = some (.int .i64 e.x.n)
  c4 : w.cell? ⟨b, o + 4, none⟩ = some (.string (Lx.ofS e.x.s))
  c5 : w.cell? ⟨b, o + 5, none⟩ = some (.int .i64 e.op)
  c6 : w.cell? ⟨b, o + 6, none⟩ = some u
theorem ExAt.keep {S : List Nat} {w w' : World} {b o : Nat} {e : Pr.Ex} {u : Value} (h : ExAt w b o e u) (hm : Mod S w w') (hb : b ∉ S) : ExAt w' b o e u :=
  ⟨hm.cell h.c0 hb, hm.cell h.c1 hb, hm.cell h.c2 hb, hm.cell h.c3 hb, hm.cell h.c4 hb, hm.cell h.c5 hb, hm.cell h.c6 hb⟩
theorem ExAt.of {w : World} {b : Nat} {e : Pr.Ex} {u : Value} {T : TypeId} (h : w.heap[b]? = some (.cells (exV e u) T (0, 0))) : ExAt w b 0 e u := by
  unfold exV at h
  constructor <;> simp only [World.cell?, h] <;> rfl
/-- the slice u holds the arguments of e -/
inductive EOk (w : World) : Pr.Ex → Value → Prop
  | nil {k : Int} {v : ByteArray} {x : Va.Val} {op : Int} {a : Option Addr} {c : Nat} (hx : x.Ok) : EOk w (.mk k v x op []) (.slice a 0 c)
  | row {k : Int} {v : ByteArray} {x : Va.Val} {op : Int} {args : List Pr.Ex} {b off c : Nat} {us : Nat → Value} (hx : x.Ok)
      (h1 : ∀ i (h : i < args.length), ExAt w b (off + i * 7) args[i] (us i)) (h2 : ∀ i (h : i < args.length), EOk w args[i] (us i)) :
      EOk w (.mk k v x op args) (.slice (some ⟨b, off, none⟩) args.length c)
theorem EOk.past {w w' : World} {e : Pr.Ex} {u : Value} (h : EOk w e u) (hm : Mod [] w w') : EOk w' e u := by
  induction h with
  | nil hx => exact .nil hx
  | row hx h1 h2 ih => exact .row hx (fun i h => (h1 i h).keep hm (by simp)) ih
theorem EOk.ok {w : World} {e : Pr.Ex} {u : Value} (h : EOk w e u) : e.x.Ok := by cases h <;> assumption
theorem EOk.lit {w : World} {e : Pr.Ex} {u : Value} (h : EOk w e u) : ∃ a c, u = .slice a e.args.length c := by
  cases h with
  | nil hx => exact ⟨_, _, rfl⟩
  | row hx h1 h2 => exact ⟨_, _, rfl⟩
theorem EOk.at {w : World} {e : Pr.Ex} {a : Option Addr} {c : Nat} (h : EOk w e (.slice a e.args.length c)) (i : Nat) (hi : i < e.args.length) :
    ∃ b off u, a = some ⟨b, off, none⟩ ∧ ExAt w b (off + i * 7) e.args[i] u ∧ EOk w e.args[i] u := by
  generalize hu : Value.slice a e.args.length c = u at h
  cases h with
  | nil hx => simp [Pr.Ex.args] at hi
  | row hx h1 h2 =>
    simp only [Value.slice.injEq] at hu
    exact ⟨_, _, _, hu.1, h1 i hi, h2 i hi⟩

mutual
def exWt : Pr.Ex → Nat
  | .mk _ v _ _ args => v.size + 300 + exWts args
def exWts : List Pr.Ex → Nat
  | [] => 0
  | e :: r => exWt e + exWts r
end
theorem exWt_eq (e : Pr.Ex) : exWt e = e.v.size + 300 + exWts e.args := by cases e; simp [exWt, Pr.Ex.v, Pr.Ex.args]

/-- what a call that writes o (or nothing) leaves -/
def Res (bad : Bool) (l : List Nat) (o : Option (List Nat)) (n : Nat) (l' : List Nat) (bad' : Bool) : Prop :=
  l'.length ≤ l.length + n ∧ (bad = true → bad' = true) ∧ (bad = false → bad' = o.isNone ∧ ∀ x, o = some x → l' = l ++ x)
def WRes (p : Nat) (v : Value) (l : List Nat) (bad : Bool) (br : Int) (o : Option (List Nat)) (n : Nat) (w : World) (e : Ending) (w' : World) : Prop :=
  e = .returned (.tuple #[]) ∧ ∃ q' v' l' bad', WrIs w' p q' v' l' bad' br ∧ WMod p v v' w w' ∧ Res bad l o n l' bad'
/-- where the walk stands: the writer, newer than w0 -/
structure WAt (w0 w : World) (p : Nat) (q v : Value) (l : List Nat) (bad : Bool) (br : Int) : Prop where
  wr : WrIs w p q v l bad br
  base : Mod [] w0 w
  hp : w0.heap.size ≤ p
  hv : ∀ k ∈ fp v, w0.heap.size ≤ k
theorem WAt.step {w0 w w' : World} {p : Nat} {q v q' v' : Value} {l l' : List Nat} {bad bad' : Bool} {br br' : Int} (h : WAt w0 w p q v l bad br) (hw : WrIs w' p q' v' l' bad' br') (hm : WMod p v v' w w') : WAt w0 w' p q' v' l' bad' br' :=
  ⟨hw, h.base.trans hm.1 (fun t ht => by
    rcases List.mem_cons.1 ht with rfl | ht
    · exact .inr h.hp
    · exact .inr (h.hv t ht)), h.hp, fun k hk => by
    rcases hm.2 k hk with r | r
    · exact h.hv k r
    · have := h.base.size; omega⟩
theorem WAt.new {w0 w w' : World} {p : Nat} {q v : Value} {l : List Nat} {bad : Bool} {br : Int} (h : WAt w0 w p q v l bad br) (hm : Mod [] w w') : WAt w0 w' p q v l bad br :=
  ⟨h.wr.past hm (by simp), h.base.trans hm (by simp), h.hp, h.hv⟩
/-- one text put -/
theorem put1 {w0 w : World} {p : Nat} {q v : Value} {l : List Nat} {bad : Bool} {br : Int} (h : WAt w0 w p q v l bad br) {g : Nat} {s : ByteArray} (hg : w.heap.size = g) (hlen : l.length + s.size ≤ 140737488355328) :
    Calls Tryd.prog 24 #[.pointer (some ⟨p, 0, none⟩), .slice (some ⟨g, 0, none⟩) 1 1] (w.alloc (Obj.cells #[.string s] 9)) (WLaid p v (l ++ Cod.str s) bad br w) := by
  subst hg
  have hal := (Mod.refl [] w).alloc (Obj.cells #[.string s] 9)
  have hcell := heap_alloc_new w (Obj.cells #[.string s] 9)
  have hP := put_any p q v l bad br w.heap.size 1 [s] _ (h.wr.past hal (by simp)) (by simp) (by have := h.wr.lt; omega) (fun hk => by have := fp_lt h.wr.row _ hk; omega) (fun i hi => by
    obtain rfl : i = 0 := by simpa using hi
    simp only [World.cell?, hcell]; rfl) (by simp) (by simp [Cod.str_len]; omega)
  refine hP.mono ?_
  rintro e w' ⟨rfl, q', v', h', m'⟩
  exact ⟨rfl, q', v', by simpa using h', (WMod.of hal).trans m'⟩

def ExprC (w0 : World) (k : Nat) : Prop := ∀ (e : Pr.Ex) (u : Value) (p : Nat) (q v : Value) (l : List Nat) (bad : Bool) (br : Int) (w : World), WAt w0 w p q v l bad br → EOk w0 e u → GlobV w0 → l.length + exWt e ≤ 140737488000000 →
  Calls Tryd.prog 29 #[.pointer (some ⟨p, 0, none⟩), .agg (exV e u), .int .i64 ((k : Int) - 1)] w (WRes p v l bad br (Pr.pE k e) (exWt e) w)
def ArgC (w0 : World) (j : Nat) : Prop := ∀ (e : Pr.Ex) (u : Value) (m : Bool) (p : Nat) (q v : Value) (l : List Nat) (bad : Bool) (br : Int) (w : World), WAt w0 w p q v l bad br → EOk w0 e u → GlobV w0 → l.length + exWt e + 10 ≤ 140737488000000 →
  Calls Tryd.prog 61 #[.pointer (some ⟨p, 0, none⟩), .agg (exV e u), .bool m, .int .i64 (j : Int)] w (WRes p v l bad br (if m then (Pr.pE j e).map (fun t => 40 :: (t ++ [41])) else Pr.pE (j + 1) e) (exWt e + 10) w)

theorem ExAt.wstep {w w' : World} {p : Nat} {v v' : Value} {b o : Nat} {e : Pr.Ex} {u : Value} (h : ExAt w b o e u) (hm : WMod p v v' w w') (h1 : b ≠ p) (h2 : b ∉ fp v) : ExAt w' b o e u :=
  h.keep hm.1 (by simp; exact ⟨h1, h2⟩)
/-- a block beside the writer stays beside it -/
theorem WMod.beside {p : Nat} {v v' : Value} {w w' : World} (hm : WMod p v v' w w') {b : Nat} (hb : b < w.heap.size) (h2 : b ∉ fp v) : b ∉ fp v' := fun hk => by
  rcases hm.2 b hk with r | r
  · exact h2 r
  · omega

set_option maxHeartbeats 2000000 in
theorem arg_of {w0 : World} {j : Nat} (hj17 : j ≤ 1000) (h1 : ExprC w0 j) (h2 : ExprC w0 (j + 1)) : ArgC w0 j := by
  intro e u m p q v l bad br w h hE hG hlen
  have hj : (((j + 1 : Nat) : Int) - 1) = (j : Int) := by omega
  have H1 := Lib.hid (fun q v l bad br w h hl => h1 e u p q v l bad br w h hE hG hl)
  have H2 := fun q v l bad br w h hl => h2 e u p q v l bad br w h hE hG hl
  rw [hj] at H2
  have MA := Lib.hid ((Mod.refl [] w).alloc (Obj.cells (exV e u) 44))
  have XA := Lib.hid (ExAt.of (heap_alloc_new w (Obj.cells (exV e u) 44)))
  have HA := Lib.hid (h.new MA.out)
  have hpw : p < w.heap.size := h.wr.lt
  have hbp : w.heap.size ≠ p := by omega
  have HBV : Hid (w.heap.size ∉ fp v) := Lib.hid (fun hk => by have := fp_lt h.wr.row _ hk; omega)
  have hsz : w.heap.size < (w.alloc (Obj.cells (exV e u) 44)).heap.size := by simp
  have HH2 := Lib.hid H2
  clear h h1 h2 H2 hE hG hj
  cases m
  · unfold exV at *
    go_enter Tryd.func61, Tryd.ntmps61
    go_wp2_with fail
    refine (HH2.out q v l bad br _ HA.out (by omega)).mono ?_
    rintro e1 w1 ⟨rfl, q1, v1, l1, bad1, h1, m1, r1⟩
    have R1 := Lib.hid r1; have W1 := Lib.hid h1; have M1 := Lib.hid ((WMod.of MA.out).trans m1)
    clear r1 h1 m1
    go_wp2_with fail
    go_end0
    exact ⟨rfl, q1, v1, l1, bad1, W1.out, M1.out, ⟨by have := R1.out.1; omega, R1.out.2.1, R1.out.2.2⟩⟩
  · unfold exV at *
    go_enter Tryd.func61, Tryd.ntmps61
    go_wp2_with fail
    refine (put1 HA.out (s := { data := #[40] }) (by simp) (by simp [ByteArray.size]; omega)).mono ?_
    rintro e1 w1 ⟨rfl, q1, v1, h1, m1⟩
    have W1 := Lib.hid (HA.out.step h1 m1); have M1 := Lib.hid ((WMod.of MA.out).trans m1)
    have hx1 := XA.out.wstep m1 hbp HBV.out
    have hsz1 := m1.size
    clear h1 m1
    obtain ⟨c0, c1, c2, c3, c4, c5, c6⟩ := hx1
    go_wp2_with fail
    refine (H1.out q1 v1 _ bad br _ W1.out (by rw [List.length_append, Cod.str_len]; simp [ByteArray.size]; omega)).mono ?_
    rintro e2 w2 ⟨rfl, q2, v2, l2, bad2, h2, m2, r2⟩
    have W2 := Lib.hid (W1.out.step h2 m2); have M2 := Lib.hid (M1.out.trans m2); have R2 := Lib.hid r2
    clear h2 m2 r2 c0 c1 c2 c3 c4 c5 c6
    have hl2 := R2.out.1
    rw [List.length_append, Cod.str_len] at hl2
    have hs40 : ({ data := #[40] } : ByteArray).size = 1 := rfl
    rw [hs40] at hl2
    go_wp2_with fail
    refine (put1 W2.out (s := { data := #[41] }) rfl (by simp [ByteArray.size]; omega)).mono ?_
    rintro e3 w3 ⟨rfl, q3, v3, h3, m3⟩
    have M3 := Lib.hid (M2.out.trans m3); have W3 := Lib.hid h3
    clear h3 m3
    go_wp2_with fail
    go_end0
    refine ⟨rfl, q3, v3, _, bad2, W3.out, M3.out, ?_, R2.out.2.1, fun hb => ?_⟩
    · rw [List.length_append, Cod.str_len]
      have : ({ data := #[41] } : ByteArray).size = 1 := rfl
      omega
    · obtain ⟨r1, r2⟩ := R2.out.2.2 hb
      refine ⟨by rw [r1]; cases Pr.pE j e <;> rfl, fun x hx => ?_⟩
      obtain ⟨t, ht, rfl⟩ := Option.map_eq_some_iff.1 hx
      rw [r2 t ht]
      have e40 : Cod.str { data := #[40] } = [40] := rfl
      have e41 : Cod.str { data := #[41] } = [41] := rfl
      rw [e40, e41]
      simp
end Go.Proofs.YtbmmdficdeakfaaDoor
