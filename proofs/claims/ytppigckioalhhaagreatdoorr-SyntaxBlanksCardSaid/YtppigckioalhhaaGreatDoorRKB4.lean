/- LITERALS IN MEMORY; in which blocks (F) they lie. -/
import Derived.Test.YtppigckioalhhaaGreatDoorRKB3
import Derived.Deep.RegionLaw
/- THE PARSER: list, over whatever reads one. -/
namespace Go.Proofs.YtppigckioalhhaaGreatDoorR
open Go.RowKit
set_option linter.unusedVariables false
set_option linter.unusedSimpArgs false
set_option maxRecDepth 100000

/-- what a call of a list's kind leaves: Inv of what has been read; Fr where it ends in a panic -/
def LRes {α : Type} (b : Nat) (ra : Option Addr) (rc : Nat) (f : Value) (v : Sy.Env) (r : Sy.PR (List α)) (Inv : List α → World → Prop) (Fr : World → Prop) (e : Ending) (w' : World) : Prop :=
  match r with
  | .ok l j => e = .returned (.tuple #[]) ∧ Inv l w' ∧ RdP w' b ra rc f v j
  | .err g => e = stopE g ∧ Fr w'
def ORes {α : Type} (b : Nat) (ra : Option Addr) (rc : Nat) (f : Value) (v : Sy.Env) (r : Sy.PR α) (acc : List α) (Inv : List α → World → Prop) (Fr : World → Prop) (e : Ending) (w' : World) : Prop :=
  match r with
  | .ok a j => e = .returned (.tuple #[]) ∧ Inv (acc ++ [a]) w' ∧ RdP w' b ra rc f v j
  | .err g => e = stopE g ∧ Fr w'
theorem listF_eq {α : Type} (v : Sy.Env) (fin : List Nat) (one : Nat → Sy.PR α) (k : Nat) (acc : List α) (i : Nat) :
    Sy.listF v fin one (k + 1) acc i = if Sy.sign (v.tk i) [44] = true then (one (i + 1)).bind fun a j => Sy.listF v fin one k (acc ++ [a]) j else (Sy.must v fin i).bind fun _ j => .ok acc j := rfl

set_option maxHeartbeats 2000000 in
theorem list_any {α : Type} (b : Nat) (ra : Option Addr) (rc : Nat) (f : Value) (v : Sy.Env) (fin : List Nat) (s : ByteArray) (hs : Lx.ofS fin = s) (hf : ∀ c ∈ fin, c < 256) (one : Nat → Sy.PR α) (hadv : Sy.Adv v one) (n : Nat) (lb : Array Value)
    (he : ∀ (args : Array Value) (w : World), (callFunc n args).run Tryz.prog w = .ok (.enter n args) w) (Inv : List α → World → Prop) (Fr : World → Prop)
    (hone : ∀ acc j w, Inv acc w → RdP w b ra rc f v j → j ≤ 65536 → acc.length ≤ 65537 → Calls Tryz.prog n lb w (ORes b ra rc f v (one j) acc Inv Fr))
    (hmod : ∀ acc w w', Inv acc w → Mod [b] w w' → Inv acc w') (hfr : ∀ acc w, Inv acc w → Fr w)
    (i : Nat) (w : World) (h : RdP w b ra rc f v i) (hI : Inv [] w) (hv : EnvOk v) (hi : i ≤ v.ws.length) :
    Calls Tryz.prog 87 #[.pointer (some ⟨b, 0, none⟩), .string s, .func (.func n) #[] lb] w (LRes b ra rc f v (Sy.list v fin one i) Inv Fr) := by
  have hlen := hv.len
  have HR : Hid (Sy.list v fin one i = if Sy.sign (v.tk i) fin = true then .ok [] (i + 1) else (one i).bind fun a j => Sy.listF v fin one (v.ws.length + 1) [a] j) := Lib.hid rfl
  have HM := Lib.hid (may_any b ra rc f v i fin s w h hv (by omega) hs hf)
  have HMu := Lib.hid (fun j w h (hj : j ≤ 65536) => must_any b ra rc f v j fin s w h hv (by omega) hs hf)
  have HMc := Lib.hid (fun j w h (hj : j ≤ 65536) => may_any b ra rc f v j [44] { data := #[44] } w h hv (by omega) rfl (by decide))
  have HO := Lib.hid hone; have HMod := Lib.hid hmod; have HF := Lib.hid hfr; have HI := Lib.hid hI; have HA := Lib.hid hadv
  have hlt1 := fun h => Sy.sign_lt (v := v) (i := i) (s := fin) h
  generalize Sy.sign (v.tk i) fin = r at *
  generalize hq : Sy.list v fin one i = q at *
  clear hone hmod hfr hI hadv h hs hq
  cases r
  · have hq : q = (one i).bind fun a j => Sy.listF v fin one (v.ws.length + 1) [a] j := HR.out
    clear HR hlt1
    cases ho : one i with
    | err g =>
      rw [ho] at hq
      have hq2 : q = .err g := hq
      subst hq2
      have HHo := Lib.hid ho
      clear hq ho
      go_enter Tryz.func87, Tryz.ntmps87
      go_wp2_with fail
      refine HM.out.mono ?_
      rintro e1 w1 ⟨rfl, h1, m1⟩
      have H1 := Lib.hid (show RdP w1 b ra rc f v i from h1); have I1 := Lib.hid (HMod.out _ _ _ HI.out m1)
      clear h1 m1
      go_wp2_with fail
      refine (HO.out [] i w1 I1.out H1.out (by omega) (by simp)).mono ?_
      rw [HHo.out]
      rintro e2 w2 ⟨rfl, f2⟩
      have F2 := Lib.hid f2
      clear f2
      unfold stopE
      go_wp2_with fail
      exact ⟨rfl, rfl, F2.out⟩
    | ok a0 j0 =>
      rw [ho] at hq
      have hq2 : q = Sy.listF v fin one (v.ws.length + 1) [a0] j0 := hq
      have hj0 := HA.out i a0 j0 hi ho
      have HHo := Lib.hid ho; have HQ := Lib.hid hq2
      clear hq hq2 ho
      go_enter Tryz.func87, Tryz.ntmps87
      go_wp2_with fail
      refine HM.out.mono ?_
      rintro e1 w1 ⟨rfl, h1, m1⟩
      have H1 := Lib.hid (show RdP w1 b ra rc f v i from h1); have I1 := Lib.hid (HMod.out _ _ _ HI.out m1)
      clear h1 m1
      go_wp2_with fail
      refine (HO.out [] i w1 I1.out H1.out (by omega) (by simp)).mono ?_
      rw [HHo.out]
      rintro e2 w2 ⟨rfl, i2, h2⟩
      have I2 := Lib.hid i2; have H2 := Lib.hid h2
      clear i2 h2
      go_wp2_with fail
      go_loopg [] (v.ws.length + 1) (fun gk wr => ∃ (j : Nat) (acc : List α), Inv acc wr ∧ RdP wr b ra rc f v j ∧ j ≤ v.ws.length ∧ v.ws.length + 1 ≤ gk + j ∧ acc.length ≤ j + 1 ∧ q = Sy.listF v fin one gk acc j)
      case atStart => exact ⟨j0, [a0], by simpa using I2.out, H2.out, hj0.2, by omega, by simp, HQ.out⟩
      case round =>
        obtain ⟨j, acc, iv, hr, hj, hgk, hal, hq⟩ := hrel
        obtain ⟨g', rfl⟩ : ∃ g', gk = g' + 1 := ⟨gk - 1, by omega⟩
        rw [listF_eq] at hq
        have IV := Lib.hid iv; have HRd := Lib.hid hr; have HQ2 := Lib.hid hq
        have HMy := Lib.hid (HMc.out j wr hr (by omega))
        have hslt := fun h => Sy.sign_lt (v := v) (i := j) (s := [44]) h
        clear iv hr hq HQ
        generalize Sy.sign (v.tk j) [44] = sg at *
        cases sg
        · have hq : q = (Sy.must v fin j).bind fun _ j => .ok acc j := HQ2.out
          clear HQ2 hslt
          go_wp2_with fail
          refine HMy.out.mono ?_
          rintro e3 w3 ⟨rfl, h3, m3⟩
          have H3 := Lib.hid (show RdP w3 b ra rc f v j from h3); have I3 := Lib.hid (HMod.out _ _ _ IV.out m3)
          have HU := Lib.hid (HMu.out j w3 h3 (by omega))
          clear h3 m3
          generalize Sy.must v fin j = mu at *
          cases mu with
          | err g =>
            have hq2 : q = .err g := hq
            subst hq2
            clear hq
            go_wp2_with fail
            refine HU.out.mono ?_
            rintro e4 w4 ⟨rfl, m4⟩
            have F4 := Lib.hid (HF.out _ _ (HMod.out _ _ _ I3.out m4))
            clear m4
            unfold stopE
            go_wp2_with fail
            exact ⟨rfl, rfl, F4.out⟩
          | ok u j4 =>
            have hq2 : q = .ok acc j4 := hq
            subst hq2
            clear hq
            go_wp2_with fail
            refine HU.out.mono ?_
            rintro e4 w4 ⟨x, rfl, hx, h4, m4⟩
            unfold valU at hx
            subst hx
            have I4 := Lib.hid (HMod.out _ _ _ I3.out m4); have H4 := Lib.hid h4
            clear m4 h4
            go_wp2_with fail
            go_end0
            exact ⟨rfl, I4.out, H4.out⟩
        · have hq : q = (one (j + 1)).bind fun a j => Sy.listF v fin one g' (acc ++ [a]) j := HQ2.out
          have hjl : j < v.ws.length := hslt rfl
          clear HQ2 hslt
          cases ho : one (j + 1) with
          | err g =>
            rw [ho] at hq
            have hq2 : q = .err g := hq
            subst hq2
            have HHo2 := Lib.hid ho
            clear hq ho
            go_wp2_with fail
            refine HMy.out.mono ?_
            rintro e3 w3 ⟨rfl, h3, m3⟩
            have H3 := Lib.hid (show RdP w3 b ra rc f v (j + 1) from h3); have I3 := Lib.hid (HMod.out _ _ _ IV.out m3)
            clear h3 m3
            go_wp2_with fail
            refine (HO.out acc (j + 1) w3 I3.out H3.out (by omega) (by omega)).mono ?_
            rw [HHo2.out]
            rintro e4 w4 ⟨rfl, f4⟩
            have F4 := Lib.hid f4
            clear f4
            unfold stopE
            go_wp2_with fail
            exact ⟨rfl, rfl, F4.out⟩
          | ok a1 j1 =>
            rw [ho] at hq
            have hq2 : q = Sy.listF v fin one g' (acc ++ [a1]) j1 := hq
            have hj1 := HA.out (j + 1) a1 j1 (by omega) ho
            have HHo2 := Lib.hid ho; have HQ3 := Lib.hid hq2
            clear hq hq2 ho
            go_wp2_with fail
            refine HMy.out.mono ?_
            rintro e3 w3 ⟨rfl, h3, m3⟩
            have H3 := Lib.hid (show RdP w3 b ra rc f v (j + 1) from h3); have I3 := Lib.hid (HMod.out _ _ _ IV.out m3)
            clear h3 m3
            go_wp2_with fail
            refine (HO.out acc (j + 1) w3 I3.out H3.out (by omega) (by omega)).mono ?_
            rw [HHo2.out]
            rintro e4 w4 ⟨rfl, i4, h4⟩
            have I4 := Lib.hid i4; have H4 := Lib.hid h4
            clear i4 h4
            go_wp2_with fail
            go_roundg g'
            case measure => omega
            case rel => exact ⟨j1, acc ++ [a1], I4.out, H4.out, hj1.2, by omega, by simp; omega, HQ3.out⟩
  · have hq : q = .ok [] (i + 1) := HR.out
    subst hq
    clear HR hlt1
    go_enter Tryz.func87, Tryz.ntmps87
    go_wp2_with fail
    refine HM.out.mono ?_
    rintro e1 w1 ⟨rfl, h1, m1⟩
    have H1 := Lib.hid (show RdP w1 b ra rc f v (i + 1) from h1); have I1 := Lib.hid (HMod.out _ _ _ HI.out m1)
    clear h1 m1
    go_wp2_with fail
    refine bodyPost_ret (results_none rfl _ _ _) rfl ?_
    exact ⟨rfl, I1.out, H1.out⟩
end Go.Proofs.YtppigckioalhhaaGreatDoorR
/- THE PARSER: lists that grow in a box; atom. Printed by wip/gen_syatom.py. -/
namespace Go.Proofs.YtppigckioalhhaaGreatDoorR
open Go.RowKit
set_option linter.unusedVariables false
set_option linter.unusedSimpArgs false
set_option maxRecDepth 100000

section
variable {P : Program} (w : World)
theorem step_append_src {ops : Array Oper} {o : Oper} {a : Act} {K : Act → World → Prop} {Q : Exit → Act → World → Prop} {E : Prop} (hgd : o.guard = none) (s x : Operand) (t tx : TypeId)
    (ho : o.op = .call { callee := .builtin .append, args := #[s, x], argTypes := #[t, tx] })
    (e : TypeId) (i : TypeInfo) (z : Value) (size bytes : Nat) (ht : P.underlying t = some (.slice e)) (hi : P.info? e = some i) (hz : i.zero = some z)
    (hsize : i.size = size) (hby : i.bytes = bytes) (hzs : z.cells.size = size)
    (v : Value) (n : Nat) (xs : List Value) (hs : a.eval s = v) (hown : w.ownsRow 0 e size v n xs)
    (vx : Value) (m : Nat) (news : List Value) (hx : a.eval x = vx) (hsrc : Src P size tx vx m news w)
    (h63 : n + m ≤ maxLen) (hbytes : (n + m) * bytes ≤ 140737488355328)
    (h : ∀ v' w', w'.ownsRow 0 e size v' (n + m) (xs ++ news) → Mod (fp v) w w' → (∀ k ∈ fp v', k ∈ fp v ∨ w.heap.size ≤ k) → K (a.put o.dst v') w') :
    if Region.wanted o (yielded ops a.tmps) = true then Oper.wp P o a w K Q else E := by
  have hw : Region.wanted o (yielded ops a.tmps) = true := by simp [Region.wanted, hgd]
  rw [if_pos hw]
  obtain ⟨v', w', hr, h2, h3, h4, h5⟩ := run_append_own_src (P := P) w t tx o.type e i z size bytes ht hi hz hsize hby hzs v n xs hown vx m news hsrc h63 hbytes
  unfold Oper.wp execOp
  simp only [ho, resolve, invoke, builtin, Sem.run_bind, Sem.run_pure, Result.andThen_ok, List.map_toArray, List.map_cons, List.map_nil, hs, hx, hr]
  exact h v' w' h2 h3 h4
end
/-- one thing, as what is appended -/
theorem src_one {w : World} {g n : Nat} {cs : Array Value} {T TS e : TypeId} {fr : Nat × Nat} (hu : Tryz.prog.underlying TS = some (.slice e)) (h : w.heap[g]? = some (.cells cs T fr)) (hn : cs.size = n) (h1 : ∀ u ∈ cs.toList, u.oneCell' = true) :
    Src Tryz.prog n TS (.slice (some ⟨g, 0, none⟩) 1 1) 1 cs.toList w := by
  refine Src.ofSlice w hu ⟨g, 0, none⟩ 1 1 _ (by simp [hn]) (fun j u hu => ?_) h1
  rw [addr_add, Nat.zero_add]
  simp [World.cell?, h]
  rw [← Array.getElem?_toList]; exact hu

/-- a list that grows in the second cell of box ab; the reader's pointer in box rb -/
structure AI {α : Type} (T : TypeId) (n : Nat) (cs : α → Array Value) (T0 rT : TypeId) (x : Value) (ys : List Value) (w0 : World) (b ab rb : Nat) (acc : List α) (W : World) (va : Option Addr) (vc : Nat) : Prop where
  box : W.heap[ab]? = some (.cells (#[x, .slice va acc.length vc] ++ ys.toArray) T0 (0, 0))
  row : W.ownsRow 0 T n (.slice va acc.length vc) acc.length (rowCells cs acc)
  new : ∀ k ∈ fp (.slice va acc.length vc), w0.heap.size ≤ k ∧ k ≠ ab ∧ k ≠ rb
  rbx : W.heap[rb]? = some (.cells #[.pointer (some ⟨b, 0, none⟩)] rT (0, 0))
  abn : w0.heap.size ≤ ab
  rbn : rb ≠ b
  ne : ab ≠ rb
  bl : b < w0.heap.size
  mod : Mod [b] w0 W
section
variable {α : Type} {T : TypeId} {n : Nat} {cs : α → Array Value} {T0 rT : TypeId} {x : Value} {ys : List Value} {w0 : World} {b ab rb : Nat} {acc : List α} {W W' W'' : World} {va : Option Addr} {vc : Nat}
theorem AI.keep (h : AI T n cs T0 rT x ys w0 b ab rb acc W va vc) (hm : Mod [b] W W') : AI T n cs T0 rT x ys w0 b ab rb acc W' va vc := by
  have h1 := h.abn
  have h2 := h.rbn
  have h3 := h.bl
  refine ⟨hm.at h.box (by simp; omega), hm.owns h.row (fun k hk => ?_), h.new, hm.at h.rbx (by simp; omega), h.abn, h.rbn, h.ne, h.bl, h.mod.trans hm (by simp)⟩
  have := (h.new k hk).1
  simp; omega
/-- grown by one, and stored -/
theorem AI.grow {va' : Option Addr} {vc' : Nat} {a : α} (h : AI T n cs T0 rT x ys w0 b ab rb acc W va vc) (hm : Mod (fp (.slice va acc.length vc)) W W') (hown : W'.ownsRow 0 T n (.slice va' (acc.length + 1) vc') (acc.length + 1) (rowCells cs acc ++ (cs a).toList))
    (hf : ∀ k ∈ fp (.slice va' (acc.length + 1) vc'), k ∈ fp (.slice va acc.length vc) ∨ W.heap.size ≤ k) :
    AI T n cs T0 rT x ys w0 b ab rb (acc ++ [a]) (W'.setCell ⟨ab, 1, none⟩ (.slice va' (acc.length + 1) vc')) va' vc' := by
  have e1 : (acc ++ [a]).length = acc.length + 1 := by simp
  have hnew := h.new
  have hna : ab ∉ fp (.slice va acc.length vc) := fun hk => (hnew ab hk).2.1 rfl
  have hnr : rb ∉ fp (.slice va acc.length vc) := fun hk => (hnew rb hk).2.2 rfl
  have ha1 := hm.at h.box hna
  have hr1 := hm.at h.rbx hnr
  have hal := lt_of_block h.box
  have hrl := lt_of_block h.rbx
  have hsz := h.mod.size
  have hnew' : ∀ k ∈ fp (.slice va' (acc.length + 1) vc'), w0.heap.size ≤ k ∧ k ≠ ab ∧ k ≠ rb := fun k hk => by
    rcases hf k hk with hh | hh
    · exact hnew k hh
    · exact ⟨by omega, by omega, by omega⟩
  have hm2 : Mod [ab] W' (W'.setCell ⟨ab, 1, none⟩ (.slice va' (acc.length + 1) vc')) := (Mod.refl [ab] W').setCell (p := ⟨ab, 1, none⟩) (.inl (by simp)) _
  have hne := h.ne
  refine ⟨?_, ?_, ?_, hm2.at hr1 (by simp; omega), h.abn, h.rbn, h.ne, h.bl, ?_⟩
  · have := setCell_at ha1 1 (.slice va' (acc.length + 1) vc')
    rw [this, e1]
    simp
  · rw [e1, rowCells_snoc]
    exact hm2.owns hown (fun k hk => by have := (hnew' k hk).2.1; simp; omega)
  · rw [e1]; exact hnew'
  · refine (h.mod.trans hm (fun k hk => .inr (hnew k hk).1)).trans hm2 (fun k hk => ?_)
    simp at hk
    have := h.abn
    exact .inr (by omega)
end
theorem tmV_size (t : Pr.Term) : (tmV t).size = 5 := rfl
theorem tmV_one (t : Pr.Term) : ∀ u ∈ (tmV t).toList, u.oneCell' = true := by
  intro u hu
  simp [tmV] at hu
  rcases hu with rfl | rfl | rfl | rfl | rfl <;> rfl
theorem Tryz.infoTerm : (Tryz.prog.info? 113).map (fun i => (i.zero, i.size, i.bytes)) = some (some (.agg #[Value.int IntKind.i64 0, Value.string { data := #[] }, Value.int IntKind.i64 0, Value.int IntKind.i64 0, Value.string { data := #[] }]), 5, 56) := by kernel_rfl
def AInvT (x : Value) (w0 : World) (b ab rb : Nat) (acc : List Pr.Term) (W : World) : Prop := ∃ va vc, AI 113 5 tmV 40 85 x [] w0 b ab rb acc W va vc
set_option maxHeartbeats 2000000 in
theorem atom1_any (b : Nat) (ra : Option Addr) (rc : Nat) (f : Value) (v : Sy.Env) (x : Value) (w0 : World) (ab rb : Nat) (acc : List Pr.Term) (j : Nat) (w : World) (hI : AInvT x w0 b ab rb acc w) (h : RdP w b ra rc f v j) (hL : RdL b ra rc f v w0.heap.size) (hv : EnvOk v) (hj : j ≤ 65536) (hn : acc.length ≤ 65537) :
    Calls Tryz.prog 88 #[.pointer (some ⟨ab, 0, none⟩), .pointer (some ⟨rb, 0, none⟩)] w (ORes b ra rc f v (Sy.term v j) acc (AInvT x w0 b ab rb) (fun w' => Mod [b] w0 w')) := by
  obtain ⟨i0, hinf, hz0, hz1, hz2⟩ := info_parts Tryz.infoTerm
  obtain ⟨va, vc, hA⟩ := hI
  have HT := Lib.hid (fun w h => term_any b ra rc f v j w h hv (by omega))
  have D1 : Hid (w.drew.cell? ⟨ab, 1, none⟩ = some (.slice va acc.length vc) ∧ w.drew.cell? ⟨rb, 0, none⟩ = some (.pointer (some ⟨b, 0, none⟩))) := Lib.hid ⟨(cell_at hA.box 1).trans (by simp), cell_at hA.rbx 0⟩
  have HA := Lib.hid hA; have HH := Lib.hid h
  clear hA h
  generalize Sy.term v j = r at *
  cases r with
  | err g =>
    go_enter Tryz.func88, Tryz.ntmps88
    go_wp2_with fail
    refine wp_region_held_drew (S := (fun w' : World => w'.cell? ⟨ab, 1, none⟩ = some (.slice va acc.length vc) ∧ w'.cell? ⟨rb, 0, none⟩ = some (.pointer (some ⟨b, 0, none⟩)))) (by kernel_rfl) (by (try dsimp only); exact D1.out) (fun hHeld => ?_)
    refine wpAnyH_take (i := 0) (oi := ?_) (v := ?_) ?_ ?_ ?_ ?_ ?_ ?_ (by assumption) ?_
    rotate_left 2
    · (simp only [List.getElem?_toArray, List.getElem?_cons_succ, List.getElem?_cons_zero]) <;> rfl
    · kernel_rfl
    · kernel_rfl
    · kernel_rfl
    rotate_left 1
    · refine Or.inl ⟨by rfl, ?_⟩
      intro w hSw
      (try dsimp only at hSw)
      obtain ⟨hS1, hS2⟩ := hSw
      go_simp
      all_goals with_reducible rfl
    rotate_left 1
    · exact fun _ _ _ h => h
    try simp only [Act.put, List.setIfInBounds_toArray, List.set_cons_zero, List.set_cons_succ]
    refine wpAnyH_take (i := 1) (oi := ?_) (v := ?_) ?_ ?_ ?_ ?_ ?_ ?_ (by assumption) ?_
    rotate_left 2
    · (simp only [List.getElem?_toArray, List.getElem?_cons_succ, List.getElem?_cons_zero]) <;> rfl
    · kernel_rfl
    · kernel_rfl
    · kernel_rfl
    rotate_left 1
    · refine Or.inl ⟨by rfl, ?_⟩
      intro w hSw
      (try dsimp only at hSw)
      obtain ⟨hS1, hS2⟩ := hSw
      go_simp
      all_goals with_reducible rfl
    rotate_left 1
    · exact fun _ _ _ h => h
    try simp only [Act.put, List.setIfInBounds_toArray, List.set_cons_zero, List.set_cons_succ]
    refine wpAnyH_take (i := 2) (oi := ?_) (v := ?_) ?_ ?_ ?_ ?_ ?_ ?_ (by assumption) ?_
    rotate_left 2
    · (simp only [List.getElem?_toArray, List.getElem?_cons_succ, List.getElem?_cons_zero]) <;> rfl
    · kernel_rfl
    · kernel_rfl
    · kernel_rfl
    rotate_left 1
    · refine Or.inl ⟨by rfl, ?_⟩
      intro w hSw
      (try dsimp only at hSw)
      obtain ⟨hS1, hS2⟩ := hSw
      go_simp
      all_goals with_reducible rfl
    rotate_left 1
    · exact fun _ _ _ h => h
    try simp only [Act.put, List.setIfInBounds_toArray, List.set_cons_zero, List.set_cons_succ]
    refine wpAnyH_ready (rs := [3]) (by kernel_rfl) (by simp) ?_
    refine AllReadyH.cons (o := ?_) ?_ ?_ AllReadyH.nil
    rotate_left 1
    · (simp only [List.getElem?_toArray, List.getElem?_cons_succ, List.getElem?_cons_zero]) <;> rfl
    intro K hK
    go_simp
    refine (HT.out w.drew (HH.out.past ((Mod.refl [] w).drew) (by simp))).mono ?_
    rintro e3 w3 ⟨rfl, m3⟩
    have M3 := Lib.hid (((Mod.refl [b] w).drew).trans m3 (by simp))
    clear m3
    unfold stopE
    dsimp only
    clear hK K
    go_wp2_with fail
    exact ⟨rfl, rfl, HA.out.mod.trans M3.out (by simp)⟩
  | ok a k =>
    have q1 := D1.out.1
    have q2 := D1.out.2
    have hbl := HA.out.bl
    have hal := lt_of_block HA.out.box
    go_enter Tryz.func88, Tryz.ntmps88
    go_wp2_with fail
    go_region_law (first
      | (go_simp; refine (HT.out w.drew (HH.out.past ((Mod.refl [] w).drew) (by simp))).mono ?_; rintro e3 w3 ⟨y3, rfl, hy3, h3, m3⟩; unfold valM at hy3; subst hy3; have m03 := (((Mod.refl [b] w).drew).trans m3 (by simp)); have HA3 := Lib.hid (HA.out.keep m03); have q3 := (cell_at HA3.out.box 1); have q4 := (cell_at HA3.out.rbx 0); have HA4 := Lib.hid (HA3.out.keep ((Mod.refl [b] w3).alloc (Obj.cells #[.int .i64 a.k, .string a.v, .int .i64 a.x.k, .int .i64 a.x.n, .string (Lx.ofS a.x.s)] 113))); have q6 := (cell_at HA4.out.box 1); have HO3 := Lib.hid HA4.out.row; have HS3 : Hid (Src Tryz.prog 5 38 (.slice (some ⟨w3.heap.size, 0, none⟩) 1 1) 1 (tmV a).toList (w3.alloc (Obj.cells #[.int .i64 a.k, .string a.v, .int .i64 a.x.k, .int .i64 a.x.n, .string (Lx.ofS a.x.s)] 113))) := Lib.hid (src_one (TS := 38) Tryz.underlying38 (heap_alloc_new w3 (Obj.cells (tmV a) 113)) rfl (tmV_one a)); have H3 := Lib.hid (h3.past ((Mod.refl [] w3).alloc (Obj.cells #[.int .i64 a.k, .string a.v, .int .i64 a.x.k, .int .i64 a.x.n, .string (Lx.ofS a.x.s)] 113)) (by simp)); unfold tmV; clear h3 m3 m03)
      | (refine step_append_src _ rfl _ _ 38 38 rfl 113 i0 (.agg #[Value.int IntKind.i64 0, Value.string { data := #[] }, Value.int IntKind.i64 0, Value.int IntKind.i64 0, Value.string { data := #[] }]) 5 56 Tryz.underlying38 hinf hz0 hz1 hz2 rfl (.slice va acc.length vc) acc.length (rowCells tmV acc) rfl HO3.out _ 1 (tmV a).toList rfl HS3.out (by unfold maxLen; omega) (by omega) ?_; intro v5 w5 hown5 hm5 hf5; obtain ⟨va5, vc5, rfl⟩ := owns_slice hown5; have HG5 := Lib.hid (HA4.out.grow hm5 hown5 hf5); have q5 := (hm5.cell (cell_at HA4.out.box 1) (fun hk => (HA4.out.new ab hk).2.1 rfl)); have f5 : w5.frozen? ⟨ab, 1, none⟩ = false := (World.frozen?_of_block (hm5.block ab (lt_of_block HA4.out.box) (fun hk => (HA4.out.new ab hk).2.1 rfl))).trans (free_at HA4.out.box 1); have MR5 := Lib.hid ((hm5.mono (T := ab :: fp (.slice va acc.length vc)) (fun t ht => .inl (List.mem_cons_of_mem _ ht))).setCell (p := ⟨ab, 1, none⟩) (.inl (by simp)) (.slice va5 (acc.length + 1) vc5)); clear hown5 hm5 hf5))
    all_goals (
      go_wp2_with fail
      go_end0
      refine ⟨rfl, ⟨va5, vc5, HG5.out⟩, H3.out.new hL MR5.out (fun t ht => ?_)⟩
      rcases List.mem_cons.1 ht with rfl | ht
      · exact HA4.out.abn
      · exact (HA4.out.new t ht).1)
theorem valV_size (t : Va.Val) : (valV t).size = 3 := rfl
theorem valV_one (t : Va.Val) : ∀ u ∈ (valV t).toList, u.oneCell' = true := by
  intro u hu
  simp [valV] at hu
  rcases hu with rfl | rfl | rfl <;> rfl
theorem Tryz.infoVal : (Tryz.prog.info? 42).map (fun i => (i.zero, i.size, i.bytes)) = some (some (.agg #[Value.int IntKind.i64 0, Value.int IntKind.i64 0, Value.string { data := #[] }]), 3, 32) := by kernel_rfl
def AInvV (x : Value) (w0 : World) (b ab rb : Nat) (acc : List Va.Val) (W : World) : Prop := ∃ va vc, AI 42 3 valV 64 85 x [] w0 b ab rb acc W va vc
set_option maxHeartbeats 2000000 in
theorem fact1_any (b : Nat) (ra : Option Addr) (rc : Nat) (f : Value) (v : Sy.Env) (x : Value) (w0 : World) (ab rb : Nat) (acc : List Va.Val) (j : Nat) (w : World) (hI : AInvV x w0 b ab rb acc w) (h : RdP w b ra rc f v j) (hL : RdL b ra rc f v w0.heap.size) (hv : EnvOk v) (hj : j ≤ 65536) (hn : acc.length ≤ 65537) :
    Calls Tryz.prog 92 #[.pointer (some ⟨ab, 0, none⟩), .pointer (some ⟨rb, 0, none⟩)] w (ORes b ra rc f v (Sy.value v j) acc (AInvV x w0 b ab rb) (fun w' => Mod [b] w0 w')) := by
  obtain ⟨i0, hinf, hz0, hz1, hz2⟩ := info_parts Tryz.infoVal
  obtain ⟨va, vc, hA⟩ := hI
  have HT := Lib.hid (fun w h => value_any b ra rc f v j w h hv (by omega))
  have D1 : Hid (w.drew.cell? ⟨ab, 1, none⟩ = some (.slice va acc.length vc) ∧ w.drew.cell? ⟨rb, 0, none⟩ = some (.pointer (some ⟨b, 0, none⟩))) := Lib.hid ⟨(cell_at hA.box 1).trans (by simp), cell_at hA.rbx 0⟩
  have HA := Lib.hid hA; have HH := Lib.hid h
  clear hA h
  generalize Sy.value v j = r at *
  cases r with
  | err g =>
    go_enter Tryz.func92, Tryz.ntmps92
    go_wp2_with fail
    refine wp_region_held_drew (S := (fun w' : World => w'.cell? ⟨ab, 1, none⟩ = some (.slice va acc.length vc) ∧ w'.cell? ⟨rb, 0, none⟩ = some (.pointer (some ⟨b, 0, none⟩)))) (by kernel_rfl) (by (try dsimp only); exact D1.out) (fun hHeld => ?_)
    refine wpAnyH_take (i := 0) (oi := ?_) (v := ?_) ?_ ?_ ?_ ?_ ?_ ?_ (by assumption) ?_
    rotate_left 2
    · (simp only [List.getElem?_toArray, List.getElem?_cons_succ, List.getElem?_cons_zero]) <;> rfl
    · kernel_rfl
    · kernel_rfl
    · kernel_rfl
    rotate_left 1
    · refine Or.inl ⟨by rfl, ?_⟩
      intro w hSw
      (try dsimp only at hSw)
      obtain ⟨hS1, hS2⟩ := hSw
      go_simp
      all_goals with_reducible rfl
    rotate_left 1
    · exact fun _ _ _ h => h
    try simp only [Act.put, List.setIfInBounds_toArray, List.set_cons_zero, List.set_cons_succ]
    refine wpAnyH_take (i := 1) (oi := ?_) (v := ?_) ?_ ?_ ?_ ?_ ?_ ?_ (by assumption) ?_
    rotate_left 2
    · (simp only [List.getElem?_toArray, List.getElem?_cons_succ, List.getElem?_cons_zero]) <;> rfl
    · kernel_rfl
    · kernel_rfl
    · kernel_rfl
    rotate_left 1
    · refine Or.inl ⟨by rfl, ?_⟩
      intro w hSw
      (try dsimp only at hSw)
      obtain ⟨hS1, hS2⟩ := hSw
      go_simp
      all_goals with_reducible rfl
    rotate_left 1
    · exact fun _ _ _ h => h
    try simp only [Act.put, List.setIfInBounds_toArray, List.set_cons_zero, List.set_cons_succ]
    refine wpAnyH_take (i := 2) (oi := ?_) (v := ?_) ?_ ?_ ?_ ?_ ?_ ?_ (by assumption) ?_
    rotate_left 2
    · (simp only [List.getElem?_toArray, List.getElem?_cons_succ, List.getElem?_cons_zero]) <;> rfl
    · kernel_rfl
    · kernel_rfl
    · kernel_rfl
    rotate_left 1
    · refine Or.inl ⟨by rfl, ?_⟩
      intro w hSw
      (try dsimp only at hSw)
      obtain ⟨hS1, hS2⟩ := hSw
      go_simp
      all_goals with_reducible rfl
    rotate_left 1
    · exact fun _ _ _ h => h
    try simp only [Act.put, List.setIfInBounds_toArray, List.set_cons_zero, List.set_cons_succ]
    refine wpAnyH_ready (rs := [3]) (by kernel_rfl) (by simp) ?_
    refine AllReadyH.cons (o := ?_) ?_ ?_ AllReadyH.nil
    rotate_left 1
    · (simp only [List.getElem?_toArray, List.getElem?_cons_succ, List.getElem?_cons_zero]) <;> rfl
    intro K hK
    go_simp
    refine (HT.out w.drew (HH.out.past ((Mod.refl [] w).drew) (by simp))).mono ?_
    rintro e3 w3 ⟨rfl, m3⟩
    have M3 := Lib.hid (((Mod.refl [b] w).drew).trans m3 (by simp))
    clear m3
    unfold stopE
    dsimp only
    clear hK K
    go_wp2_with fail
    exact ⟨rfl, rfl, HA.out.mod.trans M3.out (by simp)⟩
  | ok a k =>
    have q1 := D1.out.1
    have q2 := D1.out.2
    have hbl := HA.out.bl
    have hal := lt_of_block HA.out.box
    go_enter Tryz.func92, Tryz.ntmps92
    go_wp2_with fail
    go_region_law (first
      | (go_simp; refine (HT.out w.drew (HH.out.past ((Mod.refl [] w).drew) (by simp))).mono ?_; rintro e3 w3 ⟨y3, rfl, hy3, h3, m3⟩; unfold valC at hy3; subst hy3; have m03 := (((Mod.refl [b] w).drew).trans m3 (by simp)); have HA3 := Lib.hid (HA.out.keep m03); have q3 := (cell_at HA3.out.box 1); have q4 := (cell_at HA3.out.rbx 0); have HA4 := Lib.hid (HA3.out.keep ((Mod.refl [b] w3).alloc (Obj.cells #[.int .i64 a.k, .int .i64 a.n, .string (Lx.ofS a.s)] 42))); have q6 := (cell_at HA4.out.box 1); have HO3 := Lib.hid HA4.out.row; have HS3 : Hid (Src Tryz.prog 3 62 (.slice (some ⟨w3.heap.size, 0, none⟩) 1 1) 1 (valV a).toList (w3.alloc (Obj.cells #[.int .i64 a.k, .int .i64 a.n, .string (Lx.ofS a.s)] 42))) := Lib.hid (src_one (TS := 62) Tryz.underlying62 (heap_alloc_new w3 (Obj.cells (valV a) 42)) rfl (valV_one a)); have H3 := Lib.hid (h3.past ((Mod.refl [] w3).alloc (Obj.cells #[.int .i64 a.k, .int .i64 a.n, .string (Lx.ofS a.s)] 42)) (by simp)); unfold valV; clear h3 m3 m03)
      | (refine step_append_src _ rfl _ _ 62 62 rfl 42 i0 (.agg #[Value.int IntKind.i64 0, Value.int IntKind.i64 0, Value.string { data := #[] }]) 3 32 Tryz.underlying62 hinf hz0 hz1 hz2 rfl (.slice va acc.length vc) acc.length (rowCells valV acc) rfl HO3.out _ 1 (valV a).toList rfl HS3.out (by unfold maxLen; omega) (by omega) ?_; intro v5 w5 hown5 hm5 hf5; obtain ⟨va5, vc5, rfl⟩ := owns_slice hown5; have HG5 := Lib.hid (HA4.out.grow hm5 hown5 hf5); have q5 := (hm5.cell (cell_at HA4.out.box 1) (fun hk => (HA4.out.new ab hk).2.1 rfl)); have f5 : w5.frozen? ⟨ab, 1, none⟩ = false := (World.frozen?_of_block (hm5.block ab (lt_of_block HA4.out.box) (fun hk => (HA4.out.new ab hk).2.1 rfl))).trans (free_at HA4.out.box 1); have MR5 := Lib.hid ((hm5.mono (T := ab :: fp (.slice va acc.length vc)) (fun t ht => .inl (List.mem_cons_of_mem _ ht))).setCell (p := ⟨ab, 1, none⟩) (.inl (by simp)) (.slice va5 (acc.length + 1) vc5)); clear hown5 hm5 hf5))
    all_goals (
      go_wp2_with fail
      go_end0
      refine ⟨rfl, ⟨va5, vc5, HG5.out⟩, H3.out.new hL MR5.out (fun t ht => ?_)⟩
      rcases List.mem_cons.1 ht with rfl | ht
      · exact HA4.out.abn
      · exact (HA4.out.new t ht).1)
end Go.Proofs.YtppigckioalhhaaGreatDoorR
/- THE PARSER: atom, fact. Printed by wip/gen_syatom2.py. -/
namespace Go.Proofs.YtppigckioalhhaaGreatDoorR
open Go.RowKit
set_option linter.unusedVariables false
set_option linter.unusedSimpArgs false
set_option maxRecDepth 100000

theorem cells2 {w : World} {b : Nat} {a0 a1 : Value} {T : TypeId} {fr : Nat × Nat} (h : w.heap[b]? = some (.cells #[a0, a1] T fr)) : w.cell? ⟨b, 0, none⟩ = some a0 ∧ w.cell? ⟨b, 1, none⟩ = some a1 := ⟨cell_at h 0, cell_at h 1⟩
theorem field_text (t : Lx.Tok) (w : World) : (Instr.field 74 (.agg #[.int .i64 (t.kind : Nat), .string (Lx.ofS t.text), .int .i64 (t.vk : Nat), .int .i64 (t.num : Nat), .string (Lx.ofS t.sym), .int .i64 (t.line : Nat), .int .i64 (t.col : Nat)]) 1).run Tryz.prog w = .ok (.string (Lx.ofS t.text)) w := rfl
theorem field_pos (t : Lx.Tok) (w : World) : (Instr.field 74 (.agg #[.int .i64 (t.kind : Nat), .string (Lx.ofS t.text), .int .i64 (t.vk : Nat), .int .i64 (t.num : Nat), .string (Lx.ofS t.sym), .int .i64 (t.line : Nat), .int .i64 (t.col : Nat)]) 3).run Tryz.prog w = .ok (.agg #[.int .i64 (t.line : Nat), .int .i64 (t.col : Nat)]) w := rfl
theorem makeFunc_any (fn : Fn) (first cap : Array Value) (w : World) : (Instr.makeFunc fn first cap).run Tryz.prog w = .ok (.func fn first cap) w := rfl

/-- an atom in memory, newer than n -/
def valA (n : Nat) : Pr.Atom → World → Value → Prop := fun a w x => ∃ u, x = .agg #[.string a.rel, u] ∧ RowB (fun k => n ≤ k) w 5 tmV a.terms u
set_option maxHeartbeats 2000000 in
theorem atom_any (b : Nat) (ra : Option Addr) (rc : Nat) (f : Value) (v : Sy.Env) (i : Nat) (w : World) (h : RdP w b ra rc f v i) (hv : EnvOk v) (hi : i ≤ v.ws.length) :
    Calls Tryz.prog 46 #[.pointer (some ⟨b, 0, none⟩)] w (PRes b ra rc f v (Sy.atom v i) (valA w.heap.size) w) := by
  have hlen := hv.len
  have mA := ((Mod.refl [] w).alloc (Obj.cells #[Value.pointer (some ⟨b, 0, none⟩)] 85)).alloc (Obj.cells #[Value.string { data := #[] }, Value.slice none 0 0] 40)
  have rA := ((Mod.refl [] (w.alloc (Obj.cells #[Value.pointer (some ⟨b, 0, none⟩)] 85))).alloc (Obj.cells #[Value.string { data := #[] }, Value.slice none 0 0] 40)).at (heap_alloc_new w (Obj.cells #[Value.pointer (some ⟨b, 0, none⟩)] 85)) (by simp)
  have eA := alloc_at (w0 := w.alloc (Obj.cells #[Value.pointer (some ⟨b, 0, none⟩)] 85)) (n := w.heap.size + 1) (Obj.cells #[Value.string { data := #[] }, Value.slice none 0 0] 40) (by simp)
  have hA := h.past mA (by simp)
  have HN := Lib.hid (name_any b ra rc f v i _ hA hv (by omega))
  have hN1 := Sy.adv_name v i
  have HR : Hid (Sy.atom v i = (Sy.name v i).bind fun t j => (Sy.must v [40] j).bind fun _ j => (Sy.list v [41] (Sy.term v) j).bind fun l j => .ok ⟨Sy.txt t.text, l⟩ j) := Lib.hid rfl
  have HLo := Lib.hid h.low
  have hbl := h.lt
  have RA := Lib.hid rA; have EA := Lib.hid eA; have MA := Lib.hid mA
  have hmf := makeFunc_any
  clear h hA eA mA rA
  generalize Sy.name v i = p at *
  generalize hq : Sy.atom v i = q at *
  clear hq
  go_enter Tryz.func46, Tryz.ntmps46
  go_upto_region 1 with fail
  have zA : ((w.alloc (Obj.cells #[Value.pointer (some ⟨b, 0, none⟩)] 85)).alloc (Obj.cells #[Value.string { data := #[] }, Value.slice none 0 0] 40)).heap.size = w.heap.size + 2 := by simp
  generalize (w.alloc (Obj.cells #[Value.pointer (some ⟨b, 0, none⟩)] 85)).alloc (Obj.cells #[Value.string { data := #[] }, Value.slice none 0 0] 40) = wA at *
  have r0 := cell_at RA.out 0
  simp only [List.getElem?_toArray, List.getElem?_cons_zero] at r0
  have hnb : w.heap.size ∉ [b] := by simp; omega
  have hnb1 : w.heap.size + 1 ∉ [b] := by simp; omega
  cases p with
  | err g =>
    have hq : q = .err g := HR.out
    subst hq
    clear HR hN1
    go_wp2_with fail
    refine HN.out.mono ?_
    rintro e1 w1 ⟨rfl, m1⟩
    have M1 := Lib.hid ((MA.out.mono (T := [b]) (by simp)).trans m1 (by simp))
    clear m1
    unfold stopE
    go_wp2_with fail
    exact ⟨rfl, rfl, M1.out⟩
  | ok t j =>
    have hj := hN1 t j hi rfl
    have HR2 : Hid (q = (Sy.must v [40] j).bind fun _ j => (Sy.list v [41] (Sy.term v) j).bind fun l j => .ok ⟨Sy.txt t.text, l⟩ j) := Lib.hid HR.out
    clear HR hN1
    have HMu := Lib.hid (fun w h => must_any b ra rc f v j [40] { data := #[40] } w h hv (by omega) rfl (by decide))
    have hM1 := Sy.adv_must v [40] j
    generalize Sy.must v [40] j = p2 at *
    go_wp2_with fail
    refine HN.out.mono ?_
    rintro e1 w1 ⟨x1, rfl, hx1, h1, m1⟩
    unfold valT at hx1
    subst hx1
    have z1 := m1.size
    have M1 := Lib.hid ((MA.out.mono (T := [b]) (by simp)).trans m1 (by simp)); have R1 := Lib.hid (m1.at RA.out hnb); have E1 := Lib.hid (m1.at EA.out hnb1); have H1 := Lib.hid h1
    clear m1 h1 r0 HN
    have hfd := fun w => field_text t w
    unfold tokC
    have mB := (Mod.refl [] w1).alloc (Obj.cells #[Value.string (Lx.ofS t.text), Value.slice none 0 0] 40)
    have bB := heap_alloc_new w1 (Obj.cells #[Value.string (Lx.ofS t.text), Value.slice none 0 0] 40)
    have HB := Lib.hid (H1.out.past mB (by simp)); have RB := Lib.hid (mB.at R1.out (by simp)); have EB := Lib.hid (mB.at E1.out (by simp)); have BB := Lib.hid bB; have MB := Lib.hid mB
    have zB : (w1.alloc (Obj.cells #[Value.string (Lx.ofS t.text), Value.slice none 0 0] 40)).heap.size = w1.heap.size + 1 := by simp
    clear mB bB
    go_upto_region 2 with fail
    clear hfd
    generalize w1.alloc (Obj.cells #[Value.string (Lx.ofS t.text), Value.slice none 0 0] 40) = wB at *
    have r0 := cell_at RB.out 0
    simp only [List.getElem?_toArray, List.getElem?_cons_zero] at r0
    cases p2 with
    | err g =>
      have hq : q = .err g := HR2.out
      subst hq
      clear HR2 hM1
      go_wp2_with fail
      refine (HMu.out wB HB.out).mono ?_
      rintro e2 w2 ⟨rfl, m2⟩
      have M2 := Lib.hid ((M1.out.trans MB.out (by simp)).trans m2 (by simp))
      clear m2
      unfold stopE
      go_wp2_with fail
      exact ⟨rfl, rfl, M2.out⟩
    | ok u k =>
      have hk := hM1 u k hj.2 rfl
      have HR3 : Hid (q = (Sy.list v [41] (Sy.term v) k).bind fun l j => .ok ⟨Sy.txt t.text, l⟩ j) := Lib.hid HR2.out
      clear HR2 hM1
      go_wp2_with fail
      refine (HMu.out wB HB.out).mono ?_
      rintro e2 w2 ⟨x2, rfl, hx2, h2, m2⟩
      unfold valU at hx2
      subst hx2
      have z2 := m2.size
      have hnb2 : w1.heap.size ∉ [b] := by simp; omega
      have R2 := Lib.hid (m2.at RB.out hnb); have E2 := Lib.hid (m2.at EB.out hnb1); have B2 := Lib.hid (m2.at BB.out hnb2); have H2 := Lib.hid h2; have M2 := Lib.hid ((MB.out.mono (T := [b]) (by simp)).trans m2 (by simp))
      clear m2 h2 r0
      have r0 := cell_at R2.out 0
      simp only [List.getElem?_toArray, List.getElem?_cons_zero] at r0
      have hI : AInvT (.string (Lx.ofS t.text)) w1 b w1.heap.size w.heap.size [] w2 :=
        ⟨none, 0, B2.out, World.ownsRow_nil _ _ _ _, by simp [fp], R2.out, Nat.le_refl _, by simp at hnb; omega, by omega, by omega, M2.out⟩
      have hLL : RdL b ra rc f v w1.heap.size := ⟨by have := HLo.out.1; omega, fun k hk => by have := HLo.out.2 k hk; omega⟩
      have HLs := Lib.hid (list_any b ra rc f v [41] { data := #[41] } rfl (by decide) (Sy.term v) (Sy.adv_term v) 88 #[.pointer (some ⟨w1.heap.size, 0, none⟩), .pointer (some ⟨w.heap.size, 0, none⟩)]
        (enter_of Tryz.func88 (by kernel_rfl) rfl) (AInvT (.string (Lx.ofS t.text)) w1 b w1.heap.size w.heap.size) (fun w' => Mod [b] w1 w')
        (fun acc j W hI h hj hn => atom1_any b ra rc f v _ w1 _ _ acc j W hI h hLL hv hj hn) (fun acc W W' hI hm => by obtain ⟨va, vc, hh⟩ := hI; exact ⟨va, vc, hh.keep hm⟩) (fun acc W hI => by obtain ⟨va, vc, hh⟩ := hI; exact hh.mod)
        k w2 H2.out hI hv hk.2)
      clear hI
      generalize Sy.list v [41] (Sy.term v) k = p3 at *
      cases p3 with
      | err g =>
        have hq : q = .err g := HR3.out
        subst hq
        clear HR3
        go_wp2_with fail
        refine HLs.out.mono ?_
        rintro e3 w3 ⟨rfl, m3⟩
        have M3 := Lib.hid (M1.out.trans m3 (by simp))
        clear m3
        unfold stopE
        go_wp2_with fail
        exact ⟨rfl, rfl, M3.out⟩
      | ok l n =>
        have hq : q = .ok ⟨Sy.txt t.text, l⟩ n := HR3.out
        subst hq
        clear HR3
        go_wp2_with fail
        refine HLs.out.mono ?_
        rintro e3 w3 ⟨rfl, ⟨va, vc, hI⟩, h3⟩
        have HI := Lib.hid hI; have H3 := Lib.hid h3; have E3 := Lib.hid (hI.mod.at E1.out hnb1)
        have B3 : Hid (w3.heap[w1.heap.size]? = some (.cells #[.string (Lx.ofS t.text), .slice va l.length vc] 40 (0, 0))) := Lib.hid (by have := hI.box; simpa using this)
        obtain ⟨x0, x1⟩ := cells2 B3.out
        obtain ⟨y0, y1⟩ := cells2 E3.out
        have fA : ∀ j, w3.frozen? ⟨w.heap.size + 1, j, none⟩ = false := fun j => free_at E3.out j
        clear hI h3 r0
        go_wp2_with fail
        have mR := setCs_mod (w.heap.size + 1) [.string (Lx.ofS t.text), .slice va l.length vc] 0 w3
        refine bodyPost_ret (results_cell_row rfl _ _ _ _ _ _ _ rfl (setCs_row (vs := [.string (Lx.ofS t.text), .slice va l.length vc]) E3.out rfl) Tryz.underlying40 rfl (by kernel_rfl)) rfl ⟨_, rfl, ⟨_, rfl, ?_⟩, H3.out.new HLo.out mR (by simp), (M1.out.trans HI.out.mod (by simp)).trans mR (by simp)⟩
        refine (RowB.of_owns (F := fun k => w1.heap.size ≤ k) tmV_size HI.out.row (fun k hk => (HI.out.new k hk).1)).keep mR (fun s hs => ?_) |>.mono (fun k hk _ => by omega)
        rw [List.mem_singleton] at hs
        omega

/-- a fact in memory, newer than n -/
def valF (n : Nat) : (ByteArray × List Va.Val) → World → Value → Prop := fun a w x => ∃ u, x = .agg #[.string a.1, u] ∧ RowB (fun k => n ≤ k) w 3 valV a.2 u
set_option maxHeartbeats 2000000 in
theorem fact_any (b : Nat) (ra : Option Addr) (rc : Nat) (f : Value) (v : Sy.Env) (i : Nat) (w : World) (h : RdP w b ra rc f v i) (hv : EnvOk v) (hi : i ≤ v.ws.length) :
    Calls Tryz.prog 49 #[.pointer (some ⟨b, 0, none⟩)] w (PRes b ra rc f v (Sy.fact v i) (valF w.heap.size) w) := by
  have hlen := hv.len
  have mA := ((Mod.refl [] w).alloc (Obj.cells #[Value.pointer (some ⟨b, 0, none⟩)] 85)).alloc (Obj.cells #[Value.string { data := #[] }, Value.slice none 0 0] 64)
  have rA := ((Mod.refl [] (w.alloc (Obj.cells #[Value.pointer (some ⟨b, 0, none⟩)] 85))).alloc (Obj.cells #[Value.string { data := #[] }, Value.slice none 0 0] 64)).at (heap_alloc_new w (Obj.cells #[Value.pointer (some ⟨b, 0, none⟩)] 85)) (by simp)
  have eA := alloc_at (w0 := w.alloc (Obj.cells #[Value.pointer (some ⟨b, 0, none⟩)] 85)) (n := w.heap.size + 1) (Obj.cells #[Value.string { data := #[] }, Value.slice none 0 0] 64) (by simp)
  have hA := h.past mA (by simp)
  have HN := Lib.hid (name_any b ra rc f v i _ hA hv (by omega))
  have hN1 := Sy.adv_name v i
  have HR : Hid (Sy.fact v i = (Sy.name v i).bind fun t j => (Sy.must v [40] j).bind fun _ j => (Sy.list v [41] (Sy.value v) j).bind fun l j => .ok (Sy.txt t.text, l) j) := Lib.hid rfl
  have HLo := Lib.hid h.low
  have hbl := h.lt
  have RA := Lib.hid rA; have EA := Lib.hid eA; have MA := Lib.hid mA
  have hmf := makeFunc_any
  clear h hA eA mA rA
  generalize Sy.name v i = p at *
  generalize hq : Sy.fact v i = q at *
  clear hq
  go_enter Tryz.func49, Tryz.ntmps49
  go_upto_region 1 with fail
  have zA : ((w.alloc (Obj.cells #[Value.pointer (some ⟨b, 0, none⟩)] 85)).alloc (Obj.cells #[Value.string { data := #[] }, Value.slice none 0 0] 64)).heap.size = w.heap.size + 2 := by simp
  generalize (w.alloc (Obj.cells #[Value.pointer (some ⟨b, 0, none⟩)] 85)).alloc (Obj.cells #[Value.string { data := #[] }, Value.slice none 0 0] 64) = wA at *
  have r0 := cell_at RA.out 0
  simp only [List.getElem?_toArray, List.getElem?_cons_zero] at r0
  have hnb : w.heap.size ∉ [b] := by simp; omega
  have hnb1 : w.heap.size + 1 ∉ [b] := by simp; omega
  cases p with
  | err g =>
    have hq : q = .err g := HR.out
    subst hq
    clear HR hN1
    go_wp2_with fail
    refine HN.out.mono ?_
    rintro e1 w1 ⟨rfl, m1⟩
    have M1 := Lib.hid ((MA.out.mono (T := [b]) (by simp)).trans m1 (by simp))
    clear m1
    unfold stopE
    go_wp2_with fail
    exact ⟨rfl, rfl, M1.out⟩
  | ok t j =>
    have hj := hN1 t j hi rfl
    have HR2 : Hid (q = (Sy.must v [40] j).bind fun _ j => (Sy.list v [41] (Sy.value v) j).bind fun l j => .ok (Sy.txt t.text, l) j) := Lib.hid HR.out
    clear HR hN1
    have HMu := Lib.hid (fun w h => must_any b ra rc f v j [40] { data := #[40] } w h hv (by omega) rfl (by decide))
    have hM1 := Sy.adv_must v [40] j
    generalize Sy.must v [40] j = p2 at *
    go_wp2_with fail
    refine HN.out.mono ?_
    rintro e1 w1 ⟨x1, rfl, hx1, h1, m1⟩
    unfold valT at hx1
    subst hx1
    have z1 := m1.size
    have M1 := Lib.hid ((MA.out.mono (T := [b]) (by simp)).trans m1 (by simp)); have R1 := Lib.hid (m1.at RA.out hnb); have E1 := Lib.hid (m1.at EA.out hnb1); have H1 := Lib.hid h1
    clear m1 h1 r0 HN
    have hfd := fun w => field_text t w
    unfold tokC
    have mB := (Mod.refl [] w1).alloc (Obj.cells #[Value.string (Lx.ofS t.text), Value.slice none 0 0] 64)
    have bB := heap_alloc_new w1 (Obj.cells #[Value.string (Lx.ofS t.text), Value.slice none 0 0] 64)
    have HB := Lib.hid (H1.out.past mB (by simp)); have RB := Lib.hid (mB.at R1.out (by simp)); have EB := Lib.hid (mB.at E1.out (by simp)); have BB := Lib.hid bB; have MB := Lib.hid mB
    have zB : (w1.alloc (Obj.cells #[Value.string (Lx.ofS t.text), Value.slice none 0 0] 64)).heap.size = w1.heap.size + 1 := by simp
    clear mB bB
    go_upto_region 2 with fail
    clear hfd
    generalize w1.alloc (Obj.cells #[Value.string (Lx.ofS t.text), Value.slice none 0 0] 64) = wB at *
    have r0 := cell_at RB.out 0
    simp only [List.getElem?_toArray, List.getElem?_cons_zero] at r0
    cases p2 with
    | err g =>
      have hq : q = .err g := HR2.out
      subst hq
      clear HR2 hM1
      go_wp2_with fail
      refine (HMu.out wB HB.out).mono ?_
      rintro e2 w2 ⟨rfl, m2⟩
      have M2 := Lib.hid ((M1.out.trans MB.out (by simp)).trans m2 (by simp))
      clear m2
      unfold stopE
      go_wp2_with fail
      exact ⟨rfl, rfl, M2.out⟩
    | ok u k =>
      have hk := hM1 u k hj.2 rfl
      have HR3 : Hid (q = (Sy.list v [41] (Sy.value v) k).bind fun l j => .ok (Sy.txt t.text, l) j) := Lib.hid HR2.out
      clear HR2 hM1
      go_wp2_with fail
      refine (HMu.out wB HB.out).mono ?_
      rintro e2 w2 ⟨x2, rfl, hx2, h2, m2⟩
      unfold valU at hx2
      subst hx2
      have z2 := m2.size
      have hnb2 : w1.heap.size ∉ [b] := by simp; omega
      have R2 := Lib.hid (m2.at RB.out hnb); have E2 := Lib.hid (m2.at EB.out hnb1); have B2 := Lib.hid (m2.at BB.out hnb2); have H2 := Lib.hid h2; have M2 := Lib.hid ((MB.out.mono (T := [b]) (by simp)).trans m2 (by simp))
      clear m2 h2 r0
      have r0 := cell_at R2.out 0
      simp only [List.getElem?_toArray, List.getElem?_cons_zero] at r0
      have hI : AInvV (.string (Lx.ofS t.text)) w1 b w1.heap.size w.heap.size [] w2 :=
        ⟨none, 0, B2.out, World.ownsRow_nil _ _ _ _, by simp [fp], R2.out, Nat.le_refl _, by simp at hnb; omega, by omega, by omega, M2.out⟩
      have hLL : RdL b ra rc f v w1.heap.size := ⟨by have := HLo.out.1; omega, fun k hk => by have := HLo.out.2 k hk; omega⟩
      have HLs := Lib.hid (list_any b ra rc f v [41] { data := #[41] } rfl (by decide) (Sy.value v) (Sy.adv_value v) 92 #[.pointer (some ⟨w1.heap.size, 0, none⟩), .pointer (some ⟨w.heap.size, 0, none⟩)]
        (enter_of Tryz.func92 (by kernel_rfl) rfl) (AInvV (.string (Lx.ofS t.text)) w1 b w1.heap.size w.heap.size) (fun w' => Mod [b] w1 w')
        (fun acc j W hI h hj hn => fact1_any b ra rc f v _ w1 _ _ acc j W hI h hLL hv hj hn) (fun acc W W' hI hm => by obtain ⟨va, vc, hh⟩ := hI; exact ⟨va, vc, hh.keep hm⟩) (fun acc W hI => by obtain ⟨va, vc, hh⟩ := hI; exact hh.mod)
        k w2 H2.out hI hv hk.2)
      clear hI
      generalize Sy.list v [41] (Sy.value v) k = p3 at *
      cases p3 with
      | err g =>
        have hq : q = .err g := HR3.out
        subst hq
        clear HR3
        go_wp2_with fail
        refine HLs.out.mono ?_
        rintro e3 w3 ⟨rfl, m3⟩
        have M3 := Lib.hid (M1.out.trans m3 (by simp))
        clear m3
        unfold stopE
        go_wp2_with fail
        exact ⟨rfl, rfl, M3.out⟩
      | ok l n =>
        have hq : q = .ok (Sy.txt t.text, l) n := HR3.out
        subst hq
        clear HR3
        go_wp2_with fail
        refine HLs.out.mono ?_
        rintro e3 w3 ⟨rfl, ⟨va, vc, hI⟩, h3⟩
        have HI := Lib.hid hI; have H3 := Lib.hid h3; have E3 := Lib.hid (hI.mod.at E1.out hnb1)
        have B3 : Hid (w3.heap[w1.heap.size]? = some (.cells #[.string (Lx.ofS t.text), .slice va l.length vc] 64 (0, 0))) := Lib.hid (by have := hI.box; simpa using this)
        obtain ⟨x0, x1⟩ := cells2 B3.out
        obtain ⟨y0, y1⟩ := cells2 E3.out
        have fA : ∀ j, w3.frozen? ⟨w.heap.size + 1, j, none⟩ = false := fun j => free_at E3.out j
        clear hI h3 r0
        go_wp2_with fail
        have mR := setCs_mod (w.heap.size + 1) [.string (Lx.ofS t.text), .slice va l.length vc] 0 w3
        refine bodyPost_ret (results_cell_row rfl _ _ _ _ _ _ _ rfl (setCs_row (vs := [.string (Lx.ofS t.text), .slice va l.length vc]) E3.out rfl) Tryz.underlying64 rfl (by kernel_rfl)) rfl ⟨_, rfl, ⟨_, rfl, ?_⟩, H3.out.new HLo.out mR (by simp), (M1.out.trans HI.out.mod (by simp)).trans mR (by simp)⟩
        refine (RowB.of_owns (F := fun k => w1.heap.size ≤ k) valV_size HI.out.row (fun k hk => (HI.out.new k hk).1)).keep mR (fun s hs => ?_) |>.mono (fun k hk _ => by omega)
        rw [List.mem_singleton] at hs
        omega
end Go.Proofs.YtppigckioalhhaaGreatDoorR
/- PLAIN: how deep an expression is that is read. -/
namespace Go.Proofs.YtppigckioalhhaaGreatDoorR.Sy
open Lx (Tok)
open Pr (Ex)
set_option linter.unusedVariables false

theorem chain_deep {v : Env} {line : Nat} {sub : Nat → Nat → PR (Ex × Nat)} {above : Nat} (hs : ∀ ab i r j, ab ≤ 16 → sub ab i = .ok r j → ab + r.2 ≤ 16) : ∀ (n : Nat) (e : Ex) (d i : Nat) (r : Ex × Nat) (j : Nat), above + d ≤ 16 → chainF v line sub above n e d i = .ok r j → above + r.2 ≤ 16
  | 0, e, d, i, r, j, hd, h => by cases h
  | n + 1, e, d, i, r, j, hd, h => by
    rw [chainF] at h
    split at h
    · cases h; exact hd
    · split at h
      · cases h
      · obtain ⟨x, m, h1, h2⟩ := bind_ok h
        have := hs (above + 1) (i + 1) x m (by omega) h1
        exact chain_deep hs n _ _ m r j (by omega) h2
theorem opd_none {v : Env} {i : Nat} (h : operand (v.tk i) = false) : (v.tk i).kind ≠ 2 ∧ constant v i = none ∧ sign (v.tk i) [45] = false ∧ sign (v.tk i) [40] = false := by
  unfold operand at h
  simp only [Bool.or_eq_false_iff, decide_eq_false_iff_not] at h
  obtain ⟨h2, h3, h4, hp, h5, h6⟩ := h
  refine ⟨h2, ?_, h5, h6⟩
  unfold constant
  rw [if_neg (by omega), if_neg (by rw [hp]; simp), if_neg (by rw [h5]; simp)]
theorem un17 {v : Env} {n i : Nat} (above : Nat) (h : operand (v.tk i) = false) : ∃ g, exprF v n 3 above i = .err g := by
  cases n with
  | zero => exact ⟨_, rfl⟩
  | succ n =>
    obtain ⟨h2, hc, h5, h6⟩ := opd_none h
    refine ⟨v.give 40 i, ?_⟩
    rw [exprF, if_pos rfl, if_neg h2, hc]
    simp only
    rw [if_neg (by rw [h5]; simp), if_neg (by rw [h6]; simp)]
    unfold must
    rw [if_neg (by rw [h6]; simp)]
    rfl
theorem expr_deep (v : Env) : ∀ (n line above i : Nat) (r : Ex × Nat) (j : Nat), above ≤ 16 → exprF v n line above i = .ok r j → above + r.2 ≤ 16
  | 0, line, above, i, r, j, ha, h => by cases h
  | n + 1, line, above, i, r, j, ha, h => by
    rw [exprF] at h
    split at h
    · split at h
      · cases h; exact ha
      · split at h
        · cases h; exact ha
        · split at h
          · split at h
            · cases h
            · rename_i hn
              obtain ⟨x, m, h1, h2⟩ := bind_ok h
              cases h2
              by_cases h16 : above = 16
              · have ho : operand (v.tk (i + 1)) = false := by
                  cases e : operand (v.tk (i + 1)) with
                  | false => rfl
                  | true => exact absurd ⟨by omega, e⟩ hn
                obtain ⟨g, hg⟩ := un17 (n := n) (above + 1) ho
                rw [hg] at h1
                cases h1
              · have := expr_deep v n 3 (above + 1) (i + 1) x j (by omega) h1
                show above + (x.2 + 1) ≤ 16
                omega
          · split at h
            · cases h
            · rename_i hn
              obtain ⟨_, m, h1, h2⟩ := bind_ok h
              obtain ⟨x, m2, h3, h4⟩ := bind_ok h2
              obtain ⟨_, m3, h5, h6⟩ := bind_ok h4
              cases h6
              have hs : sign (v.tk i) [40] = true := by
                unfold must at h1
                split at h1
                · assumption
                · cases h1
              have := expr_deep v n 1 (above + 1) m x m2 (by
                by_cases h16 : 16 ≤ above
                · exact absurd ⟨hs, h16⟩ hn
                · omega) h3
              show above + (x.2 + 1) ≤ 16
              omega
    · obtain ⟨x, m, h1, h2⟩ := bind_ok h
      have := expr_deep v n (line + 1) above i x m ha h1
      exact chain_deep (fun ab i r j hab hr => expr_deep v n (line + 1) ab i r j hab hr) _ _ _ m r j this h2
end Go.Proofs.YtppigckioalhhaaGreatDoorR.Sy
/- THE PARSER: unary. Printed by wip/gen_syun.py. -/
namespace Go.Proofs.YtppigckioalhhaaGreatDoorR
open Go.RowKit
set_option linter.unusedVariables false
set_option linter.unusedSimpArgs false
set_option maxRecDepth 100000

theorem cells7 {w : World} {b : Nat} {a0 a1 a2 a3 a4 a5 a6 : Value} {T : TypeId} {fr : Nat × Nat} (h : w.heap[b]? = some (.cells #[a0, a1, a2, a3, a4, a5, a6] T fr)) :
    w.cell? ⟨b, 0, none⟩ = some a0 ∧ w.cell? ⟨b, 1, none⟩ = some a1 ∧ w.cell? ⟨b, 2, none⟩ = some a2 ∧ w.cell? ⟨b, 3, none⟩ = some a3 ∧ w.cell? ⟨b, 4, none⟩ = some a4 ∧ w.cell? ⟨b, 5, none⟩ = some a5 ∧ w.cell? ⟨b, 6, none⟩ = some a6 :=
  ⟨cell_at h 0, cell_at h 1, cell_at h 2, cell_at h 3, cell_at h 4, cell_at h 5, cell_at h 6⟩
theorem Tryz.sizeEx : (Tryz.prog.info? 45).map (·.size) = some 7 := by kernel_rfl
theorem res_ex {fn : Func} {p u : Tmp} (h : fn.results = #[.cell p 45, .tmp u]) (tmps : Array Value) (w : World) (b : Nat) (cs : Array Value) (T : TypeId) (fr : Nat × Nat) (x : Value)
    (hp : tmps.getD p undef = .pointer (some ⟨b, 0, none⟩)) (hx : tmps.getD u undef = x) (hg : w.heap[b]? = some (.cells cs T fr)) (hc : cs.size = 7) :
    (results fn tmps).run Tryz.prog w = .ok (.tuple #[.agg cs, x]) w := by
  have hl := run_loadVar_row (P := Tryz.prog) w b T 45 cs fr _ hg Tryz.underlying45 rfl (by rw [Tryz.sizeEx, hc])
  rw [results_cell_tmp h, hp, hx]
  simp [asAddr, hl]
/-- an expression and its depth, newer than n -/
def valX (n : Nat) : Pr.Ex × Nat → World → Value → Prop := fun r w x => ∃ u, x = .tuple #[.agg (exV r.1 u), .int .i64 (r.2 : Nat)] ∧ EB (fun k => n ≤ k) w r.1 u
def ExC (b : Nat) (ra : Option Addr) (rc : Nat) (f : Value) (v : Sy.Env) (k : Nat) : Prop := ∀ (line above i : Nat) (w : World), RdP w b ra rc f v i → i ≤ v.ws.length → 1 ≤ line → line ≤ 3 → above ≤ 16 → 3 * (17 - above) + (3 - line) + 1 ≤ k →
  Calls Tryz.prog 75 #[.pointer (some ⟨b, 0, none⟩), .int .i64 (line : Nat), .int .i64 (above : Nat)] w (PRes b ra rc f v (Sy.exprF v k line above i) (valX w.heap.size) w)
def UnC (b : Nat) (ra : Option Addr) (rc : Nat) (f : Value) (v : Sy.Env) (k : Nat) : Prop := ∀ (above i : Nat) (w : World), RdP w b ra rc f v i → i ≤ v.ws.length → (above ≤ 16 ∨ (above = 17 ∧ Sy.operand (v.tk i) = false)) → 3 * (17 - above) + 1 ≤ k →
  Calls Tryz.prog 108 #[.pointer (some ⟨b, 0, none⟩), .int .i64 (above : Nat)] w (PRes b ra rc f v (Sy.exprF v k 3 above i) (valX w.heap.size) w)
def unRest (v : Sy.Env) (k above i : Nat) (rs rp : Bool) (pm : Sy.PR Unit) : Option (Va.Val × Nat) → Sy.PR (Pr.Ex × Nat)
  | some (c, n) => .ok (.mk 2 (Sy.txt []) c 0 [], 0) (i + n)
  | none =>
          if rs = true then
            if 16 ≤ above ∧ Sy.operand (v.tk (i + 1)) = true then .err (v.give 41 (i + 1))
            else (Sy.exprF v k 3 (above + 1) (i + 1)).bind fun r j => .ok (.mk 4 (Sy.txt []) Va.zero 6 [r.1], r.2 + 1) j
          else if rp = true ∧ 16 ≤ above then .err (v.give 41 i)
          else pm.bind fun _ j => (Sy.exprF v k 1 (above + 1) j).bind fun r j => (Sy.must v [41] j).bind fun _ j => .ok (r.1, r.2 + 1) j
theorem exprF_un (v : Sy.Env) (k above i : Nat) : Sy.exprF v (k + 1) 3 above i =
      if (v.tk i).kind = 2 then .ok (.mk 1 (Sy.txt (v.tk i).text) Va.zero 0 [], 0) (i + 1)
      else unRest v k above i (Sy.sign (v.tk i) [45]) (Sy.sign (v.tk i) [40]) (Sy.must v [40] i) (Sy.constant v i) := by
  rw [Sy.exprF, if_pos rfl]
  unfold unRest
  cases Sy.constant v i <;> rfl

set_option maxHeartbeats 8000000 in
theorem un_of (b : Nat) (ra : Option Addr) (rc : Nat) (f : Value) (v : Sy.Env) (k : Nat) (hv : EnvOk v) (hU : UnC b ra rc f v k) (hE : ExC b ra rc f v k) : UnC b ra rc f v (k + 1) := by
  intro above i w h hi ha hk
  have hlen := hv.len
  have mA := (Mod.refl [] w).alloc (Obj.cells #[Value.int IntKind.i64 0, Value.string { data := #[] }, Value.int IntKind.i64 0, Value.int IntKind.i64 0, Value.string { data := #[] }, Value.int IntKind.i64 0, Value.slice none 0 0] 45)
  have hA := h.past mA (by simp)
  have eA := heap_alloc_new w (Obj.cells #[Value.int IntKind.i64 0, Value.string { data := #[] }, Value.int IntKind.i64 0, Value.int IntKind.i64 0, Value.string { data := #[] }, Value.int IntKind.i64 0, Value.slice none 0 0] 45)
  have HP := Lib.hid (peek0 b ra rc f v i _ hA hv (by omega))
  have HR := Lib.hid (exprF_un v k above i)
  have HCon := Lib.hid (fun w h => constant_any b ra rc f v i w h hv (by omega))
  have HMy := Lib.hid (fun w h => may_any b ra rc f v i [45] { data := #[45] } w h hv (by omega) rfl (by decide))
  have HIs := Lib.hid (fun w h => is_any b ra rc f v i [40] { data := #[40] } w h hv (by omega) rfl (by decide))
  have HMu := Lib.hid (fun w h => must_any b ra rc f v i [40] { data := #[40] } w h hv (by omega) rfl (by decide))
  have HMc := Lib.hid (fun j w h (hj : j ≤ v.ws.length) => must_any b ra rc f v j [41] { data := #[41] } w h hv (by omega) rfl (by decide))
  have hslt := fun h => Sy.sign_lt (v := v) (i := i) (s := [45]) h
  have hmadv := Sy.adv_must v [40] i
  have h17 : above = 17 → (v.tk i).kind ≠ 2 ∧ Sy.constant v i = none ∧ Sy.sign (v.tk i) [45] = false ∧ Sy.sign (v.tk i) [40] = false := fun e => by
    rcases ha with ha | ⟨-, ho⟩
    · omega
    · exact Sy.opd_none ho
  have hms : ∀ a j, Sy.must v [40] i = .ok a j → Sy.sign (v.tk i) [40] = true := fun a j hm => by
    unfold Sy.must at hm
    split at hm
    · assumption
    · cases hm
  have hcadv : ∀ c n, Sy.constant v i = some (c, n) → i + n ≤ v.ws.length := fun c n hc => (Sy.constant_adv hc).2
  have HLo := Lib.hid h.low
  have hbl := h.lt
  have HA := Lib.hid hA; have EA := Lib.hid eA; have MA := Lib.hid mA
  have ha17 : above ≤ 17 := by omega
  clear h hA eA mA ha
  generalize Sy.constant v i = oc at *
  generalize Sy.sign (v.tk i) [45] = rs at *
  generalize Sy.sign (v.tk i) [40] = rp at *
  generalize Sy.must v [40] i = pm at *
  generalize hq : Sy.exprF v (k + 1) 3 above i = q at *
  generalize v.tk i = t at *
  have H17 := Lib.hid h17; have HMS := Lib.hid hms; have HMA := Lib.hid hmadv; have HCA := Lib.hid hcadv; have HSL := Lib.hid hslt
  clear hq h17 hms hmadv hcadv hslt
  go_enter Tryz.func108, Tryz.ntmps108
  go_upto_region 1 with fail
  generalize w.alloc (Obj.cells #[Value.int IntKind.i64 0, Value.string { data := #[] }, Value.int IntKind.i64 0, Value.int IntKind.i64 0, Value.string { data := #[] }, Value.int IntKind.i64 0, Value.slice none 0 0] 45) = wA at *
  go_wp2_with fail
  refine HP.out.mono ?_
  rintro e1 w1 ⟨rfl, m1⟩
  have E1 := Lib.hid (m1.at EA.out (by simp))
  have z1 := lt_of_block E1.out
  have mB := (Mod.refl [] w1).alloc (Obj.cells (tokC t) 74)
  have bB := heap_alloc_new w1 (Obj.cells (tokC t) 74)
  have HB := Lib.hid ((HA.out.past m1 (by simp)).past mB (by simp)); have AB := Lib.hid (mB.at E1.out (by simp)); have BB := Lib.hid bB; have MB := Lib.hid ((MA.out.trans m1 (by simp)).trans mB (by simp))
  have zB : (w1.alloc (Obj.cells (tokC t) 74)).heap.size = w1.heap.size + 1 := by simp
  clear m1 mB bB HP
  unfold tokC at *
  go_upto_region 2 with fail
  generalize w1.alloc (Obj.cells _ 74) = wB at *
  obtain ⟨x0, x1, x2, x3, x4, x5, x6⟩ := tok_cells (t := t) BB.out
  have hnb : w.heap.size ∉ [b] := by simp; omega
  by_cases k2 : t.kind = 2
  · have hq : q = .ok (.mk 1 (Sy.txt t.text) Va.zero 0 [], 0) (i + 1) := by rw [HR.out, if_pos k2]
    subst hq
    have b2 : ((t.kind : Int) == 2) = true := by rw [k2]; rfl
    obtain ⟨c0, c1, c2, c3, c4, c5, fz⟩ := HB.out.cells
    have hT := HB.out.to (i + 1)
    have hnb1 : w1.heap.size ∉ [b] := by simp; omega
    have aC : (wB.setCell ⟨b, 1, none⟩ (.int .i64 ((i : Int) + 1))).heap[w.heap.size]? = _ := hT.2.at AB.out hnb
    have tC : (wB.setCell ⟨b, 1, none⟩ (.int .i64 ((i : Int) + 1))).heap[w1.heap.size]? = _ := hT.2.at BB.out hnb1
    have HC : Hid (RdP (wB.setCell ⟨b, 1, none⟩ (.int .i64 ((i : Int) + 1))) b ra rc f v (i + 1)) := Lib.hid hT.1
    have MC : Hid (Mod [b] w (wB.setCell ⟨b, 1, none⟩ (.int .i64 ((i : Int) + 1)))) := Lib.hid ((MB.out.mono (T := [b]) (by simp)).trans hT.2 (by simp))
    clear hT HR k2
    go_upto_region 4 with fail
    generalize wB.setCell ⟨b, 1, none⟩ (.int .i64 ((i : Int) + 1)) = wC at *
    clear x0 x1 x2 x3 x4 x5 x6 c0 c1 c2 c3 c4 c5 fz
    obtain ⟨x0, x1, x2, x3, x4, x5, x6⟩ := tok_cells (t := t) tC
    obtain ⟨y0, y1, y2, y3, y4, y5, y6⟩ := cells7 aC
    have fA : ∀ j, wC.frozen? ⟨w.heap.size, j, none⟩ = false := fun j => free_at aC j
    have AC := Lib.hid aC
    clear aC tC
    go_wp2_with fail
    have mR := setCs_mod w.heap.size [.int .i64 1, .string (Lx.ofS t.text), .int .i64 0, .int .i64 0, .string { data := #[] }, .int .i64 0, .slice none 0 0] 0 wC
    refine bodyPost_ret (res_ex rfl _ _ _ _ _ _ _ rfl rfl (setCs_row (vs := [.int .i64 1, .string (Lx.ofS t.text), .int .i64 0, .int .i64 0, .string { data := #[] }, .int .i64 0, .slice none 0 0]) AC.out rfl) rfl) rfl ⟨_, rfl, ⟨.slice none 0 0, rfl, .nil⟩, HC.out.new HLo.out mR (by simp), MC.out.trans mR (by simp)⟩
  have b2 : ((t.kind : Int) == 2) = false := by rw [beq_eq_false_iff_ne]; omega
  have HR2 : Hid (q = unRest v k above i rs rp pm oc) := Lib.hid (by rw [HR.out, if_neg k2])
  clear HR k2
  go_wp2_with fail
  refine (HCon.out wB HB.out).mono ?_
  rintro e2 w2 ⟨rfl, h2, m2⟩
  have M2 := Lib.hid ((MB.out.mono (T := [b]) (by simp)).trans m2 (by simp)); have A2 := Lib.hid (m2.at AB.out hnb)
  have z2 := lt_of_block A2.out
  clear x0 x1 x2 x3 x4 x5 x6 m2
  unfold ConV
  cases oc with
  | some cn =>
    obtain ⟨c, n⟩ := cn
    have hq : q = .ok (.mk 2 (Sy.txt []) c 0 [], 0) (i + n) := HR2.out
    subst hq
    have H2 := Lib.hid (show RdP w2 b ra rc f v (i + n) from h2)
    clear h2 HR2
    simp only [Option.map_some, Option.getD_some, Option.isSome_some, valV]
    have mC := (Mod.refl [] w2).alloc (Obj.cells #[Value.int .i64 c.k, Value.int .i64 c.n, Value.string (Lx.ofS c.s)] 42)
    have cC := heap_alloc_new w2 (Obj.cells #[Value.int .i64 c.k, Value.int .i64 c.n, Value.string (Lx.ofS c.s)] 42)
    have aC := mC.at A2.out (by simp)
    have HC := Lib.hid (H2.out.past mC (by simp)); have MC := Lib.hid (M2.out.trans mC (by simp)); have AC := Lib.hid aC
    obtain ⟨x0, x1, x2⟩ := cells3 cC
    obtain ⟨y0, y1, y2, y3, y4, y5, y6⟩ := cells7 aC
    have fA : ∀ j, (w2.alloc (Obj.cells #[Value.int .i64 c.k, Value.int .i64 c.n, Value.string (Lx.ofS c.s)] 42)).frozen? ⟨w.heap.size, j, none⟩ = false := fun j => free_at aC j
    clear mC cC aC
    go_upto_region 7 with fail
    generalize w2.alloc (Obj.cells #[Value.int .i64 c.k, Value.int .i64 c.n, Value.string (Lx.ofS c.s)] 42) = wC at *
    go_wp2_with fail
    have mR := setCs_mod w.heap.size [.int .i64 2, .string { data := #[] }, .int .i64 c.k, .int .i64 c.n, .string (Lx.ofS c.s), .int .i64 0, .slice none 0 0] 0 wC
    refine bodyPost_ret (res_ex rfl _ _ _ _ _ _ _ rfl rfl (setCs_row (vs := [.int .i64 2, .string { data := #[] }, .int .i64 c.k, .int .i64 c.n, .string (Lx.ofS c.s), .int .i64 0, .slice none 0 0]) AC.out rfl) rfl) rfl ⟨_, rfl, ⟨.slice none 0 0, rfl, .nil⟩, HC.out.new HLo.out mR (by simp), MC.out.trans mR (by simp)⟩
  | none =>
    have HR3 : Hid (q = if rs = true then
            if 16 ≤ above ∧ Sy.operand (v.tk (i + 1)) = true then .err (v.give 41 (i + 1))
            else (Sy.exprF v k 3 (above + 1) (i + 1)).bind fun r j => .ok (.mk 4 (Sy.txt []) Va.zero 6 [r.1], r.2 + 1) j
          else if rp = true ∧ 16 ≤ above then .err (v.give 41 i)
          else pm.bind fun _ j => (Sy.exprF v k 1 (above + 1) j).bind fun r j => (Sy.must v [41] j).bind fun _ j => .ok (r.1, r.2 + 1) j) := Lib.hid HR2.out
    have h2' : RdP w2 b ra rc f v i := h2
    clear HR2 h2
    simp only [Option.map_none, Option.getD_none, Option.isSome_none, valV, Va.zero]
    have mC := (Mod.refl [] w2).alloc (Obj.cells #[Value.int .i64 0, Value.int .i64 0, Value.string (Lx.ofS [])] 42)
    have HC := Lib.hid (h2'.past mC (by simp)); have MC := Lib.hid (M2.out.trans mC (by simp)); have AC := Lib.hid (mC.at A2.out (by simp))
    clear mC h2'
    go_wp2_with fail
    refine (HMy.out _ HC.out).mono ?_
    rintro e3 w3 ⟨rfl, h3, m3⟩
    have M3 := Lib.hid (MC.out.trans m3 (by simp)); have A3 := Lib.hid (m3.at AC.out hnb)
    have z3 := lt_of_block A3.out
    clear m3 HC MC AC
    cases rs
    · have HR4 : Hid (q = if rp = true ∧ 16 ≤ above then .err (v.give 41 i)
          else pm.bind fun _ j => (Sy.exprF v k 1 (above + 1) j).bind fun r j => (Sy.must v [41] j).bind fun _ j => .ok (r.1, r.2 + 1) j) := Lib.hid HR3.out
      have H3 := Lib.hid (show RdP w3 b ra rc f v i from h3)
      clear HR3 h3
      go_wp2_with fail
      refine (HIs.out w3 H3.out).mono ?_
      rintro e4 w4 ⟨rfl, m4⟩
      have M4 := Lib.hid (M3.out.trans m4 (by simp)); have A4 := Lib.hid (m4.at A3.out (by simp)); have H4 := Lib.hid (H3.out.past m4 (by simp))
      have z4 := m4.size
      clear m4
      by_cases hc : rp = true ∧ 16 ≤ above
      · have hq : q = .err (v.give 41 i) := by rw [HR4.out, if_pos hc]
        subst hq
        obtain ⟨hc1, hc2⟩ := hc
        subst hc1
        have hI : (16 : Int) ≤ (above : Int) := by omega
        clear HR4
        go_wp2_with fail
        refine (give_any b ra rc f v i 41 w4 H4.out hv (by omega)).mono ?_
        rintro e5 w5 ⟨rfl, m5⟩
        have M5 := Lib.hid (M4.out.trans m5 (by simp))
        clear m5
        unfold stopE
        go_wp2_with fail
        exact ⟨rfl, rfl, M5.out⟩
      · have HR5 : Hid (q = pm.bind fun _ j => (Sy.exprF v k 1 (above + 1) j).bind fun r j => (Sy.must v [41] j).bind fun _ j => .ok (r.1, r.2 + 1) j) := Lib.hid (by rw [HR4.out, if_neg hc])
        have hx : ∃ D : Bool, (rp = true → D = false ∧ ¬ (16 : Int) ≤ (above : Int)) ∧ True := ⟨false, fun h => ⟨rfl, fun hh => hc ⟨h, by omega⟩⟩, trivial⟩
        have hpa : rp = true → above < 16 := fun h => Nat.lt_of_not_le (fun hh => hc ⟨h, hh⟩)
        clear HR4 hc hx
        cases pm with
        | err g =>
          have hq : q = .err g := HR5.out
          subst hq
          clear HR5
          cases rp
          all_goals (
            try have hI : ¬ (16 : Int) ≤ (above : Int) := by have := hpa rfl; omega
            clear hpa
            go_wp2_with fail
            refine (HMu.out w4 H4.out).mono ?_
            rintro e5 w5 ⟨rfl, m5⟩
            have M5 := Lib.hid (M4.out.trans m5 (by simp))
            clear m5
            unfold stopE
            go_wp2_with fail
            exact ⟨rfl, rfl, M5.out⟩)
        | ok uu j =>
          have hj := HMA.out uu j hi rfl
          have hrp := HMS.out uu j rfl
          subst hrp
          have hab := hpa rfl
          have hI : ¬ (16 : Int) ≤ (above : Int) := by omega
          have HR6 : Hid (q = (Sy.exprF v k 1 (above + 1) j).bind fun r j => (Sy.must v [41] j).bind fun _ j => .ok (r.1, r.2 + 1) j) := Lib.hid HR5.out
          have hadv := Sy.adv_exprF v k 1 (above + 1) (by omega) j
          have hdp := Sy.expr_deep v k 1 (above + 1) j
          clear HR5 hpa
          go_wp2_with fail
          refine (HMu.out w4 H4.out).mono ?_
          rintro e5 w5 ⟨y5, rfl, hy5, h5, m5⟩
          unfold valU at hy5
          subst hy5
          have z5 := m5.size
          have M5 := Lib.hid (M4.out.trans m5 (by simp)); have A5 := Lib.hid (m5.at A4.out hnb); have H5 := Lib.hid h5
          have HX := Lib.hid (hE 1 (above + 1) j w5 h5 hj.2 (by omega) (by omega) (by omega) (by omega))
          clear m5 h5
          generalize Sy.exprF v k 1 (above + 1) j = px at *
          cases px with
          | err g =>
            have hq : q = .err g := HR6.out
            subst hq
            clear HR6 hadv hdp
            go_wp2_with fail
            refine HX.out.mono ?_
            rintro e6 w6 ⟨rfl, m6⟩
            have M6 := Lib.hid (M5.out.trans m6 (by simp))
            clear m6
            unfold stopE
            go_wp2_with fail
            exact ⟨rfl, rfl, M6.out⟩
          | ok r n =>
            obtain ⟨ex, dd⟩ := r
            have hn := hadv _ n hj.2 rfl
            have hdd := hdp _ n (by omega) rfl
            simp only at hdd
            have HR7 : Hid (q = (Sy.must v [41] n).bind fun _ j => .ok (ex, dd + 1) j) := Lib.hid HR6.out
            clear HR6 hadv hdp
            go_wp2_with fail
            refine HX.out.mono ?_
            rintro e6 w6 ⟨y6, rfl, ⟨u6, rfl, hb6⟩, h6, m6⟩
            obtain ⟨a6, c6, rfl⟩ := hb6.lit
            have z6 := m6.size
            have M6 := Lib.hid (M5.out.trans m6 (by simp)); have A6 := Lib.hid (m6.at A5.out hnb)
            have mD := (Mod.refl [] w6).alloc (Obj.cells (exV ex (.slice a6 ex.args.length c6)) 45)
            have dD := heap_alloc_new w6 (Obj.cells (exV ex (.slice a6 ex.args.length c6)) 45)
            have HD := Lib.hid (h6.past mD (by simp)); have MD := Lib.hid (M6.out.trans mD (by simp)); have AD := Lib.hid (mD.at A6.out (by simp)); have DD := Lib.hid dD; have BD := Lib.hid (hb6.keep mD (by simp))
            have HU := Lib.hid (HMc.out n _ HD.out hn.2)
            clear mD dD hb6 h6 m6
            have hdI : (dd : Int) ≤ 16 := by omega
            unfold exV at *
            simp only at *
            go_upto_region 17 with fail
            generalize w6.alloc (Obj.cells _ 45) = wD at *
            generalize Sy.must v [41] n = pm2 at *
            cases pm2 with
            | err g =>
              have hq : q = .err g := HR7.out
              subst hq
              clear HR7
              go_wp2_with fail
              refine HU.out.mono ?_
              rintro e7 w7 ⟨rfl, m7⟩
              have M7 := Lib.hid (MD.out.trans m7 (by simp))
              clear m7
              unfold stopE
              go_wp2_with fail
              exact ⟨rfl, rfl, M7.out⟩
            | ok uu2 n2 =>
              have hq : q = .ok (ex, dd + 1) n2 := HR7.out
              subst hq
              clear HR7
              go_wp2_with fail
              refine HU.out.mono ?_
              rintro e7 w7 ⟨y7, rfl, hy7, h7, m7⟩
              unfold valU at hy7
              subst hy7
              have hnb6 : w6.heap.size ∉ [b] := by simp; omega
              have M7 := Lib.hid (MD.out.trans m7 (by simp)); have H7 := Lib.hid h7; have a7 := m7.at AD.out hnb; have d7 := m7.at DD.out hnb6
              have B7 := Lib.hid (BD.out.keep m7 (fun s hs => by rw [List.mem_singleton] at hs; omega))
              obtain ⟨x0, x1, x2, x3, x4, x5, x6⟩ := cells7 d7
              obtain ⟨y0, y1, y2, y3, y4, y5, y6⟩ := cells7 a7
              have fA : ∀ j, w7.frozen? ⟨w.heap.size, j, none⟩ = false := fun j => free_at a7 j
              have A7 := Lib.hid a7
              clear h7 m7 a7 d7
              go_wp2_with fail
              have mR := setCs_mod w.heap.size [.int .i64 ex.k, .string ex.v, .int .i64 ex.x.k, .int .i64 ex.x.n, .string (Lx.ofS ex.x.s), .int .i64 ex.op, .slice a6 ex.args.length c6] 0 w7
              refine bodyPost_ret (res_ex rfl _ _ _ _ _ _ _ rfl rfl (setCs_row (vs := [.int .i64 ex.k, .string ex.v, .int .i64 ex.x.k, .int .i64 ex.x.n, .string (Lx.ofS ex.x.s), .int .i64 ex.op, .slice a6 ex.args.length c6]) A7.out rfl) rfl) rfl ⟨_, rfl, ⟨.slice a6 ex.args.length c6, rfl, ((B7.out.keep mR (fun s hs => by rw [List.mem_singleton] at hs; omega)).mono (fun k hk _ => by omega))⟩, H7.out.new HLo.out mR (by simp), M7.out.trans mR (by simp)⟩
    · have hil := HSL.out rfl
      have hab : above ≤ 16 := by
        rcases Nat.lt_or_ge 16 above with h | h
        · have := (H17.out (by omega)).2.2.1; cases this
        · exact h
      have H3 := Lib.hid (show RdP w3 b ra rc f v (i + 1) from h3)
      have HR4 : Hid (q = if 16 ≤ above ∧ Sy.operand (v.tk (i + 1)) = true then .err (v.give 41 (i + 1))
            else (Sy.exprF v k 3 (above + 1) (i + 1)).bind fun r j => .ok (.mk 4 (Sy.txt []) Va.zero 6 [r.1], r.2 + 1) j) := Lib.hid HR3.out
      clear HR3 h3
      have HPk := Lib.hid (fun w h => peek0 b ra rc f v (i + 1) w h hv (by omega))
      have HOp := Lib.hid (fun w => operand_any (v.tk (i + 1)) w (hv.tbyte (i + 1)))
      have hUn := fun (h : above < 16 ∨ Sy.operand (v.tk (i + 1)) = false) w hr => hU (above + 1) (i + 1) w hr (by omega) (by
        rcases h with h | h
        · exact .inl (by omega)
        · by_cases e : above = 16
          · exact .inr ⟨by omega, h⟩
          · exact .inl (by omega)) (by omega)
      have HU2 := Lib.hid hUn
      clear hUn
      have HU17 : Hid (Sy.operand (v.tk (i + 1)) = false → ∃ g, Sy.exprF v k 3 (16 + 1) (i + 1) = .err g) := Lib.hid (fun h => Sy.un17 (16 + 1) h)
      generalize Sy.operand (v.tk (i + 1)) = op at *
      generalize v.tk (i + 1) = t2 at *
      by_cases hI : (16 : Int) ≤ (above : Int)
      · obtain rfl : above = 16 := by omega
        cases op with
        | true =>
          have hq : q = .err (v.give 41 (i + 1)) := by rw [HR4.out, if_pos ⟨by omega, rfl⟩]
          subst hq
          clear HR4 HU2 HU17 hI
          go_wp2_with fail
          refine (HPk.out w3 H3.out).mono ?_
          rintro e4 w4 ⟨rfl, m4⟩
          have M4 := Lib.hid (M3.out.trans m4 (by simp)); have H4 := Lib.hid (H3.out.past m4 (by simp))
          clear m4
          go_wp2_with fail
          refine (HOp.out w4).mono ?_
          rintro e5 w5 ⟨rfl, m5⟩
          have M5 := Lib.hid (M4.out.trans m5 (by simp)); have H5 := Lib.hid (H4.out.past m5 (by simp))
          clear m5
          go_wp2_with fail
          refine (give_any b ra rc f v (i + 1) 41 w5 H5.out hv (by omega)).mono ?_
          rintro e6 w6 ⟨rfl, m6⟩
          have M6 := Lib.hid (M5.out.trans m6 (by simp))
          clear m6
          unfold stopE
          go_wp2_with fail
          exact ⟨rfl, rfl, M6.out⟩
        | false =>
          obtain ⟨g, hg⟩ := HU17.out rfl
          have hq : q = .err g := by rw [HR4.out, if_neg (by simp), hg]; rfl
          subst hq
          have HUc := Lib.hid (HU2.out (.inr rfl))
          rw [hg] at HUc
          clear HR4 HU2 HU17 hI
          go_wp2_with fail
          refine (HPk.out w3 H3.out).mono ?_
          rintro e4 w4 ⟨rfl, m4⟩
          have M4 := Lib.hid (M3.out.trans m4 (by simp)); have H4 := Lib.hid (H3.out.past m4 (by simp))
          clear m4
          go_wp2_with fail
          refine (HOp.out w4).mono ?_
          rintro e5 w5 ⟨rfl, m5⟩
          have M5 := Lib.hid (M4.out.trans m5 (by simp)); have H5 := Lib.hid (H4.out.past m5 (by simp))
          clear m5
          go_wp2_with fail
          refine (HUc.out w5 H5.out).mono ?_
          rintro e6 w6 ⟨rfl, m6⟩
          have M6 := Lib.hid (M5.out.trans m6 (by simp))
          clear m6
          unfold stopE
          go_wp2_with fail
          exact ⟨rfl, rfl, M6.out⟩
      · have ha2 : above < 16 := by omega
        have HR6 : Hid (q = (Sy.exprF v k 3 (above + 1) (i + 1)).bind fun r j => .ok (.mk 4 (Sy.txt []) Va.zero 6 [r.1], r.2 + 1) j) := Lib.hid (by rw [HR4.out, if_neg (fun hh => by omega)])
        have HDp : Hid (∀ r j, Sy.exprF v k 3 (above + 1) (i + 1) = .ok r j → above + 1 + r.2 ≤ 16) := Lib.hid (fun r j hh => Sy.expr_deep v k 3 (above + 1) (i + 1) r j (by omega) hh)
        have HUc := Lib.hid (HU2.out (.inl ha2))
        clear HR4 HU2 HU17
        generalize Sy.exprF v k 3 (above + 1) (i + 1) = px at *
        cases px with
        | err g =>
          have hq : q = .err g := HR6.out
          subst hq
          clear HR6 HDp
          go_wp2_with fail
          refine (HUc.out w3 H3.out).mono ?_
          rintro e6 w6 ⟨rfl, m6⟩
          have M6 := Lib.hid (M3.out.trans m6 (by simp))
          clear m6
          unfold stopE
          go_wp2_with fail
          exact ⟨rfl, rfl, M6.out⟩
        | ok r n =>
          obtain ⟨ex, dd⟩ := r
          have hdd : above + 1 + dd ≤ 16 := HDp.out _ n rfl
          have hq : q = .ok (.mk 4 (Sy.txt []) Va.zero 6 [ex], dd + 1) n := HR6.out
          subst hq
          clear HR6 HDp
          go_wp2_with fail
          refine (HUc.out w3 H3.out).mono ?_
          rintro e6 w6 ⟨y6, rfl, ⟨u6, rfl, hb6⟩, h6, m6⟩
          obtain ⟨a6, c6, rfl⟩ := hb6.lit
          have z6 := m6.size
          have M6 := Lib.hid (M3.out.trans m6 (by simp)); have A6 := Lib.hid (m6.at A3.out hnb)
          have mD := (Mod.refl [] w6).alloc (Obj.cells (exV ex (.slice a6 ex.args.length c6)) 45)
          have dD := heap_alloc_new w6 (Obj.cells (exV ex (.slice a6 ex.args.length c6)) 45)
          have HD := Lib.hid (h6.past mD (by simp)); have MD := Lib.hid (M6.out.trans mD (by simp)); have AD := Lib.hid (mD.at A6.out (by simp)); have DD := Lib.hid dD; have BD := Lib.hid (hb6.keep mD (by simp))
          have zD : (w6.alloc (Obj.cells (exV ex (.slice a6 ex.args.length c6)) 45)).heap.size = w6.heap.size + 1 := by simp
          clear mD dD hb6 h6 m6
          have hdI : (dd : Int) ≤ 16 := by omega
          unfold exV at *
          simp only at *
          go_upto_region 12 with fail
          generalize w6.alloc (Obj.cells _ 45) = wD at *
          obtain ⟨x0, x1, x2, x3, x4, x5, x6⟩ := cells7 DD.out
          have mE := (Mod.refl [] wD).alloc (Obj.cells #[.int .i64 ex.k, .string ex.v, .int .i64 ex.x.k, .int .i64 ex.x.n, .string (Lx.ofS ex.x.s), .int .i64 ex.op, .slice a6 ex.args.length c6] 45)
          have eE := heap_alloc_new wD (Obj.cells #[.int .i64 ex.k, .string ex.v, .int .i64 ex.x.k, .int .i64 ex.x.n, .string (Lx.ofS ex.x.s), .int .i64 ex.op, .slice a6 ex.args.length c6] 45)
          have aE := mE.at AD.out (by simp)
          obtain ⟨y0, y1, y2, y3, y4, y5, y6⟩ := cells7 aE
          have fA : ∀ j, (wD.alloc (Obj.cells #[.int .i64 ex.k, .string ex.v, .int .i64 ex.x.k, .int .i64 ex.x.n, .string (Lx.ofS ex.x.s), .int .i64 ex.op, .slice a6 ex.args.length c6] 45)).frozen? ⟨w.heap.size, j, none⟩ = false := fun j => free_at aE j
          have HE := Lib.hid (HD.out.past mE (by simp)); have ME := Lib.hid (MD.out.trans mE (by simp)); have AE := Lib.hid aE; have BE := Lib.hid (BD.out.keep mE (by simp))
          have zE := lt_of_block DD.out
          rw [zD] at eE
          have EE := Lib.hid eE
          rw [zD] at zE
          clear mE eE aE
          go_wp2_with fail
          generalize (wD.alloc (Obj.cells #[.int .i64 ex.k, .string ex.v, .int .i64 ex.x.k, .int .i64 ex.x.n, .string (Lx.ofS ex.x.s), .int .i64 ex.op, .slice a6 ex.args.length c6] 45)) = wE at *
          have mR := setCs_mod w.heap.size [.int .i64 4, .string { data := #[] }, .int .i64 0, .int .i64 0, .string { data := #[] }, .int .i64 6, .slice (some ⟨w6.heap.size + 1, 0, none⟩) 1 1] 0 wE
          refine bodyPost_ret (res_ex rfl _ _ _ _ _ _ _ rfl rfl (setCs_row (vs := [.int .i64 4, .string { data := #[] }, .int .i64 0, .int .i64 0, .string { data := #[] }, .int .i64 6, .slice (some ⟨w6.heap.size + 1, 0, none⟩) 1 1]) AE.out rfl) rfl) rfl ⟨_, rfl, ⟨.slice (some ⟨w6.heap.size + 1, 0, none⟩) 1 1, rfl, ?_⟩, HE.out.new HLo.out mR (by simp), ME.out.trans mR (by simp)⟩
          have hg : (setCs wE w.heap.size 0 [.int .i64 4, .string { data := #[] }, .int .i64 0, .int .i64 0, .string { data := #[] }, .int .i64 6, .slice (some ⟨w6.heap.size + 1, 0, none⟩) 1 1]).heap[(w6.heap.size + 1)]? = _ := mR.at EE.out (by simp; omega)
          exact EB.one (u := .slice a6 ex.args.length c6) hg (by omega) ((BE.out.keep mR (fun s hs => by rw [List.mem_singleton] at hs; omega)).mono (fun k hk _ => by omega)) 1
end Go.Proofs.YtppigckioalhhaaGreatDoorR
/- THE PARSER: expressions. -/
namespace Go.Proofs.YtppigckioalhhaaGreatDoorR
open Go.RowKit
set_option linter.unusedVariables false
set_option linter.unusedSimpArgs false
set_option maxRecDepth 100000

theorem chainF_eq (v : Sy.Env) (line : Nat) (sub : Nat → Nat → Sy.PR (Pr.Ex × Nat)) (above k : Nat) (e : Pr.Ex) (d i : Nat) : Sy.chainF v line sub above (k + 1) e d i =
    if (Sy.level (v.tk i)).1 ≠ line then .ok (e, d) i
    else if 16 < above + d + 1 then .err (v.give 41 i)
    else (sub (above + 1) (i + 1)).bind fun r j => Sy.chainF v line sub above k (.mk 4 (Sy.txt []) Va.zero (Sy.level (v.tk i)).2 [e, r.1]) (1 + max d r.2) j := by rw [Sy.chainF]
theorem exprF_ex (v : Sy.Env) (k line above i : Nat) (h : line ≠ 3) : Sy.exprF v (k + 1) line above i = (Sy.exprF v k (line + 1) above i).bind fun r j => Sy.chainF v line (Sy.exprF v k (line + 1)) above (v.ws.length + 1) r.1 r.2 j := by
  rw [Sy.exprF, if_neg h]

set_option maxHeartbeats 8000000 in
theorem ex_of3 (b : Nat) (ra : Option Addr) (rc : Nat) (f : Value) (v : Sy.Env) (k : Nat) (hv : EnvOk v) (hU : UnC b ra rc f v (k + 1)) (above i : Nat) (w : World) (h : RdP w b ra rc f v i) (hi : i ≤ v.ws.length) (ha : above ≤ 16) (hk : 3 * (17 - above) + 1 ≤ k + 1) :
    Calls Tryz.prog 75 #[.pointer (some ⟨b, 0, none⟩), .int .i64 3, .int .i64 (above : Nat)] w (PRes b ra rc f v (Sy.exprF v (k + 1) 3 above i) (valX w.heap.size) w) := by
  have hlen := hv.len
  have mA := (Mod.refl [] w).alloc (Obj.cells #[Value.int IntKind.i64 0, Value.string { data := #[] }, Value.int IntKind.i64 0, Value.int IntKind.i64 0, Value.string { data := #[] }, Value.int IntKind.i64 0, Value.slice none 0 0] 45)
  have hA := h.past mA (by simp)
  have eA := heap_alloc_new w (Obj.cells #[Value.int IntKind.i64 0, Value.string { data := #[] }, Value.int IntKind.i64 0, Value.int IntKind.i64 0, Value.string { data := #[] }, Value.int IntKind.i64 0, Value.slice none 0 0] 45)
  have zA : (w.alloc (Obj.cells #[Value.int IntKind.i64 0, Value.string { data := #[] }, Value.int IntKind.i64 0, Value.int IntKind.i64 0, Value.string { data := #[] }, Value.int IntKind.i64 0, Value.slice none 0 0] 45)).heap.size = w.heap.size + 1 := by simp
  have HX := Lib.hid (hU above i _ hA hi (.inl ha) hk)
  have HLo := Lib.hid h.low
  have hbl := h.lt
  have HA := Lib.hid hA; have EA := Lib.hid eA; have MA := Lib.hid mA
  clear h hA eA mA hU
  go_enter Tryz.func75, Tryz.ntmps75
  go_upto_region 1 with fail
  generalize w.alloc (Obj.cells #[Value.int IntKind.i64 0, Value.string { data := #[] }, Value.int IntKind.i64 0, Value.int IntKind.i64 0, Value.string { data := #[] }, Value.int IntKind.i64 0, Value.slice none 0 0] 45) = wA at *
  generalize Sy.exprF v (k + 1) 3 above i = q at *
  have hnb : w.heap.size ∉ [b] := by simp; omega
  cases q with
  | err g =>
    go_wp2_with fail
    refine HX.out.mono ?_
    rintro e6 w6 ⟨rfl, m6⟩
    have M6 := Lib.hid ((MA.out.mono (T := [b]) (by simp)).trans m6 (by simp))
    clear m6
    unfold stopE
    go_wp2_with fail
    exact ⟨rfl, rfl, M6.out⟩
  | ok r n =>
    obtain ⟨ex, dd⟩ := r
    go_wp2_with fail
    refine HX.out.mono ?_
    rintro e6 w6 ⟨y6, rfl, ⟨u6, rfl, hb6⟩, h6, m6⟩
    obtain ⟨a6, c6, rfl⟩ := hb6.lit
    have M6 := Lib.hid ((MA.out.mono (T := [b]) (by simp)).trans m6 (by simp)); have A6 := Lib.hid (m6.at EA.out hnb); have H6 := Lib.hid h6; have B6 := Lib.hid hb6
    obtain ⟨y0, y1, y2, y3, y4, y5, y6⟩ := cells7 A6.out
    have fA : ∀ j, w6.frozen? ⟨w.heap.size, j, none⟩ = false := fun j => free_at A6.out j
    clear h6 m6 hb6
    unfold exV at *
    simp only at *
    go_wp2_with fail
    have mR := setCs_mod w.heap.size [.int .i64 ex.k, .string ex.v, .int .i64 ex.x.k, .int .i64 ex.x.n, .string (Lx.ofS ex.x.s), .int .i64 ex.op, .slice a6 ex.args.length c6] 0 w6
    refine bodyPost_ret (res_ex rfl _ _ _ _ _ _ _ rfl rfl (setCs_row (vs := [.int .i64 ex.k, .string ex.v, .int .i64 ex.x.k, .int .i64 ex.x.n, .string (Lx.ofS ex.x.s), .int .i64 ex.op, .slice a6 ex.args.length c6]) A6.out rfl) rfl) rfl ⟨_, rfl, ⟨.slice a6 ex.args.length c6, rfl, ((B6.out.keep mR (fun s hs => by rw [List.mem_singleton] at hs; omega)).mono (fun k hk _ => by omega))⟩, H6.out.new HLo.out mR (by simp), M6.out.trans mR (by simp)⟩

set_option maxHeartbeats 8000000 in
theorem ex_of12 (b : Nat) (ra : Option Addr) (rc : Nat) (f : Value) (v : Sy.Env) (k : Nat) (hv : EnvOk v) (hE : ExC b ra rc f v k) (line above i : Nat) (w : World) (h : RdP w b ra rc f v i) (hi : i ≤ v.ws.length) (hl1 : 1 ≤ line) (hl2 : line ≤ 2) (ha : above ≤ 16) (hk : 3 * (17 - above) + (3 - line) + 1 ≤ k + 1) :
    Calls Tryz.prog 75 #[.pointer (some ⟨b, 0, none⟩), .int .i64 (line : Nat), .int .i64 (above : Nat)] w (PRes b ra rc f v (Sy.exprF v (k + 1) line above i) (valX w.heap.size) w) := by
  have hlen := hv.len
  have mA := (Mod.refl [] w).alloc (Obj.cells #[Value.int IntKind.i64 0, Value.string { data := #[] }, Value.int IntKind.i64 0, Value.int IntKind.i64 0, Value.string { data := #[] }, Value.int IntKind.i64 0, Value.slice none 0 0] 45)
  have hA := h.past mA (by simp)
  have eA := heap_alloc_new w (Obj.cells #[Value.int IntKind.i64 0, Value.string { data := #[] }, Value.int IntKind.i64 0, Value.int IntKind.i64 0, Value.string { data := #[] }, Value.int IntKind.i64 0, Value.slice none 0 0] 45)
  have zA : (w.alloc (Obj.cells #[Value.int IntKind.i64 0, Value.string { data := #[] }, Value.int IntKind.i64 0, Value.int IntKind.i64 0, Value.string { data := #[] }, Value.int IntKind.i64 0, Value.slice none 0 0] 45)).heap.size = w.heap.size + 1 := by simp
  have HX := Lib.hid (hE (line + 1) above i _ hA hi (by omega) (by omega) (by omega) (by omega))
  have HLo := Lib.hid h.low
  have HR := Lib.hid (exprF_ex v k line above i (by omega))
  have HA1 := Lib.hid (Sy.adv_exprF v k (line + 1) above (by omega) i)
  have HD1 := Lib.hid (Sy.expr_deep v k (line + 1) above i)
  have hbl := h.lt
  have HA := Lib.hid hA; have EA := Lib.hid eA; have MA := Lib.hid mA
  have hL3 : ((line : Int) == 3) = false := by rw [beq_eq_false_iff_ne]; omega
  clear h hA eA mA
  generalize hq : Sy.exprF v (k + 1) line above i = q at *
  clear hq
  have hnb : w.heap.size ∉ [b] := by simp; omega
  go_enter Tryz.func75, Tryz.ntmps75
  go_upto_region 1 with fail
  generalize w.alloc (Obj.cells #[Value.int IntKind.i64 0, Value.string { data := #[] }, Value.int IntKind.i64 0, Value.int IntKind.i64 0, Value.string { data := #[] }, Value.int IntKind.i64 0, Value.slice none 0 0] 45) = wA at *
  generalize Sy.exprF v k (line + 1) above i = px at *
  cases px with
  | err g =>
    obtain rfl : q = .err g := HR.out
    clear HR
    go_wp2_with fail
    refine HX.out.mono ?_
    rintro e6 w6 ⟨rfl, m6⟩
    have M6 := Lib.hid ((MA.out.mono (T := [b]) (by simp)).trans m6 (by simp))
    clear m6
    unfold stopE
    go_wp2_with fail
    exact ⟨rfl, rfl, M6.out⟩
  | ok r n =>
    obtain ⟨ex, dd⟩ := r
    have HQ : Hid (q = Sy.chainF v line (Sy.exprF v k (line + 1)) above (v.ws.length + 1) ex dd n) := Lib.hid HR.out
    have hn := (HA1.out _ n hi rfl).2
    have hdd := HD1.out _ n ha rfl
    simp only at hdd
    clear HR HA1 HD1
    go_wp2_with fail
    refine HX.out.mono ?_
    rintro e6 w6 ⟨y6, rfl, ⟨u6, rfl, hb6⟩, h6, m6⟩
    obtain ⟨a6, c6, rfl⟩ := hb6.lit
    have z6 := m6.size
    have M6 := Lib.hid ((MA.out.mono (T := [b]) (by simp)).trans m6 (by simp)); have A6 := Lib.hid (m6.at EA.out hnb)
    have mD := (Mod.refl [] w6).alloc (Obj.cells (exV ex (.slice a6 ex.args.length c6)) 45)
    have dD := heap_alloc_new w6 (Obj.cells (exV ex (.slice a6 ex.args.length c6)) 45)
    have HD := Lib.hid (h6.past mD (by simp)); have MD := Lib.hid (M6.out.trans mD (by simp)); have AD := Lib.hid (mD.at A6.out (by simp)); have DD := Lib.hid dD; have BD := Lib.hid ((hb6.mono (F' := fun k => w.heap.size < k ∧ k ≠ w6.heap.size) (fun k hk hk2 => by omega)).keep mD (by simp))
    clear mD dD hb6 h6 m6
    unfold exV at *
    simp only at *
    go_upto_region 4 with fail
    generalize w6.alloc (Obj.cells _ 45) = wD at *
    have z0 : w.heap.size < w6.heap.size := by omega
    clear zA z6 HX
    go_loopg [9] (v.ws.length + 1) (fun gk dv wr => ∃ (j d : Nat) (e : Pr.Ex) (a : Option Addr) (c : Nat), dv = .int .i64 (d : Nat) ∧ RdP wr b ra rc f v j ∧ j ≤ v.ws.length ∧ v.ws.length + 1 ≤ gk + j ∧ above + d ≤ 16 ∧ wr.heap[w.heap.size]? = some (.cells #[Value.int IntKind.i64 0, Value.string { data := #[] }, Value.int IntKind.i64 0, Value.int IntKind.i64 0, Value.string { data := #[] }, Value.int IntKind.i64 0, Value.slice none 0 0] 45 (0, 0)) ∧ wr.heap[w6.heap.size]? = some (.cells #[.int .i64 e.k, .string e.v, .int .i64 e.x.k, .int .i64 e.x.n, .string (Lx.ofS e.x.s), .int .i64 e.op, .slice a e.args.length c] 45 (0, 0)) ∧ EB (fun k => w.heap.size < k ∧ k ≠ w6.heap.size) wr e (.slice a e.args.length c) ∧ Mod [b] w wr ∧ q = Sy.chainF v line (Sy.exprF v k (line + 1)) above gk e d j)
    case atStart => exact ⟨n, dd, ex, a6, c6, rfl, HD.out, hn, by omega, hdd, AD.out, DD.out, BD.out, MD.out, HQ.out⟩
    case round =>
      obtain ⟨j, d, e, a, c, rfl, hr, hj, hgk, had, ha0, he0, hb0, hm0, hq⟩ := hrel
      obtain ⟨g', rfl⟩ : ∃ g', gk = g' + 1 := ⟨gk - 1, by omega⟩
      rw [chainF_eq] at hq
      have hlv := fun h => Sy.level_lt (v := v) (i := j) h
      have HP := Lib.hid (peek0 b ra rc f v j wr hr hv (by omega))
      have HLv := Lib.hid (fun w => level_any (v.tk j) w (hv.tbyte j))
      have HRd := Lib.hid hr; have A0 := Lib.hid ha0; have E0 := Lib.hid he0; have B0 := Lib.hid hb0; have M0 := Lib.hid hm0; have HQ2 := Lib.hid hq
      have zr := lt_of_block he0
      clear hr ha0 he0 hb0 hm0 hq HQ A6 AD DD BD MD HD M6
      generalize Sy.level (v.tk j) = lv at *
      obtain ⟨l, op⟩ := lv
      simp only at hlv
      go_wp2_with fail
      refine HP.out.mono ?_
      rintro e1 w1 ⟨rfl, m1⟩
      have H1 := Lib.hid (HRd.out.past m1 (by simp)); have A1 := Lib.hid (m1.at A0.out (by simp)); have E1 := Lib.hid (m1.at E0.out (by simp)); have B1 := Lib.hid (B0.out.keep m1 (by simp)); have M1 := Lib.hid (M0.out.trans m1 (by simp))
      clear m1 HRd A0 E0 B0 M0 HP
      go_wp2_with fail
      refine (HLv.out w1).mono ?_
      rintro e2 w2 ⟨rfl, m2⟩
      have H2 := Lib.hid (H1.out.past m2 (by simp)); have A2 := Lib.hid (m2.at A1.out (by simp)); have E2 := Lib.hid (m2.at E1.out (by simp)); have B2 := Lib.hid (B1.out.keep m2 (by simp)); have M2 := Lib.hid (M1.out.trans m2 (by simp))
      clear m2 H1 A1 E1 B1 M1 HLv
      have hnb6 : w6.heap.size ∉ [b] := by simp; omega
      by_cases hc : l = line
      · subst hc
        have hjl := hlv (by omega)
        have hcI : ((l : Int) != (l : Int)) = false := by simp
        by_cases hdp : 16 < above + d + 1
        · have hq : q = .err (v.give 41 j) := by rw [HQ2.out, if_neg (by simp), if_pos hdp]
          subst hq
          have hI : (16 : Int) < (above : Int) + (d : Int) + 1 := by omega
          clear HQ2 hdp
          go_wp2_with fail
          refine (give_any b ra rc f v j 41 w2 H2.out hv (by omega)).mono ?_
          rintro e3 w3 ⟨rfl, m3⟩
          have M3 := Lib.hid (M2.out.trans m3 (by simp))
          clear m3
          unfold stopE
          go_wp2_with fail
          exact ⟨rfl, rfl, M3.out⟩
        · have hI : ¬ (16 : Int) < (above : Int) + (d : Int) + 1 := by omega
          have HQ3 : Hid (q = (Sy.exprF v k (l + 1) (above + 1) (j + 1)).bind fun r j => Sy.chainF v l (Sy.exprF v k (l + 1)) above g' (.mk 4 (Sy.txt []) Va.zero op [e, r.1]) (1 + max d r.2) j) := Lib.hid (by rw [HQ2.out, if_neg (by simp), if_neg hdp])
          have HE2 := Lib.hid (fun w hr => hE (l + 1) (above + 1) (j + 1) w hr (by omega) (by omega) (by omega) (by omega) (by omega))
          have HA2 := Lib.hid (Sy.adv_exprF v k (l + 1) (above + 1) (by omega) (j + 1))
          have HD2 := Lib.hid (Sy.expr_deep v k (l + 1) (above + 1) (j + 1))
          obtain ⟨c0, c1, c2, c3, c4, c5, fz⟩ := H2.out.cells
          have hT := H2.out.to (j + 1)
          have A3 := Lib.hid (hT.2.at A2.out hnb); have E3 := Lib.hid (hT.2.at E2.out hnb6); have B3 := Lib.hid (B2.out.keep hT.2 (fun s hs => by rw [List.mem_singleton] at hs; omega)); have M3 := Lib.hid (M2.out.trans hT.2 (by simp)); have H3 := Lib.hid hT.1
          clear hT HQ2 A2 E2 B2 M2 H2
          go_upto_region 10 with fail
          have hcast : ((j + 1 : Nat) : Int) = (j : Int) + 1 := by omega
          rw [hcast] at A3 E3 B3 M3 H3
          generalize w2.setCell ⟨b, 1, none⟩ (.int .i64 ((j : Int) + 1)) = w3 at *
          clear c0 c1 c2 c3 c4 c5 fz hcast
          generalize Sy.exprF v k (l + 1) (above + 1) (j + 1) = px2 at *
          cases px2 with
          | err g =>
            have hq : q = .err g := HQ3.out
            subst hq
            clear HQ3 HA2 HD2
            go_wp2_with fail
            refine (HE2.out w3 H3.out).mono ?_
            rintro e4 w4 ⟨rfl, m4⟩
            have M4 := Lib.hid (M3.out.trans m4 (by simp))
            clear m4
            unfold stopE
            go_wp2_with fail
            exact ⟨rfl, rfl, M4.out⟩
          | ok r2 n2 =>
            obtain ⟨ex2, d2⟩ := r2
            have hn2 := (HA2.out _ n2 (by omega) rfl)
            have hd2 := HD2.out _ n2 (by omega) rfl
            simp only at hd2
            have HQ4 : Hid (q = Sy.chainF v l (Sy.exprF v k (l + 1)) above g' (.mk 4 (Sy.txt []) Va.zero op [e, ex2]) (1 + max d d2) n2) := Lib.hid HQ3.out
            clear HQ3 HA2 HD2
            go_wp2_with fail
            refine (HE2.out w3 H3.out).mono ?_
            rintro e4 w4 ⟨y4, rfl, ⟨u4, rfl, hb4⟩, h4, m4⟩
            obtain ⟨a4, c4, rfl⟩ := hb4.lit
            have z4 := m4.size
            have z3 := lt_of_block E3.out
            have M4 := Lib.hid (M3.out.trans m4 (by simp)); have A4 := Lib.hid (m4.at A3.out hnb); have E4 := Lib.hid (m4.at E3.out hnb6); have B4 := Lib.hid (B3.out.keep m4 (fun s hs => by rw [List.mem_singleton] at hs; omega))
            have mF := (Mod.refl [] w4).alloc (Obj.cells (exV ex2 (.slice a4 ex2.args.length c4)) 45)
            have dF := heap_alloc_new w4 (Obj.cells (exV ex2 (.slice a4 ex2.args.length c4)) 45)
            have HF := Lib.hid (h4.past mF (by simp)); have MF := Lib.hid (M4.out.trans mF (by simp)); have AF := Lib.hid (mF.at A4.out (by simp)); have EF := Lib.hid (mF.at E4.out (by simp)); have DF := Lib.hid dF; have BF := Lib.hid (B4.out.keep mF (by simp)); have CF := Lib.hid ((hb4.mono (F' := fun k => w.heap.size < k ∧ k ≠ w6.heap.size) (fun k hk hk2 => by omega)).keep mF (by simp))
            have zF : (w4.alloc (Obj.cells (exV ex2 (.slice a4 ex2.args.length c4)) 45)).heap.size = w4.heap.size + 1 := by simp
            clear mF dF hb4 h4 m4 M3 A3 E3 B3 H3 M4 A4 E4 B4
            unfold exV at *
            simp only at *
            go_upto_region 11 with fail
            generalize w4.alloc (Obj.cells _ 45) = wF at *
            obtain ⟨x0, x1, x2, x3, x4, x5, x6⟩ := cells7 EF.out
            obtain ⟨v0, v1, v2, v3, v4, v5, v6⟩ := cells7 DF.out
            have mG := (Mod.refl [] wF).alloc (Obj.cells #[.int .i64 e.k, .string e.v, .int .i64 e.x.k, .int .i64 e.x.n, .string (Lx.ofS e.x.s), .int .i64 e.op, .slice a e.args.length c, .int .i64 ex2.k, .string ex2.v, .int .i64 ex2.x.k, .int .i64 ex2.x.n, .string (Lx.ofS ex2.x.s), .int .i64 ex2.op, .slice a4 ex2.args.length c4] 45)
            have eG := heap_alloc_new wF (Obj.cells #[.int .i64 e.k, .string e.v, .int .i64 e.x.k, .int .i64 e.x.n, .string (Lx.ofS e.x.s), .int .i64 e.op, .slice a e.args.length c, .int .i64 ex2.k, .string ex2.v, .int .i64 ex2.x.k, .int .i64 ex2.x.n, .string (Lx.ofS ex2.x.s), .int .i64 ex2.op, .slice a4 ex2.args.length c4] 45)
            have aG := mG.at EF.out (by simp)
            obtain ⟨y0, y1, y2, y3, y4, y5, y6⟩ := cells7 aG
            have fA : ∀ j, (wF.alloc (Obj.cells #[.int .i64 e.k, .string e.v, .int .i64 e.x.k, .int .i64 e.x.n, .string (Lx.ofS e.x.s), .int .i64 e.op, .slice a e.args.length c, .int .i64 ex2.k, .string ex2.v, .int .i64 ex2.x.k, .int .i64 ex2.x.n, .string (Lx.ofS ex2.x.s), .int .i64 ex2.op, .slice a4 ex2.args.length c4] 45)).frozen? ⟨w6.heap.size, j, none⟩ = false := fun j => free_at aG j
            have HG := Lib.hid (HF.out.past mG (by simp)); have MG := Lib.hid (MF.out.trans mG (by simp)); have AG := Lib.hid (mG.at AF.out (by simp)); have EG := Lib.hid aG; have BG := Lib.hid (BF.out.keep mG (by simp)); have CG := Lib.hid (CF.out.keep mG (by simp))
            have zG := lt_of_block DF.out
            rw [zF] at eG zG
            have GG := Lib.hid eG
            clear mG eG aG
            go_upto_region 12 with fail
            generalize (wF.alloc (Obj.cells #[.int .i64 e.k, .string e.v, .int .i64 e.x.k, .int .i64 e.x.n, .string (Lx.ofS e.x.s), .int .i64 e.op, .slice a e.args.length c, .int .i64 ex2.k, .string ex2.v, .int .i64 ex2.x.k, .int .i64 ex2.x.n, .string (Lx.ofS ex2.x.s), .int .i64 ex2.op, .slice a4 ex2.args.length c4] 45)) = wG at *
            have mR := setCs_mod w6.heap.size [.int .i64 4, .string { data := #[] }, .int .i64 0, .int .i64 0, .string { data := #[] }, .int .i64 (op : Nat), .slice (some ⟨w4.heap.size + 1, 0, none⟩) 2 2] 0 wG
            have hgR := setCs_row (vs := [.int .i64 4, .string { data := #[] }, .int .i64 0, .int .i64 0, .string { data := #[] }, .int .i64 (op : Nat), .slice (some ⟨w4.heap.size + 1, 0, none⟩) 2 2]) EG.out rfl
            have HH := Lib.hid (HG.out.new HLo.out mR (by simp; omega)); have MH := Lib.hid (MG.out.trans mR (by simp; omega)); have AH := Lib.hid (mR.at AG.out (by simp; omega)); have EH := Lib.hid hgR
            have hg : (setCs wG w6.heap.size 0 [.int .i64 4, .string { data := #[] }, .int .i64 0, .int .i64 0, .string { data := #[] }, .int .i64 (op : Nat), .slice (some ⟨w4.heap.size + 1, 0, none⟩) 2 2]).heap[w4.heap.size + 1]? = _ := mR.at GG.out (by simp; omega)
            have BH := Lib.hid (EB.two (k := 4) (v := Sy.txt []) (x := Va.zero) (op := (op : Nat)) (F := fun k => w.heap.size < k ∧ k ≠ w6.heap.size) (a := e) (b := ex2) (u := .slice a e.args.length c) (u' := .slice a4 ex2.args.length c4) hg (by omega) (BG.out.keep mR (fun s hs => by rw [List.mem_singleton] at hs; omega)) (CG.out.keep mR (fun s hs => by rw [List.mem_singleton] at hs; omega)) 2)
            clear mR hgR hg x0 x1 x2 x3 x4 x5 x6 v0 v1 v2 v3 v4 v5 v6 y0 y1 y2 y3 y4 y5 y6 fA
            go_wp2_with fail
            go_roundg g'
            case measure => omega
            case rel => exact ⟨n2, 1 + max d d2, .mk 4 (Sy.txt []) Va.zero (op : Nat) [e, ex2], _, 2, by simp; omega, HH.out, hn2.2, by omega, by omega, AH.out, EH.out, BH.out, MH.out, HQ4.out⟩
      · have hq : q = .ok (e, d) j := by rw [HQ2.out, if_pos hc]
        subst hq
        have hcI : ((l : Int) != (line : Int)) = true := by simp; omega
        clear HQ2 hlv
        obtain ⟨x0, x1, x2, x3, x4, x5, x6⟩ := cells7 E2.out
        obtain ⟨y0, y1, y2, y3, y4, y5, y6⟩ := cells7 A2.out
        have fA : ∀ j, w2.frozen? ⟨w.heap.size, j, none⟩ = false := fun j => free_at A2.out j
        go_wp2_with fail
        have mR := setCs_mod w.heap.size [.int .i64 e.k, .string e.v, .int .i64 e.x.k, .int .i64 e.x.n, .string (Lx.ofS e.x.s), .int .i64 e.op, .slice a e.args.length c] 0 w2
        refine bodyPost_ret (res_ex rfl _ _ _ _ _ _ _ rfl rfl (setCs_row (vs := [.int .i64 e.k, .string e.v, .int .i64 e.x.k, .int .i64 e.x.n, .string (Lx.ofS e.x.s), .int .i64 e.op, .slice a e.args.length c]) A2.out rfl) rfl) rfl ⟨_, rfl, ⟨.slice a e.args.length c, rfl, ((B2.out.keep mR (fun s hs => by rw [List.mem_singleton] at hs; omega)).mono (fun k hk _ => by omega))⟩, H2.out.new HLo.out mR (by simp), M2.out.trans mR (by simp)⟩

theorem exun (b : Nat) (ra : Option Addr) (rc : Nat) (f : Value) (v : Sy.Env) (hv : EnvOk v) : ∀ k, ExC b ra rc f v k ∧ UnC b ra rc f v k
  | 0 => ⟨fun _ _ _ _ _ _ _ _ _ h => by omega, fun _ _ _ _ _ _ h => by omega⟩
  | k + 1 => by
    have ih := exun b ra rc f v hv k
    have hU := un_of b ra rc f v k hv ih.2 ih.1
    refine ⟨?_, hU⟩
    intro line above i w h hi h1 h3 ha hk
    rcases Nat.lt_or_ge line 3 with hl | hl
    · exact ex_of12 b ra rc f v k hv ih.1 line above i w h hi h1 (by omega) ha hk
    · obtain rfl : line = 3 := by omega
      exact ex_of3 b ra rc f v k hv hU above i w h hi ha (by omega)
/-- an expression, from its highest line -/
theorem expr_any (b : Nat) (ra : Option Addr) (rc : Nat) (f : Value) (v : Sy.Env) (i : Nat) (w : World) (h : RdP w b ra rc f v i) (hv : EnvOk v) (hi : i ≤ v.ws.length) :
    Calls Tryz.prog 75 #[.pointer (some ⟨b, 0, none⟩), .int .i64 1, .int .i64 0] w (PRes b ra rc f v (Sy.exprF v 60 1 0 i) (valX w.heap.size) w) :=
  (exun b ra rc f v hv 60).1 1 0 i w h hi (by omega) (by omega) (by omega) (by omega)
end Go.Proofs.YtppigckioalhhaaGreatDoorR
namespace Go.Proofs.YtppigckioalhhaaGreatDoorR
open Go.RowKit
set_option linter.unusedVariables false
set_option linter.unusedSimpArgs false
set_option maxRecDepth 100000

/-- a literal's slices -/
structure LU where
  t : Value
  l : Value
  r : Value
  o : Value
  b : Value
def liV : Pr.Li → LU → Array Value
  | .mk k a op l r fn av of body ln cl, U => #[.int .i64 k, .string a.rel, U.t, .int .i64 op, .int .i64 l.k, .string l.v, .int .i64 l.x.k, .int .i64 l.x.n, .string (Lx.ofS l.x.s), .int .i64 l.op, U.l, .int .i64 r.k, .string r.v, .int .i64 r.x.k, .int .i64 r.x.n, .string (Lx.ofS r.x.s), .int .i64 r.op, U.r, .int .i64 fn, .string av, .int .i64 of.k, .string of.v, .int .i64 of.x.k, .int .i64 of.x.n, .string (Lx.ofS of.x.s), .int .i64 of.op, U.o, U.b, .int .i64 ln, .int .i64 cl]
inductive LB (F : Nat → Prop) (w : World) : Pr.Li → LU → Prop
  | mk {k : Int} {a : Pr.Atom} {op : Int} {l r : Pr.Ex} {fn : Int} {av : ByteArray} {of : Pr.Ex} {body : List Pr.Li} {ln cl : Int} {U : LU} {ub : Option Addr} {cb : Nat} {us : Nat → LU}
      (ht : RowB F w 5 tmV a.terms U.t) (hl : EB F w l U.l) (hr : EB F w r U.r) (ho : EB F w of U.o) (hb : U.b = .slice ub body.length cb)
      (h1 : ∀ i (h : i < body.length), ∃ g off, ub = some ⟨g, off, none⟩ ∧ F g ∧ g < w.heap.size ∧ CellsAt w g (off + i * 30) (liV body[i] (us i)))
      (h2 : ∀ i (h : i < body.length), LB F w body[i] (us i)) : LB F w (.mk k a op l r fn av of body ln cl) U
/-- a body -/
def BB (F : Nat → Prop) (w : World) (body : List Pr.Li) (u : Value) : Prop := ∃ (ub : Option Addr) (cb : Nat) (us : Nat → LU), u = .slice ub body.length cb ∧
  (∀ i (h : i < body.length), ∃ g off, ub = some ⟨g, off, none⟩ ∧ F g ∧ g < w.heap.size ∧ CellsAt w g (off + i * 30) (liV body[i] (us i))) ∧ ∀ i (h : i < body.length), LB F w body[i] (us i)
theorem LB.parts {F : Nat → Prop} {w : World} {k : Int} {a : Pr.Atom} {op : Int} {l r : Pr.Ex} {fn : Int} {av : ByteArray} {of : Pr.Ex} {body : List Pr.Li} {ln cl : Int} {U : LU} (h : LB F w (.mk k a op l r fn av of body ln cl) U) :
    RowB F w 5 tmV a.terms U.t ∧ EB F w l U.l ∧ EB F w r U.r ∧ EB F w of U.o ∧ BB F w body U.b := by
  cases h with
  | mk ht hl hr ho hb h1 h2 => exact ⟨ht, hl, hr, ho, _, _, _, hb, h1, h2⟩
theorem LB.of {F : Nat → Prop} {w : World} {k : Int} {a : Pr.Atom} {op : Int} {l r : Pr.Ex} {fn : Int} {av : ByteArray} {of : Pr.Ex} {body : List Pr.Li} {ln cl : Int} {U : LU} (ht : RowB F w 5 tmV a.terms U.t) (hl : EB F w l U.l) (hr : EB F w r U.r) (ho : EB F w of U.o) (hb : BB F w body U.b) :
    LB F w (.mk k a op l r fn av of body ln cl) U := by
  obtain ⟨ub, cb, us, hu, h1, h2⟩ := hb
  exact .mk ht hl hr ho hu h1 h2
theorem LB.keep {F : Nat → Prop} {S : List Nat} {w w' : World} {e : Pr.Li} {U : LU} (h : LB F w e U) (hm : Mod S w w') (hS : ∀ s ∈ S, ¬ F s) : LB F w' e U := by
  induction h with
  | mk ht hl hr ho hb h1 h2 ih =>
    refine .mk (ht.keep hm hS) (hl.keep hm hS) (hr.keep hm hS) (ho.keep hm hS) hb (fun i h => ?_) ih
    obtain ⟨g, off, hu, hF, hg, hc⟩ := h1 i h
    exact ⟨g, off, hu, hF, Nat.lt_of_lt_of_le hg hm.size, hc.keep hm (fun hs => hS _ hs hF)⟩
theorem LB.mono {F F' : Nat → Prop} {w : World} {e : Pr.Li} {U : LU} (h : LB F w e U) (hF : ∀ k, F k → k < w.heap.size → F' k) : LB F' w e U := by
  induction h with
  | mk ht hl hr ho hb h1 h2 ih =>
    refine .mk (ht.mono hF) (hl.mono hF) (hr.mono hF) (ho.mono hF) hb (fun i h => ?_) ih
    obtain ⟨g, off, hu, hf, hg, hc⟩ := h1 i h
    exact ⟨g, off, hu, hF _ hf hg, hg, hc⟩
theorem BB.keep {F : Nat → Prop} {S : List Nat} {w w' : World} {l : List Pr.Li} {u : Value} (h : BB F w l u) (hm : Mod S w w') (hS : ∀ s ∈ S, ¬ F s) : BB F w' l u := by
  obtain ⟨ub, cb, us, hu, h1, h2⟩ := h
  refine ⟨ub, cb, us, hu, fun i h => ?_, fun i h => (h2 i h).keep hm hS⟩
  obtain ⟨g, off, hu, hF, hg, hc⟩ := h1 i h
  exact ⟨g, off, hu, hF, Nat.lt_of_lt_of_le hg hm.size, hc.keep hm (fun hs => hS _ hs hF)⟩
theorem BB.mono {F F' : Nat → Prop} {w : World} {l : List Pr.Li} {u : Value} (h : BB F w l u) (hF : ∀ k, F k → k < w.heap.size → F' k) : BB F' w l u := by
  obtain ⟨ub, cb, us, hu, h1, h2⟩ := h
  refine ⟨ub, cb, us, hu, fun i h => ?_, fun i h => (h2 i h).mono hF⟩
  obtain ⟨g, off, hu, hf, hg, hc⟩ := h1 i h
  exact ⟨g, off, hu, hF _ hf hg, hg, hc⟩
theorem BB.lit {F : Nat → Prop} {w : World} {l : List Pr.Li} {u : Value} (h : BB F w l u) : ∃ a c, u = .slice a l.length c := by
  obtain ⟨ub, cb, us, hu, -⟩ := h
  exact ⟨_, _, hu⟩
theorem BB.at {F : Nat → Prop} {w : World} {l : List Pr.Li} {a : Option Addr} {c : Nat} (h : BB F w l (.slice a l.length c)) (i : Nat) (hi : i < l.length) : ∃ g off U, a = some ⟨g, off, none⟩ ∧ CellsAt w g (off + i * 30) (liV l[i] U) ∧ LB F w l[i] U := by
  obtain ⟨ub, cb, us, hu, h1, h2⟩ := h
  obtain ⟨g, off, hu2, hF, hg, hc⟩ := h1 i hi
  simp only [Value.slice.injEq] at hu
  exact ⟨g, off, us i, hu.1.trans hu2, hc, h2 i hi⟩
theorem BB.nil {F : Nat → Prop} {w : World} {a : Option Addr} {c : Nat} : BB F w [] (.slice a 0 c) := ⟨a, c, fun _ => ⟨.slice none 0 0, .slice none 0 0, .slice none 0 0, .slice none 0 0, .slice none 0 0⟩, rfl, fun i h => absurd h (by simp), fun i h => absurd h (by simp)⟩
/-- out of a row of literals with their slices -/
theorem BB.of_row {F : Nat → Prop} {w : World} {u : Value} (l : List (Pr.Li × LU)) (h : RowB F w 30 (fun p : Pr.Li × LU => liV p.1 p.2) l u) (hs : ∀ p ∈ l, LB F w p.1 p.2) : BB F w (l.map (·.1)) u := by
  cases h with
  | nil => exact BB.nil
  | row hF hb h1 =>
    rename_i g off c
    refine ⟨some ⟨g, off, none⟩, c, fun i => if h : i < l.length then l[i].2 else ⟨.slice none 0 0, .slice none 0 0, .slice none 0 0, .slice none 0 0, .slice none 0 0⟩, by simp, fun i hi => ?_, fun i hi => ?_⟩
    · rw [List.length_map] at hi
      refine ⟨_, _, rfl, hF, hb, ?_⟩
      simp only [dif_pos hi, List.getElem_map]
      exact h1 i hi
    · rw [List.length_map] at hi
      simp only [dif_pos hi, List.getElem_map]
      exact hs _ (List.getElem_mem hi)
theorem liV_size (p : Pr.Li × LU) : (liV p.1 p.2).size = 30 := by
  obtain ⟨⟨k, a, op, l, r, fn, av, of, body, ln, cl⟩, U⟩ := p
  rfl
def valL (n : Nat) : Pr.Li → World → Value → Prop := fun l w x => ∃ U, x = .agg (liV l U) ∧ LB (fun k => n ≤ k) w l U
def valB (n : Nat) : List Pr.Li → World → Value → Prop := fun l w x => BB (fun k => n ≤ k) w l x
/-- an aggregate in memory -/
def agV (g : Sy.Ag) (uo ub : Value) : Array Value := #[.int .i64 g.fn, .string g.av, .int .i64 g.of.k, .string g.of.v, .int .i64 g.of.x.k, .int .i64 g.of.x.n, .string (Lx.ofS g.of.x.s), .int .i64 g.of.op, uo, ub]
def valG (n : Nat) : Sy.Ag → World → Value → Prop := fun g w x => ∃ uo ub, x = .agg (agV g uo ub) ∧ EB (fun k => n ≤ k) w g.of uo ∧ BB (fun k => n ≤ k) w g.body ub
end Go.Proofs.YtppigckioalhhaaGreatDoorR
