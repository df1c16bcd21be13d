/- WHAT THE VALUE LAWS LEND: rows of values of the call's own; lent. -/
import Derived.Test.YthdkaoegegiheaaDoorVaRef2
import Derived.Laws.CopyOwn
namespace Go.Proofs.YthdkaoegegiheaaDoor
open Go.RowKit
set_option linter.unusedVariables false
set_option linter.unusedSimpArgs false
set_option maxRecDepth 100000

def rowVals (ts : List Va.Val) : List Value := ts.flatMap fun v => (valV v).toList
theorem rowVals_cons (v : Va.Val) (ts : List Va.Val) : rowVals (v :: ts) = .int .i64 v.k :: .int .i64 v.n :: .string (Lx.ofS v.s) :: rowVals ts := rfl
theorem rowVals_app (a b : List Va.Val) : rowVals (a ++ b) = rowVals a ++ rowVals b := by simp [rowVals]
theorem rowVals_len : ∀ ts : List Va.Val, (rowVals ts).length = ts.length * 3
  | [] => rfl
  | v :: ts => by rw [rowVals_cons]; simp only [List.length_cons]; rw [rowVals_len ts]; omega
theorem rowVals_get : ∀ (ts : List Va.Val) (i : Nat) (h : i < ts.length), (rowVals ts)[i * 3]? = some (.int .i64 ts[i].k) ∧ (rowVals ts)[i * 3 + 1]? = some (.int .i64 ts[i].n) ∧ (rowVals ts)[i * 3 + 2]? = some (.string (Lx.ofS ts[i].s))
  | v :: ts, 0, _ => ⟨rfl, rfl, rfl⟩
  | v :: ts, i + 1, h => by
    have ih := rowVals_get ts i (by simpa using h)
    rw [rowVals_cons, show (i + 1) * 3 = i * 3 + 1 + 1 + 1 by omega]
    simpa using ih
theorem rowVals_one (ts : List Va.Val) : ∀ v ∈ rowVals ts, v.oneCell' = true := by
  intro v hv
  unfold rowVals at hv
  rw [List.mem_flatMap] at hv
  obtain ⟨x, -, hx⟩ := hv
  simp only [valV, List.mem_cons, List.not_mem_nil, or_false] at hx
  rcases hx with rfl | rfl | rfl <;> rfl
/-- block g holds these values and no more -/
def HAt (w : World) (g : Nat) (ts : List Va.Val) : Prop := w.heap[g]? = some (.cells (rowVals ts).toArray 23 (0, 0))
theorem HAt.val {w : World} {g : Nat} {ts : List Va.Val} (h : HAt w g ts) (i : Nat) (hi : i < ts.length) : ValAt w g (0 + i * 3) ts[i] := by
  obtain ⟨h0, h1, h2⟩ := rowVals_get ts i hi
  unfold HAt at h
  rw [Nat.zero_add]
  constructor <;> simp only [World.cell?, h, List.getElem?_toArray] <;> assumption
theorem HAt.vrow {w : World} {g : Nat} {ts : List Va.Val} (h : HAt w g ts) (n c : Nat) (hn : n ≤ ts.length) : VRow w (.slice (some ⟨g, 0, none⟩) n c) (ts.take n) := by
  have hl : (ts.take n).length = n := by rw [List.length_take]; omega
  refine .inr ⟨g, 0, c, by rw [hl], fun i hi => ?_⟩
  rw [hl] at hi
  rw [List.getElem_take]
  exact h.val i (by omega)
theorem HAt.keep {S : List Nat} {w w' : World} {g : Nat} {ts : List Va.Val} (h : HAt w g ts) (hm : Mod S w w') (hg : g ∉ S) : HAt w' g ts := hm.at h hg
theorem HAt.lt {w : World} {g : Nat} {ts : List Va.Val} (h : HAt w g ts) : g < w.heap.size := lt_of_block h
theorem VRow.src {w : World} {b off c : Nat} {ts : List Va.Val} (h : ∀ i (h : i < ts.length), ValAt w b (off + i * 3) ts[i]) (j : Nat) (u : Value) (hu : (rowVals ts)[j]? = some u) : w.cell? ((⟨b, off, none⟩ : Addr).add j) = some u := by
  have hj : j < ts.length * 3 := by
    obtain ⟨hh, -⟩ := List.getElem?_eq_some_iff.1 hu
    rwa [rowVals_len] at hh
  have hi : j / 3 < ts.length := by omega
  obtain ⟨h0, h1, h2⟩ := rowVals_get ts (j / 3) hi
  obtain ⟨c0, c1, c2⟩ := h (j / 3) hi
  rw [Addr.add_lit]
  generalize ts[j / 3] = x at *
  have h3 : j % 3 = 0 ∨ j % 3 = 1 ∨ j % 3 = 2 := by omega
  rcases h3 with e | e | e
  · have e' : j = j / 3 * 3 := by omega
    rw [e', h0] at hu
    obtain rfl := Option.some.inj hu
    rw [e']; exact c0
  · have e' : j = j / 3 * 3 + 1 := by omega
    rw [e', h1] at hu
    obtain rfl := Option.some.inj hu
    rw [e']; exact c1
  · have e' : j = j / 3 * 3 + 2 := by omega
    rw [e', h2] at hu
    obtain rfl := Option.some.inj hu
    rw [e']; exact c2

/-- copy, of elements of k cells -/
theorem run_copy_rowk {P : Program} (w : World) (dT sT ty elem : TypeId) (k g o dLen dCap : Nat) (a : Addr) (sLen sCap : Nat) (cur : Array Value) (t : TypeId) (cs : List Value)
    (hu : P.underlying dT = some (.slice elem)) (hs : (P.info? elem).map (·.size) = some k)
    (hg : w.heap[g]? = some (.cells cur t (0, 0))) (hn : cs.length = Nat.min sLen dLen * k)
    (hsrc : ∀ j v, cs[j]? = some v → w.cell? (a.add j) = some v) (hfit : o + cs.length ≤ cur.size) (h1 : ∀ v ∈ cs, v.oneCell' = true) :
    (Builtin.copy_ #[dT, sT] ty #[.slice (some ⟨g, o, none⟩) dLen dCap, .slice (some a) sLen sCap]).run P w =
      .ok (goInt (Nat.min sLen dLen)) (w.setRow g (cur.toList.take o ++ cs ++ cur.toList.drop (o + cs.length)).toArray) := by
  have hl := run_loadCells_list (P := P) w a cs hsrc
  have hst := run_storeCells_at P g o t cs 0 cur w hg (by simpa using hfit) h1
  cases hq : P.info? elem with
  | none => simp [hq] at hs
  | some i =>
    have hi : i.size = k := by simpa [hq] using hs
    simp [Builtin.copy_, run_underlying hu, Builtin.lenOf, Builtin.firstCells, sizeOf, typeInfo, hq, hi, ← hn, hl, hst]
theorem run_copy_nonek {P : Program} (w : World) (dT sT ty elem : TypeId) (k : Nat) (d a : Option Addr) (dLen dCap sLen sCap : Nat) (hu : P.underlying dT = some (.slice elem)) (hs : (P.info? elem).map (·.size) = some k) (hn : Nat.min sLen dLen = 0) :
    (Builtin.copy_ #[dT, sT] ty #[.slice d dLen dCap, .slice a sLen sCap]).run P w = .ok (goInt 0) w := by
  cases hq : P.info? elem with
  | none => simp [hq] at hs
  | some i =>
    have hl : ∀ (x : Addr), (loadCells x 0).run P w = .ok #[] w := fun x => by simpa using run_loadCells_list (P := P) w x [] (by simp)
    cases d <;> cases a <;> simp [Builtin.copy_, run_underlying hu, Builtin.lenOf, Builtin.firstCells, sizeOf, typeInfo, hq, hn, storeCells, hl]

/-- copy into the head of a row of values of the call's own that is no shorter -/
theorem wpList_copy_vals {ops : Array Oper} {rest : List Oper} {o : Oper} {a : Act} {Q : Exit → Act → World → Prop} (w : World) (hgd : o.guard = none) (d s : Operand)
    (ho : o.op = .call { callee := .builtin .copy, args := #[d, s], argTypes := #[32, 32] })
    (g dLen dCap : Nat) (sp : Option Addr) (sCap : Nat) (ts : List Va.Val) (hd : a.eval d = .slice (some ⟨g, 0, none⟩) dLen dCap) (hs : a.eval s = .slice sp ts.length sCap)
    (cur : List Value) (hg : w.heap[g]? = some (.cells cur.toArray 23 (0, 0))) (hle : ts.length ≤ dLen) (hcl : cur.length = dLen * 3) (hr : VRow w (.slice sp ts.length sCap) ts)
    (h : ∀ w', Hid (w'.heap[g]? = some (.cells (rowVals ts ++ cur.drop (ts.length * 3)).toArray 23 (0, 0))) → Mod [g] w w' → wpList Tryd.prog ops Q rest (a.put o.dst (goInt ts.length)) w') :
    wpList Tryd.prog ops Q (o :: rest) a w := by
  have hu := Tryd.underlying32
  have hsz : (Tryd.prog.info? 23).map (·.size) = some 3 := by kernel_rfl
  have hmin : Nat.min ts.length dLen = ts.length := Nat.min_eq_left hle
  refine wpList_plain hgd fun K hK => ?_
  by_cases h0 : ts.length = 0
  · have hrun := run_copy_nonek (P := Tryd.prog) w 32 32 o.type 23 3 (some ⟨g, 0, none⟩) sp dLen dCap ts.length sCap hu hsz (by rw [hmin]; exact h0)
    unfold Oper.wp
    simp [execOp, ho, resolve, invoke, builtin, hd, hs, hrun, Result.andThen]
    have := h w (Lib.hid (by obtain rfl : ts = [] := List.eq_nil_of_length_eq_zero h0; simpa [rowVals] using hg)) (Mod.refl _ _)
    rw [h0] at this
    exact hK _ _ this
  · obtain ⟨b, off, rfl, -⟩ := hr.at 0 (by omega)
    have hv : ∀ i (h : i < ts.length), ValAt w b (off + i * 3) ts[i] := by
      intro i hi
      obtain ⟨b', off', e, hv⟩ := hr.at i hi
      simp only [Option.some.injEq, Addr.mk.injEq, and_true] at e
      obtain ⟨rfl, rfl⟩ := e
      exact hv
    have hrun := run_copy_rowk (P := Tryd.prog) w 32 32 o.type 23 3 g 0 dLen dCap ⟨b, off, none⟩ ts.length sCap cur.toArray 23 (rowVals ts) hu hsz hg (by rw [rowVals_len, hmin]) (VRow.src (c := 0) hv) (by rw [rowVals_len]; simp only [List.size_toArray]; omega) (rowVals_one ts)
    rw [hmin] at hrun
    unfold Oper.wp
    simp [execOp, ho, resolve, invoke, builtin, hd, hs, hrun, Result.andThen]
    refine hK _ _ (h _ ?_ ?_)
    · refine Lib.hid ?_
      have := setRow_heap w g cur.toArray (rowVals ts ++ cur.drop (ts.length * 3)).toArray 23 _ hg
      simpa [rowVals_len] using this
    · exact ⟨rfl, rfl, rfl, by simp [World.setRow], fun k hk hn => setRow_other w g k _ (by simpa using hn)⟩

def bey : Va.Val := ⟨2, 0, [98, 101, 121, 111, 110, 100]⟩
theorem bey_s : Lx.ofS bey.s = { data := #[98, 101, 121, 111, 110, 100] } := by rfl
theorem zero_s : Lx.ofS Va.zero.s = { data := #[] } := by rfl
theorem made_vals (n : Nat) : (madeCells #[Value.int .i64 0, Value.int .i64 0, Value.string { data := #[] }] (n * 3)).toList = rowVals (List.replicate n Va.zero) := by
  apply List.ext_getElem?
  intro j
  by_cases hj : j < n * 3
  · have hi : j / 3 < (List.replicate n Va.zero).length := by rw [List.length_replicate]; omega
    obtain ⟨h0, h1, h2⟩ := rowVals_get (List.replicate n Va.zero) (j / 3) hi
    rw [List.getElem_replicate] at h0 h1 h2
    have hl : (madeCells #[Value.int .i64 0, Value.int .i64 0, Value.string { data := #[] }] (n * 3)).toList[j]? = some (#[Value.int .i64 0, Value.int .i64 0, Value.string { data := #[] }][j % 3]!) := by
      rw [Array.getElem?_toList]
      simp [madeCells, hj]
    rw [hl]
    have h3 : j % 3 = 0 ∨ j % 3 = 1 ∨ j % 3 = 2 := by omega
    rcases h3 with e | e | e
    · have e' : j = j / 3 * 3 := by omega
      rw [e, show (rowVals (List.replicate n Va.zero))[j]? = _ from (congrArg _ e').trans h0]; rfl
    · have e' : j = j / 3 * 3 + 1 := by omega
      rw [e, show (rowVals (List.replicate n Va.zero))[j]? = _ from (congrArg _ e').trans h1]; rfl
    · have e' : j = j / 3 * 3 + 2 := by omega
      rw [e, show (rowVals (List.replicate n Va.zero))[j]? = _ from (congrArg _ e').trans h2]; rfl
  · rw [List.getElem?_eq_none (by rw [Array.length_toList, size_madeCells]; omega), List.getElem?_eq_none (by rw [rowVals_len, List.length_replicate]; omega)]
theorem vals_drop (ts : List Va.Val) : rowVals ts ++ (rowVals (List.replicate (ts.length + 2) Va.zero)).drop (ts.length * 3) = rowVals (ts ++ [Va.zero, Va.zero]) := by
  rw [rowVals_app]
  congr 1
  rw [← List.replicate_append_replicate, rowVals_app, List.drop_left' (by rw [rowVals_len, List.length_replicate])]
  rfl
theorem rowVals_set : ∀ (ts : List Va.Val) (i : Nat) (v : Va.Val), rowVals (ts.set i v) = (((rowVals ts).set (i * 3) (.int .i64 v.k)).set (i * 3 + 1) (.int .i64 v.n)).set (i * 3 + 2) (.string (Lx.ofS v.s))
  | [], i, v => by simp [rowVals]
  | x :: ts, 0, v => by rw [List.set_cons_zero]; rfl
  | x :: ts, i + 1, v => by
    rw [List.set_cons_succ, rowVals_cons, rowVals_cons, rowVals_set ts i v, show (i + 1) * 3 = i * 3 + 1 + 1 + 1 by omega]
    simp only [List.set_cons_succ]
theorem HAt.set {w : World} {g : Nat} {ts : List Va.Val} (h : HAt w g ts) (i : Nat) (v : Va.Val) :
    HAt (((w.setCell ⟨g, i * 3, none⟩ (.int .i64 v.k)).setCell ⟨g, i * 3 + 1, none⟩ (.int .i64 v.n)).setCell ⟨g, i * 3 + 2, none⟩ (.string (Lx.ofS v.s))) g (ts.set i v) := by
  have := setCell_at (setCell_at (setCell_at h (i * 3) (.int .i64 v.k)) (i * 3 + 1) (.int .i64 v.n)) (i * 3 + 2) (.string (Lx.ofS v.s))
  unfold HAt
  rw [this, rowVals_set]
  simp
theorem HAt.free {w : World} {g : Nat} {ts : List Va.Val} (h : HAt w g ts) (j : Nat) : w.frozen? ⟨g, j, none⟩ = false := by
  unfold HAt at h
  simp [World.frozen?, h]
theorem mod_val {S : List Nat} {w0 w : World} {b o : Nat} (h : Mod S w0 w) (hb : b ∈ S ∨ w0.heap.size ≤ b) (v0 v1 v2 : Value) :
    Mod S w0 (((w.setCell ⟨b, o, none⟩ v0).setCell ⟨b, o + 1, none⟩ v1).setCell ⟨b, o + 2, none⟩ v2) := ((h.setCell hb _).setCell hb _).setCell hb _

set_option maxHeartbeats 1000000 in
theorem lent_any (v : Value) (ts : List Va.Val) (hlen : ts.length ≤ 4398046511103) (w : World) (h : VRow w v ts) :
    Calls Tryd.prog 16 #[v] w fun e w' => ∃ g, e = .returned (.slice (some ⟨g, 0, none⟩) ts.length (ts.length + 2)) ∧ HAt w' g (ts ++ [bey, bey]) ∧ Mod [] w w' ∧ w.heap.size ≤ g := by
  have hinf : (Tryd.prog.info? 23).map (fun i => (i.zero, i.size, i.bytes)) = some (some (.agg #[.int .i64 0, .int .i64 0, .string { data := #[] }]), 3, 32) := by kernel_rfl
  obtain ⟨i0, hi, hz⟩ := Option.map_eq_some_iff.1 hinf
  simp only [Prod.mk.injEq] at hz
  obtain ⟨hz0, hz1, hz2⟩ := hz
  obtain ⟨a', c', rfl⟩ := h.lit
  have ecast : Hid (((ts.length : Int) + 2) = ((ts.length + 2 : Nat) : Int)) := Lib.hid (by omega)
  have HR := Lib.hid h
  clear h
  go_enter Tryd.func16, Tryd.ntmps16
  go_wp2_with (at_make; refine wpList_make_full _ rfl _ _ 32 rfl 0 23 i0 (.agg #[.int .i64 0, .int .i64 0, .string { data := #[] }]) 3 Tryd.underlying32 hi hz0 hz1 .i64 .i64 _ _ (ts.length + 2) rfl rfl (by omega) (by omega) (by rw [hz2]; omega) (by unfold maxLen; omega) (Nat.zero_le _) ?_)
  intro w1 hown hg1
  have hat1 : w1.heap[w.heap.size]? = some (.cells (rowVals (List.replicate (ts.length + 2) Va.zero)).toArray 23 (0, 0)) := by
    rcases hown.2 with ⟨hv, _⟩ | ⟨g', cap', cur, hv, _, hat, _, _, hcs, htk⟩
    · cases hv
    · cases hv
      rw [hat]
      congr 2
      apply Array.ext'
      have e1 : cur.toList.length = (ts.length + 2) * 3 := Array.length_toList.trans hcs
      rw [← e1, List.take_length] at htk
      rw [htk, e1, ← made_vals]
  have hm1 := (Mod.refl [] w).grown hg1 (by simp)
  have hr1 := HR.out.past hm1 (by simp)
  clear hown hg1
  have hat1' := Lib.hid hat1; have HR1 := Lib.hid hr1; have HM1 := Lib.hid hm1
  clear hat1 hr1 hm1 HR
  go_wp2_with (with_reducible refine wpList_copy_vals _ rfl _ _ rfl w.heap.size (ts.length + 2) (ts.length + 2) a' c' ts rfl rfl (rowVals (List.replicate (ts.length + 2) Va.zero)) hat1'.out (by omega) (by rw [rowVals_len, List.length_replicate]) HR1.out ?_)
  intro w2 hat2 hm2
  have hat2' : HAt w2 w.heap.size (ts ++ [Va.zero, Va.zero]) := by
    have := hat2.out
    rwa [vals_drop] at this
  have HM2 : Hid (Mod [] w w2) := Lib.hid (HM1.out.trans hm2 (fun t ht => .inr (by simp at ht; omega)))
  have H2 := Lib.hid hat2'
  clear hat2 hm2 HM1 HR1 hat1' hat2'
  have hnI : (ts.length : Int) < (ts.length + 2 : Int) := by omega
  have hnJ : (ts.length : Int) + 1 < (ts.length + 2 : Int) := by omega
  go_wp2_with fail
  refine (sym_any _ _).mono ?_
  rintro e w3 ⟨rfl, hm3⟩
  have hg2 := H2.out.lt
  have H3 := Lib.hid (H2.out.keep hm3 (by simp))
  have HM3 := Lib.hid (HM2.out.trans hm3 (by simp))
  have hg3 := hm3.size
  clear hm3 H2 HM2
  obtain ⟨c0, c1, c2⟩ := H3.out.val ts.length (by simp)
  have hfz := H3.out.free
  rw [Nat.zero_add] at c0 c1 c2
  generalize (ts ++ [Va.zero, Va.zero])[ts.length] = x at c0 c1 c2
  go_wp2_with fail
  refine (sym_any _ _).mono ?_
  rintro e w4 ⟨rfl, hm4⟩
  have h4 := H3.out.set ts.length bey
  rw [show (ts ++ [Va.zero, Va.zero]).set ts.length bey = ts ++ [bey, Va.zero] by simp] at h4
  have H4 := Lib.hid (h4.keep hm4 (by simp))
  have HM4 := Lib.hid ((mod_val (S := []) HM3.out (.inr (Nat.le_refl _)) _ _ _).trans hm4 (by simp))
  clear hm4 H3 HM3 h4 hfz c0 c1 c2
  obtain ⟨c0, c1, c2⟩ := H4.out.val (ts.length + 1) (by simp)
  have hfz := H4.out.free
  rw [Nat.zero_add] at c0 c1 c2
  generalize (ts ++ [bey, Va.zero])[ts.length + 1] = y at c0 c1 c2
  have hnn : ¬ ((ts.length : Int) + 1 < 0) := by omega
  go_wp2_with fail
  go_ret
  refine ⟨_, rfl, ?_, mod_val (S := []) HM4.out (.inr (Nat.le_refl _)) _ _ _, Nat.le_refl _⟩
  have := H4.out.set (ts.length + 1) bey
  rwa [show (ts ++ [bey, Va.zero]).set (ts.length + 1) bey = ts ++ [bey, bey] by simp] at this
end Go.Proofs.YthdkaoegegiheaaDoor
