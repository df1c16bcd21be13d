/- VALUES: a text read: the program's. Printed by wip/gen_vaparse.py. -/
import Derived.Test.YtcalbbfkgdfidaaDoorVaUnq
import Derived.Laws.StructEq
import Derived.Deep.DeepCutAuto
namespace Go.Proofs.YtcalbbfkgdfidaaDoor
open Go.RowKit
set_option linter.unusedVariables false
set_option linter.unusedSimpArgs false
set_option maxRecDepth 100000

theorem uqF_lt : ∀ (k : Nat) (l t : List Nat), (∀ c ∈ l, c < 256) → Va.uqF k l = some t → ∀ c ∈ t, c < 256
  | 0, _, _, _, h => by simp [Va.uqF] at h
  | k + 1, [], t, _, h => by simp [Va.uqF] at h; subst h; simp
  | k + 1, c :: r, t, hb, h => by
    have hr : ∀ x ∈ r, x < 256 := fun x hx => hb x (by simp [hx])
    have key : ∀ (b : Nat) (l' : List Nat), b < 256 → (∀ c ∈ l', c < 256) → (Va.uqF k l').map (b :: ·) = some t → ∀ c ∈ t, c < 256 := by
      intro b l' hb' hl' hm
      cases hu : Va.uqF k l' with
      | none => rw [hu] at hm; simp at hm
      | some t' =>
        rw [hu] at hm
        simp only [Option.map_some, Option.some.injEq] at hm
        subst hm
        intro x hx
        rcases List.mem_cons.1 hx with rfl | hx
        · exact hb'
        · exact uqF_lt k l' t' hl' hu x hx
    by_cases hc : c = 92
    · subst hc
      cases r with
      | nil => simp [Va.uqF] at h
      | cons x u =>
        rw [Va.uqF_esc] at h
        have hu : ∀ y ∈ u, y < 256 := fun y hy => hr y (by simp [hy])
        split at h
        · cases ha : Lx.hexv (u.headD 0) with
          | none => rw [ha] at h; simp at h
          | some p =>
            cases hq : Lx.hexv ((u.drop 1).headD 0) with
            | none => rw [ha, hq] at h; simp at h
            | some q =>
              rw [ha, hq] at h
              have := Lx.hexv_lt ha; have := Lx.hexv_lt hq
              exact key _ _ (by omega) (fun y hy => hu y (List.mem_of_mem_drop hy)) h
        · split at h
          · exact key _ _ (by decide) hu h
          · exact key _ _ (hr x (by simp)) hu h
    · rw [Va.uqF_one _ _ _ hc] at h
      exact key _ _ (hb c (by simp)) hr h

theorem res_val {fn : Func} {p u : Tmp} (h : fn.results = #[.cell p 44, .tmp u]) (tmps : Array Value) (w : World) (b : Nat) (cs : Array Value) (T : TypeId) (fr : Nat × Nat) (x : Value)
    (hp : tmps.getD p undef = .pointer (some ⟨b, 0, none⟩)) (hx : tmps.getD u undef = x) (hg : w.heap[b]? = some (.cells cs T fr)) (hc : cs.size = 3) :
    (results fn tmps).run Tryd.prog w = .ok (.tuple #[.agg cs, x]) w := by
  have hl := run_loadVar_row (P := Tryd.prog) w b T 44 cs fr _ hg Tryd.underlying44 rfl (by rw [show (Tryd.prog.info? 44).map (·.size) = some 3 by kernel_rfl, hc])
  have hp' : tmps[p]?.getD undef = .pointer (some ⟨b, 0, none⟩) := by simpa using hp
  have hx' : tmps[u]?.getD undef = x := by simpa using hx
  simp [results, h, hp', hx', asAddr, hl]
theorem vstore3 {w : World} {b : Nat} {a0 a1 a2 : Value} {T : TypeId} {fr : Nat × Nat} (h : w.heap[b]? = some (.cells #[a0, a1, a2] T fr)) (v0 v1 v2 : Value) :
    (((w.setCell ⟨b, 0, none⟩ v0).setCell ⟨b, 1, none⟩ v1).setCell ⟨b, 2, none⟩ v2).heap[b]? = some (.cells #[v0, v1, v2] T fr) := by
  have h1 := setCell_at h 0 v0
  generalize w.setCell ⟨b, 0, none⟩ v0 = w1 at *
  have h2 := setCell_at h1 1 v1
  generalize w1.setCell ⟨b, 1, none⟩ v1 = w2 at *
  have h3 := setCell_at h2 2 v2
  rw [h3]; simp
theorem vmod3 {S : List Nat} {w0 w : World} {b : Nat} (h : Mod S w0 w) (hb : b ∈ S ∨ w0.heap.size ≤ b) (v0 v1 v2 : Value) :
    Mod S w0 (((w.setCell ⟨b, 0, none⟩ v0).setCell ⟨b, 1, none⟩ v1).setCell ⟨b, 2, none⟩ v2) :=
  ((h.setCell hb _).setCell hb _).setCell hb _
theorem val_ok {v : Va.Val} (h : Va.may v = true) (hb : ∀ c ∈ v.s, c < 256) : v.Ok := by
  unfold Va.may at h
  simp only [Bool.or_eq_true, Bool.and_eq_true, beq_iff_eq, decide_eq_true_eq] at h
  refine ⟨hb, ?_, ?_⟩ <;> rcases h with ⟨-, -, h1, h2⟩ | ⟨-, h1, -⟩ <;> omega

def VB (v : Va.Val) : Prop := ∀ c ∈ v.s, c < 256
/-- what Parse answers -/
def prsV : Option Va.Val → Value
  | some v => .tuple #[.agg (valV v), .int .i64 0]
  | none => .tuple #[.agg (valV Va.zero), .int .i64 21]
theorem prs_none {l : List Nat} {v : Va.Val} (hg : Va.guess l = some v) (h : ¬ (Va.may v = true ∧ Va.text v = l)) : Va.parse l = none := by
  unfold Va.parse; rw [hg]; exact if_neg h
theorem prs_some {l : List Nat} {v : Va.Val} (hg : Va.guess l = some v) (h : Va.may v = true ∧ Va.text v = l) : Va.parse l = some v := by
  unfold Va.parse; rw [hg]; exact if_pos h
theorem ofS_eq (l : List Nat) (s : ByteArray) (hl : ∀ c ∈ l, c < 256) : ((Lx.ofS l).toList == s.toList) = decide (l = Cod.str s) := by
  rw [str_beq, Bool.eq_iff_iff, decide_eq_true_eq, decide_eq_true_eq]
  constructor
  · intro h; rw [← h, Lx.str_ofS hl]
  · intro h; rw [h, Lx.ofS_str]
theorem text_lt {v : Va.Val} (hb : ∀ c ∈ v.s, c < 256) : ∀ c ∈ Va.text v, c < 256 := by
  unfold Va.text
  split
  · exact Va.itoa_lt _
  · split
    · exact hb
    · intro c hc
      unfold Va.quoted at hc
      simp only [List.mem_append, List.mem_cons, List.mem_flatMap, List.not_mem_nil, or_false] at hc
      rcases hc with rfl | ⟨y, hy, hx⟩ | rfl
      · decide
      · exact qb_lt (hb y hy) c hx
      · decide

set_option maxHeartbeats 8000000 in
theorem Parse_any (s : ByteArray) (hs : s.size ≤ 140737488355327) (w : World) (hG : GlobV w) :
    Calls Tryd.prog 16 #[.string s] w fun e w' => e = .returned (prsV (Va.parse (Cod.str s))) ∧ Mod [] w w' := by
  have hlt := Cod.str_lt s
  have hln := Cod.str_len s
  have hgs : Va.guess (Cod.str s) = match Va.atoiV (Cod.str s) with | some n => some ⟨1, n, []⟩ | none => if 1 < (Cod.str s).length ∧ (Cod.str s).headD 0 = 34 then (Va.uq (((Cod.str s).take ((Cod.str s).length - 1)).drop 1)).map fun t => ⟨2, 0, t⟩ else some ⟨2, 0, Cod.str s⟩ := rfl
  have h2 := fun w hG => atoi_any s (by omega) w hG
  have HAT := Lib.hid h2; have HGS := Lib.hid hgs
  clear h2 hgs
  have hm0 : Mod [] w ((w.alloc (Obj.cells #[Value.int IntKind.i64 0, Value.int IntKind.i64 0, Value.string { data := #[] }] 44)).alloc (Obj.cells #[Value.int IntKind.i64 2, Value.int IntKind.i64 0, Value.string s] 44)) := ((Mod.refl [] w).alloc _).alloc _
  have hB20 : ((w.alloc (Obj.cells #[Value.int IntKind.i64 0, Value.int IntKind.i64 0, Value.string { data := #[] }] 44)).alloc (Obj.cells #[Value.int IntKind.i64 2, Value.int IntKind.i64 0, Value.string s] 44)).heap[w.heap.size]? = some (Obj.cells #[Value.int IntKind.i64 0, Value.int IntKind.i64 0, Value.string { data := #[] }] 44) := two_at w _ _
  have hB40 : ((w.alloc (Obj.cells #[Value.int IntKind.i64 0, Value.int IntKind.i64 0, Value.string { data := #[] }] 44)).alloc (Obj.cells #[Value.int IntKind.i64 2, Value.int IntKind.i64 0, Value.string s] 44)).heap[w.heap.size + 1]? = some (Obj.cells #[Value.int IntKind.i64 2, Value.int IntKind.i64 0, Value.string s] 44) := alloc_at _ (by simp)
  have HM0 := Lib.hid hm0; have HB20 := Lib.hid hB20; have HB40 := Lib.hid hB40
  clear hm0 hB20 hB40
  go_enter Tryd.func16, Tryd.ntmps16
  go_wp2_with fail
  refine (HAT.out _ (hG.past HM0.out (by simp))).mono ?_
  rintro e w3 ⟨⟨n, ev, rfl, hc⟩, hm3⟩
  have hB2 := hm3.at HB20.out (by simp)
  have hB4 := hm3.at HB40.out (by simp)
  have hmX := HM0.out.trans hm3 (by simp)
  clear hm3 HB20 HB40 HM0
  have hl4 := lt_of_block hB4
  rcases hc with ⟨ha, rfl⟩ | ⟨ha, ty, p, rfl⟩
  · have HG : Hid (Va.guess (Cod.str s) = some ⟨1, n, []⟩) := Lib.hid (by rw [HGS.out, ha])
    have fz4 : ∀ j, w3.frozen? ⟨w.heap.size + 1, j, none⟩ = false := fun j => by simp [World.frozen?, hB4]
    have q0 : w3.cell? ⟨w.heap.size + 1, 0, none⟩ = some (.int .i64 2) := by simp [World.cell?, hB4]
    have q1 : w3.cell? ⟨w.heap.size + 1, 1, none⟩ = some (.int .i64 0) := by simp [World.cell?, hB4]
    have q2 : w3.cell? ⟨w.heap.size + 1, 2, none⟩ = some (.string s) := by simp [World.cell?, hB4]
    have HB2 := Lib.hid hB2; have HB4 := Lib.hid hB4; have HMX := Lib.hid hmX
    clear hB2 hB4 hmX ha
    go_upto_region 10 with fail
    have hB4 : (((w3.setCell ⟨w.heap.size + 1, 0, none⟩ (.int .i64 1)).setCell ⟨w.heap.size + 1, 1, none⟩ (.int .i64 n)).setCell ⟨w.heap.size + 1, 2, none⟩ (.string { data := #[] })).heap[w.heap.size + 1]? = some (.cells (valV ⟨1, n, []⟩) 44 (0, 0)) := vstore3 HB4.out _ _ _
    have hB2 := Mod.at (S := [w.heap.size + 1]) (k := w.heap.size) (vmod3 (b := w.heap.size + 1) (Mod.refl [w.heap.size + 1] w3) (.inl (by simp)) (.int .i64 1) (.int .i64 n) (.string { data := #[] })) HB2.out (by simp)
    have hmX : Mod [] w _ := vmod3 HMX.out (b := w.heap.size + 1) (.inr (Nat.le_succ _)) (.int .i64 1) (.int .i64 n) (.string { data := #[] })
    generalize (((w3.setCell ⟨w.heap.size + 1, 0, none⟩ (.int .i64 1)).setCell ⟨w.heap.size + 1, 1, none⟩ (.int .i64 n)).setCell ⟨w.heap.size + 1, 2, none⟩ (.string { data := #[] })) = wr at *
    have hvb : VB ⟨1, n, []⟩ := by simp [VB]
    have hl4 := lt_of_block hB4
    clear q0 q1 q2 fz4 HB2 HB4 HMX
    generalize (⟨1, n, []⟩ : Va.Val) = v at *
    have hGX := hG.past hmX (by simp)
    have c0 : wr.cell? ⟨w.heap.size + 1, 0, none⟩ = some (.int .i64 v.k) := by simp only [World.cell?, hB4]; rfl
    have c1 : wr.cell? ⟨w.heap.size + 1, 1, none⟩ = some (.int .i64 v.n) := by simp only [World.cell?, hB4]; rfl
    have c2 : wr.cell? ⟨w.heap.size + 1, 2, none⟩ = some (.string (Lx.ofS v.s)) := by simp only [World.cell?, hB4]; rfl
    have hck := fun w => check_any v w
    unfold valV at hck
    have HB2 := Lib.hid hB2; have HB4 := Lib.hid hB4; have HMX := Lib.hid hmX
    clear hB2 hB4 hmX
    cases hmv : Va.may v
    · have e : Hid (Va.parse (Cod.str s) = none) := Lib.hid (prs_none HG.out (by rw [hmv]; simp))
      have hc20 : chk v = 20 := by unfold chk; rw [hmv]; rfl
      rw [hc20] at hck
      have HCK := Lib.hid hck
      clear hck hc20 hmv hGX
      go_wp2_with fail
      refine (HCK.out _).mono ?_
      rintro e2 w5 ⟨rfl, hm5⟩
      have hB2 := hm5.at HB2.out (by simp)
      have fz : ∀ j, w5.frozen? ⟨w.heap.size, j, none⟩ = false := fun j => by simp [World.frozen?, hB2]
      have d0 : w5.cell? ⟨w.heap.size, 0, none⟩ = some (.int .i64 0) := by simp [World.cell?, hB2]
      have d1 : w5.cell? ⟨w.heap.size, 1, none⟩ = some (.int .i64 0) := by simp [World.cell?, hB2]
      have d2 : w5.cell? ⟨w.heap.size, 2, none⟩ = some (.string ⟨#[]⟩) := by simp [World.cell?, hB2]
      have HB5 := Lib.hid hB2; have HM5 := Lib.hid (HMX.out.trans hm5 (by simp))
      clear hB2 hm5 c0 c1 c2
      go_wp2_with fail
      refine bodyPost_ret (res_val rfl _ _ _ _ _ _ _ rfl rfl (vstore3 HB5.out _ _ _) rfl) rfl ⟨by rw [e.out]; rfl, vmod3 HM5.out (.inr (Nat.le_refl _)) _ _ _⟩
    · have hc0 : chk v = 0 := by unfold chk; rw [hmv]; rfl
      rw [hc0] at hck
      have htx := fun w hG => text_any v (val_ok hmv hvb) (by have := may_len hmv; omega) w hG
      unfold valV at htx
      have heq := ofS_eq (Va.text v) s (text_lt hvb)
      have HCK := Lib.hid hck; have HTX := Lib.hid htx
      clear hck hc0 htx
      go_wp2_with fail
      refine (HCK.out _).mono ?_
      rintro e2 w5 ⟨rfl, hm5⟩
      replace c0 := hm5.cell c0 (by simp)
      replace c1 := hm5.cell c1 (by simp)
      replace c2 := hm5.cell c2 (by simp)
      have hB25 := hm5.at HB2.out (by simp)
      have HB25 := Lib.hid hB25; have HM5 := Lib.hid (HMX.out.trans hm5 (by simp))
      clear hm5 hB25
      go_wp2_with fail
      refine (HTX.out _ (hG.past HM5.out (by simp))).mono ?_
      rintro e2 w6 ⟨rfl, hm6⟩
      replace c0 := hm6.cell c0 (by simp)
      replace c1 := hm6.cell c1 (by simp)
      replace c2 := hm6.cell c2 (by simp)
      have hB2 := hm6.at HB25.out (by simp)
      have fz : ∀ j, w6.frozen? ⟨w.heap.size, j, none⟩ = false := fun j => by simp [World.frozen?, hB2]
      have d0 : w6.cell? ⟨w.heap.size, 0, none⟩ = some (.int .i64 0) := by simp [World.cell?, hB2]
      have d1 : w6.cell? ⟨w.heap.size, 1, none⟩ = some (.int .i64 0) := by simp [World.cell?, hB2]
      have d2 : w6.cell? ⟨w.heap.size, 2, none⟩ = some (.string ⟨#[]⟩) := by simp [World.cell?, hB2]
      have HB6 := Lib.hid hB2; have HM6 := Lib.hid (HM5.out.trans hm6 (by simp))
      clear hB2 hm6
      by_cases hte : Va.text v = Cod.str s
      · have e : Hid (Va.parse (Cod.str s) = some v) := Lib.hid (prs_some HG.out ⟨hmv, hte⟩)
        rw [decide_eq_true hte] at heq
        clear hte hmv
        go_wp2_with fail
        refine bodyPost_ret (res_val rfl _ _ _ _ _ _ _ rfl rfl (vstore3 HB6.out _ _ _) rfl) rfl ⟨by rw [e.out]; rfl, vmod3 HM6.out (.inr (Nat.le_refl _)) _ _ _⟩
      · have e : Hid (Va.parse (Cod.str s) = none) := Lib.hid (prs_none HG.out (fun h => hte h.2))
        rw [decide_eq_false hte] at heq
        clear hte hmv c0 c1 c2
        go_wp2_with fail
        refine bodyPost_ret (res_val rfl _ _ _ _ _ _ _ rfl rfl (vstore3 HB6.out _ _ _) rfl) rfl ⟨by rw [e.out]; rfl, vmod3 HM6.out (.inr (Nat.le_refl _)) _ _ _⟩
  · by_cases hq : 1 < (Cod.str s).length ∧ (Cod.str s).headD 0 = 34
    · have hg : Va.guess (Cod.str s) = (Va.uq (((Cod.str s).take ((Cod.str s).length - 1)).drop 1)).map fun t => ⟨2, 0, t⟩ := by rw [HGS.out, ha]; exact if_pos hq
      have hcut : Cod.str (s.extract 1 (s.size - 1)) = ((Cod.str s).take ((Cod.str s).length - 1)).drop 1 := by
        rw [Lx.str_extract, List.drop_take, hln]
      rw [← hcut] at hg
      have hun := fun w hG => unquoted_any (s.extract 1 (s.size - 1)) (by rw [ByteArray.size_extract]; omega) w hG
      have hub : ∀ t, Va.uq (Cod.str (s.extract 1 (s.size - 1))) = some t → ∀ c ∈ t, c < 256 := fun t ht => uqF_lt _ _ t (Cod.str_lt _) ht
      have h1I : (1 : Int) < (s.size : Int) := by omega
      have h1J : (0 : Int) ≤ (s.size : Int) - 1 := by omega
      have h1K : (1 : Int) ≤ (s.size : Int) - 1 := by omega
      have h1L : ((s.size : Int) - 1).toNat = s.size - 1 := by omega
      have h1M : (s.size : Int) - 1 ≤ (s.size : Int) := by omega
      have h0I : (0 : Int) < (s.size : Int) := by omega
      have hb34 : (s[0].toNat : Int) = 34 := by
        have := Lx.get_str s 0 (by omega)
        have h2 := hq.2
        cases hs0 : Cod.str s with
        | nil => rw [hs0] at hq; simp at hq
        | cons c t => rw [hs0] at this h2; simp at this h2; omega
      have fz4 : ∀ j, w3.frozen? ⟨w.heap.size + 1, j, none⟩ = false := fun j => by simp [World.frozen?, hB4]
      have q2 : w3.cell? ⟨w.heap.size + 1, 2, none⟩ = some (.string s) := by simp [World.cell?, hB4]
      have HUN := Lib.hid hun; have HUB := Lib.hid hub
      have HB2 := Lib.hid hB2; have HB4 := Lib.hid hB4; have HMX := Lib.hid hmX
      clear hun hub hcut hB2 hB4 hmX ha
      generalize Va.uq (Cod.str (s.extract 1 (s.size - 1))) = o at *
      cases o with
      | none =>
        have e : Hid (Va.parse (Cod.str s) = none) := Lib.hid (by unfold Va.parse; rw [hg]; rfl)
        clear hg
        go_wp2_with fail
        refine (HUN.out _ (hG.past HMX.out (by simp))).mono ?_
        rintro e2 w5 ⟨rfl, hm5⟩
        rw [unqV]
        have hB25 := hm5.at HB2.out (by simp)
        have fz : ∀ j, w5.frozen? ⟨w.heap.size, j, none⟩ = false := fun j => by simp [World.frozen?, hB25]
        have d0 : w5.cell? ⟨w.heap.size, 0, none⟩ = some (.int .i64 0) := by simp [World.cell?, hB25]
        have d1 : w5.cell? ⟨w.heap.size, 1, none⟩ = some (.int .i64 0) := by simp [World.cell?, hB25]
        have d2 : w5.cell? ⟨w.heap.size, 2, none⟩ = some (.string ⟨#[]⟩) := by simp [World.cell?, hB25]
        have HB5 := Lib.hid hB25; have HM5 := Lib.hid (HMX.out.trans hm5 (by simp))
        clear hB25 hm5
        go_wp2_with fail
        refine bodyPost_ret (res_val rfl _ _ _ _ _ _ _ rfl rfl (vstore3 HB5.out _ _ _) rfl) rfl ⟨by rw [e.out]; rfl, vmod3 HM5.out (.inr (Nat.le_refl _)) _ _ _⟩
      | some t =>
        have HG : Hid (Va.guess (Cod.str s) = some ⟨2, 0, t⟩) := Lib.hid (by rw [hg]; rfl)
        have hvb : VB ⟨2, 0, t⟩ := HUB.out t rfl
        clear hg HUB
        go_wp2_with fail
        refine (HUN.out _ (hG.past HMX.out (by simp))).mono ?_
        rintro e2 w5 ⟨rfl, hm5⟩
        rw [unqV]
        have hB25 := hm5.at HB2.out (by simp)
        have hB45 := hm5.at HB4.out (by simp)
        have hmX5 := HMX.out.trans hm5 (by simp)
        have fz : ∀ j, w5.frozen? ⟨w.heap.size + 1, j, none⟩ = false := fun j => by simp [World.frozen?, hB45]
        have d2 : w5.cell? ⟨w.heap.size + 1, 2, none⟩ = some (.string s) := by simp [World.cell?, hB45]
        have HB25 := Lib.hid hB25; have HB45 := Lib.hid hB45; have HMX5 := Lib.hid hmX5
        clear hm5 hB25 hB45 hmX5
        go_upto_region 10 with fail
        have hB4 : (w5.setCell ⟨w.heap.size + 1, 2, none⟩ (.string (Lx.ofS t))).heap[w.heap.size + 1]? = some (.cells (valV ⟨2, 0, t⟩) 44 (0, 0)) := (setCell_at HB45.out 2 _).trans (by simp [valV])
        have hB2 := ((Mod.refl [w.heap.size + 1] w5).setCell (p := ⟨w.heap.size + 1, 2, none⟩) (.inl (by simp)) (.string (Lx.ofS t))).at HB25.out (by simp)
        have hmX : Mod [] w _ := HMX5.out.setCell (p := ⟨w.heap.size + 1, 2, none⟩) (.inr (Nat.le_succ _)) (.string (Lx.ofS t))
        generalize (w5.setCell ⟨w.heap.size + 1, 2, none⟩ (.string (Lx.ofS t))) = wr at *
        have hl4 := lt_of_block hB4
        clear d2 fz HB25 HB45 HMX5 HB2 HB4 HMX HUN q2 fz4
        generalize (⟨2, 0, t⟩ : Va.Val) = v at *
        have hGX := hG.past hmX (by simp)
        have c0 : wr.cell? ⟨w.heap.size + 1, 0, none⟩ = some (.int .i64 v.k) := by simp only [World.cell?, hB4]; rfl
        have c1 : wr.cell? ⟨w.heap.size + 1, 1, none⟩ = some (.int .i64 v.n) := by simp only [World.cell?, hB4]; rfl
        have c2 : wr.cell? ⟨w.heap.size + 1, 2, none⟩ = some (.string (Lx.ofS v.s)) := by simp only [World.cell?, hB4]; rfl
        have hck := fun w => check_any v w
        unfold valV at hck
        have HB2 := Lib.hid hB2; have HB4 := Lib.hid hB4; have HMX := Lib.hid hmX
        clear hB2 hB4 hmX
        cases hmv : Va.may v
        · have e : Hid (Va.parse (Cod.str s) = none) := Lib.hid (prs_none HG.out (by rw [hmv]; simp))
          have hc20 : chk v = 20 := by unfold chk; rw [hmv]; rfl
          rw [hc20] at hck
          have HCK := Lib.hid hck
          clear hck hc20 hmv hGX
          go_wp2_with fail
          refine (HCK.out _).mono ?_
          rintro e2 w5 ⟨rfl, hm5⟩
          have hB2 := hm5.at HB2.out (by simp)
          have fz : ∀ j, w5.frozen? ⟨w.heap.size, j, none⟩ = false := fun j => by simp [World.frozen?, hB2]
          have d0 : w5.cell? ⟨w.heap.size, 0, none⟩ = some (.int .i64 0) := by simp [World.cell?, hB2]
          have d1 : w5.cell? ⟨w.heap.size, 1, none⟩ = some (.int .i64 0) := by simp [World.cell?, hB2]
          have d2 : w5.cell? ⟨w.heap.size, 2, none⟩ = some (.string ⟨#[]⟩) := by simp [World.cell?, hB2]
          have HB5 := Lib.hid hB2; have HM5 := Lib.hid (HMX.out.trans hm5 (by simp))
          clear hB2 hm5 c0 c1 c2
          go_wp2_with fail
          refine bodyPost_ret (res_val rfl _ _ _ _ _ _ _ rfl rfl (vstore3 HB5.out _ _ _) rfl) rfl ⟨by rw [e.out]; rfl, vmod3 HM5.out (.inr (Nat.le_refl _)) _ _ _⟩
        · have hc0 : chk v = 0 := by unfold chk; rw [hmv]; rfl
          rw [hc0] at hck
          have htx := fun w hG => text_any v (val_ok hmv hvb) (by have := may_len hmv; omega) w hG
          unfold valV at htx
          have heq := ofS_eq (Va.text v) s (text_lt hvb)
          have HCK := Lib.hid hck; have HTX := Lib.hid htx
          clear hck hc0 htx
          go_wp2_with fail
          refine (HCK.out _).mono ?_
          rintro e2 w5 ⟨rfl, hm5⟩
          replace c0 := hm5.cell c0 (by simp)
          replace c1 := hm5.cell c1 (by simp)
          replace c2 := hm5.cell c2 (by simp)
          have hB25 := hm5.at HB2.out (by simp)
          have HB25 := Lib.hid hB25; have HM5 := Lib.hid (HMX.out.trans hm5 (by simp))
          clear hm5 hB25
          go_wp2_with fail
          refine (HTX.out _ (hG.past HM5.out (by simp))).mono ?_
          rintro e2 w6 ⟨rfl, hm6⟩
          replace c0 := hm6.cell c0 (by simp)
          replace c1 := hm6.cell c1 (by simp)
          replace c2 := hm6.cell c2 (by simp)
          have hB2 := hm6.at HB25.out (by simp)
          have fz : ∀ j, w6.frozen? ⟨w.heap.size, j, none⟩ = false := fun j => by simp [World.frozen?, hB2]
          have d0 : w6.cell? ⟨w.heap.size, 0, none⟩ = some (.int .i64 0) := by simp [World.cell?, hB2]
          have d1 : w6.cell? ⟨w.heap.size, 1, none⟩ = some (.int .i64 0) := by simp [World.cell?, hB2]
          have d2 : w6.cell? ⟨w.heap.size, 2, none⟩ = some (.string ⟨#[]⟩) := by simp [World.cell?, hB2]
          have HB6 := Lib.hid hB2; have HM6 := Lib.hid (HM5.out.trans hm6 (by simp))
          clear hB2 hm6
          by_cases hte : Va.text v = Cod.str s
          · have e : Hid (Va.parse (Cod.str s) = some v) := Lib.hid (prs_some HG.out ⟨hmv, hte⟩)
            rw [decide_eq_true hte] at heq
            clear hte hmv
            go_wp2_with fail
            refine bodyPost_ret (res_val rfl _ _ _ _ _ _ _ rfl rfl (vstore3 HB6.out _ _ _) rfl) rfl ⟨by rw [e.out]; rfl, vmod3 HM6.out (.inr (Nat.le_refl _)) _ _ _⟩
          · have e : Hid (Va.parse (Cod.str s) = none) := Lib.hid (prs_none HG.out (fun h => hte h.2))
            rw [decide_eq_false hte] at heq
            clear hte hmv c0 c1 c2
            go_wp2_with fail
            refine bodyPost_ret (res_val rfl _ _ _ _ _ _ _ rfl rfl (vstore3 HB6.out _ _ _) rfl) rfl ⟨by rw [e.out]; rfl, vmod3 HM6.out (.inr (Nat.le_refl _)) _ _ _⟩
    · have HG : Hid (Va.guess (Cod.str s) = some ⟨2, 0, Cod.str s⟩) := Lib.hid (by rw [HGS.out, ha]; exact if_neg hq)
      have hvb : VB ⟨2, 0, Cod.str s⟩ := hlt
      have hB4' : w3.heap[w.heap.size + 1]? = some (.cells (valV ⟨2, 0, Cod.str s⟩) 44 (0, 0)) := by rw [hB4]; simp [valV, Lx.ofS_str]
      have hcs : ¬ (1 : Int) < (s.size : Int) ∨ ∃ h : 0 < s.size, (1 : Int) < (s.size : Int) ∧ ((s[0].toNat : Int) == 34) = false := by
        by_cases h1 : 1 < s.size
        · have hne : (Cod.str s).headD 0 ≠ 34 := fun h => hq ⟨by rw [hln]; exact h1, h⟩
          have hgd : (Cod.str s).getD 0 0 = (Cod.str s).headD 0 := by cases Cod.str s <;> rfl
          refine .inr ⟨by omega, by omega, ?_⟩
          rw [beq_eq_false_iff_ne]
          have := Lx.get_str s 0 (by omega)
          omega
        · exact .inl (by omega)
      have HB2 := Lib.hid hB2; have HB4' := Lib.hid hB4'; have HMX := Lib.hid hmX
      clear hB2 hB4' hB4 hmX hq ha
      rcases hcs with h1I | ⟨h0, h1I, h34⟩
      · go_upto_region 10 with fail
        have hB2 := HB2.out; have hB4 := HB4'.out; have hmX := HMX.out
        clear HB2 HB4' HMX h1I
        generalize hvd : (⟨2, 0, Cod.str s⟩ : Va.Val) = v at *
        clear hvd
        have hGX := hG.past hmX (by simp)
        have c0 : w3.cell? ⟨w.heap.size + 1, 0, none⟩ = some (.int .i64 v.k) := by simp only [World.cell?, hB4]; rfl
        have c1 : w3.cell? ⟨w.heap.size + 1, 1, none⟩ = some (.int .i64 v.n) := by simp only [World.cell?, hB4]; rfl
        have c2 : w3.cell? ⟨w.heap.size + 1, 2, none⟩ = some (.string (Lx.ofS v.s)) := by simp only [World.cell?, hB4]; rfl
        have hck := fun w => check_any v w
        unfold valV at hck
        have HB2 := Lib.hid hB2; have HB4 := Lib.hid hB4; have HMX := Lib.hid hmX
        clear hB2 hB4 hmX
        cases hmv : Va.may v
        · have e : Hid (Va.parse (Cod.str s) = none) := Lib.hid (prs_none HG.out (by rw [hmv]; simp))
          have hc20 : chk v = 20 := by unfold chk; rw [hmv]; rfl
          rw [hc20] at hck
          have HCK := Lib.hid hck
          clear hck hc20 hmv hGX
          go_wp2_with fail
          refine (HCK.out _).mono ?_
          rintro e2 w5 ⟨rfl, hm5⟩
          have hB2 := hm5.at HB2.out (by simp)
          have fz : ∀ j, w5.frozen? ⟨w.heap.size, j, none⟩ = false := fun j => by simp [World.frozen?, hB2]
          have d0 : w5.cell? ⟨w.heap.size, 0, none⟩ = some (.int .i64 0) := by simp [World.cell?, hB2]
          have d1 : w5.cell? ⟨w.heap.size, 1, none⟩ = some (.int .i64 0) := by simp [World.cell?, hB2]
          have d2 : w5.cell? ⟨w.heap.size, 2, none⟩ = some (.string ⟨#[]⟩) := by simp [World.cell?, hB2]
          have HB5 := Lib.hid hB2; have HM5 := Lib.hid (HMX.out.trans hm5 (by simp))
          clear hB2 hm5 c0 c1 c2
          go_wp2_with fail
          refine bodyPost_ret (res_val rfl _ _ _ _ _ _ _ rfl rfl (vstore3 HB5.out _ _ _) rfl) rfl ⟨by rw [e.out]; rfl, vmod3 HM5.out (.inr (Nat.le_refl _)) _ _ _⟩
        · have hc0 : chk v = 0 := by unfold chk; rw [hmv]; rfl
          rw [hc0] at hck
          have htx := fun w hG => text_any v (val_ok hmv hvb) (by have := may_len hmv; omega) w hG
          unfold valV at htx
          have heq := ofS_eq (Va.text v) s (text_lt hvb)
          have HCK := Lib.hid hck; have HTX := Lib.hid htx
          clear hck hc0 htx
          go_wp2_with fail
          refine (HCK.out _).mono ?_
          rintro e2 w5 ⟨rfl, hm5⟩
          replace c0 := hm5.cell c0 (by simp)
          replace c1 := hm5.cell c1 (by simp)
          replace c2 := hm5.cell c2 (by simp)
          have hB25 := hm5.at HB2.out (by simp)
          have HB25 := Lib.hid hB25; have HM5 := Lib.hid (HMX.out.trans hm5 (by simp))
          clear hm5 hB25
          go_wp2_with fail
          refine (HTX.out _ (hG.past HM5.out (by simp))).mono ?_
          rintro e2 w6 ⟨rfl, hm6⟩
          replace c0 := hm6.cell c0 (by simp)
          replace c1 := hm6.cell c1 (by simp)
          replace c2 := hm6.cell c2 (by simp)
          have hB2 := hm6.at HB25.out (by simp)
          have fz : ∀ j, w6.frozen? ⟨w.heap.size, j, none⟩ = false := fun j => by simp [World.frozen?, hB2]
          have d0 : w6.cell? ⟨w.heap.size, 0, none⟩ = some (.int .i64 0) := by simp [World.cell?, hB2]
          have d1 : w6.cell? ⟨w.heap.size, 1, none⟩ = some (.int .i64 0) := by simp [World.cell?, hB2]
          have d2 : w6.cell? ⟨w.heap.size, 2, none⟩ = some (.string ⟨#[]⟩) := by simp [World.cell?, hB2]
          have HB6 := Lib.hid hB2; have HM6 := Lib.hid (HM5.out.trans hm6 (by simp))
          clear hB2 hm6
          by_cases hte : Va.text v = Cod.str s
          · have e : Hid (Va.parse (Cod.str s) = some v) := Lib.hid (prs_some HG.out ⟨hmv, hte⟩)
            rw [decide_eq_true hte] at heq
            clear hte hmv
            go_wp2_with fail
            refine bodyPost_ret (res_val rfl _ _ _ _ _ _ _ rfl rfl (vstore3 HB6.out _ _ _) rfl) rfl ⟨by rw [e.out]; rfl, vmod3 HM6.out (.inr (Nat.le_refl _)) _ _ _⟩
          · have e : Hid (Va.parse (Cod.str s) = none) := Lib.hid (prs_none HG.out (fun h => hte h.2))
            rw [decide_eq_false hte] at heq
            clear hte hmv c0 c1 c2
            go_wp2_with fail
            refine bodyPost_ret (res_val rfl _ _ _ _ _ _ _ rfl rfl (vstore3 HB6.out _ _ _) rfl) rfl ⟨by rw [e.out]; rfl, vmod3 HM6.out (.inr (Nat.le_refl _)) _ _ _⟩
      · have h0I : (0 : Int) < (s.size : Int) := by omega
        go_upto_region 10 with fail
        have hB2 := HB2.out; have hB4 := HB4'.out; have hmX := HMX.out
        clear HB2 HB4' HMX h1I h34
        generalize hvd : (⟨2, 0, Cod.str s⟩ : Va.Val) = v at *
        clear hvd
        have hGX := hG.past hmX (by simp)
        have c0 : w3.cell? ⟨w.heap.size + 1, 0, none⟩ = some (.int .i64 v.k) := by simp only [World.cell?, hB4]; rfl
        have c1 : w3.cell? ⟨w.heap.size + 1, 1, none⟩ = some (.int .i64 v.n) := by simp only [World.cell?, hB4]; rfl
        have c2 : w3.cell? ⟨w.heap.size + 1, 2, none⟩ = some (.string (Lx.ofS v.s)) := by simp only [World.cell?, hB4]; rfl
        have hck := fun w => check_any v w
        unfold valV at hck
        have HB2 := Lib.hid hB2; have HB4 := Lib.hid hB4; have HMX := Lib.hid hmX
        clear hB2 hB4 hmX
        cases hmv : Va.may v
        · have e : Hid (Va.parse (Cod.str s) = none) := Lib.hid (prs_none HG.out (by rw [hmv]; simp))
          have hc20 : chk v = 20 := by unfold chk; rw [hmv]; rfl
          rw [hc20] at hck
          have HCK := Lib.hid hck
          clear hck hc20 hmv hGX
          go_wp2_with fail
          refine (HCK.out _).mono ?_
          rintro e2 w5 ⟨rfl, hm5⟩
          have hB2 := hm5.at HB2.out (by simp)
          have fz : ∀ j, w5.frozen? ⟨w.heap.size, j, none⟩ = false := fun j => by simp [World.frozen?, hB2]
          have d0 : w5.cell? ⟨w.heap.size, 0, none⟩ = some (.int .i64 0) := by simp [World.cell?, hB2]
          have d1 : w5.cell? ⟨w.heap.size, 1, none⟩ = some (.int .i64 0) := by simp [World.cell?, hB2]
          have d2 : w5.cell? ⟨w.heap.size, 2, none⟩ = some (.string ⟨#[]⟩) := by simp [World.cell?, hB2]
          have HB5 := Lib.hid hB2; have HM5 := Lib.hid (HMX.out.trans hm5 (by simp))
          clear hB2 hm5 c0 c1 c2
          go_wp2_with fail
          refine bodyPost_ret (res_val rfl _ _ _ _ _ _ _ rfl rfl (vstore3 HB5.out _ _ _) rfl) rfl ⟨by rw [e.out]; rfl, vmod3 HM5.out (.inr (Nat.le_refl _)) _ _ _⟩
        · have hc0 : chk v = 0 := by unfold chk; rw [hmv]; rfl
          rw [hc0] at hck
          have htx := fun w hG => text_any v (val_ok hmv hvb) (by have := may_len hmv; omega) w hG
          unfold valV at htx
          have heq := ofS_eq (Va.text v) s (text_lt hvb)
          have HCK := Lib.hid hck; have HTX := Lib.hid htx
          clear hck hc0 htx
          go_wp2_with fail
          refine (HCK.out _).mono ?_
          rintro e2 w5 ⟨rfl, hm5⟩
          replace c0 := hm5.cell c0 (by simp)
          replace c1 := hm5.cell c1 (by simp)
          replace c2 := hm5.cell c2 (by simp)
          have hB25 := hm5.at HB2.out (by simp)
          have HB25 := Lib.hid hB25; have HM5 := Lib.hid (HMX.out.trans hm5 (by simp))
          clear hm5 hB25
          go_wp2_with fail
          refine (HTX.out _ (hG.past HM5.out (by simp))).mono ?_
          rintro e2 w6 ⟨rfl, hm6⟩
          replace c0 := hm6.cell c0 (by simp)
          replace c1 := hm6.cell c1 (by simp)
          replace c2 := hm6.cell c2 (by simp)
          have hB2 := hm6.at HB25.out (by simp)
          have fz : ∀ j, w6.frozen? ⟨w.heap.size, j, none⟩ = false := fun j => by simp [World.frozen?, hB2]
          have d0 : w6.cell? ⟨w.heap.size, 0, none⟩ = some (.int .i64 0) := by simp [World.cell?, hB2]
          have d1 : w6.cell? ⟨w.heap.size, 1, none⟩ = some (.int .i64 0) := by simp [World.cell?, hB2]
          have d2 : w6.cell? ⟨w.heap.size, 2, none⟩ = some (.string ⟨#[]⟩) := by simp [World.cell?, hB2]
          have HB6 := Lib.hid hB2; have HM6 := Lib.hid (HM5.out.trans hm6 (by simp))
          clear hB2 hm6
          by_cases hte : Va.text v = Cod.str s
          · have e : Hid (Va.parse (Cod.str s) = some v) := Lib.hid (prs_some HG.out ⟨hmv, hte⟩)
            rw [decide_eq_true hte] at heq
            clear hte hmv
            go_wp2_with fail
            refine bodyPost_ret (res_val rfl _ _ _ _ _ _ _ rfl rfl (vstore3 HB6.out _ _ _) rfl) rfl ⟨by rw [e.out]; rfl, vmod3 HM6.out (.inr (Nat.le_refl _)) _ _ _⟩
          · have e : Hid (Va.parse (Cod.str s) = none) := Lib.hid (prs_none HG.out (fun h => hte h.2))
            rw [decide_eq_false hte] at heq
            clear hte hmv c0 c1 c2
            go_wp2_with fail
            refine bodyPost_ret (res_val rfl _ _ _ _ _ _ _ rfl rfl (vstore3 HB6.out _ _ _) rfl) rfl ⟨by rw [e.out]; rfl, vmod3 HM6.out (.inr (Nat.le_refl _)) _ _ _⟩
end Go.Proofs.YtcalbbfkgdfidaaDoor
