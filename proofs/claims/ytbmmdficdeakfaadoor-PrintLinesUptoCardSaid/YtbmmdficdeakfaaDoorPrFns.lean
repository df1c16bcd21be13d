/- THE WRITER's SMALL FUNCTIONS: told, value, strength, binds, sign, noExpr. -/
import Derived.Test.YtbmmdficdeakfaaDoorPrTold
import Derived.Laws.StructEq
namespace Go.Proofs.YtbmmdficdeakfaaDoor
open Go.RowKit
set_option linter.unusedVariables false
set_option linter.unusedSimpArgs false
set_option maxRecDepth 100000

def exV (e : Pr.Ex) (u : Value) : Array Value := #[.int .i64 e.k, .string e.v, .int .i64 e.x.k, .int .i64 e.x.n, .string (Lx.ofS e.x.s), .int .i64 e.op, u]

theorem text_lt {v : Va.Val} (hb : ∀ c ∈ v.s, c < 256) : ∀ c ∈ Va.text v, c < 256 := by
  unfold Va.text
  split
  · exact Va.itoa_lt _
  · split
    · exact hb
    · intro c hc
      unfold Va.quoted at hc
      simp only [List.mem_append, List.mem_cons, List.mem_flatMap, List.not_mem_nil, or_false] at hc
      rcases hc with rfl | ⟨y, hy, hx⟩ | rfl
      · decide
      · exact qb_lt (hb y hy) c hx
      · decide
theorem told_any (p : Nat) (q v : Value) (l : List Nat) (bad : Bool) (br : Int) (w : World) (h : WrIs w p q v l bad br) (hlen : l.length ≤ 140737488355328) :
    Calls Tryd.prog 26 #[.pointer (some ⟨p, 0, none⟩)] w fun e w' => e = .returned (if bad then .tuple #[.string { data := #[] }, .int .i64 50] else .tuple #[.string (Lx.ofS l), .int .i64 0]) ∧ Mod (fp v) w w' := by
  obtain ⟨c0, c1, c2, c3, fz⟩ := h.cells
  have HS := Lib.hid (String_any p q v l bad br w h hlen)
  clear h
  cases bad
  · go_enter Tryd.func26, Tryd.ntmps26
    go_wp2_with fail
    refine HS.out.mono ?_
    rintro e w1 ⟨rfl, m1⟩
    go_wp2_with fail
    go_ret2
    exact ⟨rfl, m1⟩
  · go_enter Tryd.func26, Tryd.ntmps26
    go_wp2_with fail
    go_ret2
    exact ⟨rfl, Mod.refl _ _⟩

theorem strength_any (op : Int) (w : World) : Calls Tryd.prog 44 #[.int .i64 op] w fun e w' => e = .returned (.int .i64 (Pr.strength op : Nat)) ∧ w' = w := by
  by_cases h : op = 1 ∨ op = 2 ∨ op = 3 ∨ op = 4 ∨ op = 5 ∨ op = 6
  · rcases h with rfl | rfl | rfl | rfl | rfl | rfl
    all_goals (
      go_enter Tryd.func44, Tryd.ntmps44
      go_wp2_with fail
      go_ret
      exact ⟨rfl, rfl⟩)
  · have n1 : (op == 1) = false := by rw [beq_eq_false_iff_ne]; omega
    have n2 : (op == 2) = false := by rw [beq_eq_false_iff_ne]; omega
    have n3 : (op == 3) = false := by rw [beq_eq_false_iff_ne]; omega
    have n4 : (op == 4) = false := by rw [beq_eq_false_iff_ne]; omega
    have n5 : (op == 5) = false := by rw [beq_eq_false_iff_ne]; omega
    have n6 : (op == 6) = false := by rw [beq_eq_false_iff_ne]; omega
    have HE : Hid (Pr.strength op = 0) := Lib.hid (by unfold Pr.strength; rw [if_neg (by omega), if_neg (by omega), if_neg (by omega)])
    clear h
    go_enter Tryd.func44, Tryd.ntmps44
    go_wp2_with fail
    go_ret
    exact ⟨by rw [HE.out]; rfl, rfl⟩
theorem binds_any (e : Pr.Ex) (u : Value) (w : World) : Calls Tryd.prog 62 #[.agg (exV e u)] w fun e' w' => e' = .returned (.int .i64 (Pr.binds e : Nat)) ∧ Mod [] w w' := by
  have HS := Lib.hid (fun w => strength_any e.op w)
  have HM := Lib.hid ((Mod.refl [] w).alloc (Obj.cells (exV e u) 44))
  unfold exV at *
  by_cases h : e.k = 4
  · have hB : (e.k != 4) = false := by rw [h]; rfl
    have HE : Hid (Pr.binds e = Pr.strength e.op) := Lib.hid (if_pos h)
    clear h
    go_enter Tryd.func62, Tryd.ntmps62
    go_wp2_with fail
    refine (HS.out _).mono ?_
    rintro e' w1 ⟨rfl, rfl⟩
    go_wp2_with fail
    go_ret
    exact ⟨by rw [HE.out]; rfl, HM.out⟩
  · have hB : (e.k != 4) = true := by rw [bne_iff_ne]; exact h
    have HE : Hid (Pr.binds e = 4) := Lib.hid (if_neg h)
    clear h
    go_enter Tryd.func62, Tryd.ntmps62
    go_wp2_with fail
    go_ret
    exact ⟨by rw [HE.out]; rfl, HM.out⟩
theorem ofS_nil (s : List Nat) : (Lx.ofS s).toList.isEmpty = decide (s = []) := by
  rw [toList_isEmpty, ofS_size]
  cases s <;> simp
/-- is a value zero? -/
theorem veq_run (x : Va.Val) (W : World) : (binOp .eql 41 (.agg #[.int .i64 x.k, .int .i64 x.n, .string (Lx.ofS x.s)]) (.agg #[.int .i64 0, .int .i64 0, .string { data := #[] }])).run Tryd.prog W = .ok (.bool (decide (x = Va.zero))) W := by
  obtain ⟨k, n, s⟩ := x
  have hs := ofS_nil s
  by_cases h1 : k = 0
  · subst h1
    by_cases h2 : n = 0
    · subst h2
      by_cases h3 : s = []
      · subst h3
        rw [show decide ((⟨0, 0, []⟩ : Va.Val) = Va.zero) = true from by decide]
        go_simp
      · rw [decide_eq_false h3] at hs
        rw [decide_eq_false (fun e => h3 (by injection e))]
        go_simp
    · rw [decide_eq_false (fun e => h2 (by injection e))]
      have h2B : (n == 0) = false := by rw [beq_eq_false_iff_ne]; exact h2
      go_simp
  · rw [decide_eq_false (fun e => h1 (by injection e))]
    have h1B : (k == 0) = false := by rw [beq_eq_false_iff_ne]; exact h1
    go_simp
theorem noExpr_any (e : Pr.Ex) (a : Option Addr) (c : Nat) (w : World) : Calls Tryd.prog 59 #[.agg (exV e (.slice a e.args.length c))] w fun e' w' => e' = .returned (.bool (Pr.noExpr e)) ∧ Mod [] w w' := by
  have hve := fun W => veq_run e.x W
  have hE : Pr.noExpr e = (decide (e.k = 0) && (decide (e.v.size = 0) && (decide (e.x = Va.zero) && (decide (e.op = 0) && decide (e.args.length = 0))))) := rfl
  have hem := toList_isEmpty e.v
  have hl : ((e.args.length : Int) == 0) = decide (e.args.length = 0) := by rw [Bool.eq_iff_iff, beq_iff_eq, decide_eq_true_eq]; omega
  rw [hE]
  clear hE
  generalize decide (e.x = Va.zero) = bx at *
  generalize decide (e.args.length = 0) = bl at *
  unfold exV at *
  go_enter Tryd.func59, Tryd.ntmps59
  go_wp2_with fail
  all_goals go_ret
  all_goals exact ⟨ret_bool (by simp_all), (Mod.refl [] w).alloc _⟩

def signS : ByteArray := { data := #[43, 45, 42, 47] }
set_option maxHeartbeats 1000000 in
theorem sign_any (op : Int) (w : World) : Calls Tryd.prog 63 #[.int .i64 op] w fun e w' => e = .returned (.string (Lx.ofS (Pr.sign op))) ∧ Mod [] w w' := by
  go_enter Tryd.func63, Tryd.ntmps63
  go_wp2_with fail
  go_loopw [] (fun w' => ∃ pos : Nat, pos ≤ 4 ∧ (∀ i : Nat, i < pos → op ≠ (i : Int) + 1) ∧ w' = w.iter signS pos) (fun w' => 4 - w'.iterPos w.heap.size)
  case atStart => exact ⟨0, Nat.zero_le _, fun i hi => by omega, rfl⟩
  case round =>
    obtain ⟨pos, hr, hne, rfl⟩ := hrel
    have h5 : pos = 0 ∨ pos = 1 ∨ pos = 2 ∨ pos = 3 ∨ pos = 4 := by omega
    rcases h5 with rfl | rfl | rfl | rfl | rfl
    · have hnx : ∀ ty, (Instr.next (.pointer (some ⟨w.heap.size, 0, none⟩)) true ty).run Tryd.prog (w.iter signS 0) = _ := fun ty => run_next_any w signS 0 ty (by decide)
      have hdc : Utf8.decode signS 0 = (43, 1) := by kernel_rfl
      rw [hdc] at hnx
      by_cases ho : op = 1
      · subst ho
        clear hne
        go_wp2_with fail
        go_ret
        exact ⟨rfl, mod_iter _ _ _⟩
      · have hoB : (1 == op) = false := by rw [beq_eq_false_iff_ne]; omega
        have HN := Lib.hid hne
        have HO := Lib.hid ho
        clear hne ho
        go_wp2_with fail
        go_roundw
        case rel => exact ⟨1, by omega, fun i hi => by
          by_cases e : i = 0
          · subst e; exact HO.out
          · exact HN.out i (by omega), rfl⟩
        case measure => simp [signS, ByteArray.size]
    · have hnx : ∀ ty, (Instr.next (.pointer (some ⟨w.heap.size, 0, none⟩)) true ty).run Tryd.prog (w.iter signS 1) = _ := fun ty => run_next_any w signS 1 ty (by decide)
      have hdc : Utf8.decode signS 1 = (45, 1) := by kernel_rfl
      rw [hdc] at hnx
      by_cases ho : op = 2
      · subst ho
        clear hne
        go_wp2_with fail
        go_ret
        exact ⟨rfl, mod_iter _ _ _⟩
      · have hoB : (2 == op) = false := by rw [beq_eq_false_iff_ne]; omega
        have HN := Lib.hid hne
        have HO := Lib.hid ho
        clear hne ho
        go_wp2_with fail
        go_roundw
        case rel => exact ⟨2, by omega, fun i hi => by
          by_cases e : i = 1
          · subst e; exact HO.out
          · exact HN.out i (by omega), rfl⟩
        case measure => simp [signS, ByteArray.size]
    · have hnx : ∀ ty, (Instr.next (.pointer (some ⟨w.heap.size, 0, none⟩)) true ty).run Tryd.prog (w.iter signS 2) = _ := fun ty => run_next_any w signS 2 ty (by decide)
      have hdc : Utf8.decode signS 2 = (42, 1) := by kernel_rfl
      rw [hdc] at hnx
      by_cases ho : op = 3
      · subst ho
        clear hne
        go_wp2_with fail
        go_ret
        exact ⟨rfl, mod_iter _ _ _⟩
      · have hoB : (3 == op) = false := by rw [beq_eq_false_iff_ne]; omega
        have HN := Lib.hid hne
        have HO := Lib.hid ho
        clear hne ho
        go_wp2_with fail
        go_roundw
        case rel => exact ⟨3, by omega, fun i hi => by
          by_cases e : i = 2
          · subst e; exact HO.out
          · exact HN.out i (by omega), rfl⟩
        case measure => simp [signS, ByteArray.size]
    · have hnx : ∀ ty, (Instr.next (.pointer (some ⟨w.heap.size, 0, none⟩)) true ty).run Tryd.prog (w.iter signS 3) = _ := fun ty => run_next_any w signS 3 ty (by decide)
      have hdc : Utf8.decode signS 3 = (47, 1) := by kernel_rfl
      rw [hdc] at hnx
      by_cases ho : op = 4
      · subst ho
        clear hne
        go_wp2_with fail
        go_ret
        exact ⟨rfl, mod_iter _ _ _⟩
      · have hoB : (4 == op) = false := by rw [beq_eq_false_iff_ne]; omega
        have HN := Lib.hid hne
        have HO := Lib.hid ho
        clear hne ho
        go_wp2_with fail
        go_roundw
        case rel => exact ⟨4, by omega, fun i hi => by
          by_cases e : i = 3
          · subst e; exact HO.out
          · exact HN.out i (by omega), rfl⟩
        case measure => simp [signS, ByteArray.size]
    · have hnx : ∀ ty, (Instr.next (.pointer (some ⟨w.heap.size, 0, none⟩)) true ty).run Tryd.prog (w.iter signS 4) = _ := fun ty => run_next_end w signS 4 ty (by decide)
      have HE : Hid (Pr.sign op = [109, 111, 100]) := Lib.hid (by
        have h0 := hne 0 (by omega)
        have h1 := hne 1 (by omega)
        have h2 := hne 2 (by omega)
        have h3 := hne 3 (by omega)
        unfold Pr.sign
        rw [if_neg (by omega), if_neg (by omega), if_neg (by omega), if_neg (by omega)])
      clear hne
      go_wp2_with fail
      go_ret
      exact ⟨by rw [HE.out]; rfl, mod_iter _ _ _⟩

theorem wvalue_any (p : Nat) (q v : Value) (l : List Nat) (bad : Bool) (br : Int) (x : Va.Val) (hx : x.Ok) (w : World) (h : WrIs w p q v l bad br) (hG : GlobV w) (hlen : l.length ≤ 140737488354000) :
    Calls Tryd.prog 43 #[.pointer (some ⟨p, 0, none⟩), .agg (valV x)] w (WLaid p v (l ++ (if Va.may x then Va.text x else [])) (bad || !Va.may x) br w) := by
  have HT := Lib.hid (fun w hG => Text_any x hx w hG)
  have htl : (if Va.may x then Va.text x else []).length ≤ 258 := by
    by_cases hm : Va.may x = true
    · rw [if_pos hm]; exact (Va.rguess_text hx.byte hm).2.1
    · rw [if_neg hm]; simp
  have htb : ∀ c ∈ (if Va.may x then Va.text x else []), c < 256 := by
    by_cases hm : Va.may x = true
    · rw [if_pos hm]; exact text_lt hx.byte
    · rw [if_neg hm]; simp
  have hck : chk x = if Va.may x then 0 else 20 := rfl
  unfold txtV at HT
  rw [hck] at HT
  generalize (if Va.may x then Va.text x else []) = tx at *
  generalize Va.may x = b at *
  have hst : Cod.str (Lx.ofS tx) = tx := Lx.str_ofS htb
  have hsz : (Lx.ofS tx).size = tx.length := ofS_size tx
  have MA := Lib.hid ((Mod.refl [] w).alloc (Obj.cells (valV x) 41))
  have H := Lib.hid h
  unfold valV at *
  clear h hck htb
  have hG0 := Lib.hid hG
  clear hG
  cases b
  all_goals (
    go_enter Tryd.func43, Tryd.ntmps43
    go_wp2_with fail
    refine (HT.out _ (hG0.out.past MA.out (by simp))).mono ?_
    rintro e w1 ⟨rfl, m1⟩
    have M1 := Lib.hid (MA.out.trans m1 (by simp))
    have H1 := Lib.hid (H.out.past M1.out (by simp))
    clear m1
    go_wp2_with fail
    refine (must_any p q v l bad br _ _ H1.out).mono ?_
    rintro e w2 ⟨rfl, q2, v2, h2, m2⟩
    have H2 := Lib.hid h2
    have M2 := Lib.hid ((WMod.of M1.out).trans m2)
    clear h2 m2
    have hal := (Mod.refl [] w2).alloc (Obj.cells #[.string (Lx.ofS tx)] 9)
    have hcell := heap_alloc_new w2 (Obj.cells #[.string (Lx.ofS tx)] 9)
    have HP := Lib.hid (put_any p q2 v2 l _ br w2.heap.size 1 [Lx.ofS tx] _ (H2.out.past hal (by simp)) (by simp) (by have := H2.out.lt; omega) (fun hk => by have := fp_lt H2.out.row _ hk; omega) (fun i hi => by
      obtain rfl : i = 0 := by simpa using hi
      simp only [World.cell?, hcell]; rfl) (by simp) (by simp [Cod.str_len]; omega))
    have HA := Lib.hid hal
    clear hal hcell
    go_wp2_with fail
    refine HP.out.mono ?_
    rintro e w3 ⟨rfl, q3, v3, h3, m3⟩
    have H3 := Lib.hid h3
    have M3 := Lib.hid ((M2.out.trans (WMod.of HA.out)).trans m3)
    clear h3 m3
    go_wp2_with fail
    go_end0
    refine ⟨rfl, q3, v3, ?_, M3.out⟩
    have := H3.out
    simp only [List.flatMap_cons, List.flatMap_nil, List.append_nil, hst] at this
    simpa using this)
end Go.Proofs.YtbmmdficdeakfaaDoor
