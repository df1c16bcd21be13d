/- VALUES, THE REFERENCE: words, may a value be. -/
import Derived.Test.YthdkaoegegiheaaDoorVaAwake
namespace Go.Proofs.YthdkaoegegiheaaDoor
open Go.RowKit
set_option linter.unusedVariables false
set_option linter.unusedSimpArgs false
set_option maxRecDepth 100000

theorem vsmall_any (c : Nat) (b : Bool) (hb : Lx.small c = b) (w : World) :
    Calls Tryd.prog 60 #[.int .u8 (c : Nat)] w fun e w' => e = .returned (.bool b) ∧ w = w' := by
  subst hb
  unfold Lx.small
  by_cases h1 : (97 : Int) ≤ (c : Int)
  · go_enter Tryd.func60, Tryd.ntmps60
    go_wp2
    all_goals go_ret
    all_goals exact ⟨ret_bool (by rw [Bool.eq_iff_iff]; simp <;> omega), rfl⟩
  · go_enter Tryd.func60, Tryd.ntmps60
    go_wp2
    all_goals go_ret
    all_goals exact ⟨ret_bool (by rw [Bool.eq_iff_iff]; simp <;> omega), rfl⟩
theorem vcapital_any (c : Nat) (b : Bool) (hb : Lx.capital c = b) (w : World) :
    Calls Tryd.prog 62 #[.int .u8 (c : Nat)] w fun e w' => e = .returned (.bool b) ∧ w = w' := by
  subst hb
  unfold Lx.capital
  by_cases h1 : (65 : Int) ≤ (c : Int)
  · go_enter Tryd.func62, Tryd.ntmps62
    go_wp2
    all_goals go_ret
    all_goals exact ⟨ret_bool (by rw [Bool.eq_iff_iff]; simp <;> omega), rfl⟩
  · go_enter Tryd.func62, Tryd.ntmps62
    go_wp2
    all_goals go_ret
    all_goals exact ⟨ret_bool (by rw [Bool.eq_iff_iff]; simp <;> omega), rfl⟩
theorem vdigit_any (c : Nat) (b : Bool) (hb : Lx.digit c = b) (w : World) :
    Calls Tryd.prog 83 #[.int .u8 (c : Nat)] w fun e w' => e = .returned (.bool b) ∧ w = w' := by
  subst hb
  unfold Lx.digit
  by_cases h1 : (48 : Int) ≤ (c : Int)
  · go_enter Tryd.func83, Tryd.ntmps83
    go_wp2
    all_goals go_ret
    all_goals exact ⟨ret_bool (by rw [Bool.eq_iff_iff]; simp <;> omega), rfl⟩
  · go_enter Tryd.func83, Tryd.ntmps83
    go_wp2
    all_goals go_ret
    all_goals exact ⟨ret_bool (by rw [Bool.eq_iff_iff]; simp <;> omega), rfl⟩

theorem vReserved_any (s : ByteArray) (w : World) :
    Calls Tryd.prog 61 #[.string s] w fun e w' => e = .returned (.bool (resW8.contains s.toList)) ∧ w' = w := by
  go_enter Tryd.func61, Tryd.ntmps61
  go_wp2
  all_goals (first | (exfalso; simp_all; done) | (go_ret; exact ⟨by congr 1; simp_all [resW8], rfl⟩))

/-- is a text 1 to 32 bytes, all behind the first one letters, digits or '_'? -/
def rword (l : List Nat) : Bool := (l.drop 1).all Lx.goes && (decide (1 ≤ l.length) && decide (l.length ≤ 32))
theorem run_all (p : Nat → Bool) : ∀ l : List Nat, decide (Lx.run p l = l.length) = l.all p
  | [] => by simp [Lx.run_nil]
  | c :: r => by
    have ih := run_all p r
    rw [Lx.run_cons, List.all_cons]
    by_cases h : p c = true
    · rw [if_pos h, h, Bool.true_and, ← ih, Bool.eq_iff_iff]
      simp
    · rw [if_neg h]
      simp [h]
theorem wordB_eq (p : Nat → Bool) (hp : ∀ c, p c = true → Lx.goes c = true) (l : List Nat) : Va.wordB p l = (rword l && p (l.headD 0)) := by
  unfold Va.wordB rword
  rw [run_all]
  cases l with
  | nil => simp
  | cons c r =>
    simp only [List.drop_succ_cons, List.drop_zero, List.headD_cons, List.all_cons]
    by_cases h : p c = true
    · have := hp c h
      simp only [h, this, Bool.true_and, Bool.and_true]
      rw [Bool.and_comm (r.all Lx.goes)]
      simp
    · simp [h]

set_option maxHeartbeats 2000000 in
theorem vword_any (s : ByteArray) (hs : s.size ≤ 9223372036854775806) (w : World) :
    Calls Tryd.prog 59 #[.string s] w fun e w' => e = .returned (.bool (rword (Cod.str s))) ∧ w' = w := by
  have hlen := Cod.str_len s
  go_enter Tryd.func59, Tryd.ntmps59
  go_wp2_with fail
  go_loopw [3] (fun iv wr => ∃ k : Nat, 1 ≤ k ∧ (k ≤ s.size ∨ k = 1) ∧ iv = .int .i64 (k : Nat) ∧ wr = w ∧ (((Cod.str s).take k).drop 1).all Lx.goes = true) (fun iv _ => s.size - (intOf iv).toNat)
  case atStart =>
    refine ⟨1, by omega, .inr rfl, rfl, rfl, ?_⟩
    rw [List.drop_eq_nil_of_le (by rw [List.length_take]; omega)]; rfl
  case round =>
    obtain ⟨k, hk1, hk, rfl, rfl, hal⟩ := hrel
    by_cases hlt : k < s.size
    · have hkI : (k : Int) < (s.size : Int) := by omega
      have hk0 : (0 : Int) ≤ (k : Int) := by omega
      have hltl : k < (Cod.str s).length := by omega
      have hcd : s[k].toNat = (Cod.str s)[k] := by
        have := Lx.get_str s k hlt
        rw [← this, List.getD_eq_getElem?_getD, List.getElem?_eq_getElem hltl]; rfl
      have hsn : (((Cod.str s).take (k + 1)).drop 1).all Lx.goes = Lx.goes (Cod.str s)[k] := by
        rw [List.take_succ_eq_append_getElem hltl, List.drop_append_of_le_length (by rw [List.length_take]; omega), List.all_append, hal]; simp
      have hno : Lx.goes (Cod.str s)[k] = false → rword (Cod.str s) = false := fun hg => by
        unfold rword
        have : ((Cod.str s).drop 1).all Lx.goes = false := by
          rw [← Bool.not_eq_true, List.all_eq_true]
          intro hh
          have hm : (Cod.str s)[k] ∈ (Cod.str s).drop 1 := by
            rw [List.mem_iff_getElem]
            refine ⟨k - 1, by rw [List.length_drop]; omega, ?_⟩
            rw [List.getElem_drop]
            congr 1; omega
          have := hh _ hm
          rw [hg] at this; cases this
        rw [this]; rfl
      have hc256 : (Cod.str s)[k] < 256 := Cod.str_lt s _ (List.getElem_mem _)
      generalize (Cod.str s)[k] = c at *
      have hgo : Lx.goes c = (Lx.small c || (Lx.capital c || (Lx.digit c || c == 95))) := rfl
      have H1 := Lib.hid (fun w => vsmall_any c _ rfl w); have H2 := Lib.hid (fun w => vcapital_any c _ rfl w); have H3 := Lib.hid (fun w => vdigit_any c _ rfl w)
      have HS := Lib.hid hsn; have HN := Lib.hid hno
      clear hsn hno hal hltl
      generalize Lx.small c = b1 at *
      generalize Lx.capital c = b2 at *
      generalize Lx.digit c = b3 at *
      by_cases hg : Lx.goes c = true
      · have HG := Lib.hid (HS.out.trans hg)
        rw [hg] at hgo
        have h95 : b1 = false → b2 = false → b3 = false → c = 95 := fun h1 h2 h3 => by subst h1; subst h2; subst h3; simpa using hgo.symm
        clear hg hgo HS HN
        cases b1
        · cases b2
          · cases b3
            · have hcc := h95 rfl rfl rfl
              have e95 : ((c : Int) != 95) = false := by rw [hcc]; rfl
              clear h95 hcc
              go_wp2_with fail
              refine (H1.out _).mono ?_
              rintro e w' ⟨rfl, rfl⟩
              go_wp2_with fail
              refine (H2.out _).mono ?_
              rintro e w' ⟨rfl, rfl⟩
              go_wp2_with fail
              refine (H3.out _).mono ?_
              rintro e w' ⟨rfl, rfl⟩
              go_wp2_with fail
              go_roundw
              case rel => exact ⟨k + 1, by omega, .inl (by omega), by go_num, by trivial, HG.out⟩
              case measure => simp [intOf]; omega
            · clear h95
              go_wp2_with fail
              refine (H1.out _).mono ?_
              rintro e w' ⟨rfl, rfl⟩
              go_wp2_with fail
              refine (H2.out _).mono ?_
              rintro e w' ⟨rfl, rfl⟩
              go_wp2_with fail
              refine (H3.out _).mono ?_
              rintro e w' ⟨rfl, rfl⟩
              go_wp2_with fail
              go_roundw
              case rel => exact ⟨k + 1, by omega, .inl (by omega), by go_num, by trivial, HG.out⟩
              case measure => simp [intOf]; omega
          · clear h95
            go_wp2_with fail
            refine (H1.out _).mono ?_
            rintro e w' ⟨rfl, rfl⟩
            go_wp2_with fail
            refine (H2.out _).mono ?_
            rintro e w' ⟨rfl, rfl⟩
            go_wp2_with fail
            go_roundw
            case rel => exact ⟨k + 1, by omega, .inl (by omega), by go_num, by trivial, HG.out⟩
            case measure => simp [intOf]; omega
        · clear h95
          go_wp2_with fail
          refine (H1.out _).mono ?_
          rintro e w' ⟨rfl, rfl⟩
          go_wp2_with fail
          go_roundw
          case rel => exact ⟨k + 1, by omega, .inl (by omega), by go_num, by trivial, HG.out⟩
          case measure => simp [intOf]; omega
      · have hg' : Lx.goes c = false := by simpa using hg
        have E := Lib.hid (HN.out hg')
        rw [hg'] at hgo
        simp only [Bool.false_eq, Bool.or_eq_false_iff, beq_eq_false_iff_ne] at hgo
        obtain ⟨rfl, rfl, rfl, h95⟩ := hgo
        have e95 : ((c : Int) != 95) = true := by rw [bne_iff_ne]; omega
        clear hg hg' HS HN h95
        go_wp2_with fail
        refine (H1.out _).mono ?_
        rintro e w' ⟨rfl, rfl⟩
        go_wp2_with fail
        refine (H2.out _).mono ?_
        rintro e w' ⟨rfl, rfl⟩
        go_wp2_with fail
        refine (H3.out _).mono ?_
        rintro e w' ⟨rfl, rfl⟩
        go_wp2_with fail
        go_ret
        exact ⟨by rw [E.out]; rfl, rfl⟩
    · have hkI : ¬ (k : Int) < (s.size : Int) := by omega
      rw [List.take_of_length_le (by omega)] at hal
      have e : Hid (rword (Cod.str s) = (decide (1 ≤ s.size) && decide (s.size ≤ 32))) := Lib.hid (by unfold rword; rw [hal, hlen]; rfl)
      clear hal hlen
      by_cases h1 : 1 ≤ s.size
      · have h1I : (1 : Int) ≤ (s.size : Int) := by omega
        go_wp2_with fail
        go_ret
        exact ⟨by rw [e.out, decide_eq_true h1]; simp only [Bool.true_and]; exact ret_bool (by rw [Bool.eq_iff_iff]; simp <;> omega), rfl⟩
      · have h1I : ¬ (1 : Int) ≤ (s.size : Int) := by omega
        go_wp2_with fail
        go_ret
        exact ⟨by rw [e.out, decide_eq_false h1]; rfl, rfl⟩
end Go.Proofs.YthdkaoegegiheaaDoor
