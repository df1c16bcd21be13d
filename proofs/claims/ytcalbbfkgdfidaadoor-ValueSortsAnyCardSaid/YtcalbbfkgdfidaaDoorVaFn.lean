/- VALUES: may a text be a name, a variable; may a value be: the program's. -/
import Derived.Test.YtcalbbfkgdfidaaDoorVaBase
import Derived.Test.YtcalbbfkgdfidaaDoorVaPlain
namespace Go.Proofs.YtcalbbfkgdfidaaDoor
open Go.RowKit
set_option linter.unusedVariables false
set_option linter.unusedSimpArgs false
set_option maxRecDepth 100000

def nrest (c : Int) : Bool := !restI c
theorem word1_any (c : Int) (w : World) :
    Calls Tryd.prog 58 #[.int .i32 c] w fun e w' => e = .returned (.bool (nrest c)) ∧ w = w' := by
  unfold nrest restI smallI capitalI digitI
  rcases Int.lt_or_le c 97 with h1 | h1
  · rcases Int.lt_or_le c 65 with h2 | h2
    · rcases Int.lt_or_le c 48 with h3 | h3
      · go_enter Tryd.func58, Tryd.ntmps58
        go_wp2
        all_goals go_ret
        all_goals exact ⟨ret_bool (by rw [Bool.eq_iff_iff]; simp <;> omega), rfl⟩
      · go_enter Tryd.func58, Tryd.ntmps58
        go_wp2
        all_goals go_ret
        all_goals exact ⟨ret_bool (by rw [Bool.eq_iff_iff]; simp <;> omega), rfl⟩
    · rcases Int.lt_or_le 90 c with h3 | h3
      · go_enter Tryd.func58, Tryd.ntmps58
        go_wp2
        all_goals go_ret
        all_goals exact ⟨ret_bool (by rw [Bool.eq_iff_iff]; simp <;> omega), rfl⟩
      · go_enter Tryd.func58, Tryd.ntmps58
        go_wp2
        all_goals go_ret
        all_goals exact ⟨ret_bool (by rw [Bool.eq_iff_iff]; simp <;> omega), rfl⟩
  · rcases Int.lt_or_le 122 c with h3 | h3
    · go_enter Tryd.func58, Tryd.ntmps58
      go_wp2
      all_goals go_ret
      all_goals exact ⟨ret_bool (by rw [Bool.eq_iff_iff]; simp <;> omega), rfl⟩
    · go_enter Tryd.func58, Tryd.ntmps58
      go_wp2
      all_goals go_ret
      all_goals exact ⟨ret_bool (by rw [Bool.eq_iff_iff]; simp <;> omega), rfl⟩

/-- where a text leaves a kind first -/
def idx (l : List Nat) : Int := if Lx.run Lx.goes l = l.length then -1 else (Lx.run Lx.goes l : Nat)
set_option maxHeartbeats 1000000 in
theorem indexFunc_any (s : ByteArray) (hs : s.size ≤ 9223372036854775807) (w : World) :
    Calls Tryd.prog 81 #[.string s, .func (.func 58) #[] #[], .bool true] w fun e w' => e = .returned (.int .i64 (idx (Cod.str s))) ∧ Mod [] w w' := by
  have he := enter_of Tryd.func58 (by kernel_rfl) rfl
  have hrl := Lx.run_le Lx.goes (Cod.str s)
  have hlen := Cod.str_len s
  rw [hlen] at hrl
  go_enter Tryd.func81, Tryd.ntmps81
  go_wp2_with fail
  go_loopw [] (fun w' => ∃ pos : Nat, pos ≤ Lx.run Lx.goes (Cod.str s) ∧ w' = w.iter s pos) (fun w' => s.size - w'.iterPos w.heap.size)
  case atStart => exact ⟨0, Nat.zero_le _, rfl⟩
  case round =>
    obtain ⟨pos, hr, rfl⟩ := hrel
    by_cases hp : pos < s.size
    · have hnx : ∀ ty, (Instr.next (.pointer (some ⟨w.heap.size, 0, none⟩)) true ty).run Tryd.prog (w.iter s pos) = _ := fun ty => run_next_any w s pos ty hp
      cases hd : restI ((Utf8.decode s pos).1 : Int)
      · have hst := alike_rest.stop s pos hp hr hd
        have hix : idx (Cod.str s) = (pos : Nat) := by unfold idx; rw [hst, if_neg (by rw [hlen]; omega)]
        have hnr : nrest ((Utf8.decode s pos).1 : Int) = true := by unfold nrest; rw [hd]; rfl
        have HX := Lib.hid hix; have HN := Lib.hid hnr
        clear hd hst hix hnr
        go_wp2_with fail
        refine (word1_any _ _).mono ?_
        rintro e w2 ⟨rfl, rfl⟩
        rw [HN.out]
        go_wp2_with fail
        go_ret
        exact ⟨by rw [HX.out]; rfl, mod_iter _ _ _⟩
      · have hst := alike_rest.step s pos hp hr hd
        have hnr : nrest ((Utf8.decode s pos).1 : Int) = false := by unfold nrest; rw [hd]; rfl
        have HN := Lib.hid hnr
        clear hd hnr
        go_wp2_with fail
        refine (word1_any _ _).mono ?_
        rintro e w2 ⟨rfl, rfl⟩
        rw [HN.out]
        go_wp2_with fail
        go_roundw
        case rel => exact ⟨_, hst.1, rfl⟩
        case measure =>
          simp
          omega
    · have hnx : ∀ ty, (Instr.next (.pointer (some ⟨w.heap.size, 0, none⟩)) true ty).run Tryd.prog (w.iter s pos) = _ := fun ty => run_next_end w s pos ty hp
      have hix : idx (Cod.str s) = -1 := by unfold idx; rw [if_pos (by rw [hlen]; omega)]
      have HX := Lib.hid hix
      clear hix
      go_wp2_with fail
      go_ret
      exact ⟨by rw [HX.out]; rfl, mod_iter _ _ _⟩
theorem contains_any (s : ByteArray) (hs : s.size ≤ 9223372036854775807) (w : World) :
    Calls Tryd.prog 57 #[.string s, .func (.func 58) #[] #[]] w fun e w' => e = .returned (.bool (!decide (Lx.run Lx.goes (Cod.str s) = (Cod.str s).length))) ∧ Mod [] w w' := by
  have h1 := fun w => indexFunc_any s hs w
  have hix : (idx (Cod.str s) = -1 ∧ Lx.run Lx.goes (Cod.str s) = (Cod.str s).length) ∨ (0 ≤ idx (Cod.str s) ∧ Lx.run Lx.goes (Cod.str s) ≠ (Cod.str s).length) := by
    unfold idx
    by_cases h : Lx.run Lx.goes (Cod.str s) = (Cod.str s).length
    · exact .inl ⟨if_pos h, h⟩
    · rw [if_neg h]; exact .inr ⟨by omega, h⟩
  generalize idx (Cod.str s) = k at *
  rcases hix with ⟨rfl, hr⟩ | ⟨hk, hr⟩
  · rw [decide_eq_true hr]
    have H1 := Lib.hid h1
    clear h1 hr
    go_enter Tryd.func57, Tryd.ntmps57
    go_wp2_with (go_at_call 73; go_enter Tryd.func73, Tryd.ntmps73; go_wp2_with fail; refine (H1.out _).mono ?_; rintro e w' ⟨rfl, hm⟩; go_wp2_with fail; go_ret)
    all_goals (go_ret; exact ⟨rfl, hm⟩)
  · rw [decide_eq_false hr]
    have H1 := Lib.hid h1
    clear h1 hr
    go_enter Tryd.func57, Tryd.ntmps57
    go_wp2_with (go_at_call 73; go_enter Tryd.func73, Tryd.ntmps73; go_wp2_with fail; refine (H1.out _).mono ?_; rintro e w' ⟨rfl, hm⟩; go_wp2_with fail; go_ret)
    all_goals (go_ret; exact ⟨rfl, hm⟩)

/-- a word whose first byte lies between two -/
theorem word_any (s : ByteArray) (hs : s.size ≤ 9223372036854775807) (lo hi : Nat) (p : Nat → Bool) (hp : ∀ c, p c = (decide (lo ≤ c) && decide (c ≤ hi))) (w : World) :
    Calls Tryd.prog 42 #[.string s, .int .u8 (lo : Nat), .int .u8 (hi : Nat)] w fun e w' => e = .returned (.bool (Va.wordB p (Cod.str s))) ∧ Mod [] w w' := by
  have h1 := fun w => contains_any s hs w
  have hlen := Cod.str_len s
  have hem : s.toList.isEmpty = decide (s.size = 0) := toList_isEmpty s
  by_cases h0 : s.size = 0
  · have e : Va.wordB p (Cod.str s) = false := by
      unfold Va.wordB
      have : Cod.str s = [] := List.eq_nil_of_length_eq_zero (by omega)
      rw [this]; rfl
    have hem2 : s.toList.isEmpty = true := by rw [hem, decide_eq_true h0]
    have E := Lib.hid e
    clear e h1 hlen hem h0
    go_enter Tryd.func42, Tryd.ntmps42
    go_wp2_with fail
    go_ret
    exact ⟨by rw [E.out]; rfl, Mod.refl _ _⟩
  · have hem2 : s.toList.isEmpty = false := by rw [hem, decide_eq_false h0]
    have hne : Cod.str s ≠ [] := fun h => by rw [h] at hlen; simp at hlen; omega
    by_cases h32 : s.size ≤ 32
    · have h32I : ¬ (32 : Int) < (s.size : Int) := by omega
      have hhd : s[0].toNat = (Cod.str s).headD 0 := by
        have := Lx.get_str s 0 (by omega)
        rw [← this]
        cases Cod.str s <;> rfl
      have hh0 : (0 : Int) < (s.size : Int) := by omega
      have hpc := hp ((Cod.str s).headD 0)
      have e : Va.wordB p (Cod.str s) = (p ((Cod.str s).headD 0) && decide (Lx.run Lx.goes (Cod.str s) = (Cod.str s).length)) := by
        unfold Va.wordB
        rw [decide_eq_true hne, decide_eq_true (by omega)]
        simp
      rw [e]
      clear e
      generalize hrun : decide (Lx.run Lx.goes (Cod.str s) = (Cod.str s).length) = rb at *
      generalize (Cod.str s).headD 0 = c at *
      have H1 := Lib.hid h1
      clear h1 hem hne hrun
      by_cases hl : lo ≤ c
      · have n1 : ¬ ((s[0].toNat : Int) < (lo : Int)) := by omega
        by_cases hh : c ≤ hi
        · have n2 : ¬ ((hi : Int) < (s[0].toNat : Int)) := by omega
          have hpt : p c = true := by rw [hpc, decide_eq_true hl, decide_eq_true hh]; rfl
          rw [hpt]
          clear hpc hpt hl hh hhd
          go_enter Tryd.func42, Tryd.ntmps42
          go_wp2_with fail
          refine (H1.out _).mono ?_
          rintro e w1 ⟨rfl, hm⟩
          go_wp2_with fail
          go_ret
          exact ⟨by simp, hm⟩
        · have n2 : ((hi : Int) < (s[0].toNat : Int)) := by omega
          have hpt : p c = false := by rw [hpc, decide_eq_false hh]; simp
          rw [hpt]
          clear hpc hpt hl hh hhd
          go_enter Tryd.func42, Tryd.ntmps42
          go_wp2_with fail
          go_ret
          exact ⟨rfl, Mod.refl _ _⟩
      · have n1 : ((s[0].toNat : Int) < (lo : Int)) := by omega
        have hpt : p c = false := by rw [hpc, decide_eq_false hl]; simp
        rw [hpt]
        clear hpc hpt hl hhd
        go_enter Tryd.func42, Tryd.ntmps42
        go_wp2_with fail
        go_ret
        exact ⟨rfl, Mod.refl _ _⟩
    · have h32I : (32 : Int) < (s.size : Int) := by omega
      have e : Va.wordB p (Cod.str s) = false := by
        unfold Va.wordB
        rw [decide_eq_false (p := (Cod.str s).length ≤ 32) (by omega)]
        simp
      have E := Lib.hid e
      clear e h1 hlen hem h0 hne h32
      go_enter Tryd.func42, Tryd.ntmps42
      go_wp2_with fail
      go_ret
      exact ⟨by rw [E.out]; rfl, Mod.refl _ _⟩

def resW8 : List (List UInt8) := [[114, 101, 108, 97, 116, 105, 111, 110], [110, 111, 116], [110, 117, 109], [115, 121, 109], [109, 111, 100], [99, 111, 117, 110, 116], [115, 117, 109], [109, 105, 110], [109, 97, 120]]
theorem res_str (s : ByteArray) : Va.resW.contains (Cod.str s) = resW8.contains s.toList := by
  have h1 : Va.resW = resW8.map (fun l => l.map UInt8.toNat) := rfl
  have h2 : Cod.str s = s.toList.map UInt8.toNat := by rw [ByteArray.toList_eq]; rfl
  rw [h1, h2, Bool.eq_iff_iff, List.contains_iff_mem, List.contains_iff_mem, List.mem_map]
  constructor
  · rintro ⟨a, ha, he⟩
    have : a = s.toList := by
      have := congrArg (fun l => l.map UInt8.ofNat) he
      simp only [Va.map_back] at this
      exact this
    exact this ▸ ha
  · exact fun h => ⟨_, h, rfl⟩
set_option maxHeartbeats 1000000 in
theorem Name_any (s : ByteArray) (hs : s.size ≤ 9223372036854775807) (w : World) :
    Calls Tryd.prog 18 #[.string s] w fun e w' => e = .returned (.bool (Va.name (Cod.str s))) ∧ Mod [] w w' := by
  have h1 := fun w => word_any s hs 97 122 Lx.small (fun c => rfl) w
  have hn : Va.name (Cod.str s) = (!resW8.contains s.toList && Va.wordB Lx.small (Cod.str s)) := by unfold Va.name; rw [res_str]
  rw [hn]
  generalize Va.wordB Lx.small (Cod.str s) = b at *
  have H1 := Lib.hid h1
  clear h1 hn
  go_enter Tryd.func18, Tryd.ntmps18
  go_wp2_with (go_at_call 42; refine (H1.out _).mono ?_; rintro e w' ⟨rfl, hm⟩)
  all_goals (first | (exfalso; simp_all; done) | (go_ret; exact ⟨by congr 1; simp_all [resW8], by first | assumption | exact Mod.refl _ _⟩))
/-- a value as it is handed over -/
def valV (v : Va.Val) : Array Value := #[.int .i64 v.k, .int .i64 v.n, .string (Lx.ofS v.s)]
def chk (v : Va.Val) : Int := if Va.may v then 0 else 20
theorem check_any (v : Va.Val) (w : World) :
    Calls Tryd.prog 12 #[.agg (valV v)] w fun e w' => e = .returned (.int .i64 (chk v)) ∧ Mod [] w w' := by
  obtain ⟨k, n, s⟩ := v
  unfold valV
  have hsz := ofS_size s
  have hem : (Lx.ofS s).toList.isEmpty = decide (s = []) := by
    rw [toList_isEmpty, hsz]
    cases s <;> simp
  by_cases k1 : k = 1
  · subst k1
    by_cases hs : s = []
    · have e1 : (Lx.ofS s).toList.isEmpty = true := by rw [hem, decide_eq_true hs]
      by_cases h1 : -2147483647 ≤ n
      · by_cases h2 : n ≤ 2147483647
        · have e : chk ⟨1, n, s⟩ = 0 := by unfold chk Va.may; rw [if_pos]; simp [hs, h1, h2]
          have E := Lib.hid e
          clear hem hs hsz e
          go_enter Tryd.func12, Tryd.ntmps12
          go_wp2_with fail
          go_ret
          exact ⟨by rw [E.out]; rfl, (Mod.refl [] w).alloc _⟩
        · have e : chk ⟨1, n, s⟩ = 20 := by unfold chk Va.may; rw [if_neg]; simp [hs, h1, h2]
          have E := Lib.hid e
          clear hem hs hsz e
          go_enter Tryd.func12, Tryd.ntmps12
          go_wp2_with fail
          go_ret
          exact ⟨by rw [E.out]; rfl, (Mod.refl [] w).alloc _⟩
      · have e : chk ⟨1, n, s⟩ = 20 := by unfold chk Va.may; rw [if_neg]; simp [hs, h1]
        have E := Lib.hid e
        clear hem hs hsz e
        go_enter Tryd.func12, Tryd.ntmps12
        go_wp2_with fail
        go_ret
        exact ⟨by rw [E.out]; rfl, (Mod.refl [] w).alloc _⟩
    · have e1 : (Lx.ofS s).toList.isEmpty = false := by rw [hem, decide_eq_false hs]
      have e : chk ⟨1, n, s⟩ = 20 := by unfold chk Va.may; rw [if_neg]; simp [hs]
      have E := Lib.hid e
      clear hem hs hsz e
      go_enter Tryd.func12, Tryd.ntmps12
      go_wp2_with fail
      go_ret
      exact ⟨by rw [E.out]; rfl, (Mod.refl [] w).alloc _⟩
  · have k1B : (k == 1) = false := by rw [beq_eq_false_iff_ne]; exact k1
    by_cases k2 : k = 2
    · subst k2
      by_cases hn : n = 0
      · subst hn
        by_cases hl : s.length ≤ 64
        · have e : chk ⟨2, 0, s⟩ = 0 := by unfold chk Va.may; rw [if_pos]; simp [hl]
          have e2 : ((Lx.ofS s).size : Int) ≤ 64 := by omega
          have E := Lib.hid e
          clear hem hsz e hl
          go_enter Tryd.func12, Tryd.ntmps12
          go_wp2_with fail
          go_ret
          exact ⟨by rw [E.out]; rfl, (Mod.refl [] w).alloc _⟩
        · have e : chk ⟨2, 0, s⟩ = 20 := by unfold chk Va.may; rw [if_neg]; simp; omega
          have e2 : ¬ ((Lx.ofS s).size : Int) ≤ 64 := by omega
          have E := Lib.hid e
          clear hem hsz e hl
          go_enter Tryd.func12, Tryd.ntmps12
          go_wp2_with fail
          go_ret
          exact ⟨by rw [E.out]; rfl, (Mod.refl [] w).alloc _⟩
      · have nB : (n == 0) = false := by rw [beq_eq_false_iff_ne]; exact hn
        have e : chk ⟨2, n, s⟩ = 20 := by unfold chk Va.may; rw [if_neg]; simp [hn]
        have E := Lib.hid e
        clear hem hsz e
        go_enter Tryd.func12, Tryd.ntmps12
        go_wp2_with fail
        go_ret
        exact ⟨by rw [E.out]; rfl, (Mod.refl [] w).alloc _⟩
    · have k2B : (k == 2) = false := by rw [beq_eq_false_iff_ne]; exact k2
      have e : chk ⟨k, n, s⟩ = 20 := by unfold chk Va.may; rw [if_neg]; simp [k1, k2]
      have E := Lib.hid e
      clear hem hsz e
      go_enter Tryd.func12, Tryd.ntmps12
      go_wp2_with fail
      go_ret
      exact ⟨by rw [E.out]; rfl, (Mod.refl [] w).alloc _⟩
end Go.Proofs.YtcalbbfkgdfidaaDoor
