/- THE SCANNER's SMALL FUNCTIONS: kinds of runes; how far a text goes on with a kind. -/
import Derived.Test.YtobimhmllkfmfaaDoorMem
import Derived.Test.YtobimhmllkfmfaaDoorLxRune
namespace Go.Proofs.YtobimhmllkfmfaaDoor
open Go.RowKit
set_option linter.unusedVariables false
set_option linter.unusedSimpArgs false
set_option maxRecDepth 100000

def smallI (c : Int) : Bool := decide (97 ≤ c) && decide (c ≤ 122)
def capitalI (c : Int) : Bool := decide (65 ≤ c) && decide (c ≤ 90)
def digitI (c : Int) : Bool := decide (48 ≤ c) && decide (c ≤ 57)
def restI (c : Int) : Bool := smallI c || (capitalI c || (digitI c || decide (c = 95)))
def blankI (c : Int) : Bool := decide (c = 32) || (decide (c = 9) || (decide (c = 10) || decide (c = 13)))
def lineI (c : Int) : Bool := !decide (c = 10)

theorem ret_bool {a b : Bool} (h : a = b) : Ending.returned (.bool a) = .returned (.bool b) := by rw [h]
theorem ret_int {k : IntKind} {a b : Int} (h : a = b) : Ending.returned (.int k a) = .returned (.int k b) := by rw [h]

theorem isSmall_any (c : Int) (b : Bool) (hb : smallI c = b) (w : World) :
    Calls Tryd.prog 44 #[.int .i32 c] w fun e w' => e = .returned (.bool b) ∧ w = w' := by
  subst hb
  unfold smallI
  by_cases h1 : 97 ≤ c
  · go_enter Tryd.func44, Tryd.ntmps44
    go_wp2
    all_goals go_ret
    all_goals exact ⟨ret_bool (by rw [Bool.eq_iff_iff]; simp <;> omega), rfl⟩
  · go_enter Tryd.func44, Tryd.ntmps44
    go_wp2
    all_goals go_ret
    all_goals exact ⟨ret_bool (by rw [Bool.eq_iff_iff]; simp <;> omega), rfl⟩

theorem isCapital_any (c : Int) (b : Bool) (hb : capitalI c = b) (w : World) :
    Calls Tryd.prog 45 #[.int .i32 c] w fun e w' => e = .returned (.bool b) ∧ w = w' := by
  subst hb
  unfold capitalI
  by_cases h1 : 65 ≤ c
  · go_enter Tryd.func45, Tryd.ntmps45
    go_wp2
    all_goals go_ret
    all_goals exact ⟨ret_bool (by rw [Bool.eq_iff_iff]; simp <;> omega), rfl⟩
  · go_enter Tryd.func45, Tryd.ntmps45
    go_wp2
    all_goals go_ret
    all_goals exact ⟨ret_bool (by rw [Bool.eq_iff_iff]; simp <;> omega), rfl⟩

theorem isDigit_any (c : Int) (b : Bool) (hb : digitI c = b) (w : World) :
    Calls Tryd.prog 47 #[.int .i32 c] w fun e w' => e = .returned (.bool b) ∧ w = w' := by
  subst hb
  unfold digitI
  by_cases h1 : 48 ≤ c
  · go_enter Tryd.func47, Tryd.ntmps47
    go_wp2
    all_goals go_ret
    all_goals exact ⟨ret_bool (by rw [Bool.eq_iff_iff]; simp <;> omega), rfl⟩
  · go_enter Tryd.func47, Tryd.ntmps47
    go_wp2
    all_goals go_ret
    all_goals exact ⟨ret_bool (by rw [Bool.eq_iff_iff]; simp <;> omega), rfl⟩

theorem blank_any (c : Int) (w : World) :
    Calls Tryd.prog 42 #[.int .i32 c] w fun e w' => e = .returned (.bool (blankI c)) ∧ w = w' := by
  unfold blankI
  go_enter Tryd.func42, Tryd.ntmps42
  go_wp2
  all_goals go_ret
  all_goals exact ⟨ret_bool (by rw [Bool.eq_iff_iff]; simp <;> omega), rfl⟩
theorem line_any (c : Int) (w : World) :
    Calls Tryd.prog 43 #[.int .i32 c] w fun e w' => e = .returned (.bool (lineI c)) ∧ w = w' := by
  unfold lineI
  go_enter Tryd.func43, Tryd.ntmps43
  go_wp2
  all_goals go_ret
  all_goals exact ⟨ret_bool (by rw [Bool.eq_iff_iff]; simp <;> omega), rfl⟩
theorem isRest_any (c : Int) (w : World) :
    Calls Tryd.prog 46 #[.int .i32 c] w fun e w' => e = .returned (.bool (restI c)) ∧ w = w' := by
  cases h1 : smallI c
  · cases h2 : capitalI c
    · cases h3 : digitI c
      · have e : Hid (restI c = decide (c = 95)) := Lib.hid (by simp [restI, h1, h2, h3])
        have H1 := Lib.hid h1; have H2 := Lib.hid h2; have H3 := Lib.hid h3
        clear h1 h2 h3
        go_enter Tryd.func46, Tryd.ntmps46
        go_wp2_with fail
        refine (isSmall_any c _ H1.out _).mono ?_
        rintro e w' ⟨rfl, rfl⟩
        go_wp2_with fail
        refine (isCapital_any c _ H2.out _).mono ?_
        rintro e w' ⟨rfl, rfl⟩
        go_wp2_with fail
        refine (isDigit_any c _ H3.out _).mono ?_
        rintro e w' ⟨rfl, rfl⟩
        go_wp2_with fail
        go_ret
        rw [e.out]
        exact ⟨ret_bool (by rw [Bool.eq_iff_iff]; simp), rfl⟩
      · have e : Hid (restI c = true) := Lib.hid (by simp [restI, h3])
        have H1 := Lib.hid h1; have H2 := Lib.hid h2; have H3 := Lib.hid h3
        clear h1 h2 h3
        go_enter Tryd.func46, Tryd.ntmps46
        go_wp2_with fail
        refine (isSmall_any c _ H1.out _).mono ?_
        rintro e w' ⟨rfl, rfl⟩
        go_wp2_with fail
        refine (isCapital_any c _ H2.out _).mono ?_
        rintro e w' ⟨rfl, rfl⟩
        go_wp2_with fail
        refine (isDigit_any c _ H3.out _).mono ?_
        rintro e w' ⟨rfl, rfl⟩
        go_wp2_with fail
        go_ret
        rw [e.out]
        exact ⟨rfl, rfl⟩
    · have e : Hid (restI c = true) := Lib.hid (by simp [restI, h2])
      have H1 := Lib.hid h1; have H2 := Lib.hid h2
      clear h1 h2
      go_enter Tryd.func46, Tryd.ntmps46
      go_wp2_with fail
      refine (isSmall_any c _ H1.out _).mono ?_
      rintro e w' ⟨rfl, rfl⟩
      go_wp2_with fail
      refine (isCapital_any c _ H2.out _).mono ?_
      rintro e w' ⟨rfl, rfl⟩
      go_wp2_with fail
      go_ret
      rw [e.out]
      exact ⟨rfl, rfl⟩
  · have e : Hid (restI c = true) := Lib.hid (by simp [restI, h1])
    have H1 := Lib.hid h1
    clear h1
    go_enter Tryd.func46, Tryd.ntmps46
    go_wp2_with fail
    refine (isSmall_any c _ H1.out _).mono ?_
    rintro e w' ⟨rfl, rfl⟩
    go_wp2_with fail
    go_ret
    rw [e.out]
    exact ⟨rfl, rfl⟩

theorem alike_rest : Lx.Alike restI Lx.goes false := by
  refine ⟨fun c hc => ?_, fun c hc => ?_, fun c hc => ?_⟩
  · rw [Bool.eq_iff_iff]; simp [restI, smallI, capitalI, digitI, Lx.goes, Lx.small, Lx.capital, Lx.digit]; omega
  · rw [← Bool.not_eq_true, ]; simp [restI, smallI, capitalI, digitI]; omega
  · rw [← Bool.not_eq_true]; simp [Lx.goes, Lx.small, Lx.capital, Lx.digit]; omega
theorem alike_digit : Lx.Alike digitI Lx.digit false := by
  refine ⟨fun c hc => ?_, fun c hc => ?_, fun c hc => ?_⟩
  · rw [Bool.eq_iff_iff]; simp [digitI, Lx.digit]; omega
  · rw [← Bool.not_eq_true, ]; simp [digitI]; omega
  · rw [← Bool.not_eq_true]; simp [Lx.digit]; omega
theorem alike_blank : Lx.Alike blankI Lx.blank false := by
  refine ⟨fun c hc => ?_, fun c hc => ?_, fun c hc => ?_⟩
  · rw [Bool.eq_iff_iff]; simp [blankI, Lx.blank]; omega
  · rw [← Bool.not_eq_true, ]; simp [blankI]; omega
  · rw [← Bool.not_eq_true]; simp [Lx.blank]; omega
theorem alike_line : Lx.Alike lineI Lx.line true := by
  refine ⟨fun c hc => ?_, fun c hc => ?_, fun c hc => ?_⟩
  · rw [Bool.eq_iff_iff]; simp [lineI, Lx.line]; omega
  · simp [lineI]; omega
  · simp [Lx.line]; omega

theorem mod_iter (w : World) (s : ByteArray) (pos : Nat) : Mod [] w (w.iter s pos) := (Mod.refl [] w).alloc _

theorem enter_of {f : FuncId} {fn : Func} {c : Code} (hf : Tryd.prog.funcs[f]? = some fn) (h1 : (fn.name == "runtime.NumGoroutine") = false) (hb : fn.body = some c) (args : Array Value) (w : World) :
    (callFunc f args).run Tryd.prog w = .ok (.enter f args) w := by
  have h2 : fn.name ≠ "runtime.NumGoroutine" := by simpa using h1
  simp [callFunc, hf, h2, hb]

set_option maxHeartbeats 1000000 in
/-- how far a text goes on with a kind -/
theorem length_any (n : Nat) (he : ∀ (args : Array Value) (w : World), (callFunc n args).run Tryd.prog w = .ok (.enter n args) w) (p : Int → Bool) (q : Nat → Bool) (d : Bool) (ha : Lx.Alike p q d) (hk : ∀ (c : Int) (w : World), Calls Tryd.prog n #[.int .i32 c] w fun e w' => e = .returned (.bool (p c)) ∧ w = w') (s : ByteArray) (hs : s.size ≤ 9223372036854775807) (w : World) :
    Calls Tryd.prog 41 #[.string s, .func (.func n) #[] #[]] w fun e w' => e = .returned (.int .i64 (Lx.run q (Cod.str s) : Nat)) ∧ Mod [] w w' := by
  have HK := Lib.hid hk
  have hrl := Lx.run_le q (Cod.str s)
  rw [Cod.str_len] at hrl
  clear hk
  go_enter Tryd.func41, Tryd.ntmps41
  go_wp2_with fail
  go_loopw [] (fun w' => ∃ pos : Nat, pos ≤ Lx.run q (Cod.str s) ∧ w' = w.iter s pos) (fun w' => s.size - w'.iterPos w.heap.size)
  case atStart => exact ⟨0, Nat.zero_le _, rfl⟩
  case round =>
    obtain ⟨pos, hr, rfl⟩ := hrel
    by_cases hp : pos < s.size
    · have hnx : ∀ ty, (Instr.next (.pointer (some ⟨w.heap.size, 0, none⟩)) true ty).run Tryd.prog (w.iter s pos) = _ := fun ty => run_next_any w s pos ty hp
      cases hd : p ((Utf8.decode s pos).1 : Int)
      · have hst := Lib.hid (ha.stop s pos hp hr hd)
        have HD := Lib.hid hd
        clear hd
        go_wp2_with fail
        refine (HK.out _ _).mono ?_
        rintro e w2 ⟨rfl, rfl⟩
        rw [HD.out]
        go_wp2_with fail
        go_ret
        exact ⟨by rw [hst.out]; rfl, mod_iter _ _ _⟩
      · have hst := ha.step s pos hp hr hd
        have HD := Lib.hid hd
        clear hd
        go_wp2_with fail
        refine (HK.out _ _).mono ?_
        rintro e w2 ⟨rfl, rfl⟩
        rw [HD.out]
        go_wp2_with fail
        go_roundw
        case rel => exact ⟨_, hst.1, rfl⟩
        case measure =>
          simp
          omega
    · have hnx : ∀ ty, (Instr.next (.pointer (some ⟨w.heap.size, 0, none⟩)) true ty).run Tryd.prog (w.iter s pos) = _ := fun ty => run_next_end w s pos ty hp
      go_wp2_with fail
      go_ret
      exact ⟨ret_int (by omega), mod_iter _ _ _⟩

theorem len_blank (s : ByteArray) (hs : s.size ≤ 9223372036854775807) (w : World) :
    Calls Tryd.prog 41 #[.string s, .func (.func 42) #[] #[]] w fun e w' => e = .returned (.int .i64 (Lx.run Lx.blank (Cod.str s) : Nat)) ∧ Mod [] w w' :=
  length_any _ (enter_of Tryd.func42 (by kernel_rfl) rfl) _ _ _ alike_blank blank_any s hs w
theorem len_line (s : ByteArray) (hs : s.size ≤ 9223372036854775807) (w : World) :
    Calls Tryd.prog 41 #[.string s, .func (.func 43) #[] #[]] w fun e w' => e = .returned (.int .i64 (Lx.run Lx.line (Cod.str s) : Nat)) ∧ Mod [] w w' :=
  length_any _ (enter_of Tryd.func43 (by kernel_rfl) rfl) _ _ _ alike_line line_any s hs w
theorem len_rest (s : ByteArray) (hs : s.size ≤ 9223372036854775807) (w : World) :
    Calls Tryd.prog 41 #[.string s, .func (.func 46) #[] #[]] w fun e w' => e = .returned (.int .i64 (Lx.run Lx.goes (Cod.str s) : Nat)) ∧ Mod [] w w' :=
  length_any _ (enter_of Tryd.func46 (by kernel_rfl) rfl) _ _ _ alike_rest isRest_any s hs w
theorem len_digit (s : ByteArray) (hs : s.size ≤ 9223372036854775807) (w : World) :
    Calls Tryd.prog 41 #[.string s, .func (.func 47) #[] #[]] w fun e w' => e = .returned (.int .i64 (Lx.run Lx.digit (Cod.str s) : Nat)) ∧ Mod [] w w' :=
  length_any _ (enter_of Tryd.func47 (by kernel_rfl) rfl) _ _ _ alike_digit (fun c w => isDigit_any c _ rfl w) s hs w
end Go.Proofs.YtobimhmllkfmfaaDoor
