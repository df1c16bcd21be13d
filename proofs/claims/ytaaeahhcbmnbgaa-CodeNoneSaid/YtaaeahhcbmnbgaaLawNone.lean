/- THE STATEMENT CodeNone: the walk. -/
import Derived.Test.YtaaeahhcbmnbgaaCodeNil
namespace Go.Proofs.Ytaaeahhcbmnbgaa
open Go.RowKit
set_option linter.unusedVariables false
set_option maxRecDepth 100000

set_option maxHeartbeats 2000000 in
theorem none_walk (n : Int) (s : ByteArray) (long : Int) (w : World) (hs : s.size ≤ 140737488351232) :
    Calls Try.prog 6 #[.int .u64 n, .string s, .int .i64 long] w fun e w' => e = .returned (.bool true) ∧ Mod [] w w' := by
  go_enter Try.func6, Try.ntmps6
  go_wp2_with fail
  refine (shown_any w).mono ?_
  rintro e w1 ⟨rfl, hm1⟩
  go_wp2_with fail
  refine (WByte_nil _ _).mono ?_
  rintro e w2 ⟨rfl, rfl⟩
  go_wp2_with fail
  refine (WUint_nil _ _).mono ?_
  rintro e w2 ⟨rfl, rfl⟩
  go_wp2_with fail
  refine (WInt_nil _ _).mono ?_
  rintro e w2 ⟨rfl, rfl⟩
  go_wp2_with fail
  refine (WText_nil _ _).mono ?_
  rintro e w2 ⟨rfl, rfl⟩
  have hcv := fun w => run_bytes_of_string (P := Try.prog) w 9 22 5 s Try.underlying9 Try.underlying22 Try.underlying5
  go_wp2_with fail
  refine (WRaw_nil _ _).mono ?_
  rintro e w2 ⟨rfl, rfl⟩
  clear hcv
  go_wp2_with fail
  refine (RByte_nil _).mono ?_
  rintro e w2 ⟨rfl, rfl⟩
  go_wp2_with fail
  refine (RUint_nil _ _).mono ?_
  rintro e w2 ⟨rfl, rfl⟩
  go_wp2_with fail
  refine (RInt_nil _ _ _).mono ?_
  rintro e w2 ⟨rfl, rfl⟩
  go_wp2_with fail
  refine (RText_nil _ _).mono ?_
  rintro e w2 ⟨rfl, rfl⟩
  go_wp2_with fail
  refine (RRaw_nil _ _).mono ?_
  rintro e w2 ⟨rfl, rfl⟩
  go_wp2_with fail
  refine (WOut_nil _).mono ?_
  rintro e w2 ⟨rfl, rfl⟩
  go_wp2_with fail
  refine (WLen_nil _).mono ?_
  rintro e w2 ⟨rfl, rfl⟩
  go_wp2_with fail
  refine (Left_nil _).mono ?_
  rintro e w2 ⟨rfl, rfl⟩
  go_wp2_with fail
  refine (At_nil _).mono ?_
  rintro e w2 ⟨rfl, rfl⟩
  go_wp2_with fail
  refine (Read_any _ [] _ ⟨by simp, by simp, .inl ⟨_, _, rfl, rfl⟩⟩).mono ?_
  rintro e w3 ⟨br, vr, rfl, hr3, hm3, hbr, -⟩
  have hbr : w.heap.size ≤ br := by have := hm1.size; simp at hbr; omega
  go_wp2_with fail
  refine (Fault_any _ _ _ _ _ _ hr3).mono ?_
  rintro e w4 ⟨rfl, rfl⟩
  go_wp2_with fail
  have he := End_any _ _ _ _ _ _ hr3
  rw [show endF [] 0 0 = 0 from by decide] at he
  refine he.mono ?_
  rintro e w4 ⟨rfl, hm4⟩
  clear he
  have hr4 := hr3.past hm4 (by simp)
  go_wp2_with fail
  refine (Left_any _ _ _ _ _ _ hr4).mono ?_
  rintro e w5 ⟨rfl, hm5⟩
  have hr5 := hr4.past hm5 (by simp)
  go_wp2_with fail
  have hb := RByte_any _ _ _ _ _ _ hr5
  rw [show Cod.rByte [] 0 0 = (0, 0, 10) from by decide] at hb
  refine hb.mono ?_
  rintro e w6 ⟨rfl, hr6, hm6⟩
  clear hb
  go_wp2_with fail
  refine (Fault_nil _).mono ?_
  rintro e w7 ⟨rfl, rfl⟩
  go_wp2_with fail
  refine (End_nil _).mono ?_
  rintro e w7 ⟨rfl, rfl⟩
  go_wp2_with fail
  refine (Fault_any _ _ _ _ _ _ hr6).mono ?_
  rintro e w7 ⟨rfl, rfl⟩
  go_wp2_with fail
  have he := End_any _ _ _ _ _ _ hr6
  rw [show endF [] (0, 0, 10).2.1 (0, 0, 10).2.2 = 10 from by decide] at he
  refine he.mono ?_
  rintro e w8 ⟨rfl, hm8⟩
  clear he
  go_wp2_with fail
  go_ret
  exact ⟨rfl, ((((((hm1.alloc _).drew).trans hm3 (by simp)).trans hm4 (by simp)).trans hm5 (by simp)).trans hm6 (by simpa using hbr)).trans hm8 (by simp)⟩
end Go.Proofs.Ytaaeahhcbmnbgaa
