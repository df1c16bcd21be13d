/- THE STATEMENT CodeOne: the walk. -/
import Derived.Test.YtaaeahhcbmnbgaaLawCode
import Derived.Test.YtaaeahhcbmnbgaaOnePlain
import Derived.Test.YtaaeahhcbmnbgaaOpen2
import Derived.Deep.RegionHeld3
import Derived.Deep.RegionWith
namespace Go.Proofs.Ytaaeahhcbmnbgaa
open Go.RowKit
set_option linter.unusedVariables false
set_option maxRecDepth 100000

theorem str_ofStr {l : List Nat} (h : ∀ c ∈ l, c < 256) : Cod.str (ofStr l) = l := by
  unfold Cod.str ofStr
  rw [List.map_map]
  conv => rhs; rw [← List.map_id l]
  exact List.map_congr_left (fun c hc => by simp [Nat.mod_eq_of_lt (h c hc)])
theorem ofStr_size (l : List Nat) : (ofStr l).size = l.length := by simp [ofStr, ByteArray.size]

theorem one_uint {b : Nat} {v : Value} {l : List Nat} {a f : Nat} {w : World} (h : RdIs w b v l a f) :
    ∃ x a2 f2, Cod.Step l a f a2 f2 (Cod.uv x) ∧ x < Cod.U64 ∧ Calls Try.prog 20 #[.pointer (some ⟨b, 0, none⟩), .int .u64 18446744073709551615] w (Rd b v l a2 f2 (.int .u64 (x : Int)) w) := by
  obtain ⟨h1, h2⟩ := Cod.step_uint (f := f) h.byte h.in_
  exact ⟨_, _, _, h1, h2, RUint_any b v l a f 18446744073709551615 w h⟩
theorem one_int {b : Nat} {v : Value} {l : List Nat} {a f : Nat} {w : World} (h : RdIs w b v l a f) :
    ∃ x a2 f2, Cod.Step l a f a2 f2 (Cod.uv (Cod.zz x)) ∧ (-9223372036854775808 ≤ x ∧ x ≤ 9223372036854775807) ∧ Calls Try.prog 22 #[.pointer (some ⟨b, 0, none⟩), .int .i64 (-9223372036854775808), .int .i64 9223372036854775807] w (Rd b v l a2 f2 (.int .i64 x) w) := by
  obtain ⟨h1, h2, h3⟩ := Cod.step_int (f := f) h.byte h.in_
  exact ⟨_, _, _, h1, ⟨h2, h3⟩, RInt_any b v l a f _ _ w h⟩
theorem one_byte {b : Nat} {v : Value} {l : List Nat} {a f : Nat} {w : World} (h : RdIs w b v l a f) :
    ∃ x a2 f2, Cod.Step l a f a2 f2 [x] ∧ x < 256 ∧ Calls Try.prog 17 #[.pointer (some ⟨b, 0, none⟩)] w (Rd b v l a2 f2 (.int .u8 (x : Int)) w) := by
  obtain ⟨h1, h2⟩ := Cod.step_byte (f := f) h.byte h.in_
  exact ⟨_, _, _, h1, h2, RByte_any b v l a f w h⟩
theorem one_text {b : Nat} {v : Value} {l : List Nat} {a f : Nat} {w : World} (h : RdIs w b v l a f) :
    ∃ (x : ByteArray) (a2 f2 : Nat), Cod.Step l a f a2 f2 (Cod.uv x.size ++ Cod.str x) ∧ x.size ≤ l.length ∧ Calls Try.prog 24 #[.pointer (some ⟨b, 0, none⟩), .int .i64 (l.length : Int)] w (Rd b v l a2 f2 (.string x) w) := by
  obtain ⟨h1, h2, h3⟩ := Cod.step_text (f := f) h.byte h.in_
  refine ⟨ofStr (Cod.rText l a f l.length).1, _, _, ?_, by rw [ofStr_size]; exact h3, RText_any b v l a f l.length w h (by have := h.len; omega)⟩
  rw [ofStr_size, str_ofStr h2]
  exact h1
end Go.Proofs.Ytaaeahhcbmnbgaa
