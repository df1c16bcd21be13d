/- THE WRITER's METHODS: those that are here. -/
import Derived.Test.YtcalbbfkgdfidaaDoorCodeW
namespace Go.Proofs.YtcalbbfkgdfidaaDoor
open Go.RowKit
set_option linter.unusedVariables false
set_option maxRecDepth 100000

theorem New_any (w : World) :
    Calls Tryd.prog 36 #[] w fun e w' => e = .returned (.pointer (some ⟨w.heap.size, 0, none⟩)) ∧ BoxIs w' w.heap.size (.slice none 0 0) [] ∧ Mod [] w w' := by
  go_enter Tryd.func36, Tryd.ntmps36
  go_wp2
  go_ret
  exact ⟨rfl, ⟨heap_alloc_new w _, World.ownsRow_nil _ _ _ _, by simp [fp], by simp⟩, (Mod.refl _ _).alloc _⟩

theorem WByte_any (b : Nat) (v : Value) (c : Nat) (l : List Nat) (w : World) (h : BoxIs w b v l) (hc : c < 256) (hlen : l.length + 1 ≤ 140737488355328) :
    Calls Tryd.prog 38 #[.pointer (some ⟨b, 0, none⟩), .int .u8 c] w (Laid b v (l ++ [c]) w) := by
  have hone := reads_one w c hc
  go_enter Tryd.func38, Tryd.ntmps38
  go_wp2_with fail
  refine (put_any b v _ l [c] _ (h.alloc _) hone hlen).mono ?_
  rintro e w2 hlaid
  obtain ⟨rfl, -⟩ := id hlaid
  go_wp2_with fail
  go_end0
  exact hlaid.after ((Mod.refl _ _).alloc _) (fun t ht => .inl ht)

theorem WUint_any (b : Nat) (v : Value) (n : Nat) (l : List Nat) (w : World) (h : BoxIs w b v l) (hn : n < Cod.U64) (hlen : l.length + 11 ≤ 140737488355328) :
    Calls Tryd.prog 37 #[.pointer (some ⟨b, 0, none⟩), .int .u64 n] w (Laid b v (l ++ Cod.uv n) w) := by
  go_enter Tryd.func37, Tryd.ntmps37
  go_wp2_with fail
  refine (uint_any b v n l w h hn hlen).mono ?_
  rintro e w2 hlaid
  obtain ⟨rfl, -⟩ := id hlaid
  go_wp2_with fail
  go_end0
  exact hlaid

theorem zz_bits (n : Int) (h1 : -9223372036854775808 ≤ n) (h2 : n ≤ 9223372036854775807) :
    Go.bits .xor .u64 (IntKind.u64.wrap (IntKind.u64.wrap n * 2)) (IntKind.u64.wrap (n / 9223372036854775808)) = (Cod.zz n : Int) := by
  have wr : ∀ x : Int, IntKind.u64.wrap x = x % 18446744073709551616 := fun x => by simp [IntKind.wrap, IntKind.bits, IntKind.signed]
  rw [wr, wr, wr]
  unfold Cod.zz
  by_cases h : 0 ≤ n
  · rw [if_pos h]
    have e1 : (n % 18446744073709551616 * 2 % 18446744073709551616) = (((2 * n).toNat : Nat) : Int) := by omega
    have e2 : (n / 9223372036854775808 % 18446744073709551616) = ((0 : Nat) : Int) := by omega
    rw [e1, e2, u64_xor_nat _ _ (by omega) (by omega)]
    simp
  · rw [if_neg h]
    have e1 : (n % 18446744073709551616 * 2 % 18446744073709551616) = (((2 * n + 18446744073709551616).toNat : Nat) : Int) := by omega
    have e2 : (n / 9223372036854775808 % 18446744073709551616) = ((18446744073709551615 : Nat) : Int) := by omega
    rw [e1, e2, u64_xor_nat _ _ (by omega) (by omega)]
    have hb : (2 * n + 18446744073709551616).toNat < 18446744073709551616 := by omega
    have hx : (2 * n + 18446744073709551616).toNat ^^^ 18446744073709551615 = 18446744073709551615 - (2 * n + 18446744073709551616).toNat := by
      generalize (2 * n + 18446744073709551616).toNat = s at *
      have e : (BitVec.ofNat 64 s ^^^ BitVec.allOnes 64) = ~~~ (BitVec.ofNat 64 s) := BitVec.xor_allOnes
      have e2 := congrArg BitVec.toNat e
      rw [BitVec.toNat_xor, BitVec.toNat_not, BitVec.toNat_allOnes, BitVec.toNat_ofNat, Nat.mod_eq_of_lt (by omega)] at e2
      exact e2
    rw [hx]
    congr 1
    omega

theorem WInt_any (b : Nat) (v : Value) (n : Int) (l : List Nat) (w : World) (h : BoxIs w b v l) (h1 : -9223372036854775808 ≤ n) (h2 : n ≤ 9223372036854775807) (hlen : l.length + 11 ≤ 140737488355328) :
    Calls Tryd.prog 39 #[.pointer (some ⟨b, 0, none⟩), .int .i64 n] w (Laid b v (l ++ Cod.uv (Cod.zz n)) w) := by
  go_enter Tryd.func39, Tryd.ntmps39
  have hz := Cod.zz_lt n h1 h2
  have hzb := Lib.hid (zz_bits n h1 h2)
  clear h1 h2
  go_wp2_with fail
  rw [hzb.out]
  refine (uint_any b v _ l w h hz hlen).mono ?_
  rintro e w2 hlaid
  obtain ⟨rfl, -⟩ := id hlaid
  go_wp2_with fail
  go_end0
  exact hlaid

theorem byteCells_str (s : ByteArray) : byteCells s = toCells (Cod.str s) := by
  simp [byteCells, toCells, Cod.str, List.map_map, Function.comp_def]

theorem WText_any (b : Nat) (v : Value) (s : ByteArray) (l : List Nat) (w : World) (h : BoxIs w b v l) (hlen : l.length + 11 + s.size ≤ 140737488355328) :
    Calls Tryd.prog 40 #[.pointer (some ⟨b, 0, none⟩), .string s] w (Laid b v (l ++ (Cod.uv s.size ++ Cod.str s)) w) := by
  obtain ⟨i0, hi, hz0, hz1, hz2⟩ := info_parts Tryd.infoU8
  have hsz : s.size < Cod.U64 := by unfold Cod.U64; omega
  go_enter Tryd.func40, Tryd.ntmps40
  go_wp2_with fail
  refine (uint_any b v s.size l w h hsz (by omega)).mono ?_
  rintro e w2 ⟨rfl, v2, hb2, hm2, hf2⟩
  have hcell := cell_of_one hb2.at_
  have hfree := free_of_one hb2.at_
  have hlen2 : (l ++ Cod.uv s.size).length + s.size ≤ 140737488355328 := by
    have := Cod.uvF_len 10 s.size
    rw [List.length_append]; unfold Cod.uv; omega
  have hsrc := Src.ofString (P := Tryd.prog) w2 Tryd.underlying9 s
  go_wp2_with (at_builtin; refine wpList_append_src _ rfl _ _ 51 9 rfl 5 i0 (.int .u8 0) 1 1 Tryd.underlying51 hi hz0 hz1 hz2 rfl v2 _ _ rfl hb2.row _ _ _ rfl hsrc (by unfold maxLen; omega) (by omega) ?_)
  intro v' w1 hown hmod hfresh hnil
  have hat1 := hmod.at hb2.at_ hb2.out
  have hc1 := cell_of_one hat1
  have hf1 := free_of_one hat1
  have HH : Laid b v (l ++ (Cod.uv s.size ++ Cod.str s)) w (.returned (.tuple #[])) (w1.setCell ⟨b, 0, none⟩ v') := by
    rw [← List.append_assoc]
    rw [byteCells_str] at hown
    exact (laid_of hb2 (by rw [Cod.str_len, List.length_append]; exact hown) hmod hfresh (Cod.str_lt s)).after hm2 hf2
  obtain ⟨a', c', rfl⟩ := owns_slice hown
  clear hnil hfresh hown hmod
  go_wp2
  go_end0
  exact HH

/-- bytes of the call's own, read as l -/
def OutIs (l : List Nat) (w : World) (e : Ending) (w' : World) : Prop :=
  ∃ v, e = .returned v ∧ w'.ownsRow 0 5 1 v l.length (toCells l) ∧ Mod [] w w' ∧ (∀ k ∈ fp v, w.heap.size ≤ k) ∧ (v = .slice none 0 0 ↔ l = [])

theorem out_any (b : Nat) (v : Value) (l : List Nat) (w : World) (h : BoxIs w b v l) (hlen : l.length ≤ 140737488355328) :
    Calls Tryd.prog 56 #[.pointer (some ⟨b, 0, none⟩)] w (OutIs l w) := by
  obtain ⟨i0, hi, hz0, hz1, hz2⟩ := info_parts Tryd.infoU8
  have hcell := cell_of_one h.at_
  have hsrc := src_reads (reads_own h.row h.byte hlen)
  obtain ⟨a', c', rfl⟩ := owns_slice h.row
  go_enter Tryd.func56, Tryd.ntmps56
  go_wp2_with (at_builtin; refine wpList_append_src _ rfl _ _ 51 51 rfl 5 i0 (.int .u8 0) 1 1 Tryd.underlying51 hi hz0 hz1 hz2 rfl (.slice none 0 0) 0 [] rfl (World.ownsRow_nil _ _ _ _) _ l.length (toCells l) rfl hsrc (by unfold maxLen; omega) (by omega) ?_)
  intro v' w1 hown hmod hfresh hnil
  have HH : OutIs l w (.returned v') w1 := ⟨v', rfl, by simpa using hown, hmod, fun k hk => by simpa [fp] using hfresh k hk, hnil.trans (by simp)⟩
  clear hnil hfresh hown hmod
  go_wp2
  go_ret
  exact HH

theorem Out_any (b : Nat) (v : Value) (l : List Nat) (w : World) (h : BoxIs w b v l) (hlen : l.length ≤ 140737488355328) :
    Calls Tryd.prog 41 #[.pointer (some ⟨b, 0, none⟩)] w (OutIs l w) := by
  go_enter Tryd.func41, Tryd.ntmps41
  go_wp2_with fail
  refine (out_any b v l w h hlen).mono ?_
  rintro e w2 hout
  obtain ⟨v', rfl, -⟩ := id hout
  go_wp2_with fail
  go_ret
  exact hout
end Go.Proofs.YtcalbbfkgdfidaaDoor
