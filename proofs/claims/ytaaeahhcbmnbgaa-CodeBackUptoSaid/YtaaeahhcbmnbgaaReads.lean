/- ITEMS ARE READ: the walk of reads. -/
import Derived.Test.YtaaeahhcbmnbgaaLay
import Derived.Deep.RegionHeld3
namespace Go.Proofs.Ytaaeahhcbmnbgaa
open Go.RowKit
set_option linter.unusedVariables false
set_option linter.unusedSimpArgs false
set_option maxRecDepth 100000

/-- a reader stays, one bool comes out -/
def RdB (b : Nat) (v : Value) (l : List Nat) (r : Nat × Nat × Bool) (w : World) (e : Ending) (w' : World) : Prop :=
  e = .returned (.bool r.2.2) ∧ RdIs w' b v l r.1 r.2.1 ∧ Mod [b] w w'

theorem ret_bool {a b : Bool} (h : a = b) : Ending.returned (.bool a) = .returned (.bool b) := by rw [h]

theorem ofS_len (s : ByteArray) : s = Cod.ofS (Cod.str s) := (Cod.ofS_str s).symm

theorem wrapEq (x : Int) : IntKind.i64.wrap x = wrap64 x := by rw [IntKind.wrap_i64]; unfold wrap64; rfl
theorem int_beq (a b : Int) : (a == b) = decide (a = b) := by rw [Bool.eq_iff_iff]; simp
theorem str_beq (a b : ByteArray) : (a.toList == b.toList) = decide (a = b) := by
  rw [ByteArray.toList_eq, ByteArray.toList_eq, Bool.eq_iff_iff]
  obtain ⟨⟨x⟩⟩ := a
  obtain ⟨⟨y⟩⟩ := b
  simp
theorem raw_lt (l : List Nat) (a f : Nat) (n : Int) (h : ∀ c ∈ l, c < 256) : ∀ c ∈ (Cod.rRaw l a f n).1, c < 256 := by
  intro c hc
  unfold Cod.rRaw at hc
  split at hc
  · simp at hc
  · split at hc
    · simp at hc
    · split at hc
      · simp at hc
      · exact h c (List.mem_of_mem_drop (List.mem_of_mem_take hc))
theorem raw_le (l : List Nat) (a f : Nat) (n : Int) (h : l.length ≤ 140737488355328) : (Cod.rRaw l a f n).1.length ≤ 140737488355328 := by
  unfold Cod.rRaw
  split
  · simp
  · split
    · simp
    · split
      · simp
      · simp; omega

set_option maxHeartbeats 1000000 in
theorem reads_any (b : Nat) (v : Value) (l : List Nat) (a f : Nat) (x : Raw) (r : Nat × Nat × Bool) (w : World) (h : RdIs w b v l a f) (hg : x.Good) (hs : x.s.size ≤ 9223372036854775807) (hp : (toIt x).rd l a f = r) :
    Calls Try.prog 33 #[.pointer (some ⟨b, 0, none⟩), .agg #[.int .i64 x.k, .int .u64 (x.n : Int), .string x.s]] w (RdB b v l r w) := by
  obtain ⟨k, n, s⟩ := x
  obtain ⟨hk1, hk2, hn⟩ := hg
  simp only at hk1 hk2 hn hs
  have hz : -9223372036854775808 ≤ wrap64 (n : Int) ∧ wrap64 (n : Int) ≤ 9223372036854775807 := by
    unfold wrap64; omega
  have hpick := fun w => pick_any k 5 w hk1 hk2 (by decide) (by decide)
  have hx : ∀ o, RdIs (w.alloc o).drew b v l a f := fun o => h.past (((Mod.refl [] w).alloc o).drew) (by simp)
  have hlt := h.lt
  have hsi : (s.size : Int) ≤ 9223372036854775807 := by omega
  have hbyte := h.byte
  have hlen := h.len
  rcases pick5 k with hpk | hpk | hpk | hpk | hpk
  · rw [hpk] at hpick
    have hr : r = ((Cod.rByte l a f).2.1, (Cod.rByte l a f).2.2, decide ((Cod.rByte l a f).1 = n % 256)) := by rw [← hp]; simp [Cod.It.rd, toIt, hpk]
    have HR := Lib.hid hr
    have HP := Lib.hid hpick
    have HX := Lib.hid hx
    clear hpick hx hp hpk hr h
    go_enter Try.func33, Try.ntmps33
    go_wp2_with fail
    refine (HP.out _).mono ?_
    rintro e w2 ⟨rfl, rfl⟩
    go_wp2_with fail
    have hc : (w.alloc (Obj.cells #[Value.int IntKind.i64 k, Value.int IntKind.u64 ↑n, Value.string s] 56)).cell? ⟨w.heap.size, 1, none⟩ = some (Value.int .u64 (n : Int)) := by simp
    go_region_held3 (fun w' => w'.cell? ⟨w.heap.size, 1, none⟩ = some (Value.int .u64 (n : Int)))
      (first | go_keep | (refine hm2.cell ?_ (by simp; omega); simp))
      ((go_at_call 17; refine (RByte_any _ _ _ _ _ _ (HX.out _)).mono ?_; rintro e w2 ⟨rfl, hr2, hm2⟩))
    go_wp2_with fail
    go_ret
    rw [HR.out]
    refine ⟨ret_bool ?_, hr2, (((Mod.refl [b] w).alloc _).drew).trans hm2 (fun t ht => .inl ht)⟩
    have e : IntKind.u8.wrap (n : Int) = ((n % 256 : Nat) : Int) := by simp [IntKind.wrap, IntKind.bits, IntKind.signed]
    rw [e, Bool.eq_iff_iff]; simp; omega
  · rw [hpk] at hpick
    have hr : r = ((Cod.rUint l a f n).2.1, (Cod.rUint l a f n).2.2, decide ((Cod.rUint l a f n).1 = n)) := by rw [← hp]; simp [Cod.It.rd, toIt, hpk]
    have HR := Lib.hid hr
    have HP := Lib.hid hpick
    have HX := Lib.hid hx
    clear hpick hx hp hpk hr h
    go_enter Try.func33, Try.ntmps33
    go_wp2_with fail
    refine (HP.out _).mono ?_
    rintro e w2 ⟨rfl, rfl⟩
    go_wp2_with fail
    have hc : (w.alloc (Obj.cells #[Value.int IntKind.i64 k, Value.int IntKind.u64 ↑n, Value.string s] 56)).cell? ⟨w.heap.size, 1, none⟩ = some (Value.int .u64 (n : Int)) := by simp
    go_region_held3 (fun w' => w'.cell? ⟨w.heap.size, 1, none⟩ = some (Value.int .u64 (n : Int)))
      (first | go_keep | (refine hm2.cell ?_ (by simp; omega); simp))
      ((go_at_call 20; refine (RUint_any _ _ _ _ _ n _ (HX.out _)).mono ?_; rintro e w2 ⟨rfl, hr2, hm2⟩))
    go_wp2_with fail
    go_ret
    rw [HR.out]
    refine ⟨ret_bool ?_, hr2, (((Mod.refl [b] w).alloc _).drew).trans hm2 (fun t ht => .inl ht)⟩
    rw [Bool.eq_iff_iff]; simp only [beq_iff_eq, decide_eq_true_eq]; omega
  · rw [hpk] at hpick
    have hr : r = ((Cod.rInt l a f (wrap64 (n : Int)) (wrap64 (n : Int))).2.1, (Cod.rInt l a f (wrap64 (n : Int)) (wrap64 (n : Int))).2.2, decide ((Cod.rInt l a f (wrap64 (n : Int)) (wrap64 (n : Int))).1 = wrap64 (n : Int))) := by rw [← hp]; simp [Cod.It.rd, toIt, hpk]
    have HR := Lib.hid hr
    have HP := Lib.hid hpick
    have HX := Lib.hid hx
    clear hpick hx hp hpk hr h
    go_enter Try.func33, Try.ntmps33
    go_wp2_with fail
    refine (HP.out _).mono ?_
    rintro e w2 ⟨rfl, rfl⟩
    go_wp2_with fail
    have hc : (w.alloc (Obj.cells #[Value.int IntKind.i64 k, Value.int IntKind.u64 ↑n, Value.string s] 56)).cell? ⟨w.heap.size, 1, none⟩ = some (Value.int .u64 (n : Int)) := by simp
    go_region_held3 (fun w' => w'.cell? ⟨w.heap.size, 1, none⟩ = some (Value.int .u64 (n : Int)))
      (first | go_keep | (refine hm2.cell ?_ (by simp; omega); simp))
      ((go_at_call 22; refine (RInt_any _ _ _ _ _ _ _ _ (HX.out _)).mono ?_; rintro e w2 ⟨rfl, hr2, hm2⟩))
    go_wp2_with fail
    go_ret
    rw [wrapEq] at hr2
    rw [HR.out, wrapEq]
    refine ⟨ret_bool ?_, hr2, (((Mod.refl [b] w).alloc _).drew).trans hm2 (fun t ht => .inl ht)⟩
    exact int_beq _ _
  · rw [hpk] at hpick
    have hr : r = ((Cod.rText l a f (s.size : Int)).2.1, (Cod.rText l a f (s.size : Int)).2.2, decide (Cod.ofS (Cod.rText l a f (s.size : Int)).1 = s)) := by rw [← hp]; simp [Cod.It.rd, toIt, hpk]
    have HR := Lib.hid hr
    have HP := Lib.hid hpick
    have HX := Lib.hid hx
    clear hpick hx hp hpk hr h
    go_enter Try.func33, Try.ntmps33
    go_wp2_with fail
    refine (HP.out _).mono ?_
    rintro e w2 ⟨rfl, rfl⟩
    go_wp2_with fail
    have hc : (w.alloc (Obj.cells #[Value.int IntKind.i64 k, Value.int IntKind.u64 ↑n, Value.string s] 56)).cell? ⟨w.heap.size, 2, none⟩ = some (Value.string s) := by simp
    go_region_held3 (fun w' => w'.cell? ⟨w.heap.size, 2, none⟩ = some (Value.string s))
      (first | go_keep | (refine hm2.cell ?_ (by simp; omega); simp))
      ((go_at_call 24; refine (RText_any _ _ _ _ _ _ _ (HX.out _) hsi).mono ?_; rintro e w2 ⟨rfl, hr2, hm2⟩))
    go_wp2_with fail
    go_ret
    rw [HR.out]
    refine ⟨ret_bool ?_, hr2, (((Mod.refl [b] w).alloc _).drew).trans hm2 (fun t ht => .inl ht)⟩
    exact str_beq _ _
  · rw [hpk] at hpick
    have hr : r = ((Cod.rRaw l a f (s.size : Int)).2.1, (Cod.rRaw l a f (s.size : Int)).2.2, decide (Cod.ofS (Cod.rRaw l a f (s.size : Int)).1 = s)) := by rw [← hp]; simp [Cod.It.rd, toIt, hpk]
    have HR := Lib.hid hr
    have HP := Lib.hid hpick
    have HX := Lib.hid hx
    clear hpick hx hp hpk hr h
    go_enter Try.func33, Try.ntmps33
    go_wp2_with fail
    refine (HP.out _).mono ?_
    rintro e w2 ⟨rfl, rfl⟩
    go_wp2_with fail
    have hc : (w.alloc (Obj.cells #[Value.int IntKind.i64 k, Value.int IntKind.u64 ↑n, Value.string s] 56)).cell? ⟨w.heap.size, 2, none⟩ = some (Value.string s) := by simp
    have hc2 : (w.alloc (Obj.cells #[Value.int IntKind.i64 k, Value.int IntKind.u64 ↑n, Value.string s] 56)).drew.cell? ⟨w.heap.size, 2, none⟩ = some (Value.string s) := by simp
    go_region_with ((go_at_call 28; refine (RRaw_any _ _ _ _ _ _ _ (HX.out _) hsi).mono ?_; rintro e w2 ⟨v8, rfl, hown8, hf8, hn8, hr2, hm2⟩; have hconv8 := conv_reads (reads_own hown8 (raw_lt _ _ _ _ hbyte) (raw_le _ _ _ _ hlen)); clear hown8 hn8; have hc8 := hm2.cell hc2 (by simp; omega)))
    all_goals go_wp2_with fail
    all_goals go_ret
    all_goals rw [HR.out]
    all_goals refine ⟨ret_bool (str_beq _ _), hr2, (((Mod.refl [b] w).alloc _).drew).trans hm2 (fun t ht => .inl ht)⟩
end Go.Proofs.Ytaaeahhcbmnbgaa
