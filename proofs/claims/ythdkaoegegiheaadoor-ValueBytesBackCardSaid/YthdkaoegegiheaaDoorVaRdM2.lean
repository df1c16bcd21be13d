/- THE READER's METHODS, MORE: what reads an item. -/
import Derived.Test.YthdkaoegegiheaaDoorVaRdM
import Derived.Laws.DeepNot64
namespace Go.Proofs.YthdkaoegegiheaaDoor
open Go.RowKit
set_option linter.unusedVariables false
set_option maxRecDepth 100000

/-- how the number at the place came out, in two cases -/
theorem nx_cases {l : List Nat} (hb : ∀ c ∈ l, c < 256) (a : Nat) :
    (∃ fl, Cod.nx 10 0 0 (l.drop a) = (0, 0, fl) ∧ fl ≠ 0) ∨ (∃ n s, Cod.nx 10 0 0 (l.drop a) = (n, s, 0) ∧ 1 ≤ s ∧ s ≤ l.length - a ∧ n < Cod.U64) := by
  by_cases h : (Cod.nx 10 0 0 (l.drop a)).2.2 = 0
  · obtain ⟨m, s, he, h1, h2, h3, h4⟩ := Cod.nx_top (fun c hc => hb c (List.mem_of_mem_drop hc)) h
    exact .inr ⟨m, s, he, h1, by simpa using h2, h4⟩
  · obtain ⟨h1, h2⟩ := Cod.nx_bad _ _ _ _ h
    exact .inl ⟨_, Prod.ext h1 (Prod.ext h2 rfl), h⟩

theorem nextp {b : Nat} {v : Value} {l : List Nat} {a : Nat} {w : World} (h : RdIs w b v l a 0) {n s fl : Nat} (hn : Cod.nx 10 0 0 (l.drop a) = (n, s, fl)) :
    Calls Tryd.prog 131 #[.pointer (some ⟨b, 0, none⟩)] w (Rd b v l a fl (.tuple #[.int .u64 (n : Int), .int .i64 (s : Int)]) w) := by
  have := next_any b v l a w h
  rw [hn] at this
  exact this

theorem RUint_any (b : Nat) (v : Value) (l : List Nat) (a f most : Nat) (w : World) (h : RdIs w b v l a f) :
    Calls Tryd.prog 92 #[.pointer (some ⟨b, 0, none⟩), .int .u64 (most : Int)] w
      (Rd b v l (Cod.rUint l a f most).2.1 (Cod.rUint l a f most).2.2 (.int .u64 ((Cod.rUint l a f most).1 : Nat)) w) := by
  by_cases hf : f = 0
  · subst hf
    rcases nx_cases h.byte a with ⟨fl, hn, hfl⟩ | ⟨n, s, hn, hs1, hs2, hn64⟩
    · have hr : Cod.rUint l a 0 most = (0, a, fl) := by simp [Cod.rUint, hn, hfl]
      rw [hr]
      clear hr
      have hz : ((fl : Int) != 0) = true := by rw [bne_iff_ne]; omega
      go_enter Tryd.func92, Tryd.ntmps92
      go_wp2_with fail
      refine (well_any b v l a 0 w h true (by simp)).mono ?_
      rintro e w1 ⟨rfl, rfl⟩
      go_wp2_with fail
      refine (nextp h hn).mono ?_
      rintro e w2 ⟨rfl, hr, hm⟩
      have hc2 := hr.c2
      have Hn := Lib.hid hn
      clear hn
      go_wp2_with fail
      go_ret
      exact ⟨rfl, hr, hm⟩
    · by_cases hmn : most < n
      · have hr : Cod.rUint l a 0 most = (0, a, 12) := by simp [Cod.rUint, hn, hmn]
        rw [hr]
        clear hr
        go_enter Tryd.func92, Tryd.ntmps92
        go_wp2_with fail
        refine (well_any b v l a 0 w h true (by simp)).mono ?_
        rintro e w1 ⟨rfl, rfl⟩
        go_wp2_with fail
        refine (nextp h hn).mono ?_
        rintro e w2 ⟨rfl, hr, hm⟩
        have Hn := Lib.hid hn
        clear hn
        go_wp2_with fail
        refine (fail_any b v l a 0 12 _ hr).mono ?_
        rintro e w3 ⟨rfl, hr3, hm3⟩
        have hc2 := hr3.c2
        have hff : ff 0 12 = 12 := rfl
        rw [hff] at hc2 hr3
        clear hff
        go_wp2_with fail
        go_ret
        exact ⟨rfl, hr3, hm.trans hm3 (fun t ht => .inl ht)⟩
      · have hr : Cod.rUint l a 0 most = (n, a + s, 0) := by simp [Cod.rUint, hn, hmn]
        rw [hr]
        clear hr
        have hlen := h.len
        have hin := h.in_
        go_enter Tryd.func92, Tryd.ntmps92
        go_wp2_with fail
        refine (well_any b v l a 0 w h true (by simp)).mono ?_
        rintro e w1 ⟨rfl, rfl⟩
        go_wp2_with fail
        refine (nextp h hn).mono ?_
        rintro e w2 ⟨rfl, hr, hm⟩
        have hc1 := hr.c1
        have hc2 := hr.c2
        have hfr := hr.free 1
        have Hn := Lib.hid hn
        clear hn
        go_wp2_with fail
        go_ret
        exact ⟨rfl, set_at hr (a + s) (by omega), hm.trans (mod_one _ _ _ _) (fun t ht => .inl ht)⟩
  · have hr : Cod.rUint l a f most = (0, a, f) := by simp [Cod.rUint, hf]
    rw [hr]
    clear hr
    go_enter Tryd.func92, Tryd.ntmps92
    go_wp2_with fail
    refine (well_any b v l a f w h false (by simp [hf])).mono ?_
    rintro e w1 ⟨rfl, rfl⟩
    go_wp2_with fail
    go_ret
    exact ⟨rfl, h, Mod.refl _ _⟩

theorem xor_comm_i64 (x y : Int) : Go.bits .xor .i64 x y = Go.bits .xor .i64 y x := by
  simp only [Go.bits, BitVec.xor_comm]
theorem unzz_bits (u : Nat) (h : u < Cod.U64) :
    Go.bits .xor .i64 (wrap64 ((u : Int) / 2)) (wrap64 (-(wrap64 (Go.bits .and .u64 (u : Int) 1)))) = Cod.unzz u := by
  unfold Cod.U64 at h
  have e1 : Go.bits .and .u64 (u : Int) 1 = ((u % 2 : Nat) : Int) := by
    have := u64_and_nat u 1 h (by decide)
    rw [nat_mask1] at this
    exact this
  have e2 : wrap64 ((u : Int) / 2) = ((u / 2 : Nat) : Int) := by unfold wrap64; omega
  rw [e1, e2]
  unfold Cod.unzz
  by_cases h2 : u % 2 = 0
  · rw [if_pos h2, h2]
    have e3 : wrap64 (-(wrap64 ((0 : Nat) : Int))) = ((0 : Nat) : Int) := by simp only [wrap64]; omega
    rw [e3]
    have hx : u / 2 < 9223372036854775808 := by omega
    generalize u / 2 = x at *
    simp only [Go.bits]
    have : (BitVec.ofInt 64 (x : Int)) ^^^ (BitVec.ofInt 64 ((0 : Nat) : Int)) = BitVec.ofInt 64 (x : Int) := by simp
    have e4 : (BitVec.ofInt 64 (x : Int)).toNat = x := ofInt_u64 x (by omega)
    show IntKind.i64.wrap ((((BitVec.ofInt 64 (x : Int)) ^^^ (BitVec.ofInt 64 ((0 : Nat) : Int))).toNat : Nat) : Int) = _
    rw [this, e4, IntWalk.i64_in _ (by omega)]
  · rw [if_neg h2]
    have e0 : u % 2 = 1 := by omega
    rw [e0]
    have e3 : wrap64 (-(wrap64 ((1 : Nat) : Int))) = -1 := by simp only [wrap64]; omega
    rw [e3, xor_comm_i64, i64_not (u / 2) (by omega)]
    omega

theorem RInt_any (b : Nat) (v : Value) (l : List Nat) (a f : Nat) (least most : Int) (w : World) (h : RdIs w b v l a f) :
    Calls Tryd.prog 95 #[.pointer (some ⟨b, 0, none⟩), .int .i64 least, .int .i64 most] w
      (Rd b v l (Cod.rInt l a f least most).2.1 (Cod.rInt l a f least most).2.2 (.int .i64 (Cod.rInt l a f least most).1) w) := by
  by_cases hf : f = 0
  · subst hf
    rcases nx_cases h.byte a with ⟨fl, hn, hfl⟩ | ⟨n, s, hn, hs1, hs2, hn64⟩
    · have hr : Cod.rInt l a 0 least most = (0, a, fl) := by simp [Cod.rInt, hn, hfl]
      rw [hr]
      clear hr
      have hz : ((fl : Int) != 0) = true := by rw [bne_iff_ne]; omega
      go_enter Tryd.func95, Tryd.ntmps95
      go_wp2_with fail
      refine (well_any b v l a 0 w h true (by simp)).mono ?_
      rintro e w1 ⟨rfl, rfl⟩
      go_wp2_with fail
      refine (nextp h hn).mono ?_
      rintro e w2 ⟨rfl, hr, hm⟩
      have hc2 := hr.c2
      have Hn := Lib.hid hn
      clear hn
      go_wp2_with fail
      go_ret
      exact ⟨rfl, hr, hm⟩
    · have hlen := h.len
      have hin := h.in_
      have HU := unzz_bits n hn64
      by_cases hb : Cod.unzz n < least ∨ most < Cod.unzz n
      · have hr : Cod.rInt l a 0 least most = (0, a, 12) := by simp [Cod.rInt, hn, hb]
        rw [hr]
        clear hr
        have hb2 : Cod.unzz n < least ∨ (least ≤ Cod.unzz n ∧ most < Cod.unzz n) := by omega
        clear hb
        rcases hb2 with hb | ⟨hb1, hb⟩
        all_goals
          go_enter Tryd.func95, Tryd.ntmps95
          go_wp2_with fail
          refine (well_any b v l a 0 w h true (by simp)).mono ?_
          rintro e w1 ⟨rfl, rfl⟩
          go_wp2_with fail
          refine (nextp h hn).mono ?_
          rintro e w2 ⟨rfl, hr, hm⟩
          have Hn := Lib.hid hn
          clear hn
          go_wp2_with fail
          refine (fail_any b v l a 0 12 _ hr).mono ?_
          rintro e w3 ⟨rfl, hr3, hm3⟩
          have hc2 := hr3.c2
          have hff : ff 0 12 = 12 := rfl
          rw [hff] at hc2 hr3
          clear hff
          go_wp2_with fail
          go_ret
          exact ⟨rfl, hr3, hm.trans hm3 (fun t ht => .inl ht)⟩
      · have hr : Cod.rInt l a 0 least most = (Cod.unzz n, a + s, 0) := by simp [Cod.rInt, hn, hb]
        rw [hr]
        clear hr
        have hb1 : least ≤ Cod.unzz n := by omega
        have hb2 : Cod.unzz n ≤ most := by omega
        clear hb
        go_enter Tryd.func95, Tryd.ntmps95
        go_wp2_with fail
        refine (well_any b v l a 0 w h true (by simp)).mono ?_
        rintro e w1 ⟨rfl, rfl⟩
        go_wp2_with fail
        refine (nextp h hn).mono ?_
        rintro e w2 ⟨rfl, hr, hm⟩
        have hc1 := hr.c1
        have hc2 := hr.c2
        have hfr := hr.free 1
        have Hn := Lib.hid hn
        clear hn
        go_wp2_with fail
        go_ret
        exact ⟨rfl, set_at hr (a + s) (by omega), hm.trans (mod_one _ _ _ _) (fun t ht => .inl ht)⟩
  · have hr : Cod.rInt l a f least most = (0, a, f) := by simp [Cod.rInt, hf]
    rw [hr]
    clear hr
    go_enter Tryd.func95, Tryd.ntmps95
    go_wp2_with fail
    refine (well_any b v l a f w h false (by simp [hf])).mono ?_
    rintro e w1 ⟨rfl, rfl⟩
    go_wp2_with fail
    go_ret
    exact ⟨rfl, h, Mod.refl _ _⟩
end Go.Proofs.YthdkaoegegiheaaDoor
