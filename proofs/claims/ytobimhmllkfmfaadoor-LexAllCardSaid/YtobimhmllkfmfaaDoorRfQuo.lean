/- THE REFERENCE's parts of a quoted word. -/
import Derived.Test.YtobimhmllkfmfaaDoorRfPart
namespace Go.Proofs.YtobimhmllkfmfaaDoor
open Go.RowKit
set_option linter.unusedVariables false
set_option linter.unusedSimpArgs false
set_option maxRecDepth 100000

def partV (l : List Nat) : Nat × Nat :=
  match l with
  | [] => (0, 0)
  | c :: r => if c = 34 ∨ c = 10 then (0, 0) else if c = 92 then (match Lx.esc r with | none => (0, 0) | some (b, m) => (b, m + 1)) else (c, 1)

theorem tests {x c : Nat} (h : x = c) : (∀ k : Nat, c = k → (x : Int) = (k : Int)) ∧ (∀ k : Nat, c ≠ k → (¬ (x : Int) = (k : Int)) ∧ ((x : Int) == (k : Int)) = false ∧ ((x : Int) != (k : Int)) = true) := by
  subst h
  refine ⟨fun k h => by rw [h], fun k h => ⟨by omega, by rw [beq_eq_false_iff_ne]; omega, by rw [bne_iff_ne]; omega⟩⟩

def Part (l : List Nat) (w : World) (e : Ending) (w' : World) : Prop :=
  e = .returned (.tuple #[.int .u8 ((partV l).1 : Nat), .int .i64 ((partV l).2 : Nat)]) ∧ w = w'

set_option maxHeartbeats 2000000 in
theorem rPart_any (s : ByteArray) (hs : s.size ≤ 9223372036854775807) (w : World) :
    Calls Tryd.prog 62 #[.string s] w (Part (Cod.str s) w) := by
  have hll := Cod.str_len s
  have hlt := Cod.str_lt s
  cases hl : Cod.str s with
  | nil =>
    rw [hl] at hll
    have h0 : (s.size : Int) = 0 := by simp at hll; omega
    have h0B : ((s.size : Int) == 0) = true := by rw [beq_iff_eq]; exact h0
    clear hll hl hlt h0
    go_enter Tryd.func62, Tryd.ntmps62
    go_wp2_with fail
    go_ret2
    exact ⟨rfl, rfl⟩
  | cons c r =>
    rw [hl] at hll
    have h0 : 0 < s.size := by rw [← hll]; simp
    have hzB : ((s.size : Int) == 0) = false := by rw [beq_eq_false_iff_ne]; omega
    have hz : ¬ (s.size : Int) = 0 := by omega
    have hc0 : s[0].toNat = c := by rw [← Lx.get_str s 0 h0, hl]; rfl
    obtain ⟨hp, hn⟩ := tests hc0
    by_cases h34 : c = 34
    · have e : Hid (partV (c :: r) = (0, 0)) := Lib.hid (by simp [partV, h34])
      have p := hp 34 h34
      clear hll hl hlt hp hn hc0 h34
      go_enter Tryd.func62, Tryd.ntmps62
      go_wp2_with fail
      go_ret2
      exact ⟨by rw [e.out]; rfl, rfl⟩
    · obtain ⟨a34, b34, d34⟩ := hn 34 h34
      by_cases h10 : c = 10
      · have e : Hid (partV (c :: r) = (0, 0)) := Lib.hid (by simp [partV, h10])
        have p := hp 10 h10
        clear hll hl hlt hp hn hc0 h34 h10
        go_enter Tryd.func62, Tryd.ntmps62
        go_wp2_with fail
        go_ret2
        exact ⟨by rw [e.out]; rfl, rfl⟩
      · obtain ⟨a10, b10, d10⟩ := hn 10 h10
        by_cases h92 : c = 92
        · have p := hp 92 h92
          subst h92
          cases r with
          | nil =>
            have e : Hid (partV [92] = (0, 0)) := Lib.hid rfl
            have h1 : (s.size : Int) < 2 := by simp at hll; omega
            clear hll hl hlt hp hn hc0 h34 h10 a34 b34 d34 a10 b10 d10
            go_enter Tryd.func62, Tryd.ntmps62
            go_wp2_with fail
            go_ret2
            exact ⟨by rw [e.out]; rfl, rfl⟩
          | cons d r =>
            have h1 : 1 < s.size := by rw [← hll]; simp
            have h1I : (2 : Int) ≤ (s.size : Int) := by omega
            have hd0 : s[1].toNat = d := by rw [← Lx.get_str s 1 h1, hl]; rfl
            obtain ⟨hp1, hn1⟩ := tests hd0
            have hE : partV (92 :: d :: r) = match Lx.esc (d :: r) with | none => (0, 0) | some (b, m) => (b, m + 1) := rfl
            clear hp hn h34 h10 a34 b34 d34 a10 b10 d10
            by_cases k34 : d = 34
            · have e : Hid (partV (92 :: d :: r) = (34, 2)) := Lib.hid (by rw [hE, k34]; rfl)
              have p1 := hp1 34 k34
              clear hll hl hlt hp1 hn1 hc0 hd0 k34 hE
              go_enter Tryd.func62, Tryd.ntmps62
              go_wp2_with fail
              go_ret2
              exact ⟨by rw [e.out]; rfl, rfl⟩
            · obtain ⟨a34, b34, d34⟩ := hn1 34 k34
              by_cases k92 : d = 92
              · have e : Hid (partV (92 :: d :: r) = (92, 2)) := Lib.hid (by rw [hE, k92]; rfl)
                have p1 := hp1 92 k92
                clear hll hl hlt hp1 hn1 hc0 hd0 k34 k92 hE
                go_enter Tryd.func62, Tryd.ntmps62
                go_wp2_with fail
                go_ret2
                exact ⟨by rw [e.out]; rfl, rfl⟩
              · obtain ⟨a92, b92, d92⟩ := hn1 92 k92
                by_cases k110 : d = 110
                · have e : Hid (partV (92 :: d :: r) = (10, 2)) := Lib.hid (by rw [hE, k110]; rfl)
                  have p1 := hp1 110 k110
                  clear hll hl hlt hp1 hn1 hc0 hd0 k34 k92 k110 hE
                  go_enter Tryd.func62, Tryd.ntmps62
                  go_wp2_with fail
                  go_ret2
                  exact ⟨by rw [e.out]; rfl, rfl⟩
                · obtain ⟨a110, b110, d110⟩ := hn1 110 k110
                  by_cases k120 : d = 120
                  · have p1 := hp1 120 k120
                    subst k120
                    rcases r with _ | ⟨x, _ | ⟨y, r⟩⟩
                    · have e : Hid (partV [92, 120] = (0, 0)) := Lib.hid rfl
                      have h4 : (s.size : Int) < 4 := by simp at hll; omega
                      clear hll hl hlt hp1 hn1 hc0 hd0 k34 k92 k110 hE a34 b34 d34 a92 b92 d92 a110 b110 d110
                      go_enter Tryd.func62, Tryd.ntmps62
                      go_wp2_with fail
                      go_ret2
                      exact ⟨by rw [e.out]; rfl, rfl⟩
                    · have e : Hid (partV [92, 120, x] = (0, 0)) := Lib.hid rfl
                      have h4 : (s.size : Int) < 4 := by simp at hll; omega
                      clear hll hl hlt hp1 hn1 hc0 hd0 k34 k92 k110 hE a34 b34 d34 a92 b92 d92 a110 b110 d110
                      go_enter Tryd.func62, Tryd.ntmps62
                      go_wp2_with fail
                      go_ret2
                      exact ⟨by rw [e.out]; rfl, rfl⟩
                    · have h4 : (4 : Int) ≤ (s.size : Int) := by simp at hll; omega
                      have h2' : 2 < s.size := by omega
                      have h3' : 3 < s.size := by omega
                      have hx0 : s[2].toNat = x := by rw [← Lx.get_str s 2 h2', hl]; rfl
                      have hy0 : s[3].toNat = y := by rw [← Lx.get_str s 3 h3', hl]; rfl
                      have kx := fun w => rHex_any x (hlt x (by rw [hl]; simp)) w
                      have ky := fun w => rHex_any y (hlt y (by rw [hl]; simp)) w
                      have hE2 : Lx.esc (120 :: x :: y :: r) = match Lx.hexv x, Lx.hexv y with | some u, some v => some (16 * u + v, 3) | _, _ => none := rfl
                      rw [← hx0] at kx
                      rw [← hy0] at ky
                      cases hvx : Lx.hexv x with
                      | none =>
                        rw [hx0, hvx] at kx
                        rw [← hx0] at kx
                        have e : Hid (partV (92 :: 120 :: x :: y :: r) = (0, 0)) := Lib.hid (by rw [hE, hE2, hvx])
                        have KX := Lib.hid kx; have KY := Lib.hid ky
                        clear hll hl hlt hp1 hn1 hc0 hd0 k34 k92 k110 hE a34 b34 d34 a92 b92 d92 a110 b110 d110 kx ky hx0 hy0 hE2 hvx
                        go_enter Tryd.func62, Tryd.ntmps62
                        go_wp2_with fail
                        refine (KX.out _).mono ?_
                        rintro e2 w2 ⟨rfl, rfl⟩
                        go_wp2_with fail
                        refine (KY.out _).mono ?_
                        rintro e2 w2 ⟨rfl, rfl⟩
                        unfold hexZ
                        go_wp2_with fail
                        all_goals go_ret2
                        all_goals exact ⟨by rw [e.out]; rfl, rfl⟩
                      | some u =>
                        have hu := Lx.hexv_lt hvx
                        rw [hx0, hvx] at kx
                        rw [← hx0] at kx
                        cases hvy : Lx.hexv y with
                        | none =>
                          rw [hy0, hvy] at ky
                          rw [← hy0] at ky
                          have e : Hid (partV (92 :: 120 :: x :: y :: r) = (0, 0)) := Lib.hid (by rw [hE, hE2, hvx, hvy])
                          have KX := Lib.hid kx; have KY := Lib.hid ky
                          clear hll hl hlt hp1 hn1 hc0 hd0 k34 k92 k110 hE a34 b34 d34 a92 b92 d92 a110 b110 d110 kx ky hx0 hy0 hE2 hvx hvy
                          go_enter Tryd.func62, Tryd.ntmps62
                          go_wp2_with fail
                          refine (KX.out _).mono ?_
                          rintro e2 w2 ⟨rfl, rfl⟩
                          go_wp2_with fail
                          refine (KY.out _).mono ?_
                          rintro e2 w2 ⟨rfl, rfl⟩
                          unfold hexZ
                          go_wp2_with fail
                          go_ret2
                          exact ⟨by rw [e.out]; rfl, rfl⟩
                        | some v =>
                          have hv := Lx.hexv_lt hvy
                          rw [hy0, hvy] at ky
                          rw [← hy0] at ky
                          have e : Hid (partV (92 :: 120 :: x :: y :: r) = (16 * u + v, 4)) := Lib.hid (by rw [hE, hE2, hvx, hvy])
                          have KX := Lib.hid kx; have KY := Lib.hid ky
                          clear hll hl hlt hp1 hn1 hc0 hd0 k34 k92 k110 hE a34 b34 d34 a92 b92 d92 a110 b110 d110 kx ky hx0 hy0 hE2 hvx hvy
                          go_enter Tryd.func62, Tryd.ntmps62
                          go_wp2_with fail
                          refine (KX.out _).mono ?_
                          rintro e2 w2 ⟨rfl, rfl⟩
                          go_wp2_with fail
                          refine (KY.out _).mono ?_
                          rintro e2 w2 ⟨rfl, rfl⟩
                          unfold hexZ
                          go_wp2_with fail
                          go_ret2
                          exact ⟨by rw [e.out]; go_num, rfl⟩
                  · obtain ⟨a120, b120, d120⟩ := hn1 120 k120
                    have e : Hid (partV (92 :: d :: r) = (0, 0)) := Lib.hid (by rw [hE]; simp [Lx.esc, k34, k92, k110, k120])
                    clear hll hl hlt hp1 hn1 hc0 hd0 k34 k92 k110 k120 hE
                    go_enter Tryd.func62, Tryd.ntmps62
                    go_wp2_with fail
                    all_goals first
                      | (go_ret2; exact ⟨by rw [e.out]; rfl, rfl⟩)
                      | (exfalso; have hh : ((s[1].toNat : Int) == 34) = true ∨ ((s[1].toNat : Int) == 92) = true := by assumption
                         rcases hh with hh | hh
                         · exact absurd (hh.symm.trans b34) (by decide)
                         · exact absurd (hh.symm.trans b92) (by decide))
        · obtain ⟨a92, b92, d92⟩ := hn 92 h92
          have e : Hid (partV (c :: r) = (c, 1)) := Lib.hid (by simp [partV, h34, h10, h92])
          have HC := Lib.hid hc0
          clear hll hl hlt hp hn hc0 h34 h10 h92
          go_enter Tryd.func62, Tryd.ntmps62
          go_wp2_with fail
          all_goals first
            | (go_ret2; exact ⟨by rw [e.out, ← HC.out]; rfl, rfl⟩)
            | (exfalso; have hh : ((s[0].toNat : Int) == 34) = true ∨ ((s[0].toNat : Int) == 10) = true := by assumption
               rcases hh with hh | hh
               · exact absurd (hh.symm.trans b34) (by decide)
               · exact absurd (hh.symm.trans b10) (by decide))
end Go.Proofs.YtobimhmllkfmfaaDoor
