/- WHAT STANDS BEHIND A BACKSLASH: the program's escape. -/
import Derived.Test.YtobimhmllkfmfaaDoorLxHex
namespace Go.Proofs.YtobimhmllkfmfaaDoor
open Go.RowKit
set_option linter.unusedVariables false
set_option linter.unusedSimpArgs false
set_option maxRecDepth 100000

/-- the package-level variables that these walks read -/
def markL : List (List Nat) := [[58, 45], [33, 61], [60, 61], [62, 61], [40], [41], [123], [125], [44], [46], [58], [61], [60], [62], [43], [45], [42], [47], [95]]
structure Glob (w : World) : Prop where
  marks : ∃ T fr, w.heap[0]? = some (.cells (markL.map fun l => Value.string (Lx.ofS l)).toArray T fr)
  syn : ∃ tp p T fr, w.heap[1]? = some (.cells #[.iface tp p] T fr)
  rng : ∃ tp p T fr, w.heap[2]? = some (.cells #[.iface tp p] T fr)
theorem Glob.keep {S : List Nat} {w w' : World} (h : Glob w) (hm : Mod S w w') (hS : ∀ t ∈ S, 3 ≤ t) : Glob w' := by
  obtain ⟨⟨T0, f0, h0⟩, ⟨t1, p1, T1, f1, h1⟩, ⟨t2, p2, T2, f2, h2⟩⟩ := h
  refine ⟨⟨T0, f0, hm.at h0 ?_⟩, ⟨t1, p1, T1, f1, hm.at h1 ?_⟩, ⟨t2, p2, T2, f2, hm.at h2 ?_⟩⟩
  all_goals
    intro hb
    have := hS _ hb
    omega
theorem Glob.size {w : World} (h : Glob w) : 3 ≤ w.heap.size := by
  obtain ⟨t2, p2, T2, f2, h2⟩ := h.rng
  have := lt_of_block h2
  omega
theorem Glob.past {S : List Nat} {w w' : World} (h : Glob w) (hm : Mod S w w') (hS : ∀ t ∈ S, w.heap.size ≤ t) : Glob w' :=
  h.keep hm (fun t ht => by have := hS t ht; have := h.size; omega)

theorem parse_outer (t : ByteArray) (ht : t.size = 2) (w : World) (hG : Glob w) :
    Calls Tryd.prog 65 #[.string t, .int .i64 16, .int .i64 8] w fun e w' => (match hexL (Cod.str t) with
      | some n => e = .returned (.tuple #[.int .u64 (n : Nat), .nilIface])
      | none => ∃ ty v, e = .returned (.tuple #[.int .u64 0, .iface ty v])) ∧ Mod [] w w' := by
  cases hx : hexL (Cod.str t) with
  | some n =>
    have hin := parse_inner t ht w
    rw [hx] at hin
    have HI := Lib.hid hin
    clear hin hx
    go_enter Tryd.func65, Tryd.ntmps65
    go_wp2_with fail
    refine HI.out.mono ?_
    rintro e w2 ⟨rfl, hm2⟩
    unfold hexR
    go_wp2_with fail
    go_ret2
    exact ⟨rfl, hm2⟩
  | none =>
    have hin := parse_inner t ht w
    rw [hx] at hin
    have HI := Lib.hid hin
    obtain ⟨tp, p, T, fr, hs⟩ := hG.syn
    have hs1 : w.cell? ⟨1, 0, none⟩ = some (.iface tp p) := by simp [World.cell?, hs]
    have HS := Lib.hid hs1
    have hts : t.size ≤ 281474976710656 := by omega
    clear hin hx hs hs1 hG
    go_enter Tryd.func65, Tryd.ntmps65
    go_wp2_with fail
    refine HI.out.mono ?_
    rintro e w2 ⟨rfl, hm2⟩
    have hs2 := hm2.cell HS.out (by simp)
    unfold hexR
    go_wp2_with fail
    refine (Tryd.strconv_toError_syntax _ t 16 8 _ _ hts hs2 (.inr ⟨_, _, rfl⟩)).mono ?_
    rintro e w3 ⟨N, rfl, -, -, hb3⟩
    go_wp2_with fail
    go_ret2
    exact ⟨⟨_, _, rfl⟩, hm2.trans (Mod.of_below hb3) (by simp)⟩

def escV (l : List Nat) : Nat × Nat := match Lx.esc l with | some (b, m) => (b, m) | none => (0, 0)

set_option maxHeartbeats 1000000 in
theorem escape_any (s : ByteArray) (hs : s.size ≤ 65536) (w : World) (hG : Glob w) :
    Calls Tryd.prog 59 #[.string s] w fun e w' => e = .returned (.tuple #[.int .u8 ((escV (Cod.str s)).1 : Nat), .int .i64 ((escV (Cod.str s)).2 : Nat)]) ∧ Mod [] w w' := by
  have hlt := Cod.str_lt s
  have hsz := Cod.str_len s
  cases hl : Cod.str s with
  | nil =>
    rw [hl] at hsz
    have hem : s.toList.isEmpty = true := by rw [toList_isEmpty, ← hsz]; rfl
    clear hsz hl hlt
    go_enter Tryd.func59, Tryd.ntmps59
    go_wp2_with fail
    go_ret2
    exact ⟨rfl, Mod.refl _ _⟩
  | cons c r =>
    rw [hl] at hsz
    have h0 : 0 < s.size := by rw [← hsz]; simp
    have hem : s.toList.isEmpty = false := by rw [toList_isEmpty, ← hsz]; rfl
    have hc0 : s[0].toNat = c := by rw [← Lx.get_str s 0 h0, hl]; rfl
    have hc : c < 256 := hlt c (by rw [hl]; simp)
    have hp : ∀ k : Nat, c = k → (s[0].toNat : Int) = (k : Int) := fun k h => by rw [hc0, h]
    have hn : ∀ k : Nat, c ≠ k → (¬ (s[0].toNat : Int) = (k : Int)) ∧ ((s[0].toNat : Int) == (k : Int)) = false ∧ ((s[0].toNat : Int) != (k : Int)) = true := fun k h => by
      rw [hc0]
      refine ⟨by omega, by rw [beq_eq_false_iff_ne]; omega, by rw [bne_iff_ne]; omega⟩
    by_cases h34 : c = 34
    · have e : Hid (escV (c :: r) = (c, 1)) := Lib.hid (by simp [escV, Lx.esc, h34])
      have p34 := hp 34 h34
      subst h34
      clear hsz hl hlt hp hn hc0
      go_enter Tryd.func59, Tryd.ntmps59
      go_wp2_with fail
      go_ret2
      rw [e.out]
      exact ⟨rfl, Mod.refl _ _⟩
    · by_cases h92 : c = 92
      · have e : Hid (escV (c :: r) = (c, 1)) := Lib.hid (by simp [escV, Lx.esc, h92])
        obtain ⟨a34, b34, d34⟩ := hn 34 h34
        have p92 := hp 92 h92
        subst h92
        clear hsz hl hlt hp hn hc0 h34
        go_enter Tryd.func59, Tryd.ntmps59
        go_wp2_with fail
        go_ret2
        rw [e.out]
        exact ⟨rfl, Mod.refl _ _⟩
      · by_cases h110 : c = 110
        · have e : Hid (escV (c :: r) = (10, 1)) := Lib.hid (by simp [escV, Lx.esc, h110])
          obtain ⟨a34, b34, d34⟩ := hn 34 h34
          obtain ⟨a92, b92, d92⟩ := hn 92 h92
          have p110 := hp 110 h110
          subst h110
          clear hsz hl hlt hp hn hc0 h34 h92
          go_enter Tryd.func59, Tryd.ntmps59
          go_wp2_with fail
          go_ret2
          rw [e.out]
          exact ⟨rfl, Mod.refl _ _⟩
        · by_cases h120 : c = 120
          · subst h120
            have p120 := hp 120 rfl
            rcases r with _ | ⟨a, _ | ⟨b, r⟩⟩
            · have e : Hid (escV [120] = (0, 0)) := Lib.hid rfl
              have h3 : s.size < 3 := by rw [← hsz]; simp
              clear hsz hl hlt hp hn hc0 h34 h92 h110
              go_enter Tryd.func59, Tryd.ntmps59
              go_wp2_with fail
              go_ret2
              rw [e.out]
              exact ⟨rfl, Mod.refl _ _⟩
            · have e : Hid (escV [120, a] = (0, 0)) := Lib.hid rfl
              have h3 : s.size < 3 := by rw [← hsz]; simp
              clear hsz hl hlt hp hn hc0 h34 h92 h110
              go_enter Tryd.func59, Tryd.ntmps59
              go_wp2_with fail
              go_ret2
              rw [e.out]
              exact ⟨rfl, Mod.refl _ _⟩
            · have h3 : 3 ≤ s.size := by rw [← hsz]; simp
              have hx : Cod.str (s.extract 1 3) = [a, b] := by rw [Lx.str_extract, hl]; simp
              have hex := parse_outer (s.extract 1 3) (by rw [ByteArray.size_extract]; omega) w hG
              rw [hx] at hex
              have hh : hexL [a, b] = match Lx.hexv a, Lx.hexv b with | some x, some y => some (16 * x + y) | _, _ => none := by
                unfold hexL
                cases h1 : Lx.hexv a <;> cases h2 : Lx.hexv b <;> simp [h1, h2]
              cases hy : hexL [a, b] with
              | none =>
                have e : Hid (escV (120 :: a :: b :: r) = (0, 0)) := Lib.hid (by
                  rw [hy] at hh
                  cases h1 : Lx.hexv a <;> cases h2 : Lx.hexv b <;> simp [h1, h2] at hh <;> simp [escV, Lx.esc, h1, h2])
                rw [hy] at hex
                have HE := Lib.hid hex
                clear hsz hl hlt hp hn hc0 h34 h92 h110 hx hex hh hy
                go_enter Tryd.func59, Tryd.ntmps59
                go_wp2_with fail
                refine HE.out.mono ?_
                rintro e w2 ⟨⟨ty, v, rfl⟩, hm2⟩
                go_wp2_with fail
                go_ret2
                rw [e.out]
                exact ⟨rfl, hm2⟩
              | some n =>
                have hn2 : n < 256 := by
                  rw [hy] at hh
                  cases h1 : Lx.hexv a with
                  | none => simp [h1] at hh
                  | some x =>
                    cases h2 : Lx.hexv b with
                    | none => simp [h1, h2] at hh
                    | some y =>
                      have := Lx.hexv_lt h1
                      have := Lx.hexv_lt h2
                      simp [h1, h2] at hh
                      omega
                have e : Hid (escV (120 :: a :: b :: r) = (n, 3)) := Lib.hid (by
                  rw [hy] at hh
                  cases h1 : Lx.hexv a <;> cases h2 : Lx.hexv b <;> simp [h1, h2] at hh <;> simp [escV, Lx.esc, h1, h2, hh])
                rw [hy] at hex
                have HE := Lib.hid hex
                clear hsz hl hlt hp hn hc0 h34 h92 h110 hx hex hh hy
                go_enter Tryd.func59, Tryd.ntmps59
                go_wp2_with fail
                refine HE.out.mono ?_
                rintro e w2 ⟨rfl, hm2⟩
                go_wp2_with fail
                go_ret2
                rw [e.out]
                exact ⟨rfl, hm2⟩
          · have e : Hid (escV (c :: r) = (0, 0)) := Lib.hid (by simp [escV, Lx.esc, h34, h92, h110, h120])
            obtain ⟨a34, b34, d34⟩ := hn 34 h34
            obtain ⟨a92, b92, d92⟩ := hn 92 h92
            obtain ⟨a110, b110, d110⟩ := hn 110 h110
            obtain ⟨a120, b120, d120⟩ := hn 120 h120
            clear hsz hl hlt hp hn hc0 h34 h92 h110 h120
            go_enter Tryd.func59, Tryd.ntmps59
            go_wp2_with fail
            all_goals first
              | (go_ret2; rw [e.out]; exact ⟨rfl, Mod.refl _ _⟩)
              | (exfalso; have hh : ((s[0].toNat : Int) == 34) = true ∨ ((s[0].toNat : Int) == 92) = true := by assumption
                 rcases hh with hh | hh
                 · exact absurd (hh.symm.trans b34) (by decide)
                 · exact absurd (hh.symm.trans b92) (by decide))
end Go.Proofs.YtobimhmllkfmfaaDoor
