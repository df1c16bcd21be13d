/- TWO HEX DIGITS: strconv.ParseUint at them. -/
import Derived.Test.YtcalbbfkgdfidaaDoorVaBase
import Derived.Test.YtcalbbfkgdfidaaDoorShelf
namespace Go.Proofs.YtcalbbfkgdfidaaDoor
open Go.RowKit
set_option linter.unusedVariables false
set_option linter.unusedSimpArgs false
set_option maxRecDepth 100000

def lowF (c : Nat) : Nat := c ||| 32
theorem lower_any (c : Nat) (hc : c < 256) (w : World) :
    Calls Tryd.prog 79 #[.int .u8 (c : Int)] w fun e w' => e = .returned (.int .u8 (lowF c : Nat)) ∧ w = w' := by
  refine (Tryd.internal_strconv_lower (c : Int) w).mono ?_
  rintro e w' ⟨rfl, rfl⟩
  refine ⟨ret_int ?_, rfl⟩
  have : ∀ c : Fin 256, bits BinOp.or IntKind.u8 (c.1 : Int) 32 = (lowF c.1 : Nat) := by decide +kernel
  exact this ⟨c, hc⟩
theorem lowF_lt (c : Nat) (hc : c < 256) : lowF c < 256 := by
  have : ∀ c : Fin 256, lowF c.1 < 256 := by decide +kernel
  exact this ⟨c, hc⟩
theorem hex_cases (c : Nat) (hc : c < 256) : (48 ≤ c ∧ c ≤ 57 ∧ Lx.hexv c = some (c - 48)) ∨ (¬ (48 ≤ c ∧ c ≤ 57) ∧ 97 ≤ lowF c ∧ lowF c ≤ 102 ∧ Lx.hexv c = some (lowF c - 87)) ∨
    (¬ (48 ≤ c ∧ c ≤ 57) ∧ lowF c < 97 ∧ Lx.hexv c = none) ∨ (¬ (48 ≤ c ∧ c ≤ 57) ∧ 103 ≤ lowF c ∧ Lx.hexv c = none) := by
  have : ∀ c : Fin 256, (48 ≤ c.1 ∧ c.1 ≤ 57 ∧ Lx.hexv c.1 = some (c.1 - 48)) ∨ (¬ (48 ≤ c.1 ∧ c.1 ≤ 57) ∧ 97 ≤ lowF c.1 ∧ lowF c.1 ≤ 102 ∧ Lx.hexv c.1 = some (lowF c.1 - 87)) ∨
    (¬ (48 ≤ c.1 ∧ c.1 ≤ 57) ∧ lowF c.1 < 97 ∧ Lx.hexv c.1 = none) ∨ (¬ (48 ≤ c.1 ∧ c.1 ≤ 57) ∧ 103 ≤ lowF c.1 ∧ Lx.hexv c.1 = none) := by decide +kernel
  exact this ⟨c, hc⟩

def hexL (l : List Nat) : Option Nat := l.foldl (fun o c => match o, Lx.hexv c with | some n, some d => some (16 * n + d) | _, _ => none) (some 0)
def hexR : Option Nat → Value
  | some n => .tuple #[.int .u64 (n : Nat), .nilIface]
  | none => .tuple #[.int .u64 0, .iface 108 (.int .i64 2)]

theorem hexL_step (l : List Nat) (c : Nat) : hexL (l ++ [c]) = match hexL l, Lx.hexv c with | some n, some d => some (16 * n + d) | _, _ => none := by
  unfold hexL; rw [List.foldl_append]; rfl
theorem hexL_none (l : List Nat) (k : Nat) (h : ∀ n, hexL (l.take k) ≠ some n) : hexL l = none := by
  have key : ∀ (r a : List Nat), hexL a = none → hexL (a ++ r) = none := by
    intro r
    induction r with
    | nil => intro a h; simpa using h
    | cons c r ih =>
      intro a h
      have := ih (a ++ [c]) (by rw [hexL_step, h])
      simpa using this
  have h0 : hexL (l.take k) = none := by
    cases hx : hexL (l.take k) with
    | none => rfl
    | some n => exact absurd hx (h n)
  have := key (l.drop k) _ h0
  rwa [List.take_append_drop] at this
theorem getD_lt' {l : List Nat} (h : ∀ c ∈ l, c < 256) (i : Nat) : l.getD i 0 < 256 := by
  rcases Nat.lt_or_ge i l.length with hi | hi
  · rw [List.getD_eq_getElem?_getD, List.getElem?_eq_getElem hi]
    exact h _ (List.getElem_mem hi)
  · rw [List.getD_eq_getElem?_getD, List.getElem?_eq_none hi]
    decide
theorem bytes_read (w : World) (s : ByteArray) (cap : Nat) (fr : Nat × Nat) (k : Nat) (hk : k < s.size) :
    ((w.alloc (.cells (bytesRow s cap) 5 fr)).drew).cell? ⟨w.heap.size, k, none⟩ = some (.int .u8 ((Cod.str s).getD k 0 : Nat)) := by
  show (w.alloc (Obj.cells _ _ _)).cell? _ = _
  rw [World.cell?_alloc_mark, bytesRow_at _ _ k hk, Lx.get_str _ _ hk]
  rfl

set_option maxHeartbeats 2000000 in
theorem parse_inner (t : ByteArray) (ht : t.size = 2) (w : World) :
    Calls Tryd.prog 71 #[.string t, .int .i64 16, .int .i64 8] w fun e w' => e = .returned (hexR (hexL (Cod.str t))) ∧ Mod [] w w' := by
  have hcv := fun w s => run_bytes_of_string (P := Tryd.prog) w 9 51 5 s Tryd.underlying9 Tryd.underlying51 Tryd.underlying5
  have hem : t.toList.isEmpty = false := by rw [toList_isEmpty, ht]; rfl
  have hsz := Lib.hid ht
  have ht1 : t.size ≤ 2 := by omega
  have ht2 : 2 ≤ t.size := by omega
  clear ht
  go_enter Tryd.func71, Tryd.ntmps71
  go_wp2_with fail
  have hbyte : Hid (∀ k, k < t.size → ((w.alloc (Obj.cells (bytesRow t (grownCap w t.size 0 5)) 5 ((bytesRow t (grownCap w t.size 0 5)).size, (bytesRow t (grownCap w t.size 0 5)).size + 1))).drew).cell? ⟨w.heap.size, k, none⟩ = some (.int .u8 ((Cod.str t).getD k 0 : Nat))) := Lib.hid (fun k hk => bytes_read w t _ _ k hk)
  have hm0 : Mod [] w ((w.alloc (Obj.cells (bytesRow t (grownCap w t.size 0 5)) 5 ((bytesRow t (grownCap w t.size 0 5)).size, (bytesRow t (grownCap w t.size 0 5)).size + 1))).drew) := ((Mod.refl [] w).alloc _).drew
  have hlt := Cod.str_lt t
  have hll := Cod.str_len t
  generalize hw2 : ((w.alloc (Obj.cells (bytesRow t (grownCap w t.size 0 5)) 5 ((bytesRow t (grownCap w t.size 0 5)).size, (bytesRow t (grownCap w t.size 0 5)).size + 1))).drew) = w2 at *
  generalize grownCap w t.size 0 5 = cap at *
  have HLL := Lib.hid hll
  clear hcv hw2 hll
  obtain ⟨C, hC, hCe⟩ : ∃ C : Int, 1000 ≤ C ∧ C = 1152921504606846976 := ⟨_, by decide, rfl⟩
  rw [← hCe]
  clear hCe
  go_loopw [12, 13, 101] (fun u a i wr => ∃ (k n : Nat), u = .bool false ∧ k ≤ t.size ∧ i = .int .i64 (k : Int) ∧ a = .int .u64 (n : Int) ∧ hexL ((Cod.str t).take k) = some n ∧ n < 16 ^ k ∧ wr = w2) (fun _ _ i _ => 2 - (intOf i).toNat)
  case atStart => exact ⟨0, 0, rfl, Nat.zero_le _, rfl, rfl, rfl, by decide, rfl⟩
  case round =>
    obtain ⟨k, n, rfl, hk, rfl, rfl, hx, hn, rfl⟩ := hrel
    by_cases hlk : k < t.size
    · have hn1 : n ≤ 15 := by
        have : 16 ^ k ≤ 16 ^ 1 := Nat.pow_le_pow_right (by decide) (by omega)
        omega
      have hb := hbyte.out k hlk
      have hc := getD_lt' hlt k
      have hsn := take_snoc (Cod.str t) 0 k (by rw [HLL.out]; omega)
      have hxs : hexL ((Cod.str t).take (k + 1)) = match Lx.hexv ((Cod.str t).getD k 0) with | some d => some (16 * n + d) | none => none := by
        rw [hsn, hexL_step, hx]; cases Lx.hexv ((Cod.str t).getD k 0) <;> rfl
      have hall : (∀ n, hexL ((Cod.str t).take (k + 1)) ≠ some n) → hexL (Cod.str t) = none := fun h => hexL_none (Cod.str t) (k + 1) h
      generalize (Cod.str t).getD k 0 = c at *
      have h95 : ((c : Int) == 95) = decide (c = 95) := by rw [Bool.eq_iff_iff]; simp; omega
      rcases hex_cases c hc with ⟨h1, h2, hv⟩ | ⟨h1, h2, h3, hv⟩ | ⟨h1, h2, hv⟩ | ⟨h1, h2, hv⟩
      · rw [hv] at hxs
        have h95 : ((c : Int) == 95) = false := by rw [beq_eq_false_iff_ne]; omega
        have HX := Lib.hid hxs; have HN := Lib.hid hn
        clear hxs hsn hall hv hx hn hlt hem
        go_wp2_with fail
        go_roundw
        case rel =>
          refine ⟨k + 1, 16 * n + (c - 48), rfl, by omega, by go_num, ?_, HX.out, ?_, trivial⟩
          · congr 1; omega
          · have := HN.out; rw [Nat.pow_succ]; omega
        case measure => simp [intOf]; omega
      · rw [hv] at hxs
        have h95 : ¬ c = 95 := by
          intro h
          subst h
          revert hv; decide
        have hl := lowF_lt c hc
        have hd1 : ¬ ((48 : Int) ≤ (c : Int) ∧ (c : Int) ≤ 57) := by omega
        have hL : Hid (∀ w, Calls Tryd.prog 79 #[.int .u8 (c : Int)] w fun e w' => e = .returned (.int .u8 (lowF c : Nat)) ∧ w = w') := Lib.hid (lower_any c hc)
        generalize lowF c = u at *
        have HX := Lib.hid hxs; have HN := Lib.hid hn
        clear hxs hsn hall hv hx hn hlt hem
        have hcs : (c : Int) < 48 ∨ (57 < (c : Int) ∧ 48 ≤ (c : Int)) := by omega
        clear hd1 h1
        rcases hcs with hd1 | ⟨hd1, hd2⟩
        all_goals
          go_wp2_with fail
          refine (hL.out _).mono ?_
          rintro e w3 ⟨rfl, rfl⟩
          go_wp2_with fail
          refine (hL.out _).mono ?_
          rintro e w3 ⟨rfl, rfl⟩
          go_wp2_with fail
          refine (hL.out _).mono ?_
          rintro e w3 ⟨rfl, rfl⟩
          go_wp2_with fail
          go_roundw
          case rel =>
            refine ⟨k + 1, 16 * n + (u - 87), rfl, by omega, by go_num, ?_, HX.out, ?_, trivial⟩
            · congr 1; omega
            · have := HN.out; rw [Nat.pow_succ]; omega
          case measure => simp [intOf]; omega
      · rw [hv] at hxs
        have hR := Lib.hid (hall (by rw [hxs]; simp))
        have hl := lowF_lt c hc
        have hd1 : ¬ ((48 : Int) ≤ (c : Int) ∧ (c : Int) ≤ 57) := by omega
        have hL : Hid (∀ w, Calls Tryd.prog 79 #[.int .u8 (c : Int)] w fun e w' => e = .returned (.int .u8 (lowF c : Nat)) ∧ w = w') := Lib.hid (lower_any c hc)
        generalize lowF c = u at *
        clear hxs hsn hall hv hx hn hlt hem
        have hcs : (c : Int) < 48 ∨ (57 < (c : Int) ∧ 48 ≤ (c : Int)) := by omega
        clear hd1 h1
        have hb' := Lib.hid hb
        by_cases h95 : c = 95
        · subst h95
          clear hcs
          go_wp2_with fail
          refine (hL.out _).mono ?_
          rintro e w3 ⟨rfl, rfl⟩
          go_wp2_with fail
          go_ret2
          exact ⟨by rw [hR.out]; rfl, hm0⟩
        · rcases hcs with hd1 | ⟨hd1, hd2⟩
          all_goals
            go_wp2_with fail
            refine (hL.out _).mono ?_
            rintro e w3 ⟨rfl, rfl⟩
            go_wp2_with fail
            go_ret2
            exact ⟨by rw [hR.out]; rfl, hm0⟩
      · rw [hv] at hxs
        have hR := Lib.hid (hall (by rw [hxs]; simp))
        have hl := lowF_lt c hc
        have hd1 : ¬ ((48 : Int) ≤ (c : Int) ∧ (c : Int) ≤ 57) := by omega
        have hL : Hid (∀ w, Calls Tryd.prog 79 #[.int .u8 (c : Int)] w fun e w' => e = .returned (.int .u8 (lowF c : Nat)) ∧ w = w') := Lib.hid (lower_any c hc)
        generalize lowF c = u at *
        clear hxs hsn hall hv hx hn hlt hem
        have hcs : (c : Int) < 48 ∨ (57 < (c : Int) ∧ 48 ≤ (c : Int)) := by omega
        clear hd1 h1
        have hb' := Lib.hid hb
        rcases Nat.lt_or_ge 122 u with hu | hu
        · by_cases h95 : c = 95
          · subst h95
            clear hcs
            go_wp2_with fail
            refine (hL.out _).mono ?_
            rintro e w3 ⟨rfl, rfl⟩
            go_wp2_with fail
            refine (hL.out _).mono ?_
            rintro e w3 ⟨rfl, rfl⟩
            go_wp2_with fail
            go_ret2
            exact ⟨by rw [hR.out]; rfl, hm0⟩
          · rcases hcs with hd1 | ⟨hd1, hd2⟩
            all_goals
              go_wp2_with fail
              refine (hL.out _).mono ?_
              rintro e w3 ⟨rfl, rfl⟩
              go_wp2_with fail
              refine (hL.out _).mono ?_
              rintro e w3 ⟨rfl, rfl⟩
              go_wp2_with fail
              go_ret2
              exact ⟨by rw [hR.out]; rfl, hm0⟩
        · by_cases h95 : c = 95
          · subst h95
            clear hcs
            go_wp2_with fail
            refine (hL.out _).mono ?_
            rintro e w3 ⟨rfl, rfl⟩
            go_wp2_with fail
            refine (hL.out _).mono ?_
            rintro e w3 ⟨rfl, rfl⟩
            go_wp2_with fail
            refine (hL.out _).mono ?_
            rintro e w3 ⟨rfl, rfl⟩
            go_wp2_with fail
            go_ret2
            exact ⟨by rw [hR.out]; rfl, hm0⟩
          · rcases hcs with hd1 | ⟨hd1, hd2⟩
            all_goals
              go_wp2_with fail
              refine (hL.out _).mono ?_
              rintro e w3 ⟨rfl, rfl⟩
              go_wp2_with fail
              refine (hL.out _).mono ?_
              rintro e w3 ⟨rfl, rfl⟩
              go_wp2_with fail
              refine (hL.out _).mono ?_
              rintro e w3 ⟨rfl, rfl⟩
              go_wp2_with fail
              go_ret2
              exact ⟨by rw [hR.out]; rfl, hm0⟩
    · have e : (Cod.str t).take k = Cod.str t := by rw [List.take_of_length_le]; rw [HLL.out]; omega
      rw [e] at hx
      have HX := Lib.hid hx
      clear hx hn hlt hem
      go_wp2_with fail
      go_ret2
      exact ⟨by rw [HX.out]; rfl, hm0⟩
end Go.Proofs.YtcalbbfkgdfidaaDoor
