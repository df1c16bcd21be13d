/- THE LAWS' HELPERS: the place behind a text; is a text bare of words? -/
import Derived.Test.YtobimhmllkfmfaaDoorLawTok
import Derived.Test.YtobimhmllkfmfaaDoorLxAlone
namespace Go.Proofs.YtobimhmllkfmfaaDoor
open Go.RowKit
set_option linter.unusedVariables false
set_option linter.unusedSimpArgs false
set_option maxRecDepth 100000

def posV (p : Nat × Nat) : Array Value := #[.int .i64 (p.1 : Nat), .int .i64 (p.2 : Nat)]
theorem store2 {w : World} {b : Nat} {a0 a1 : Value} {T : TypeId} {fr : Nat × Nat} (h : w.heap[b]? = some (.cells #[a0, a1] T fr)) (v0 v1 : Value) :
    ((w.setCell ⟨b, 0, none⟩ v0).setCell ⟨b, 1, none⟩ v1).heap[b]? = some (.cells #[v0, v1] T fr) := by
  have h1 := setCell_at h 0 v0
  generalize w.setCell ⟨b, 0, none⟩ v0 = w1 at *
  have h2 := setCell_at h1 1 v1
  rw [h2]; simp

set_option maxHeartbeats 1000000 in
theorem behind_any (p : Nat × Nat) (s : ByteArray) (hs : s.size ≤ 140737488355328) (h1 : p.1 ≤ 140737488355328) (h2 : p.2 ≤ 140737488355328) (w : World) :
    Calls Tryd.prog 20 #[.agg (posV p), .string s] w fun e w' => e = .returned (.agg (posV (Lx.adv p (Cod.str s)))) ∧ Mod [] w w' := by
  unfold posV
  go_enter Tryd.func20, Tryd.ntmps20
  go_wp2_with fail
  go_loopw [5] (fun i wr => ∃ (k : Nat), k ≤ s.size ∧ i = .int .i64 (k : Int) ∧ wr.heap[w.heap.size]? = some (.cells (posV (Lx.adv p ((Cod.str s).take k))) 26 (0, 0)) ∧ wr.heap[w.heap.size + 1]? = some (.cells #[.int .i64 0, .int .i64 0] 26 (0, 0)) ∧ Mod [] w wr) (fun i _ => s.size - (intOf i).toNat)
  case atStart =>
    refine ⟨0, Nat.zero_le _, rfl, ?_, ?_, ((Mod.refl [] w).alloc _).alloc _⟩
    · exact two_at w _ _
    · exact alloc_at _ (by simp)
  case round =>
    obtain ⟨k, hk, rfl, hB, hR, hmr⟩ := hrel
    have hla := Lx.adv_le p ((Cod.str s).take k)
    rw [List.length_take, Cod.str_len] at hla
    have hl1 : (Lx.adv p ((Cod.str s).take k)).1 ≤ 500000000000000 := by omega
    have hl2 : (Lx.adv p ((Cod.str s).take k)).2 ≤ 500000000000000 := by omega
    clear hla
    by_cases hlt : k < s.size
    · have hsn : Lx.adv p ((Cod.str s).take (k + 1)) = if (Cod.str s).getD k 0 = 10 then ((Lx.adv p ((Cod.str s).take k)).1 + 1, 1) else ((Lx.adv p ((Cod.str s).take k)).1, (Lx.adv p ((Cod.str s).take k)).2 + 1) := by
        rw [take_snoc _ 0 _ (by rw [Cod.str_len]; omega), Lx.adv_append]
        rfl
      have hkI : (k : Int) < (s.size : Int) := by omega
      have hk0 : (0 : Int) ≤ (k : Int) := by omega
      have hy0 : s[k].toNat = (Cod.str s).getD k 0 := (Lx.get_str s k hlt).symm
      generalize Lx.adv p ((Cod.str s).take k) = q at *
      obtain ⟨q1, q2⟩ := q
      generalize (Cod.str s).getD k 0 = y at *
      simp only [posV] at hB hsn hl1 hl2
      have c0 : wr.cell? ⟨w.heap.size, 0, none⟩ = some (.int .i64 (q1 : Nat)) := by simp [World.cell?, hB]
      have c1 : wr.cell? ⟨w.heap.size, 1, none⟩ = some (.int .i64 (q2 : Nat)) := by simp [World.cell?, hB]
      have fz : ∀ j, wr.frozen? ⟨w.heap.size, j, none⟩ = false := fun j => by simp [World.frozen?, hB]
      by_cases hy : y = 10
      · have hyb : ((s[k].toNat : Int) == 10) = true := by rw [beq_iff_eq]; omega
        rw [if_pos hy] at hsn
        have HS := Lib.hid hsn; have HB := Lib.hid hB; have HR := Lib.hid hR
        clear hsn hB hR hy hy0
        go_wp2_with fail
        go_roundw
        case rel =>
          refine ⟨k + 1, by omega, by go_num, ?_, ?_, ?_⟩
          · rw [HS.out, setCell_at (setCell_at (setCell_at HB.out 1 _) 0 _) 1 _]
            simp [posV]
          · refine Mod.at (S := [w.heap.size]) (a := wr) ?_ HR.out (by simp)
            exact (((Mod.refl [w.heap.size] wr).setCell (p := ⟨w.heap.size, 1, none⟩) (by simp) _).setCell (p := ⟨w.heap.size, 0, none⟩) (by simp) _).setCell (p := ⟨w.heap.size, 1, none⟩) (by simp) _
          · exact ((hmr.setCell (p := ⟨w.heap.size, 1, none⟩) (.inr (Nat.le_refl _)) _).setCell (p := ⟨w.heap.size, 0, none⟩) (.inr (Nat.le_refl _)) _).setCell (p := ⟨w.heap.size, 1, none⟩) (.inr (Nat.le_refl _)) _
        case measure => simp [intOf]; omega
      · have hyb : ((s[k].toNat : Int) == 10) = false := by rw [beq_eq_false_iff_ne]; omega
        rw [if_neg hy] at hsn
        have HS := Lib.hid hsn; have HB := Lib.hid hB; have HR := Lib.hid hR
        clear hsn hB hR hy hy0
        go_wp2_with fail
        go_roundw
        case rel =>
          refine ⟨k + 1, by omega, by go_num, ?_, ?_, ?_⟩
          · rw [HS.out, setCell_at HB.out 1 _]
            simp [posV]
          · refine Mod.at (S := [w.heap.size]) (a := wr) ?_ HR.out (by simp)
            exact ((Mod.refl [w.heap.size] wr).setCell (p := ⟨w.heap.size, 1, none⟩) (by simp) _)
          · exact (hmr.setCell (p := ⟨w.heap.size, 1, none⟩) (.inr (Nat.le_refl _)) _)
        case measure => simp [intOf]; omega
    · obtain rfl : k = s.size := by omega
      rw [List.take_of_length_le (by rw [Cod.str_len]; omega)] at hB
      have hkI : ¬ (s.size : Int) < (s.size : Int) := by omega
      generalize hQ : Lx.adv p (Cod.str s) = q at *
      obtain ⟨q1, q2⟩ := q
      simp only [posV] at hB
      have c0 : wr.cell? ⟨w.heap.size, 0, none⟩ = some (.int .i64 (q1 : Nat)) := by simp [World.cell?, hB]
      have c1 : wr.cell? ⟨w.heap.size, 1, none⟩ = some (.int .i64 (q2 : Nat)) := by simp [World.cell?, hB]
      have fz : ∀ j, wr.frozen? ⟨w.heap.size + 1, j, none⟩ = false := fun j => by simp [World.frozen?, hR]
      have d0 : wr.cell? ⟨w.heap.size + 1, 0, none⟩ = some (.int .i64 0) := by simp [World.cell?, hR]
      have d1 : wr.cell? ⟨w.heap.size + 1, 1, none⟩ = some (.int .i64 0) := by simp [World.cell?, hR]
      have HR := Lib.hid hR; have HQ := Lib.hid hQ
      clear hB hR hQ hl1 hl2
      go_wp2_with fail
      refine bodyPost_ret (results_cell_row rfl _ _ _ _ (posV (q1, q2)) _ _ rfl (store2 HR.out _ _) Tryd.underlying26 rfl (by kernel_rfl)) rfl ⟨by rw [HQ.out]; rfl, ?_⟩
      exact (hmr.setCell (p := ⟨w.heap.size + 1, 0, none⟩) (.inr (Nat.le_succ _)) _).setCell (p := ⟨w.heap.size + 1, 1, none⟩) (.inr (Nat.le_succ _)) _

theorem bare_cons (r : Bool) (c : Nat) (t : List Nat) : Lx.bare r (c :: t) = if c = 10 then Lx.bare false t else if c = 35 then Lx.bare true t else if !r && (c != 32 && (c != 9 && c != 13)) then false else Lx.bare r t := rfl

set_option maxHeartbeats 1000000 in
theorem empty_any (s : ByteArray) (hs : s.size ≤ 140737488355328) (w : World) :
    Calls Tryd.prog 21 #[.string s] w fun e w' => e = .returned (.bool (Lx.bare false (Cod.str s))) ∧ w' = w := by
  go_enter Tryd.func21, Tryd.ntmps21
  go_wp2_with fail
  go_loopw [3, 4] (fun rv i wr => ∃ (k : Nat) (r : Bool), k ≤ s.size ∧ rv = .bool r ∧ i = .int .i64 (k : Int) ∧ wr = w ∧ Lx.bare false (Cod.str s) = Lx.bare r ((Cod.str s).drop k)) (fun _ i _ => s.size - (intOf i).toNat)
  case atStart => exact ⟨0, false, Nat.zero_le _, rfl, rfl, rfl, rfl⟩
  case round =>
    obtain ⟨k, r, hk, rfl, rfl, rfl, hb⟩ := hrel
    by_cases hlt : k < s.size
    · have hkI : (k : Int) < (s.size : Int) := by omega
      have hk0 : (0 : Int) ≤ (k : Int) := by omega
      have hdr : (Cod.str s).drop k = s[k].toNat :: (Cod.str s).drop (k + 1) := by
        have hlt' : k < (Cod.str s).length := by rw [Cod.str_len]; omega
        rw [List.drop_eq_getElem_cons hlt']
        congr 1
        have := Lx.get_str s k hlt
        rw [← this, List.getD_eq_getElem?_getD, List.getElem?_eq_getElem hlt']; rfl
      rw [hdr, bare_cons] at hb
      clear hdr
      generalize hc : s[k].toNat = c at *
      by_cases c10 : c = 10
      · have e1 : ((c : Int) == 10) = true := by rw [beq_iff_eq]; omega
        rw [if_pos c10] at hb
        have HB := Lib.hid hb
        clear hb c10
        go_wp2_with fail
        go_roundw
        case rel => exact ⟨k + 1, false, by omega, rfl, by go_num, by trivial, HB.out⟩
        case measure => simp [intOf]; omega
      · have e1 : ((c : Int) == 10) = false := by rw [beq_eq_false_iff_ne]; omega
        rw [if_neg c10] at hb
        by_cases c35 : c = 35
        · have e2 : ((c : Int) == 35) = true := by rw [beq_iff_eq]; omega
          rw [if_pos c35] at hb
          have HB := Lib.hid hb
          clear hb c10 c35
          go_wp2_with fail
          go_roundw
          case rel => exact ⟨k + 1, true, by omega, rfl, by go_num, by trivial, HB.out⟩
          case measure => simp [intOf]; omega
        · have e2 : ((c : Int) == 35) = false := by rw [beq_eq_false_iff_ne]; omega
          rw [if_neg c35] at hb
          cases r with
          | true =>
            simp only [Bool.not_true, Bool.false_and, Bool.false_eq_true, if_false] at hb
            have HB := Lib.hid hb
            clear hb c10 c35
            go_wp2_with fail
            go_roundw
            case rel => exact ⟨k + 1, true, by omega, rfl, by go_num, by trivial, HB.out⟩
            case measure => simp [intOf]; omega
          | false =>
            have n1 : ((c : Int) != 32) = (c != 32) := by rw [Bool.eq_iff_iff]; simp; omega
            have n2 : ((c : Int) != 9) = (c != 9) := by rw [Bool.eq_iff_iff]; simp; omega
            have n3 : ((c : Int) != 13) = (c != 13) := by rw [Bool.eq_iff_iff]; simp; omega
            generalize (c != 32) = x1 at *
            generalize (c != 9) = x2 at *
            generalize (c != 13) = x3 at *
            cases x1 <;> cases x2 <;> cases x3 <;> simp only [Bool.not_false, Bool.true_and, Bool.false_and, Bool.and_false, Bool.and_true, Bool.and_self, Bool.false_eq_true, if_false, if_true] at hb
            all_goals (
              have HB := Lib.hid hb
              clear hb c10 c35
              go_wp2_with fail
              first
                | (go_ret; exact ⟨by rw [HB.out]; rfl, rfl⟩)
                | (go_roundw
                   case rel => exact ⟨k + 1, false, by omega, rfl, by go_num, by trivial, HB.out⟩
                   case measure => simp [intOf]; omega))
    · obtain rfl : k = s.size := by omega
      have hkI : ¬ (s.size : Int) < (s.size : Int) := by omega
      rw [List.drop_eq_nil_of_le (by rw [Cod.str_len]; omega)] at hb
      have HB := Lib.hid hb
      clear hb
      go_wp2_with fail
      go_ret
      exact ⟨by rw [HB.out]; rfl, rfl⟩
end Go.Proofs.YtobimhmllkfmfaaDoor
