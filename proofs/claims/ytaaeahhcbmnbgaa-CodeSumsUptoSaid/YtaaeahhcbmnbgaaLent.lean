/- WHAT THE STATEMENTS OF LAYER 1 LEND: lent, still. -/
import Derived.Test.YtaaeahhcbmnbgaaLawCode
import Derived.Laws.CopyOwn
namespace Go.Proofs.Ytaaeahhcbmnbgaa
open Go.RowKit
set_option linter.unusedVariables false
set_option maxRecDepth 100000

/-- a slice of the call's own at the head of block g: the bytes l -/
structure RowIs (w : World) (g cap : Nat) (l : List Nat) : Prop where
  row : w.ownsRow 0 5 1 (.slice (some ⟨g, 0, none⟩) l.length cap) l.length (toCells l)
  byte : ∀ c ∈ l, c < 256
  len : l.length ≤ 140737488355328

theorem RowIs.lt {w : World} {g cap : Nat} {l : List Nat} (h : RowIs w g cap l) : g < w.heap.size := fp_lt h.row g (by simp [fp])
theorem RowIs.keep {S : List Nat} {w w' : World} {g cap : Nat} {l : List Nat} (h : RowIs w g cap l) (hm : Mod S w w') (hg : g ∉ S) : RowIs w' g cap l :=
  ⟨hm.owns h.row (by simpa [fp] using hg), h.byte, h.len⟩
theorem RowIs.past {S : List Nat} {w w' : World} {g cap : Nat} {l : List Nat} (h : RowIs w g cap l) (hm : Mod S w w') (hS : ∀ t ∈ S, w.heap.size ≤ t) : RowIs w' g cap l :=
  h.keep hm (fun hg => by have := hS g hg; have := h.lt; omega)
theorem RowIs.cap {w : World} {g cap : Nat} {l : List Nat} (h : RowIs w g cap l) : l.length ≤ cap ∧ cap ≤ maxLen := by
  rcases h.row.2 with ⟨hv, _⟩ | ⟨g', cap', cur, hv, _, _, h1, h2, _⟩
  · cases hv
  · cases hv; exact ⟨h1, h2⟩
theorem RowIs.cell {w : World} {g cap : Nat} {l : List Nat} (h : RowIs w g cap l) {i : Nat} (hi : i < l.length) : w.cell? ⟨g, i, none⟩ = some (.int .u8 (l.getD i 0 : Nat)) := by
  rw [h.row.cellAt i (by omega), toCells_get _ _ hi]
theorem RowIs.free {w : World} {g cap : Nat} {l : List Nat} (h : RowIs w g cap l) (i : Nat) : w.frozen? ⟨g, i, none⟩ = false := h.row.frozenAt i
/-- one place is stored into -/
theorem RowIs.set {w : World} {g cap : Nat} {l : List Nat} (h : RowIs w g cap l) (i c : Nat) (hc : c < 256) : RowIs (w.setCell ⟨g, i, none⟩ (.int .u8 (c : Int))) g cap (l.set i c) := by
  have := (h.row.stored i (.int .u8 (c : Int))).1
  refine ⟨?_, ?_, by simpa using h.len⟩
  · have e : toCells (l.set i c) = (toCells l).set i (.int .u8 (c : Int)) := by simp [toCells, List.map_set]
    rw [e, List.length_set]
    exact this
  · intro x hx
    rcases List.mem_or_eq_of_mem_set hx with h' | rfl
    · exact h.byte x h'
    · exact hc
/-- its beginning, read -/
theorem RowIs.reads {w : World} {g cap : Nat} {l : List Nat} (h : RowIs w g cap l) (n c : Nat) (hn : n ≤ l.length) : Reads w (.slice (some ⟨g, 0, none⟩) n c) (l.take n) := by
  have hl : (l.take n).length = n := by simp; omega
  refine ⟨fun x hx => h.byte x (List.mem_of_mem_take hx), by have := h.len; omega, .inr ⟨g, 0, c, by rw [hl], fun i hi => ?_⟩⟩
  rw [hl] at hi
  rw [Nat.zero_add, h.cell (by omega)]
  congr 3
  rw [List.getD_eq_getElem?_getD, List.getD_eq_getElem?_getD, List.getElem?_take, if_pos hi]

theorem toList_made (n : Nat) : (madeCells #[Value.int .u8 0] n).toList = toCells (List.replicate n 0) := by
  rw [toList_madeCells_one]
  simp [toCells]

theorem rowIs_of_heap {w : World} {g : Nat} {l : List Nat} (h : w.heap[g]? = some (.cells (toCells l).toArray 5 (0, 0))) (hb : ∀ c ∈ l, c < 256) (hl : l.length ≤ 140737488355328) : RowIs w g l.length l :=
  ⟨⟨by rw [toCells_len, Nat.mul_one], .inr ⟨g, l.length, _, rfl, Nat.zero_le _, h, Nat.le_refl _, by unfold maxLen; omega, by simp [toCells], List.take_of_length_le (by rw [toCells_len]; omega)⟩⟩, hb, hl⟩

def fill8 (l : List Nat) (k : Nat) : List Nat := l ++ (List.replicate k 201 ++ List.replicate (8 - k) 0)
theorem fill8_len (l : List Nat) (k : Nat) (hk : k ≤ 8) : (fill8 l k).length = l.length + 8 := by simp [fill8]; omega
theorem fill8_set (l : List Nat) (k : Nat) (hk : k < 8) : (fill8 l k).set (l.length + k) 201 = fill8 l (k + 1) := by
  unfold fill8
  rw [List.set_append_right _ _ (by omega), show l.length + k - l.length = k by omega, List.set_append_right _ _ (by simp), List.length_replicate, Nat.sub_self,
    show 8 - k = (8 - (k + 1)) + 1 by omega, List.replicate_succ, List.set_cons_zero, List.replicate_succ', List.append_assoc]
  rfl

theorem lent_any (v : Value) (l : List Nat) (w : World) (h : Reads w v l) (hlen : l.length ≤ 1048576) :
    Calls Try.prog 9 #[v] w fun e w' => ∃ g cap, e = .returned (.slice (some ⟨g, 0, none⟩) (l.length + 8) cap) ∧ RowIs w' g cap (l ++ List.replicate 8 201) ∧ Mod [] w w' ∧ w.heap.size ≤ g := by
  obtain ⟨i0, hi, hz0, hz1, hz2⟩ := info_parts Try.infoU8
  have hsz1 : (Try.prog.info? 5).map (·.size) = some 1 := by kernel_rfl
  obtain ⟨a', c', rfl⟩ : ∃ a c, v = .slice a l.length c := by
    obtain ⟨-, -, ⟨x, c, rfl, rfl⟩ | ⟨b, off, cap, rfl, -⟩⟩ := h
    · exact ⟨_, _, rfl⟩
    · exact ⟨_, _, rfl⟩
  have ecast : Hid (((l.length : Int) + 8) = ((l.length + 8 : Nat) : Int)) := Lib.hid (by omega)
  go_enter Try.func9, Try.ntmps9
  go_wp2_with (at_make; refine wpList_make_full _ rfl _ _ 22 rfl 0 5 i0 (.int .u8 0) 1 Try.underlying22 hi hz0 hz1 .i64 .i64 _ _ (l.length + 8) rfl rfl (by omega) (by omega) (by rw [hz2]; omega) (by unfold maxLen; omega) (Nat.zero_le _) ?_)
  intro w1 hown hg1
  have hat1 : w1.heap[w.heap.size]? = some (.cells (toCells (List.replicate (l.length + 8) 0)).toArray 5 (0, 0)) := by
    rcases hown.2 with ⟨hv, _⟩ | ⟨g', cap', cur, hv, _, hat, _, _, hcs, htk⟩
    · cases hv
    · cases hv
      rw [hat]
      congr 2
      apply Array.ext'
      have e1 : cur.toList.length = (l.length + 8) * 1 := Array.length_toList.trans hcs
      rw [← e1, List.take_length] at htk
      rw [htk, ← toList_made]
  have hr1 := (h.past ((Mod.refl [] w).grown hg1 (by simp)) (by simp))
  have hbel : Below w.heap.size w w1 := (Below.refl _ _).grown hg1 (Nat.le_refl _) (by simp)
  clear hown hg1
  have hat1' := Lib.hid hat1
  clear hat1
  go_wp2_with (with_reducible refine wpList_copy_splice rfl _ _ _ _ rfl 5 Try.underlying22 hsz1 _ _ _ _ _ _ rfl rfl w.heap.size 0 (toCells (List.replicate (l.length + 8) 0)) 5 hat1'.out (toCells l) ?_ ?_ ?_ ?_ w.heap.size w hbel (Nat.le_refl _) ?_)
  · rw [toCells_len]; exact (Nat.min_eq_left (by omega)).symm
  · intro hp
    rw [toCells_len] at hp
    obtain ⟨-, -, ⟨x, c, hv, rfl⟩ | ⟨b, off, cap, hv, hc⟩⟩ := hr1
    · simp at hp
    · cases hv
      refine ⟨_, rfl, fun j u hu => ?_⟩
      have hj : j < l.length := by
        obtain ⟨h, _⟩ := List.getElem?_eq_some_iff.1 hu
        rwa [toCells_len] at h
      rw [toCells_get l j hj] at hu
      cases hu
      rw [addr_add]
      exact hc j hj
  · rw [toCells_len, toCells_len, List.length_replicate]; omega
  · exact toCells_one l
  intro w2 hat2 hbel2
  have hm2 : Mod [] w w2 := Mod.of_below hbel2
  have hrow : RowIs w2 w.heap.size (l.length + 8) (fill8 l 0) := by
    have e : splice (toCells (List.replicate (l.length + 8) 0)) 0 (toCells l) = toCells (fill8 l 0) := by
      unfold splice fill8
      rw [List.take_zero, List.nil_append, toCells_len, toCells_append]
      congr 1
      simp [toCells]
    have h2 := hat2.out
    rw [e] at h2
    have := rowIs_of_heap h2 (by
      intro x hx
      rcases List.mem_append.1 hx with hx | hx
      · exact h.1 x hx
      · simp at hx; omega) (by rw [fill8_len _ _ (by omega)]; omega)
    rwa [fill8_len _ _ (by omega)] at this
  clear hat2 hbel2 hbel hr1 hat1'
  go_wp2_with fail
  go_loopw [4] (fun i wr => ∃ k : Nat, k ≤ 8 ∧ i = .int .i64 ((l.length : Int) + k) ∧ RowIs wr w.heap.size (l.length + 8) (fill8 l k) ∧ Mod [] w wr) (fun i _ => l.length + 8 - (intOf i).toNat)
  case atStart => exact ⟨0, by omega, by simp, hrow, hm2⟩
  case round =>
    obtain ⟨k, hk, rfl, hrk, hmk⟩ := hrel
    clear hrow hm2
    by_cases hlt : k < 8
    · have hl8 := fill8_len l k hk
      have hset := fill8_set l k hlt
      have hcell := hrk.cell (i := l.length + k) (by omega)
      have hfree := hrk.free (l.length + k)
      have hst := hrk.set (l.length + k) 201 (by omega)
      rw [hset] at hst
      generalize (fill8 l k).getD (l.length + k) 0 = c at *
      have hl8' := Lib.hid hl8
      clear hset hl8
      go_wp2_with fail
      go_roundw
      case rel => exact ⟨k + 1, by omega, by congr 1, hst, hmk.setCell (.inr (Nat.le_refl _)) _⟩
      case measure => simp [intOf]; omega
    · obtain rfl : k = 8 := by omega
      have e : fill8 l 8 = l ++ List.replicate 8 201 := by simp [fill8]
      rw [e] at hrk
      clear e
      go_wp2_with fail
      go_ret
      exact ⟨_, _, rfl, hrk, hmk, Nat.le_refl _⟩

theorem Reads.keep {S : List Nat} {w w' : World} {v : Value} {l : List Nat} (h : Reads w v l) (hm : Mod S w w') (hS : ∀ k ∈ fp v, k ∉ S) : Reads w' v l := by
  obtain ⟨h1, h2, h3 | ⟨b, off, cap, rfl, hc⟩⟩ := h
  · exact ⟨h1, h2, .inl h3⟩
  · exact ⟨h1, h2, .inr ⟨b, off, cap, rfl, fun i hi => hm.cell (hc i hi) (hS b (by simp [fp]))⟩⟩

/-- LENT BYTES READ AS THEY DID; then they are written over -/
theorem still_any (g cap n c : Nat) (v : Value) (l : List Nat) (w : World) (hg : RowIs w g cap (l ++ List.replicate 8 201)) (h : Reads w v l) (hgv : 0 < l.length → g ∉ fp v) (hn : n = l.length + 8) (hlen : l.length ≤ 1048576) :
    Calls Try.prog 12 #[.slice (some ⟨g, 0, none⟩) n c, v] w fun e w' => e = .returned (.bool true) ∧ Mod [g] w w' := by
  obtain ⟨a', c', rfl⟩ : ∃ a c, v = .slice a l.length c := by
    obtain ⟨-, -, ⟨x, c, rfl, rfl⟩ | ⟨b, off, cap, rfl, -⟩⟩ := h
    · exact ⟨_, _, rfl⟩
    · exact ⟨_, _, rfl⟩
  have hnn := Lib.hid hn
  have hn1 : n ≤ l.length + 8 := by omega
  have hn2 : l.length + 8 ≤ n := by omega
  clear hn
  go_enter Try.func12, Try.ntmps12
  go_wp2_with fail
  go_loopw [5, 6] (fun ok i wr => ∃ k : Nat, k ≤ n ∧ i = .int .i64 (k : Int) ∧ ok = .bool true ∧
      (∀ j, k ≤ j → j < n → wr.cell? ⟨g, j, none⟩ = some (.int .u8 ((l ++ List.replicate 8 201).getD j 0 : Nat))) ∧ (∀ j, wr.frozen? ⟨g, j, none⟩ = false) ∧ Mod [g] w wr) (fun _ i _ => n - (intOf i).toNat)
  case atStart => exact ⟨0, by omega, rfl, rfl, fun j _ hj => hg.cell (by simp; omega), hg.free, Mod.refl _ _⟩
  case round =>
    obtain ⟨k, hk, rfl, rfl, hcs, hfs, hmk⟩ := hrel
    by_cases hlt : k < n
    · have hcell := hcs k (Nat.le_refl _) hlt
      have hfree := hfs k
      have hcs' := Lib.hid hcs
      have hfs' := Lib.hid hfs
      clear hcs hfs
      by_cases hkl : k < l.length
      · have e1 : (l ++ List.replicate 8 201).getD k 0 = l.getD k 0 := by
          rw [List.getD_eq_getElem?_getD, List.getElem?_append_left hkl, List.getD_eq_getElem?_getD]
        rw [e1] at hcell
        clear e1
        have hrb := h.keep hmk (fun t ht => by simp; rintro rfl; exact hgv (by omega) ht)
        obtain ⟨b, off, rfl, hcb⟩ : ∃ b off, a' = some ⟨b, off, none⟩ ∧ wr.cell? ⟨b, off + k, none⟩ = some (.int .u8 (l.getD k 0 : Nat)) := by
          obtain ⟨-, -, ⟨x, c, hv, rfl⟩ | ⟨b, off, cap, hv, hc⟩⟩ := hrb
          · simp at hkl
          · cases hv; exact ⟨b, off, rfl, hc k hkl⟩
        have hb256 := getD_lt h.1 k
        generalize l.getD k 0 = y at *
        have d1 : decide ((k : Int) < (l.length : Int)) = true := decide_eq_true (by omega)
        have d2 : decide (k < l.length) = true := decide_eq_true (by omega)
        go_wp2_with fail
        go_quiet (fail)
        go_wp2_with fail
        go_roundw
        case rel =>
          refine ⟨k + 1, by omega, by go_num, rfl, fun j h1 h2 => ?_, fun j => ?_, ?_⟩
          · exact (World.cell?_setCell_other _ _ _ _ (by intro e; injection e; omega)).trans (hcs'.out j (by omega) h2)
          · exact (World.frozen?_setCell _ _ _ _).trans (hfs'.out j)
          · exact Mod.setCell (p := ⟨g, k, none⟩) (hmk.drewN _) (.inl List.mem_cons_self) _
        case measure => simp [intOf]; omega
      · have e1 : (l ++ List.replicate 8 201).getD k 0 = 201 := by
          rw [List.getD_eq_getElem?_getD, List.getElem?_append_right (by omega), List.getElem?_replicate, if_pos (by omega)]; rfl
        rw [e1] at hcell
        clear e1
        have d1 : decide ((k : Int) < (l.length : Int)) = false := decide_eq_false (by omega)
        have d2 : decide (k < l.length) = false := decide_eq_false (by omega)
        have d3 : decide ((l.length : Int) ≤ (k : Int)) = true := decide_eq_true (by omega)
        have d4 : decide (l.length ≤ k) = true := decide_eq_true (by omega)
        go_wp2_with fail
        go_quiet (fail)
        go_wp2_with fail
        go_roundw
        case rel =>
          refine ⟨k + 1, by omega, by go_num, rfl, fun j h1 h2 => ?_, fun j => ?_, ?_⟩
          · exact (World.cell?_setCell_other _ _ _ _ (by intro e; injection e; omega)).trans (hcs'.out j (by omega) h2)
          · exact (World.frozen?_setCell _ _ _ _).trans (hfs'.out j)
          · exact Mod.setCell (p := ⟨g, k, none⟩) (hmk.drewN _) (.inl List.mem_cons_self) _
        case measure => simp [intOf]; omega
    · obtain rfl : k = n := by omega
      clear hcs hfs
      go_wp2_with fail
      go_ret
      exact ⟨rfl, hmk⟩
end Go.Proofs.Ytaaeahhcbmnbgaa
