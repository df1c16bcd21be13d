/- THE SCANNER: going over bytes, over blanks and remarks. -/
import Derived.Test.YtobimhmllkfmfaaDoorLxFn
namespace Go.Proofs.YtobimhmllkfmfaaDoor
open Go.RowKit
set_option linter.unusedVariables false
set_option linter.unusedSimpArgs false
set_option maxRecDepth 100000

/-- the scanner's cells -/
def scCells (s : ByteArray) (x : Lx.St) : Array Value :=
  #[.string s, .int .i64 (x.pos.1 : Nat), .int .i64 (x.pos.2 : Nat), .int .i64 (x.fin.1 : Nat), .int .i64 (x.fin.2 : Nat), .int .i64 (x.code : Nat), .int .i64 (x.fp.1 : Nat), .int .i64 (x.fp.2 : Nat), .bool x.long]
structure ScIs (w : World) (b : Nat) (s : ByteArray) (x : Lx.St) : Prop where
  at_ : w.heap[b]? = some (.cells (scCells s x) 61 (0, 0))
  str : Cod.str s = x.s
  size : s.size ≤ 140737488355328
  lim : x.long = false → s.size ≤ 65536 ∧ x.pos.1 + 2 * s.size ≤ 200000 ∧ x.pos.2 + 2 * s.size ≤ 200000

theorem ScIs.cell {w : World} {b : Nat} {s : ByteArray} {x : Lx.St} (h : ScIs w b s x) (i : Nat) : w.cell? ⟨b, i, none⟩ = (scCells s x)[i]? := by
  simp [World.cell?, h.at_]
theorem ScIs.free {w : World} {b : Nat} {s : ByteArray} {x : Lx.St} (h : ScIs w b s x) (i : Nat) : w.frozen? ⟨b, i, none⟩ = false := by simp [World.frozen?, h.at_]
theorem ScIs.lt {w : World} {b : Nat} {s : ByteArray} {x : Lx.St} (h : ScIs w b s x) : b < w.heap.size := lt_of_block h.at_
theorem ScIs.keep {S : List Nat} {w w' : World} {b : Nat} {s : ByteArray} {x : Lx.St} (h : ScIs w b s x) (hm : Mod S w w') (hb : b ∉ S) : ScIs w' b s x :=
  ⟨hm.at h.at_ hb, h.str, h.size, h.lim⟩
theorem ScIs.past {S : List Nat} {w w' : World} {b : Nat} {s : ByteArray} {x : Lx.St} (h : ScIs w b s x) (hm : Mod S w w') (hS : ∀ t ∈ S, w.heap.size ≤ t) : ScIs w' b s x :=
  h.keep hm (fun hb => by have := hS b hb; have := h.lt; omega)

theorem take_snoc {α : Type} (l : List α) (d : α) (k : Nat) (h : k < l.length) : l.take (k + 1) = l.take k ++ [l.getD k d] := by
  rw [List.take_succ_eq_append_getElem h, List.getD_eq_getElem?_getD, List.getElem?_eq_getElem h]; rfl

theorem setCell_at {w : World} {b : Nat} {cs : Array Value} {T : TypeId} {fr : Nat × Nat} (h : w.heap[b]? = some (.cells cs T fr)) (i : Nat) (v : Value) :
    (w.setCell ⟨b, i, none⟩ v).heap[b]? = some (.cells (cs.setIfInBounds i v) T fr) := by
  simp [World.setCell, Array.getElem?_modify, h]

theorem pass_any (b : Nat) (s : ByteArray) (x : Lx.St) (n : Nat) (w : World) (h : ScIs w b s x) (hn : n ≤ s.size) (hl : x.long = false) :
    Calls Tryd.prog 37 #[.pointer (some ⟨b, 0, none⟩), .int .i64 (n : Int)] w fun e w' => e = .returned (.tuple #[]) ∧ ∃ s', ScIs w' b s' { x with s := x.s.drop n, pos := Lx.adv x.pos (x.s.take n) } ∧ Mod [b] w w' := by
  have c0 : w.cell? ⟨b, 0, none⟩ = some (.string s) := h.cell 0
  obtain ⟨hs, hl1, hl2⟩ := h.lim hl
  have hcv := fun w s => run_bytes_of_string (P := Tryd.prog) w 9 73 5 s Tryd.underlying9 Tryd.underlying73 Tryd.underlying5
  go_enter Tryd.func37, Tryd.ntmps37
  go_wp2_with fail
  have hb : b < w.heap.size := h.lt
  have hbyte : Hid (∀ k, k < n → ((w.alloc (Obj.cells (bytesRow (s.extract 0 n) (grownCap w n 0 5)) 5 ((bytesRow (s.extract 0 n) (grownCap w n 0 5)).size, (bytesRow (s.extract 0 n) (grownCap w n 0 5)).size + 1))).drew).cell? ⟨w.heap.size, k, none⟩ = some (.int .u8 (x.s.getD k 0 : Nat))) := Lib.hid (fun k hk => by
    show (w.alloc (Obj.cells _ _ _)).cell? _ = _
    rw [World.cell?_alloc_mark]
    have hk' : k < (s.extract 0 n).data.size := by
      have : (s.extract 0 n).data.size = (s.extract 0 n).size := rfl
      rw [this, ByteArray.size_extract]; omega
    rw [bytesRow_at _ _ k hk']
    have e1 : (Cod.str (s.extract 0 n)).getD k 0 = ((s.extract 0 n).data[k]).toNat := by
      rw [Lx.get_str _ _ hk']; rfl
    have e2 : (Cod.str (s.extract 0 n)).getD k 0 = x.s.getD k 0 := by
      rw [Lx.str_extract, h.str]
      simp [List.getD_eq_getElem?_getD, List.getElem?_take, hk]
    rw [← e1, e2])
  have hm0 : Mod [b] w ((w.alloc (Obj.cells (bytesRow (s.extract 0 n) (grownCap w n 0 5)) 5 ((bytesRow (s.extract 0 n) (grownCap w n 0 5)).size, (bytesRow (s.extract 0 n) (grownCap w n 0 5)).size + 1))).drew) := ((Mod.refl [b] w).alloc _).drew
  have hat0 := hm0.mono (T := [b]) (fun t ht => .inl ht)
  have hb0 : ((w.alloc (Obj.cells (bytesRow (s.extract 0 n) (grownCap w n 0 5)) 5 ((bytesRow (s.extract 0 n) (grownCap w n 0 5)).size, (bytesRow (s.extract 0 n) (grownCap w n 0 5)).size + 1))).drew).heap[b]? = some (.cells (scCells s x) 61 (0, 0)) := (((Mod.refl [] w).alloc _).drew).at h.at_ (by simp)
  have hstr := h.str
  have hxl : x.s.length = s.size := by rw [← hstr, Cod.str_len]
  generalize ((w.alloc (Obj.cells (bytesRow (s.extract 0 n) (grownCap w n 0 5)) 5 ((bytesRow (s.extract 0 n) (grownCap w n 0 5)).size, (bytesRow (s.extract 0 n) (grownCap w n 0 5)).size + 1))).drew) = w2 at *
  generalize grownCap w n 0 5 = cap at *
  have HX := Lib.hid hxl
  clear hcv hxl hat0
  go_loopw [14] (fun i wr => ∃ (k : Nat), k ≤ n ∧ i = .int .i64 (k : Int) ∧ wr.heap[b]? = some (.cells (scCells s { x with pos := Lx.adv x.pos (x.s.take k) }) 61 (0, 0)) ∧ Mod [b] w2 wr) (fun i _ => n - (intOf i).toNat)
  case atStart => exact ⟨0, Nat.zero_le _, rfl, by simpa [Lx.adv] using hb0, Mod.refl _ _⟩
  case round =>
    obtain ⟨k, hk, rfl, hbr, hmr⟩ := hrel
    have hla := Lx.adv_le x.pos (x.s.take k)
    have hlt := HX.out
    rw [List.length_take] at hla
    by_cases hlt : k < n
    · have hck := hmr.cell (hbyte.out k hlt) (by simp; omega)
      have hsn : Lx.adv x.pos (x.s.take (k + 1)) = if x.s.getD k 0 = 10 then ((Lx.adv x.pos (x.s.take k)).1 + 1, 1) else ((Lx.adv x.pos (x.s.take k)).1, (Lx.adv x.pos (x.s.take k)).2 + 1) := by
        rw [take_snoc _ 0 _ (by omega), Lx.adv_append]
        rfl
      have hlk1 : (Lx.adv x.pos (x.s.take k)).1 ≤ 200000 := by omega
      have hlk2 : (Lx.adv x.pos (x.s.take k)).2 ≤ 200000 := by omega
      have q1 : wr.cell? ⟨b, 1, none⟩ = some (.int .i64 ((Lx.adv x.pos (x.s.take k)).1 : Nat)) := by simp [World.cell?, hbr, scCells]
      have q2 : wr.cell? ⟨b, 2, none⟩ = some (.int .i64 ((Lx.adv x.pos (x.s.take k)).2 : Nat)) := by simp [World.cell?, hbr, scCells]
      have f1 : wr.frozen? ⟨b, 1, none⟩ = false := by simp [World.frozen?, hbr]
      have f2 : wr.frozen? ⟨b, 2, none⟩ = false := by simp [World.frozen?, hbr]
      have hset := fun v => setCell_at hbr 2 v
      have hset2 := fun v u => setCell_at (hset v) 1 u
      have hset3 := fun v u t => setCell_at (hset2 v u) 2 t
      generalize Lx.adv x.pos (x.s.take k) = p at *
      generalize x.s.getD k 0 = y at *
      by_cases hy : y = 10
      · have hyb : ((y : Int) == 10) = true := by rw [beq_iff_eq]; omega
        rw [if_pos hy] at hsn
        have HS := Lib.hid hsn
        have H3 := Lib.hid hset3
        clear hsn hset hset2 hset3 hla hbr hy
        go_wp2_with fail
        go_roundw
        case rel =>
          refine ⟨k + 1, by omega, by go_num, ?_, ?_⟩
          · rw [HS.out, H3.out]; simp [scCells]
          · exact ((hmr.setCell (p := ⟨b, 2, none⟩) (by simp) _).setCell (p := ⟨b, 1, none⟩) (by simp) _).setCell (p := ⟨b, 2, none⟩) (by simp) _
        case measure => simp [intOf]; omega
      · have hyb : ((y : Int) == 10) = false := by rw [beq_eq_false_iff_ne]; omega
        rw [if_neg hy] at hsn
        have HS := Lib.hid hsn
        have H3 := Lib.hid hset
        clear hsn hset hset2 hset3 hla hbr hy
        go_wp2_with fail
        go_roundw
        case rel =>
          refine ⟨k + 1, by omega, by go_num, ?_, ?_⟩
          · rw [HS.out, H3.out]; simp [scCells]
          · exact hmr.setCell (p := ⟨b, 2, none⟩) (by simp) _
        case measure => simp [intOf]; omega
    · obtain rfl : k = n := by omega
      have q0 : wr.cell? ⟨b, 0, none⟩ = some (.string s) := by simp [World.cell?, hbr, scCells]
      have f0 : wr.frozen? ⟨b, 0, none⟩ = false := by simp [World.frozen?, hbr]
      have hset := Lib.hid (fun v => setCell_at hbr 0 v)
      go_wp2_with fail
      go_end0
      refine ⟨rfl, s.extract k s.size, ⟨?_, ?_, ?_, ?_⟩, (hm0.trans hmr (fun t ht => .inl ht)).setCell (p := ⟨b, 0, none⟩) (by simp) _⟩
      · rw [hset.out]; simp [scCells]
      · rw [Lx.str_extract, hstr]
        simp only
        rw [List.take_of_length_le (by rw [List.length_drop, HX.out]; omega)]
      · rw [ByteArray.size_extract]; omega
      · intro _
        rw [ByteArray.size_extract]
        simp only
        omega
end Go.Proofs.YtobimhmllkfmfaaDoor
