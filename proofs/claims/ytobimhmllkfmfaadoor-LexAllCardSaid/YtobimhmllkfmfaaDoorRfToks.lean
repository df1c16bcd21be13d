/- THE REFERENCE's scanner made and asked; all words of a text. -/
import Derived.Test.YtobimhmllkfmfaaDoorRfNext
namespace Go.Proofs.YtobimhmllkfmfaaDoor
open Go.RowKit
set_option linter.unusedVariables false
set_option linter.unusedSimpArgs false
set_option maxRecDepth 100000

theorem rNew_any (s : ByteArray) (hs : s.size ≤ 140737488355328) (w : World) :
    Calls Tryd.prog 15 #[.string s] w fun e w' => ∃ b, e = .returned (.pointer (some ⟨b, 0, none⟩)) ∧ RsIs w' b s 0 (Lx.start (Cod.str s)) ∧ w.heap.size ≤ b ∧ Mod [] w w' := by
  go_enter Tryd.func15, Tryd.ntmps15
  go_wp2
  go_ret
  refine ⟨_, rfl, ⟨?_, by simp [Lx.start], by omega, by simp [Lx.start, Cod.str_len], hs, fun hl => ?_⟩, ?_, ((Mod.refl [] w).alloc _).alloc _⟩
  · refine (alloc_at _ (by simp)).trans ?_
    simp [rsCells, Lx.start]
  · simp only [Lx.start, decide_eq_false_iff_not, Cod.str_len] at hl ⊢
    omega
  · simp

theorem rFault_any (b a : Nat) (s : ByteArray) (x : Lx.St) (w : World) (h : RsIs w b s a x) :
    Calls Tryd.prog 32 #[.pointer (some ⟨b, 0, none⟩)] w fun e w' => e = .returned (.agg (faultV x)) ∧ Mod [] w w' := by
  have hlt := h.lt
  have hne : b ≠ w.heap.size := by omega
  obtain ⟨c0, c1, c2, c3, c4, c5, c6, c7, c8⟩ := rs_cells h
  go_enter Tryd.func32, Tryd.ntmps32
  go_wp2
  refine bodyPost_ret (results_cell_row rfl _ _ _ _ (faultV x) _ _ rfl (heap_alloc_new w _) Tryd.underlying28 rfl (by kernel_rfl)) rfl ⟨rfl, (Mod.refl [] w).alloc _⟩
theorem rEnd_any (b a : Nat) (s : ByteArray) (x : Lx.St) (w : World) (h : RsIs w b s a x) :
    Calls Tryd.prog 33 #[.pointer (some ⟨b, 0, none⟩)] w fun e w' => e = .returned (.agg (endV x)) ∧ Mod [] w w' := by
  have hlt := h.lt
  have hne : b ≠ w.heap.size := by omega
  obtain ⟨c0, c1, c2, c3, c4, c5, c6, c7, c8⟩ := rs_cells h
  go_enter Tryd.func33, Tryd.ntmps33
  go_wp2
  refine bodyPost_ret (results_cell_row rfl _ _ _ _ (endV x) _ _ rfl (heap_alloc_new w _) Tryd.underlying26 rfl (by kernel_rfl)) rfl ⟨rfl, (Mod.refl [] w).alloc _⟩

/-- what Given answers -/
def GivR (l : List Nat) (w : World) (e : Ending) (w' : World) : Prop :=
  ∃ v, e = .returned (.tuple #[v, .agg (faultV (Lx.given l).2)]) ∧ TokRow w' w.heap.size v (Lx.given l).1 ∧ Mod [] w w'

/-- the loop over all words: what it holds -/
structure GLoop (l : List Nat) (w wr : World) (b a : Nat) (va : Option Addr) (vc : Nat) (acc : List Lx.Tok) (x : Lx.St) (k gk : Nat) (s : ByteArray) : Prop where
  row : TokRow wr (w.heap.size + 1) (.slice va acc.length vc) acc
  sc : RsIs wr b s a x
  bv : b ∉ fp (.slice va acc.length vc)
  bw : w.heap.size < b
  all : Lx.given l = (acc ++ (Lx.allF k x).1, (Lx.allF k x).2)
  lim : x.long = false → acc.length + x.s.length ≤ 65536
  kk : x.s.length + 1 ≤ k ∧ x.s.length + 1 ≤ gk
  byte : ∀ c ∈ x.s, c < 256
  flt : wr.heap[w.heap.size]? = some (.cells #[Value.int IntKind.i64 0, Value.int IntKind.i64 0, Value.int IntKind.i64 0] 28 (0, 0))
  mod : Mod [] w wr

set_option maxHeartbeats 4000000 in
theorem rGiven_any (s : ByteArray) (hs : s.size ≤ 140737488355328) (w : World) :
    Calls Tryd.prog 26 #[.string s] w (GivR (Cod.str s) w) := by
  obtain ⟨i0, hinf, hz0, hz1, hz2⟩ := info_parts Tryd.infoTok
  obtain ⟨l, hl⟩ : ∃ l, l = Cod.str s := ⟨_, rfl⟩
  have hlb : ∀ c ∈ l, c < 256 := by rw [hl]; exact Cod.str_lt s
  rw [← hl]
  have HL := Lib.hid hl; have HB := Lib.hid hlb
  clear hl hlb
  go_enter Tryd.func26, Tryd.ntmps26
  go_wp2_with fail
  refine (rNew_any s hs _).mono ?_
  rintro e w1 ⟨b, rfl, h1, hb1, hm1⟩
  rw [← HL.out] at h1
  have hm0 := (Mod.refl [] w).alloc (Obj.cells #[Value.int IntKind.i64 0, Value.int IntKind.i64 0, Value.int IntKind.i64 0] 28)
  have hF0 := heap_alloc_new w (Obj.cells #[Value.int IntKind.i64 0, Value.int IntKind.i64 0, Value.int IntKind.i64 0] 28)
  have hm1' := hm0.trans hm1 (by simp)
  have hF1 := hm1.at hF0 (by simp)
  have hbw : w.heap.size < b := by simp at hb1; omega
  have hT0 : Hid (GLoop l w w1 b 0 none 0 [] (Lx.start l) (l.length + 1) (l.length + 1) s) := Lib.hid ⟨TokRow.nil _ _, h1, by simp [fp], hbw, by simp [Lx.given], fun hl => by simp [Lx.start] at hl ⊢; omega, by simp [Lx.start], HB.out, hF1, hm1'⟩
  clear hF0 hF1 h1 hm1 hm0 hm1'
  go_wp2_with fail
  go_loopg [5, 6, 7] (l.length + 1) (fun gk bv tv kv wr => ∃ (va : Option Addr) (vc a k : Nat) (acc : List Lx.Tok) (x : Lx.St), bv = .slice va acc.length vc ∧ GLoop l w wr b a va vc acc x k gk s)
  case atStart => exact ⟨none, 0, 0, l.length + 1, [], Lx.start l, rfl, hT0.out⟩
  case round =>
    obtain ⟨va, vc, a, k, acc, x, rfl, hT⟩ := hrel
    obtain ⟨k', rfl⟩ : ∃ k', k = k' + 1 := ⟨k - 1, by have := hT.kk; omega⟩
    have hall := hT.all
    rw [allF_succ] at hall
    have hF := hT.flt
    have hnx := rNext_any b a s x wr hT.sc
    have hbl := hT.sc.lt
    cases hn : Lx.next x with
    | mk y o =>
      rw [hn] at hall hnx
      cases o with
      | none =>
        simp only [rest, List.append_nil] at hall
        have HT := Lib.hid hT; have HA := Lib.hid hall; have HX := Lib.hid hnx; have HN := Lib.hid hn
        have hbw2 := hT.bw
        clear hT hall hnx hn hT0
        go_wp2_with fail
        refine HX.out.mono ?_
        rintro e w2 ⟨rfl, a2, h2, hm2⟩
        rw [nextV, tokC]
        have hF2 := hm2.at hF (by simp; omega)
        have hsz2 := hm2.size
        have hb2 := h2.lt
        obtain ⟨c0, c1, c2, c3, c4, c5, c6, c7, c8⟩ := rs_cells h2
        have fz : ∀ j, w2.frozen? ⟨w.heap.size, j, none⟩ = false := fun j => by simp [World.frozen?, hF2]
        have f0 : w2.cell? ⟨w.heap.size, 0, none⟩ = some (.int .i64 0) := by simp [World.cell?, hF2]
        have f1 : w2.cell? ⟨w.heap.size, 1, none⟩ = some (.int .i64 0) := by simp [World.cell?, hF2]
        have f2 : w2.cell? ⟨w.heap.size, 2, none⟩ = some (.int .i64 0) := by simp [World.cell?, hF2]
        have hne1 : b ≠ w2.heap.size := by omega
        have hwlt : w.heap.size < w2.heap.size := by omega
        have hne2 : w.heap.size ≠ w2.heap.size := by omega
        have hne3 : b ≠ w.heap.size := by omega
        have H2 := Lib.hid h2; have HM2 := Lib.hid hm2; have HF2 := Lib.hid hF2
        clear h2 hm2 hF2 hF
        go_wp2_with fail
        go_region
        go_wp2_with fail
        have hMw : Mod [] w w2 := HT.out.mod.trans HM2.out (fun t ht => .inr (by simp at ht; omega))
        refine bodyPost_ret (res_toks rfl _ _ _ _ _ _ _ rfl rfl (drew_at (((Mod.refl [] _).alloc _).at (store3 HF2.out _ _ _) (by simp))) rfl) rfl ?_
        refine ⟨_, by rw [HA.out]; rfl, ?_, ((mod3 hMw (.inr (Nat.le_refl _)) _ _ _).alloc _).drew⟩
        rw [HA.out]
        have hMb : Mod [b, w.heap.size] wr w2 := HM2.out.mono (fun t ht => .inl (by simp at ht; simp [ht]))
        refine (HT.out.row.keep (S := [b, w.heap.size]) ((mod3 hMb (.inl (by simp)) _ _ _).alloc _).drew (fun k hk => ?_)).base (by omega)
        have h1 := HT.out.row.new k hk
        have h2 : k ≠ b := fun h => HT.out.bv (h ▸ hk)
        simp
        exact ⟨h2, by omega⟩
      | some t =>
        obtain ⟨hd1, hd2, hd3, hd4⟩ := next_len hT.byte hn
        have hbx := next_bytes hT.byte
        rw [hn] at hbx
        have hlim := hT.lim hd3
        have hkk := hT.kk
        have hbw2 := hT.bw
        simp only [rest] at hall
        have HT := Lib.hid hT; have HA := Lib.hid hall; have HX := Lib.hid hnx; have HBX := Lib.hid hbx
        clear hT hall hnx hn hT0 hbx
        go_wp2_with fail
        refine HX.out.mono ?_
        rintro e w2 ⟨rfl, a2, h2, hm2⟩
        rw [nextV]
        have hF2 := hm2.at hF (by simp; omega)
        have hsz2 := hm2.size
        have hb2 := h2.lt
        have hrow2 : TokRow w2 (w.heap.size + 1) (.slice va acc.length vc) acc := HT.out.row.keep hm2 (fun k hk => by simp; rintro rfl; exact HT.out.bv hk)
        have hMw : Mod [] w w2 := HT.out.mod.trans hm2 (fun t ht => .inr (by simp at ht; omega))
        have hbv := HT.out.bv
        have ha := (Mod.refl [] w2).alloc (Obj.cells (tokC t) 45)
        have hbox := heap_alloc_new w2 (Obj.cells (tokC t) 45)
        have h3 := h2.past ha (by simp)
        have hF3 := ha.at hF2 (by simp)
        have hrow3 := hrow2.past ha (by simp)
        have hMw3 := hMw.trans ha (by simp)
        have hbx3 : w2.heap.size < (w2.alloc (Obj.cells (tokC t) 45)).heap.size := by simp
        have hb3 := h3.lt
        clear h2 hF2 hrow2 hMw ha hm2 hF
        rw [tokC]
        go_upto_region 6 with fail
        change Code.wp _ _ _ _ (w2.alloc (Obj.cells (tokC t) 45))
        have hp2 : w2.heap.size ∉ fp (.slice va acc.length vc) := fun h => by have := hrow3.new _ h; have := fp_lt HT.out.row.row _ h; omega
        have hpb : w2.heap.size ≠ b := by omega
        have hwp : w.heap.size < w2.heap.size := by omega
        generalize w2.alloc (Obj.cells (tokC t) 45) = w3 at *
        generalize w2.heap.size = p at *
        obtain ⟨t0', t1, t2, t3, t4, t5, t6⟩ := tok_cells hbox
        have hown := hrow3.row
        have hfn := hrow3.new
        have hbox' := heap_alloc_new w3 (Obj.cells (tokC t) 45)
        have hsrc := src_tok hbox'
        have H3 := Lib.hid h3; have HF3 := Lib.hid hF3; have HM3 := Lib.hid hMw3; have HBO := Lib.hid hbox
        have hszw := hMw3.size
        clear h3 hF3 hMw3 hrow3 hbox
        go_wp2_with (at_builtin; refine wpList_append_src _ rfl _ _ 23 23 rfl 45 i0 (.agg (tokC zeroT)) 7 72 Tryd.underlying23 hinf hz0 hz1 hz2 rfl (.slice va acc.length vc) acc.length (tokCells acc) rfl (hown.alloc _) _ 1 (tokC t).toList rfl hsrc (by unfold maxLen; omega) (by omega) ?_)
        intro v' w4 hown4 hm4 hf4 hn4
        obtain ⟨va4, vc4, rfl⟩ := owns_slice hown4
        have hma : Mod [] w3 (w3.alloc (Obj.cells (tokC t) 45)) := (Mod.refl [] w3).alloc _
        have hm4r : Mod (fp (.slice va acc.length vc)) w3 w4 := (hma.mono (by simp)).trans hm4 (fun t ht => .inl ht)
        have hlen : acc.length + 1 = (acc ++ [t]).length := by simp
        have hcl : tokCells acc ++ (tokC t).toList = tokCells (acc ++ [t]) := by rw [tokCells_append]; simp [tokCells]
        rw [hcl, hlen] at hown4
        have hf4' : ∀ k ∈ fp (.slice va4 (acc.length + 1) vc4), w.heap.size + 1 ≤ k ∧ (k ∈ fp (.slice va acc.length vc) ∨ w3.heap.size ≤ k) := fun k hk => by
          rcases hf4 k hk with h | h
          · exact ⟨hfn k h, .inl h⟩
          · first | exact ⟨by omega, .inr (by omega)⟩ | (simp at h; exact ⟨by omega, .inr (by omega)⟩)
        have h4 := H3.out.keep hm4r hbv
        have hF4 := hm4r.at HF3.out (fun h => by have := hfn _ h; omega)
        have hm4w : Mod [] w w4 := HM3.out.trans hm4r (fun t ht => .inr (by have := hfn t ht; omega))
        rw [hlen] at hf4'
        have HO4 := Lib.hid hown4; have HF4' := Lib.hid hf4'; have H4 := Lib.hid h4; have HF4 := Lib.hid hF4; have HM4 := Lib.hid hm4w
        clear hown4 hf4' hcl hm4 hn4 hf4 hown hsrc hbox' hma hm4r t0' t1 t2 t3 t4 t5 t6 h4 hF4 hm4w
        go_wp2_with fail
        go_roundg (x.s.length)
        case measure => omega
        case rel =>
          refine ⟨va4, vc4, a2, k', acc ++ [t], y, by rw [← hlen], ⟨TokRow.mk HO4.out (fun k hk => (HF4'.out k hk).1), H4.out, fun hk => ?_, hbw2, ?_, fun _ => ?_, ?_, HBX.out, HF4.out, HM4.out⟩⟩
          · rcases (HF4'.out b hk).2 with h | h
            · exact hbv h
            · omega
          · rw [HA.out]; simp
          · rw [List.length_append]; simp only [List.length_cons, List.length_nil]; omega
          · omega
end Go.Proofs.YtobimhmllkfmfaaDoor
