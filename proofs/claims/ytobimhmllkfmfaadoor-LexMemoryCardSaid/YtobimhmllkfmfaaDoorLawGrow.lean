/- LexMemory: a list is grown. -/
import Derived.Test.YtobimhmllkfmfaaDoorLawFill
namespace Go.Proofs.YtobimhmllkfmfaaDoor
open Go.RowKit
set_option linter.unusedVariables false
set_option linter.unusedSimpArgs false
set_option maxRecDepth 100000

theorem src_mark {w : World} {b : Nat} {mark : Int} {T : TypeId} {fr : Nat × Nat} (h : w.heap[b]? = some (.cells (markC mark) T fr)) :
    Src Tryd.prog 7 23 (.slice (some ⟨b, 0, none⟩) 1 1) 1 (markC mark).toList w := by
  refine Src.ofSlice w Tryd.underlying23 ⟨b, 0, none⟩ 1 1 _ (by simp [markC]) (fun j u hu => ?_) (fun u hu => ?_)
  · rw [addr_add, Nat.zero_add]
    simp [World.cell?, h]
    rw [← Array.getElem?_toList]; exact hu
  · simp [markC] at hu
    rcases hu with rfl | rfl | rfl | rfl | rfl <;> rfl
theorem mrow_grow {w : World} {v : Value} {n m : Nat} {mark : Int} {xs : List Value} (h1 : ∀ i, i < n → i < n → xs[i * 7]? = some (.int .i64 mark)) (hl : xs.length = n * 7)
    (h : w.ownsRow 0 45 7 v (n + 1) (xs ++ (markC mark).toList)) : MRow w v (n + 1) mark (n + 1) := by
  refine ⟨_, h, fun i hi _ => ?_⟩
  by_cases e : i = n
  · subst e
    rw [List.getElem?_append_right (by omega), hl, Nat.sub_self]; rfl
  · rw [List.getElem?_append_left (by omega)]
    exact h1 i (by omega) (by omega)

set_option maxHeartbeats 2000000 in
theorem grow_any (n : Nat) (mark : Int) (v : Value) (hn : n ≤ 70000) (w : World) (h : MRow w v n mark n) :
    Calls Tryd.prog 23 #[v, .int .i64 mark] w fun e w' => ∃ v', e = .returned v' ∧ MRow w' v' (n + 40) mark (n + 40) ∧ (∀ k ∈ fp v', k ∈ fp v ∨ w.heap.size ≤ k) ∧ Mod (fp v) w w' ∧ Keeps v (n * 7) w w' := by
  obtain ⟨i0, hinf, hz0, hz1, hz2⟩ := info_parts Tryd.infoTok
  obtain ⟨a, c, rfl⟩ := h.marked.1
  have H0 := Lib.hid h
  clear h
  go_enter Tryd.func23, Tryd.ntmps23
  go_wp2_with fail
  go_loopw [0, 5] (fun vv iv wr => ∃ (k : Nat) (va : Option Addr) (vc : Nat), k ≤ 40 ∧ vv = .slice va (n + k) vc ∧ iv = .int .i64 (k : Nat) ∧ MRow wr (.slice va (n + k) vc) (n + k) mark (n + k) ∧ (∀ b ∈ fp (.slice va (n + k) vc), b ∈ fp (.slice a n c) ∨ w.heap.size ≤ b) ∧ Mod (fp (.slice a n c)) w wr ∧ Keeps (.slice a n c) (n * 7) w wr) (fun _ iv _ => 40 - (intOf iv).toNat)
  case atStart => exact ⟨0, a, c, by omega, rfl, rfl, H0.out, fun k hk => .inl hk, Mod.refl _ _, Keeps.refl _ _ _⟩
  case round =>
    obtain ⟨k, va, vc, hk, rfl, rfl, hM, hF, hmr, hK⟩ := hrel
    by_cases hlt : k < 40
    · have hkI : (k : Int) < 40 := by omega
      have hk0 : (0 : Int) ≤ (k : Int) := by omega
      obtain ⟨xs, h1, h2⟩ := hM.row
      have hbox := heap_alloc_new wr (Obj.cells (markC mark) 45)
      have hsrc := src_mark hbox
      have hma : Mod [] wr (wr.alloc (Obj.cells (markC mark) 45)) := (Mod.refl [] wr).alloc _
      have H1 := Lib.hid h1; have H2 := Lib.hid h2; have HF := Lib.hid hF; have HMR := Lib.hid hmr; have HK := Lib.hid hK; have HSRC := Lib.hid hsrc; have HMA := Lib.hid hma
      clear hM h1 h2 hF hmr hK hbox hsrc hma
      generalize hq : n + k = q at *
      have hql : q ≤ 70040 := by omega
      go_wp2_with (at_builtin; refine wpList_append_keeps _ rfl _ _ 23 23 rfl 45 i0 (.agg (tokC zeroT)) 7 72 Tryd.underlying23 hinf hz0 hz1 hz2 rfl (.slice va q vc) q xs rfl (H1.out.alloc _) _ 1 (markC mark).toList rfl HSRC.out (by unfold maxLen; omega) (by omega) ?_)
      intro v' w3 hown3 hm3 hf3 hk3
      obtain ⟨va3, vc3, rfl⟩ := owns_slice hown3
      have hM3 := mrow_grow (m := 0) H2.out H1.out.1 hown3
      have hsz := HMR.out.size
      have hsz2 := HMA.out.size
      have hf3' : ∀ k ∈ fp (.slice va3 (q + 1) vc3), k ∈ fp (.slice a n c) ∨ w.heap.size ≤ k := fun k hk => by
        rcases hf3 k hk with h | h
        · exact HF.out k h
        · exact .inr (by omega)
      have hmm : Mod (fp (.slice a n c)) w w3 := HMR.out.trans ((HMA.out.mono (T := fp (.slice va q vc)) (by simp)).trans hm3 (fun t ht => .inl ht)) (fun t ht => HF.out t ht)
      have hkk : Keeps (.slice a n c) (n * 7) w w3 := by
        intro g off u hc hlt
        have hgl : g < w.heap.size := World.block_lt_of_cell? w _ hc
        refine hk3 g off u (HMA.out.cell (HK.out g off u hc hlt) (by simp)) (fun hg => ?_)
        rcases HF.out g hg with h | h
        · have := hlt h; omega
        · omega
      have HM3 := Lib.hid hM3; have HF3 := Lib.hid hf3'; have HMM := Lib.hid hmm; have HKK := Lib.hid hkk
      clear hown3 hm3 hf3 hk3 hM3 hf3' hmm hkk
      go_wp2_with fail
      go_roundw
      case rel =>
        have e : q + 1 = n + (k + 1) := by omega
        refine ⟨k + 1, va3, vc3, by omega, ?_, by go_num, ?_, ?_, HMM.out, HKK.out⟩
        · rw [e]
        · rw [← e]; exact HM3.out
        · rw [← e]; exact HF3.out
      case measure => simp [intOf]; omega
    · obtain rfl : k = 40 := by omega
      have HM := Lib.hid hM; have HF := Lib.hid hF; have HMR := Lib.hid hmr; have HK := Lib.hid hK
      clear hM hF hmr hK hlt
      go_wp2_with fail
      go_ret
      exact ⟨_, rfl, HM.out, HF.out, HMR.out, HK.out⟩
end Go.Proofs.YtobimhmllkfmfaaDoor
