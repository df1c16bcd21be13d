/- ITEMS ARE WRITTEN: the walk of lay. -/
import Derived.Test.YtaaeahhcbmnbgaaItems
import Derived.Test.YtaaeahhcbmnbgaaLawCode
namespace Go.Proofs.Ytaaeahhcbmnbgaa
open Go.RowKit
set_option linter.unusedVariables false
set_option linter.unusedSimpArgs false
set_option maxRecDepth 100000

def toIt (r : Raw) : Cod.It := ⟨pickF r.k 5, r.n, wrap64 (r.n : Int), r.s⟩

theorem reads_conv (w : World) (s : ByteArray) (cap : Nat) (fr : Nat × Nat) (hs : s.size ≤ 140737488355328) :
    Reads ((w.alloc (.cells (bytesRow s cap) 5 fr)).drew) (.slice (some ⟨w.heap.size, 0, none⟩) s.size cap) (Cod.str s) := by
  have hl := Cod.str_len s
  refine ⟨Cod.str_lt s, by omega, .inr ⟨w.heap.size, 0, cap, by rw [hl], fun i hi => ?_⟩⟩
  show (w.alloc (.cells (bytesRow s cap) 5 fr)).cell? _ = _
  rw [World.cell?_alloc_mark]
  have hi' : i < s.data.size := by have : s.data.size = s.size := rfl; omega
  rw [Nat.zero_add, bytesRow_at s cap i hi']
  have e : (Cod.str s).getD i 0 = s.data[i].toNat := by
    unfold Cod.str
    rw [List.getD_eq_getElem?_getD, List.getElem?_map, List.getElem?_eq_getElem (by rw [Array.length_toList]; exact hi')]
    simp
  rw [e]

theorem encs_le : ∀ xs : List Raw, (Cod.encs (xs.map toIt)).length ≤ weight xs * 3
  | [] => by simp [Cod.encs]
  | x :: r => by
    have ih := encs_le r
    have h := Cod.It.enc_len (toIt x)
    have e : Cod.encs ((x :: r).map toIt) = (toIt x).enc ++ Cod.encs (r.map toIt) := by simp [Cod.encs]
    have e2 : weight (x :: r) = x.s.size + 4 + weight r := by simp [weight]
    have e3 : (toIt x).s = x.s := rfl
    rw [e3] at h
    rw [e, e2, List.length_append]
    omega
theorem weight_snoc (xs : List Raw) (k : Nat) (h : k < xs.length) : weight (xs.take (k + 1)) = weight (xs.take k) + xs[k].s.size + 4 := by
  unfold weight
  rw [List.take_succ_eq_append_getElem h, List.map_append, List.sum_append]
  simp
  omega
theorem weight_take (xs : List Raw) (k : Nat) : weight (xs.take k) ≤ weight xs := by
  have e : weight xs = weight (xs.take k) + weight (xs.drop k) := by
    unfold weight
    rw [← List.sum_append, ← List.map_append, List.take_append_drop]
  omega
theorem weight_len : ∀ xs : List Raw, xs.length * 4 ≤ weight xs
  | [] => by simp [weight]
  | x :: r => by
    have ih := weight_len r
    have e2 : weight (x :: r) = x.s.size + 4 + weight r := by simp [weight]
    rw [e2, List.length_cons]
    omega

theorem pick5 (z : Int) : pickF z 5 = 0 ∨ pickF z 5 = 1 ∨ pickF z 5 = 2 ∨ pickF z 5 = 3 ∨ pickF z 5 = 4 := by
  have := pickF_lt z 5 (by decide)
  omega

theorem lay_mod {b : Nat} {v vw v3 : Value} {w wr w3 : World} (hm : Mod (b :: fp v) w wr) (hf : ∀ t ∈ fp vw, t ∈ fp v ∨ w.heap.size ≤ t) (hm3 : Mod (b :: fp vw) wr w3) (hf3 : ∀ t ∈ fp v3, t ∈ fp vw ∨ wr.heap.size ≤ t) :
    Mod (b :: fp v) w w3 ∧ ∀ t ∈ fp v3, t ∈ fp v ∨ w.heap.size ≤ t := by
  have hs := hm.size
  refine ⟨hm.trans hm3 (fun t ht => ?_), fun t ht => ?_⟩
  · rcases List.mem_cons.1 ht with rfl | h
    · exact .inl List.mem_cons_self
    · rcases hf t h with h | h
      · exact .inl (List.mem_cons_of_mem _ h)
      · exact .inr h
  · rcases hf3 t ht with h | h
    · exact hf t h
    · exact .inr (by omega)

set_option maxHeartbeats 4000000 in
theorem lay_any (b : Nat) (v vi : Value) (l : List Nat) (xs : List Raw) (w : World) (h : BoxIs w b v l) (hi : Items w vi xs) (hsep : 0 < xs.length → ∀ bi o c, vi = .slice (some ⟨bi, o, none⟩) xs.length c → bi ∉ b :: fp v)
    (hsz : l.length + weight xs * 11 ≤ 140737488355328) (hxl : xs.length ≤ weight xs) :
    Calls Try.prog 32 #[.pointer (some ⟨b, 0, none⟩), vi] w (Laid b v (l ++ Cod.encs (xs.map toIt)) w) := by
  obtain ⟨a', c', rfl⟩ : ∃ a c, vi = .slice a xs.length c := by
    obtain ⟨-, ⟨x, c, rfl, rfl⟩ | ⟨b, off, cap, rfl, -⟩⟩ := hi
    · exact ⟨_, _, rfl⟩
    · exact ⟨_, _, rfl⟩
  have hxm : xs.length ≤ 140737488355328 := by omega
  go_enter Try.func32, Try.ntmps32
  go_wp2_with fail
  go_loopw [4] (fun i wr => ∃ (k : Nat) (vw : Value), k ≤ xs.length ∧ i = .int .i64 (k : Int) ∧ BoxIs wr b vw (l ++ Cod.encs ((xs.take k).map toIt)) ∧ Mod (b :: fp v) w wr ∧ (∀ t ∈ fp vw, t ∈ fp v ∨ w.heap.size ≤ t)) (fun i _ => xs.length - (intOf i).toNat)
  case atStart => exact ⟨0, v, Nat.zero_le _, rfl, by simpa [Cod.encs] using h, Mod.refl _ _, fun t ht => .inl ht⟩
  case round =>
    obtain ⟨k, vw, hk, rfl, hB, hmw, hfw⟩ := hrel
    clear h
    by_cases hlt : k < xs.length
    · obtain ⟨x, hx⟩ : ∃ x, x = xs[k] := ⟨_, rfl⟩
      have hg : x.Good := by rw [hx]; exact hi.1 _ (List.getElem_mem _)
      have hsn : Cod.encs ((xs.take (k + 1)).map toIt) = Cod.encs ((xs.take k).map toIt) ++ (toIt x).enc := by
        rw [List.take_succ_eq_append_getElem hlt, hx, List.map_append]
        simp [Cod.encs]
      obtain ⟨bi, off, rfl, h0, h1, h2⟩ : ∃ bi off, a' = some ⟨bi, off, none⟩ ∧ wr.cell? ⟨bi, off + k * 3, none⟩ = some (.int .i64 x.k) ∧ wr.cell? ⟨bi, off + k * 3 + 1, none⟩ = some (.int .u64 (x.n : Int)) ∧ wr.cell? ⟨bi, off + k * 3 + 2, none⟩ = some (.string x.s) := by
        obtain ⟨-, ⟨y, d, hv, rfl⟩ | ⟨bi, off, cap, hv, hc⟩⟩ := hi
        · simp at hlt
        · cases hv
          have hn := hsep (by omega) bi off _ rfl
          obtain ⟨c0, c1, c2⟩ := hc k hlt
          rw [← hx] at c0 c1 c2
          exact ⟨bi, off, rfl, hmw.cell c0 hn, hmw.cell c1 hn, hmw.cell c2 hn⟩
      have hpick := pick_any x.k 5 wr hg.k_lo hg.k_hi (by decide) (by decide)
      have hz : -9223372036854775808 ≤ wrap64 (x.n : Int) ∧ wrap64 (x.n : Int) ≤ 9223372036854775807 := by
        unfold wrap64; omega
      have hlen : (l ++ Cod.encs ((xs.take k).map toIt)).length + x.s.size + 11 ≤ 140737488355328 := by
        have e1 := encs_le (xs.take k)
        have e2 := weight_snoc xs k hlt
        have e3 := weight_take xs (k + 1)
        rw [← hx] at e2
        rw [List.length_append]
        omega
      have hsl : x.s.size ≤ 140737488355328 := by omega
      clear hi hx hsep hxl hsz
      rcases pick5 x.k with hpk | hpk | hpk | hpk | hpk
      · have HE : Hid (Cod.encs ((xs.take (k + 1)).map toIt) = Cod.encs ((xs.take k).map toIt) ++ [x.n % 256]) := Lib.hid (by
          rw [hsn]; congr 1; simp [Cod.It.enc, toIt, hpk])
        rw [hpk] at hpick
        have HP := Lib.hid hpick
        clear hpick hpk hsn
        go_wp2_with fail
        refine HP.out.mono ?_
        rintro e w2 ⟨rfl, rfl⟩
        go_wp2_with fail
        rw [show ((x.n : Int) % 256) = ((x.n % 256 : Nat) : Int) from by simp]
        refine (WByte_any _ _ (x.n % 256) _ _ hB (by omega) (by omega)).mono ?_
        rintro e w3 ⟨rfl, v3, hb3, hm3, hf3⟩
        have hm3' := hm3
        have hf3' := hf3
        have HB : BoxIs w3 b v3 (l ++ Cod.encs ((xs.take (k + 1)).map toIt)) := by rw [HE.out, ← List.append_assoc]; exact hb3
        have HM := lay_mod hmw hfw hm3' hf3'
        clear hB hb3 hm3 hf3 hm3' hf3'
        go_wp2_with fail
        go_roundw
        case rel => exact ⟨k + 1, v3, by omega, by go_num, HB, HM.1, HM.2⟩
        case measure => simp [intOf]; omega
      · have HE : Hid (Cod.encs ((xs.take (k + 1)).map toIt) = Cod.encs ((xs.take k).map toIt) ++ Cod.uv x.n) := Lib.hid (by
          rw [hsn]; congr 1; simp [Cod.It.enc, toIt, hpk])
        rw [hpk] at hpick
        have HP := Lib.hid hpick
        clear hpick hpk hsn
        go_wp2_with fail
        refine HP.out.mono ?_
        rintro e w2 ⟨rfl, rfl⟩
        go_wp2_with fail
        refine (WUint_any _ _ x.n _ _ hB hg.n_lt (by omega)).mono ?_
        rintro e w3 ⟨rfl, v3, hb3, hm3, hf3⟩
        have hm3' := hm3
        have hf3' := hf3
        have HB : BoxIs w3 b v3 (l ++ Cod.encs ((xs.take (k + 1)).map toIt)) := by rw [HE.out, ← List.append_assoc]; exact hb3
        have HM := lay_mod hmw hfw hm3' hf3'
        clear hB hb3 hm3 hf3 hm3' hf3'
        go_wp2_with fail
        go_roundw
        case rel => exact ⟨k + 1, v3, by omega, by go_num, HB, HM.1, HM.2⟩
        case measure => simp [intOf]; omega
      · have HE : Hid (Cod.encs ((xs.take (k + 1)).map toIt) = Cod.encs ((xs.take k).map toIt) ++ Cod.uv (Cod.zz (wrap64 (x.n : Int)))) := Lib.hid (by
          rw [hsn]; congr 1; simp [Cod.It.enc, toIt, hpk])
        rw [hpk] at hpick
        have HP := Lib.hid hpick
        clear hpick hpk hsn
        go_wp2_with fail
        refine HP.out.mono ?_
        rintro e w2 ⟨rfl, rfl⟩
        go_wp2_with fail
        refine (WInt_any _ _ (wrap64 (x.n : Int)) _ _ hB hz.1 hz.2 (by omega)).mono ?_
        rintro e w3 ⟨rfl, v3, hb3, hm3, hf3⟩
        have hm3' := hm3
        have hf3' := hf3
        have HB : BoxIs w3 b v3 (l ++ Cod.encs ((xs.take (k + 1)).map toIt)) := by rw [HE.out, ← List.append_assoc]; exact hb3
        have HM := lay_mod hmw hfw hm3' hf3'
        clear hB hb3 hm3 hf3 hm3' hf3'
        go_wp2_with fail
        go_roundw
        case rel => exact ⟨k + 1, v3, by omega, by go_num, HB, HM.1, HM.2⟩
        case measure => simp [intOf]; omega
      · have HE : Hid (Cod.encs ((xs.take (k + 1)).map toIt) = Cod.encs ((xs.take k).map toIt) ++ (Cod.uv x.s.size ++ Cod.str x.s)) := Lib.hid (by
          rw [hsn]; congr 1; simp [Cod.It.enc, toIt, hpk])
        rw [hpk] at hpick
        have HP := Lib.hid hpick
        clear hpick hpk hsn
        go_wp2_with fail
        refine HP.out.mono ?_
        rintro e w2 ⟨rfl, rfl⟩
        go_wp2_with fail
        refine (WText_any _ _ x.s _ _ hB (by omega)).mono ?_
        rintro e w3 ⟨rfl, v3, hb3, hm3, hf3⟩
        have hm3' := hm3
        have hf3' := hf3
        have HB : BoxIs w3 b v3 (l ++ Cod.encs ((xs.take (k + 1)).map toIt)) := by rw [HE.out, ← List.append_assoc]; exact hb3
        have HM := lay_mod hmw hfw hm3' hf3'
        clear hB hb3 hm3 hf3 hm3' hf3'
        go_wp2_with fail
        go_roundw
        case rel => exact ⟨k + 1, v3, by omega, by go_num, HB, HM.1, HM.2⟩
        case measure => simp [intOf]; omega
      · have HE : Hid (Cod.encs ((xs.take (k + 1)).map toIt) = Cod.encs ((xs.take k).map toIt) ++ Cod.str x.s) := Lib.hid (by
          rw [hsn]; congr 1; simp [Cod.It.enc, toIt, hpk])
        rw [hpk] at hpick
        have HP := Lib.hid hpick
        clear hpick hpk hsn
        go_wp2_with fail
        refine HP.out.mono ?_
        rintro e w2 ⟨rfl, rfl⟩
        have hcv := fun w => run_bytes_of_string (P := Try.prog) w 9 22 5 x.s Try.underlying9 Try.underlying22 Try.underlying5
        go_wp2_with fail
        refine (WRaw_any _ _ _ _ (Cod.str x.s) _ (hB.past (((Mod.refl [] _).alloc _).drew) (by simp)) (reads_conv _ _ _ _ hsl) (by rw [Cod.str_len]; omega)).mono ?_
        rintro e w3 ⟨rfl, v3, hb3, hm3, hf3⟩
        have hm3' : Mod (b :: fp vw) wr w3 := ((((Mod.refl [] wr).alloc _).drew).mono (by simp)).trans hm3 (fun t ht => .inl ht)
        have hf3' : ∀ t ∈ fp v3, t ∈ fp vw ∨ wr.heap.size ≤ t := fun t ht => by
          rcases hf3 t ht with r | r
          · exact .inl r
          · simp at r; exact .inr (by omega)
        clear hcv
        have HB : BoxIs w3 b v3 (l ++ Cod.encs ((xs.take (k + 1)).map toIt)) := by rw [HE.out, ← List.append_assoc]; exact hb3
        have HM := lay_mod hmw hfw hm3' hf3'
        clear hB hb3 hm3 hf3 hm3' hf3'
        go_wp2_with fail
        go_roundw
        case rel => exact ⟨k + 1, v3, by omega, by go_num, HB, HM.1, HM.2⟩
        case measure => simp [intOf]; omega
    · go_wp2_with fail
      obtain rfl : k = xs.length := by omega
      rw [List.take_length] at hB
      go_end0
      exact ⟨rfl, vw, hB, hmw, hfw⟩
end Go.Proofs.Ytaaeahhcbmnbgaa
