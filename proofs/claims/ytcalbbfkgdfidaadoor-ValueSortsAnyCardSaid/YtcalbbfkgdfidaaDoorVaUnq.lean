/- VALUES: a numeral read; what stands between two quotes: the program's. -/
import Derived.Test.YtcalbbfkgdfidaaDoorVaText
namespace Go.Proofs.YtcalbbfkgdfidaaDoor
open Go.RowKit
set_option linter.unusedVariables false
set_option linter.unusedSimpArgs false
set_option maxRecDepth 100000

theorem gSynV : Tryd.prog.globalNamed "strconv.ErrSyntax" = some 0 := by kernel_rfl
theorem str_map (s : ByteArray) : (Cod.str s).map UInt8.ofNat = s.data.toList := by unfold Cod.str; rw [Va.map_back]
/-- what Atoi answers -/
def AtoiR (l : List Nat) (w : World) (e : Ending) (w' : World) : Prop :=
  (∃ n ev, e = .returned (.tuple #[.int .i64 n, ev]) ∧ ((Va.atoiV l = some n ∧ ev = .nilIface) ∨ (Va.atoiV l = none ∧ ∃ ty p, ev = .iface ty p))) ∧ Mod [] w w'
theorem atoi_any (s : ByteArray) (hs : s.size ≤ 140737488355328) (w : World) (hG : GlobV w) :
    Calls Tryd.prog 33 #[.string s] w (AtoiR (Cod.str s) w) := by
  have hv : Va.atoiV (Cod.str s) = match Lib.atoiAll s.data.toList with | .ok v => some v | _ => none := by unfold Va.atoiV; rw [str_map]; rfl
  rcases hA : Lib.atoiAll s.data.toList with v | _ | _
  · rw [hA] at hv
    refine (Tryd.strconv_Atoi_ok s (by omega) v hA w).mono ?_
    rintro e w' ⟨rfl, hw⟩
    refine ⟨⟨v, _, rfl, .inl ⟨hv, rfl⟩⟩, ?_⟩
    rcases hw with rfl | ⟨t, rfl⟩
    · exact Mod.refl _ _
    · exact Mod.of_below (Lib.bytesWorld_below _ _ _)
  · rw [hA] at hv
    obtain ⟨tp, p, h1⟩ := hG.syn
    refine (Any.strconv_Atoi_syntax_var Tryd.laysC172 s (by omega) hA tp p w h1).mono ?_
    rintro e w' ⟨N, rfl, -, -, hb⟩
    exact ⟨⟨0, _, rfl, .inr ⟨hv, _, _, rfl⟩⟩, Mod.of_below hb⟩
  · rw [hA] at hv
    obtain ⟨tp, p, h1⟩ := hG.rng
    refine (Tryd.strconv_Atoi_range_var s (by omega) hA tp p w h1).mono ?_
    rintro e w' ⟨N, rfl, -, -, hb⟩
    exact ⟨⟨_, _, rfl, .inr ⟨hv, _, _, rfl⟩⟩, Mod.of_below hb⟩

theorem parse_outer (t : ByteArray) (ht : t.size = 2) (w : World) (hG : GlobV w) :
    Calls Tryd.prog 51 #[.string t, .int .i64 16, .int .i64 8] w fun e w' => (match hexL (Cod.str t) with
      | some n => e = .returned (.tuple #[.int .u64 (n : Nat), .nilIface])
      | none => ∃ ty v, e = .returned (.tuple #[.int .u64 0, .iface ty v])) ∧ Mod [] w w' := by
  cases hx : hexL (Cod.str t) with
  | some n =>
    have hin := parse_inner t ht w
    rw [hx] at hin
    have HI := Lib.hid hin
    clear hin hx
    go_enter Tryd.func51, Tryd.ntmps51
    go_wp2_with fail
    refine HI.out.mono ?_
    rintro e w2 ⟨rfl, hm2⟩
    unfold hexR
    go_wp2_with fail
    go_ret2
    exact ⟨rfl, hm2⟩
  | none =>
    have hin := parse_inner t ht w
    rw [hx] at hin
    have HI := Lib.hid hin
    obtain ⟨tp, p, hs0⟩ := hG.syn
    obtain ⟨T, fr, hs⟩ := var_heap gSynV hs0
    have hs1 : w.cell? ⟨0, 0, none⟩ = some (.iface tp p) := by simp [World.cell?, hs]
    have HS := Lib.hid hs1
    have hts : t.size ≤ 281474976710656 := by omega
    clear hin hx hs hs1 hG hs0
    go_enter Tryd.func51, Tryd.ntmps51
    go_wp2_with fail
    refine HI.out.mono ?_
    rintro e w2 ⟨rfl, hm2⟩
    have hs2 := hm2.cell HS.out (by simp)
    unfold hexR
    go_wp2_with fail
    refine (Tryd.strconv_toError_syntax _ t 16 8 _ _ hts hs2 (.inr ⟨_, _, rfl⟩)).mono ?_
    rintro e w3 ⟨N, rfl, -, -, hb3⟩
    go_wp2_with fail
    go_ret2
    exact ⟨⟨_, _, rfl⟩, hm2.trans (Mod.of_below hb3) (by simp)⟩

/-- the loop over what stands between the quotes -/
structure UL (s : ByteArray) (w wr : World) (r : ByteArray) (va : Option Addr) (vc : Nat) (acc : List Nat) (K : Nat) : Prop where
  row : wr.ownsRow 0 5 1 (.slice va acc.length vc) acc.length (toCells acc)
  new : ∀ b ∈ fp (.slice va acc.length vc), w.heap.size ≤ b
  len : acc.length + r.size ≤ s.size
  byte : ∀ c ∈ acc, c < 256
  fuel : r.size < K
  eq : Va.uq (Cod.str s) = (Va.uqF K (Cod.str r)).map (acc ++ ·)
  mod : Mod [] w wr
theorem UL.step {s : ByteArray} {w wr : World} {r : ByteArray} {va : Option Addr} {vc : Nat} {acc : List Nat} {K : Nat} (h : UL s w wr r va vc acc (K + 1)) {b m : Nat} (hb : b < 256) (hm1 : 1 ≤ m) (hm2 : m ≤ r.size)
    (he : Va.uqF (K + 1) (Cod.str r) = (Va.uqF K ((Cod.str r).drop m)).map (b :: ·)) {w1 w3 : World} {v' : Value} (h1 : Mod [] wr w1)
    (hown : w3.ownsRow 0 5 1 v' (acc.length + 1) (toCells acc ++ toCells [b])) (hm : Mod (fp (.slice va acc.length vc)) w1 w3) (hf : ∀ b ∈ fp v', b ∈ fp (.slice va acc.length vc) ∨ wr.heap.size ≤ b) :
    ∃ va' vc', v' = .slice va' (acc ++ [b]).length vc' ∧ UL s w w3 (r.extract m r.size) va' vc' (acc ++ [b]) K := by
  obtain ⟨va', vc', rfl⟩ := owns_slice hown
  rw [← toCells_append, show acc.length + 1 = (acc ++ [b]).length by simp] at hown
  have hl := h.len
  have hfu := h.fuel
  have hszw := h.mod.size
  refine ⟨va', vc', by simp, hown, fun c hc => ?_, ?_, fun c hc => ?_, ?_, ?_, ?_⟩
  · have hc' := hc
    rw [List.length_append] at hc'
    rcases hf c hc' with q | q
    · exact h.new c q
    · omega
  · rw [List.length_append, ByteArray.size_extract]; simp; omega
  · rcases List.mem_append.1 hc with hc | hc
    · exact h.byte c hc
    · simp at hc; omega
  · rw [ByteArray.size_extract]; omega
  · rw [h.eq, he, Lx.str_extract, List.take_of_length_le (by rw [List.length_drop, Cod.str_len]; omega), Option.map_map]
    congr 1
    funext x
    simp
  · exact (h.mod.trans h1 (by simp)).trans hm (fun t ht => .inr (h.new t ht))
/-- what unquoted answers -/
def unqV : Option (List Nat) → Value
  | some t => .tuple #[.string (Lx.ofS t), .bool true]
  | none => .tuple #[.string ⟨#[]⟩, .bool false]
theorem str_cons {r : ByteArray} (h : 0 < r.size) : ∃ c t, Cod.str r = c :: t ∧ r[0].toNat = c ∧ c < 256 := by
  have hl := Cod.str_len r
  cases hr : Cod.str r with
  | nil => rw [hr] at hl; simp at hl; omega
  | cons c t =>
    refine ⟨c, t, rfl, ?_, Cod.str_lt r c (by rw [hr]; simp)⟩
    have := Lx.get_str r 0 h
    rw [hr] at this
    exact this.symm
theorem str_cons2 {r : ByteArray} (h : 1 < r.size) {c : Nat} {t : List Nat} (hr : Cod.str r = c :: t) : ∃ x u, t = x :: u ∧ r[1].toNat = x ∧ x < 256 := by
  have hl := Cod.str_len r
  rw [hr, List.length_cons] at hl
  cases t with
  | nil => simp at hl; omega
  | cons x u =>
    refine ⟨x, u, rfl, ?_, Cod.str_lt r x (by rw [hr]; simp)⟩
    have := Lx.get_str r 1 h
    rw [hr] at this
    exact this.symm
theorem u8_nat {n : Nat} (h : n < 256) : ((n : Int) % 256) = (n : Int) := by omega

def strSize : Value → Nat | .string s => s.size | _ => 0
set_option maxHeartbeats 4000000 in
theorem unquoted_any (s : ByteArray) (hs : s.size ≤ 140737488355327) (w : World) (hG : GlobV w) :
    Calls Tryd.prog 34 #[.string s] w fun e w' => e = .returned (unqV (Va.uq (Cod.str s))) ∧ Mod [] w w' := by
  obtain ⟨i0, hinf, hz0, hz1, hz2⟩ := info_parts Tryd.infoU8
  have hU0 : UL s w w s none 0 [] (s.size + 1) := by
    refine ⟨World.ownsRow_nil _ _ _ _, by simp [fp], by simp, by simp, by omega, ?_, Mod.refl _ _⟩
    unfold Va.uq
    rw [Cod.str_len]
    simp
  have HU0 := Lib.hid hU0
  clear hU0
  go_enter Tryd.func34, Tryd.ntmps34
  go_wp2_with fail
  go_loopw [0, 4] (fun rv vv wr => ∃ (r : ByteArray) (acc : List Nat) (va : Option Addr) (vc K : Nat), rv = .string r ∧ vv = .slice va acc.length vc ∧ UL s w wr r va vc acc K) (fun rv _ _ => strSize rv)
  case atStart => exact ⟨s, [], none, 0, _, rfl, rfl, HU0.out⟩
  case round =>
    obtain ⟨r, acc, va, vc, K, rfl, rfl, hU⟩ := hrel
    have hlen := hU.len
    have hfu := hU.fuel
    obtain ⟨K, rfl⟩ : ∃ k, K = k + 1 := ⟨K - 1, by omega⟩
    have HU := Lib.hid hU
    have hrl := Cod.str_len r
    have hGr := hG.past hU.mod (by simp)
    clear hU
    by_cases h0 : r.size = 0
    · have hr0 : Cod.str r = [] := List.eq_nil_of_length_eq_zero (by omega)
      have e : Hid (Va.uq (Cod.str s) = some acc) := Lib.hid (by
        rw [HU.out.eq, hr0]
        simp [Va.uqF])
      have hcv := conv_reads (reads_own HU.out.row HU.out.byte (by omega))
      have h0I : ¬ (0 : Int) < (r.size : Int) := by omega
      clear hr0 hrl hGr h0
      go_wp2_with fail
      go_ret2
      exact ⟨by rw [e.out]; rfl, HU.out.mod⟩
    · have h0I : (0 : Int) < (r.size : Int) := by omega
      obtain ⟨c, t, hsr, hc0, hc⟩ := str_cons (r := r) (by omega)
      have hcI : (r[0].toNat : Int) = (c : Int) := by omega
      by_cases c92 : c = 92
      · have e1 : ((c : Int) != 92) = false := by rw [c92]; rfl
        by_cases h1 : r.size = 1
        · have ht : t = [] := by rw [hsr] at hrl; simp at hrl; exact List.eq_nil_of_length_eq_zero (by omega)
          have e : Hid (Va.uq (Cod.str s) = none) := Lib.hid (by
            rw [HU.out.eq, hsr, ht, c92]
            simp [Va.uqF])
          have h1I : ¬ (1 : Int) < (r.size : Int) := by omega
          have h3I : ¬ (3 : Int) < (r.size : Int) := by omega
          clear hsr hGr ht c92
          go_wp2_with fail
          go_ret2
          exact ⟨by rw [e.out]; rfl, HU.out.mod⟩
        · have h1I : (1 : Int) < (r.size : Int) := by omega
          obtain ⟨x, u, rfl, hx0, hx⟩ := str_cons2 (r := r) (by omega) hsr
          have hxI : (r[1].toNat : Int) = (x : Int) := by omega
          have hul : u.length + 2 = r.size := by rw [hsr] at hrl; simpa using hrl
          subst c92
          by_cases hx3 : x = 120 ∧ 3 < r.size
          · obtain ⟨x120, h3⟩ := hx3
            have h3I : (3 : Int) < (r.size : Int) := by omega
            have e2 : ((x : Int) == 120) = true := by rw [x120]; rfl
            obtain ⟨a, b, u2, rfl⟩ : ∃ a b u2, u = a :: b :: u2 := by
              match u, hul with
              | [], h => simp at h; omega
              | [_], h => simp at h; omega
              | a :: b :: u2, _ => exact ⟨a, b, u2, rfl⟩
            have hst : Cod.str (r.extract 2 4) = [a, b] := by rw [Lx.str_extract, hsr]; rfl
            have hhx : hexL (Cod.str (r.extract 2 4)) = match Lx.hexv a, Lx.hexv b with | some p, some q => some (16 * p + q) | _, _ => none := by
              rw [hst]
              unfold hexL
              simp only [List.foldl_cons, List.foldl_nil]
              cases Lx.hexv a with
              | none => cases Lx.hexv b <;> rfl
              | some p => cases Lx.hexv b <;> simp
            have hpo := parse_outer (r.extract 2 4) (by rw [ByteArray.size_extract]; omega) wr hGr
            rw [hhx] at hpo
            have hq : Va.uqF (K + 1) (Cod.str r) = match Lx.hexv a, Lx.hexv b with | some p, some q => (Va.uqF K u2).map ((16 * p + q) :: ·) | _, _ => none := by
              rw [hsr, Va.uqF_esc, if_pos ⟨x120, by simp⟩]
              rfl
            have hdr : (Cod.str r).drop 4 = u2 := by rw [hsr]; rfl
            cases ha : Lx.hexv a with
            | none =>
              rw [ha] at hpo hq
              have e : Hid (Va.uq (Cod.str s) = none) := Lib.hid (by rw [HU.out.eq, hq]; rfl)
              have HP := Lib.hid hpo
              clear hpo hq hhx hst hsr hGr hdr ha
              go_wp2_with fail
              refine HP.out.mono ?_
              rintro e3 w3 ⟨⟨ty, p, rfl⟩, hm3⟩
              go_wp2_with fail
              go_ret2
              exact ⟨by rw [e.out]; rfl, HU.out.mod.trans hm3 (by simp)⟩
            | some p =>
              cases hb : Lx.hexv b with
              | none =>
                rw [ha, hb] at hpo hq
                have e : Hid (Va.uq (Cod.str s) = none) := Lib.hid (by rw [HU.out.eq, hq]; rfl)
                have HP := Lib.hid hpo
                clear hpo hq hhx hst hsr hGr hdr ha hb
                go_wp2_with fail
                refine HP.out.mono ?_
                rintro e3 w3 ⟨⟨ty, p, rfl⟩, hm3⟩
                go_wp2_with fail
                go_ret2
                exact ⟨by rw [e.out]; rfl, HU.out.mod.trans hm3 (by simp)⟩
              | some q =>
                rw [ha, hb] at hpo hq
                have hp16 := Lx.hexv_lt ha
                have hq16 := Lx.hexv_lt hb
                have hn256 : 16 * p + q < 256 := by omega
                simp only at hpo hq
                generalize 16 * p + q = n at *
                rw [← hdr] at hq
                have HP := Lib.hid hpo; have HE := Lib.hid hq
                have hmod8 := u8_nat hn256
                clear hpo hq hhx hst hsr hGr hdr ha hb hp16 hq16
                go_wp2_with fail
                refine HP.out.mono ?_
                rintro e3 w4 ⟨rfl, hm4⟩
                have hrow4 := hm4.owns HU.out.row (by simp)
                have hsrc := src_lit (l := [n]) (heap_alloc_new w4 (Obj.cells #[Value.int IntKind.u8 (n : Int)] 5)) rfl
                have h1m : Mod [] wr (w4.alloc (Obj.cells #[Value.int IntKind.u8 (n : Int)] 5)) := hm4.alloc _
                have HSRC := Lib.hid hsrc; have H1 := Lib.hid h1m; have HROW := Lib.hid hrow4; have HS4 := Lib.hid hm4.size
                clear hsrc h1m hrow4 hm4
                go_wp2_with (at_builtin; refine wpList_append_src _ rfl _ _ 51 51 rfl 5 i0 (.int .u8 0) 1 1 Tryd.underlying51 hinf hz0 hz1 hz2 rfl (.slice va acc.length vc) acc.length (toCells acc) rfl (HROW.out.alloc _) _ 1 (toCells [n]) rfl HSRC.out (by unfold maxLen; omega) (by omega) ?_)
                intro v' w3 hown3 hm3 hf3 hn3
                obtain ⟨va3, vc3, rfl, hU3⟩ := HU.out.step (m := 4) (by omega) (by omega) (by omega) HE.out H1.out hown3 hm3 (fun b hb => (hf3 b hb).imp id (fun h => by have := HS4.out; first | omega | (simp at h; omega)))
                have HU3 := Lib.hid hU3
                clear hown3 hm3 hf3 hn3 hU3
                go_wp2_with fail
                go_roundw
                case rel => exact ⟨_, _, va3, vc3, K, rfl, rfl, HU3.out⟩
                case measure =>
                  simp only [strSize, ByteArray.size_extract]
                  omega
          · have hnx : ¬ (x = 120 ∧ 2 ≤ u.length) := by omega
            by_cases x110 : x = 110
            · have e2 : ((x : Int) == 120) = false := by rw [x110]; rfl
              have e3 : ((x : Int) == 110) = true := by rw [x110]; rfl
              have hq : Va.uqF (K + 1) (Cod.str r) = (Va.uqF K ((Cod.str r).drop 2)).map (10 :: ·) := by
                rw [hsr, Va.uqF_esc, if_neg hnx, if_pos x110]; rfl
              clear hnx x110 hx3 hGr
              rcases Int.lt_or_le 3 (r.size : Int) with h3I | h3I
              · skip
                have hsrc := src_lit (l := [10]) (heap_alloc_new wr (Obj.cells #[Value.int IntKind.u8 10] 5)) rfl
                have h1 : Mod [] wr (wr.alloc (Obj.cells #[Value.int IntKind.u8 10] 5)) := (Mod.refl [] wr).alloc _
                have HSRC := Lib.hid hsrc; have H1 := Lib.hid h1; have HE := Lib.hid (hq)
                clear hsrc h1 hsr
                go_wp2_with (at_builtin; refine wpList_append_src _ rfl _ _ 51 51 rfl 5 i0 (.int .u8 0) 1 1 Tryd.underlying51 hinf hz0 hz1 hz2 rfl (.slice va acc.length vc) acc.length (toCells acc) rfl (HU.out.row.alloc _) _ 1 (toCells [10]) rfl HSRC.out (by unfold maxLen; omega) (by omega) ?_)
                intro v' w3 hown3 hm3 hf3 hn3
                obtain ⟨va3, vc3, rfl, hU3⟩ := HU.out.step (m := 2) (by omega) (by omega) (by omega) HE.out H1.out hown3 hm3 (fun b hb => (hf3 b hb).imp id (fun h => by first | omega | (simp at h; omega)))
                have HU3 := Lib.hid hU3
                clear hown3 hm3 hf3 hn3 hU3
                go_wp2_with fail
                go_roundw
                case rel => exact ⟨_, _, va3, vc3, K, rfl, rfl, HU3.out⟩
                case measure =>
                  simp only [strSize, ByteArray.size_extract]
                  omega
              · skip
                have hsrc := src_lit (l := [10]) (heap_alloc_new wr (Obj.cells #[Value.int IntKind.u8 10] 5)) rfl
                have h1 : Mod [] wr (wr.alloc (Obj.cells #[Value.int IntKind.u8 10] 5)) := (Mod.refl [] wr).alloc _
                have HSRC := Lib.hid hsrc; have H1 := Lib.hid h1; have HE := Lib.hid (hq)
                clear hsrc h1 hsr
                go_wp2_with (at_builtin; refine wpList_append_src _ rfl _ _ 51 51 rfl 5 i0 (.int .u8 0) 1 1 Tryd.underlying51 hinf hz0 hz1 hz2 rfl (.slice va acc.length vc) acc.length (toCells acc) rfl (HU.out.row.alloc _) _ 1 (toCells [10]) rfl HSRC.out (by unfold maxLen; omega) (by omega) ?_)
                intro v' w3 hown3 hm3 hf3 hn3
                obtain ⟨va3, vc3, rfl, hU3⟩ := HU.out.step (m := 2) (by omega) (by omega) (by omega) HE.out H1.out hown3 hm3 (fun b hb => (hf3 b hb).imp id (fun h => by first | omega | (simp at h; omega)))
                have HU3 := Lib.hid hU3
                clear hown3 hm3 hf3 hn3 hU3
                go_wp2_with fail
                go_roundw
                case rel => exact ⟨_, _, va3, vc3, K, rfl, rfl, HU3.out⟩
                case measure =>
                  simp only [strSize, ByteArray.size_extract]
                  omega
            · have e3 : ((x : Int) == 110) = false := by rw [beq_eq_false_iff_ne]; omega
              have hq : Va.uqF (K + 1) (Cod.str r) = (Va.uqF K ((Cod.str r).drop 2)).map (x :: ·) := by
                rw [hsr, Va.uqF_esc, if_neg hnx, if_neg x110]; rfl
              have hcs : (((x : Int) == 120) = false ∧ (3 : Int) < (r.size : Int)) ∨ ¬ (3 : Int) < (r.size : Int) := by
                by_cases h3 : 3 < r.size
                · exact .inl ⟨by rw [beq_eq_false_iff_ne]; omega, by omega⟩
                · exact .inr (by omega)
              clear hnx x110 hx3 hGr
              rcases hcs with ⟨e2, h3I⟩ | h3I
              · skip
                have hsrc := src_lit (l := [x]) (heap_alloc_new wr (Obj.cells #[Value.int IntKind.u8 (x : Int)] 5)) rfl
                have h1 : Mod [] wr (wr.alloc (Obj.cells #[Value.int IntKind.u8 (x : Int)] 5)) := (Mod.refl [] wr).alloc _
                have HSRC := Lib.hid hsrc; have H1 := Lib.hid h1; have HE := Lib.hid (hq)
                clear hsrc h1 hsr
                go_wp2_with (at_builtin; refine wpList_append_src _ rfl _ _ 51 51 rfl 5 i0 (.int .u8 0) 1 1 Tryd.underlying51 hinf hz0 hz1 hz2 rfl (.slice va acc.length vc) acc.length (toCells acc) rfl (HU.out.row.alloc _) _ 1 (toCells [x]) rfl HSRC.out (by unfold maxLen; omega) (by omega) ?_)
                intro v' w3 hown3 hm3 hf3 hn3
                obtain ⟨va3, vc3, rfl, hU3⟩ := HU.out.step (m := 2) (by omega) (by omega) (by omega) HE.out H1.out hown3 hm3 (fun b hb => (hf3 b hb).imp id (fun h => by first | omega | (simp at h; omega)))
                have HU3 := Lib.hid hU3
                clear hown3 hm3 hf3 hn3 hU3
                go_wp2_with fail
                go_roundw
                case rel => exact ⟨_, _, va3, vc3, K, rfl, rfl, HU3.out⟩
                case measure =>
                  simp only [strSize, ByteArray.size_extract]
                  omega
              · skip
                have hsrc := src_lit (l := [x]) (heap_alloc_new wr (Obj.cells #[Value.int IntKind.u8 (x : Int)] 5)) rfl
                have h1 : Mod [] wr (wr.alloc (Obj.cells #[Value.int IntKind.u8 (x : Int)] 5)) := (Mod.refl [] wr).alloc _
                have HSRC := Lib.hid hsrc; have H1 := Lib.hid h1; have HE := Lib.hid (hq)
                clear hsrc h1 hsr
                go_wp2_with (at_builtin; refine wpList_append_src _ rfl _ _ 51 51 rfl 5 i0 (.int .u8 0) 1 1 Tryd.underlying51 hinf hz0 hz1 hz2 rfl (.slice va acc.length vc) acc.length (toCells acc) rfl (HU.out.row.alloc _) _ 1 (toCells [x]) rfl HSRC.out (by unfold maxLen; omega) (by omega) ?_)
                intro v' w3 hown3 hm3 hf3 hn3
                obtain ⟨va3, vc3, rfl, hU3⟩ := HU.out.step (m := 2) (by omega) (by omega) (by omega) HE.out H1.out hown3 hm3 (fun b hb => (hf3 b hb).imp id (fun h => by first | omega | (simp at h; omega)))
                have HU3 := Lib.hid hU3
                clear hown3 hm3 hf3 hn3 hU3
                go_wp2_with fail
                go_roundw
                case rel => exact ⟨_, _, va3, vc3, K, rfl, rfl, HU3.out⟩
                case measure =>
                  simp only [strSize, ByteArray.size_extract]
                  omega
      · have e1 : ((c : Int) != 92) = true := by rw [bne_iff_ne]; omega
        have hq : Va.uqF (K + 1) (Cod.str r) = (Va.uqF K ((Cod.str r).drop 1)).map (c :: ·) := by
          rw [hsr, Va.uqF_one _ _ _ c92]; rfl
        clear c92 hGr
        have hsrc := src_lit (l := [c]) (heap_alloc_new wr (Obj.cells #[Value.int IntKind.u8 (c : Int)] 5)) rfl
        have h1 : Mod [] wr (wr.alloc (Obj.cells #[Value.int IntKind.u8 (c : Int)] 5)) := (Mod.refl [] wr).alloc _
        have HSRC := Lib.hid hsrc; have H1 := Lib.hid h1; have HE := Lib.hid (hq)
        clear hsrc h1 hsr
        go_wp2_with (at_builtin; refine wpList_append_src _ rfl _ _ 51 51 rfl 5 i0 (.int .u8 0) 1 1 Tryd.underlying51 hinf hz0 hz1 hz2 rfl (.slice va acc.length vc) acc.length (toCells acc) rfl (HU.out.row.alloc _) _ 1 (toCells [c]) rfl HSRC.out (by unfold maxLen; omega) (by omega) ?_)
        intro v' w3 hown3 hm3 hf3 hn3
        obtain ⟨va3, vc3, rfl, hU3⟩ := HU.out.step (m := 1) (by omega) (by omega) (by omega) HE.out H1.out hown3 hm3 (fun b hb => (hf3 b hb).imp id (fun h => by first | omega | (simp at h; omega)))
        have HU3 := Lib.hid hU3
        clear hown3 hm3 hf3 hn3 hU3
        go_wp2_with fail
        go_roundw
        case rel => exact ⟨_, _, va3, vc3, K, rfl, rfl, HU3.out⟩
        case measure =>
          simp only [strSize, ByteArray.size_extract]
          omega
end Go.Proofs.YtcalbbfkgdfidaaDoor
