/- THE REFERENCE's quoted words. -/
import Derived.Test.YtobimhmllkfmfaaDoorRfQuo
namespace Go.Proofs.YtobimhmllkfmfaaDoor
open Go.RowKit
set_option linter.unusedVariables false
set_option linter.unusedSimpArgs false
set_option maxRecDepth 100000

def quoV (l : List Nat) : Value := match Lx.quo l with | none => .tuple #[.string (Lx.ofS []), .int .i64 0] | some (sym, n) => .tuple #[.string (Lx.ofS sym), .int .i64 (n : Nat)]
theorem quo_step {k : Nat} {c : Nat} {r acc : List Nat} {i : Nat} (h34 : c ≠ 34) : Lx.quoF (k + 1) (c :: r) acc i = if (partV (c :: r)).2 = 0 then none else Lx.quoF k ((c :: r).drop (partV (c :: r)).2) (acc ++ [(partV (c :: r)).1]) (i + (partV (c :: r)).2) := by
  rw [Lx.quoF, if_neg h34]
  by_cases h10 : c = 10
  · have e : partV (c :: r) = (0, 0) := by simp [partV, h10]
    rw [if_pos h10, e]; rfl
  · rw [if_neg h10]
    by_cases h92 : c = 92
    · have e : partV (c :: r) = match Lx.esc r with | none => (0, 0) | some (b, m) => (b, m + 1) := by
        simp [partV, h34, h10, h92]
        cases Lx.esc r <;> rfl
      rw [if_pos h92, e]
      cases hx : Lx.esc r with
      | none => rfl
      | some bm =>
        obtain ⟨b, m⟩ := bm
        simp only
        rw [if_neg (by omega), List.drop_succ_cons, show i + 1 + m = i + (m + 1) by omega]
    · have e : partV (c :: r) = (c, 1) := by simp [partV, h34, h10, h92]
      rw [if_neg h92, e]; rfl
theorem part_len {c : Nat} {r : List Nat} (hb : ∀ x ∈ c :: r, x < 256) : (partV (c :: r)).2 ≤ r.length + 1 ∧ (partV (c :: r)).1 < 256 := by
  unfold partV
  simp only
  split
  · simp
  · split
    · cases hx : Lx.esc r with
      | none => simp
      | some bm =>
        obtain ⟨b, m⟩ := bm
        have := Lx.esc_len (fun x hx => hb x (by simp [hx])) hx
        simp only
        omega
    · exact ⟨by simp, hb c (by simp)⟩

set_option maxHeartbeats 4000000 in
theorem rQuoted_any (s : ByteArray) (hs : s.size ≤ 65536) (w : World) :
    Calls Tryd.prog 56 #[.string s] w fun e w' => e = .returned (quoV (Cod.str s)) ∧ Mod [] w w' := by
  obtain ⟨i0, hinf, hz0, hz1, hz2⟩ := info_parts Tryd.infoU8
  have hlt := Cod.str_lt s
  have hsz := Cod.str_len s
  obtain ⟨l, hl⟩ : ∃ l, l = Cod.str s := ⟨_, rfl⟩
  rw [← hl] at hlt hsz ⊢
  have HL := Lib.hid hl
  have HSZ := Lib.hid hsz
  have HLT := Lib.hid hlt
  clear hl hsz hlt
  go_enter Tryd.func56, Tryd.ntmps56
  go_wp2_with fail
  go_loopw [4, 5] (fun bv iv wr => ∃ (i f vc : Nat) (va : Option Addr) (acc : List Nat), 1 ≤ i ∧ i ≤ l.length + 1 ∧ iv = .int .i64 (i : Int) ∧ bv = .slice va acc.length vc ∧ wr.ownsRow 0 5 1 (.slice va acc.length vc) acc.length (toCells acc) ∧
      (∀ c ∈ acc, c < 256) ∧ acc.length ≤ i ∧ l.length ≤ f + i ∧ Lx.quoF f (l.drop i) acc i = Lx.quo l ∧ (∀ k ∈ fp (.slice va acc.length vc), w.heap.size ≤ k) ∧ Mod [] w wr)
    (fun _ iv _ => l.length + 1 - (intOf iv).toNat)
  case atStart =>
    exact ⟨1, l.length, 0, none, [], Nat.le_refl _, by omega, rfl, rfl, World.ownsRow_nil _ _ _ _, by simp, by simp, by omega, rfl, by simp [fp], Mod.refl _ _⟩
  case round =>
    obtain ⟨i, f, vc, va, acc, hi1, hi2, rfl, rfl, hown, hab, hai, hf, hq, hfp, hmr⟩ := hrel
    have hsz := HSZ.out
    by_cases hi : i < l.length
    · obtain ⟨c, r, hd⟩ : ∃ c r, l.drop i = c :: r := ⟨_, _, List.drop_eq_getElem_cons hi⟩
      have his : i < s.size := by omega
      have hc0 : s[i].toNat = c := by
        rw [← Lx.get_str s i his, ← HL.out, List.getD_eq_getElem?_getD, ← List.head?_drop, hd]; rfl
      obtain ⟨k, rfl⟩ : ∃ k, f = k + 1 := ⟨f - 1, by omega⟩
      obtain ⟨hp, hn⟩ := tests hc0
      by_cases h34 : c = 34
      · have p34 := hp 34 h34
        rw [hd, Lx.quoF, if_pos h34] at hq
        have hiI : (i : Int) < (s.size : Int) := by omega
        have hi0 : (0 : Int) ≤ (i : Int) := by omega
        by_cases hlong : 64 < acc.length
        · rw [if_pos hlong] at hq
          have e : Hid (quoV l = .tuple #[.string (Lx.ofS []), .int .i64 0]) := Lib.hid (by unfold quoV; rw [← hq])
          have hlI : (64 : Int) < (acc.length : Int) := by omega
          clear hq hp hn hc0 hd h34
          go_wp2_with fail
          go_ret2
          exact ⟨by rw [e.out]; rfl, hmr⟩
        · rw [if_neg hlong] at hq
          have e : Hid (quoV l = .tuple #[.string (Lx.ofS acc), .int .i64 ((i + 1 : Nat) : Int)]) := Lib.hid (by unfold quoV; rw [← hq])
          have hlI : (acc.length : Int) ≤ 64 := by omega
          have hcv := conv_reads (reads_own hown hab (by omega))
          clear hq hp hn hc0 hd h34
          go_wp2_with fail
          go_ret2
          exact ⟨by rw [e.out]; rfl, hmr⟩
      · obtain ⟨a34, b34, d34⟩ := hn 34 h34
        have hrb : ∀ x ∈ c :: r, x < 256 := fun x hx => HLT.out x (by rw [← hd] at hx; exact List.mem_of_mem_drop hx)
        obtain ⟨hpl, hpb⟩ := part_len hrb
        have hrl : r.length + 1 = l.length - i := by
          have := congrArg List.length hd
          rw [List.length_drop] at this
          simp at this; omega
        have hsx : Cod.str (s.extract i s.size) = c :: r := by
          rw [Lx.str_extract, ← HL.out, hd, List.take_of_length_le (by simp; omega)]
        have hcall := fun w => rPart_any (s.extract i s.size) (by rw [ByteArray.size_extract]; omega) w
        rw [hsx] at hcall
        rw [hd, quo_step h34] at hq
        have hdd : (c :: r).drop (partV (c :: r)).2 = l.drop (i + (partV (c :: r)).2) := by rw [← hd, List.drop_drop]
        rw [hdd] at hq
        have hPC : ∀ w, Calls Tryd.prog 62 #[.string (s.extract i s.size)] w fun e w' => e = .returned (.tuple #[.int .u8 ((partV (c :: r)).1 : Nat), .int .i64 ((partV (c :: r)).2 : Nat)]) ∧ w = w' := hcall
        generalize partV (c :: r) = pv at *
        obtain ⟨b, n⟩ := pv
        simp only at hq hpl hpb hPC
        have hiI : (i : Int) < (s.size : Int) := by omega
        have HPC := Lib.hid hPC
        have hfF := Lib.hid hf
        clear hcall hp hn hc0 hd h34 hsx hrb hdd hPC hf
        by_cases hn0 : n = 0
        · rw [if_pos hn0] at hq
          have e : Hid (quoV l = .tuple #[.string (Lx.ofS []), .int .i64 0]) := Lib.hid (by unfold quoV; rw [← hq])
          have hnB : ((n : Int) == 0) = true := by rw [hn0]; rfl
          clear hq hn0
          go_wp2_with fail
          refine (HPC.out _).mono ?_
          rintro e2 w2 ⟨rfl, rfl⟩
          go_wp2_with fail
          go_ret2
          exact ⟨by rw [e.out]; rfl, hmr⟩
        · rw [if_neg hn0] at hq
          have hnB : ((n : Int) == 0) = false := by rw [beq_eq_false_iff_ne]; omega
          have HQ := Lib.hid hq
          have hone := reads_one wr b hpb
          clear hq
          go_wp2_with (first | (go_at_call 62; refine (HPC.out _).mono ?_; rintro e2 w2 ⟨rfl, rfl⟩) | (at_builtin; refine wpList_append_src _ rfl _ _ 73 73 rfl 5 i0 (.int .u8 0) 1 1 Tryd.underlying73 hinf hz0 hz1 hz2 rfl (.slice va acc.length vc) acc.length (toCells acc) rfl (hown.alloc _) _ 1 [.int .u8 (b : Nat)] rfl (src_reads hone) (by unfold maxLen; omega) (by omega) ?_))
          intro v' w3 hown3 hm3 hf3 hn3
          obtain ⟨va3, vc3, rfl⟩ := owns_slice hown3
          have hm3' : Mod [] w w3 := (hmr.alloc _).trans hm3 (fun t ht => .inr (by have := hfp t ht; omega))
          have hlen : acc.length + 1 = (acc ++ [b]).length := by simp
          have hcl : toCells acc ++ [.int .u8 (b : Nat)] = toCells (acc ++ [b]) := by simp [toCells]
          have hszr := hmr.size
          have hf3' : ∀ k ∈ fp (.slice va3 (acc.length + 1) vc3), w.heap.size ≤ k := fun k hk => by
            rcases hf3 k hk with h | h
            · exact hfp k h
            · first | omega | (simp at h; omega)
          rw [hcl] at hown3
          have hab3 : ∀ c ∈ acc ++ [b], c < 256 := fun c hc => by
            rcases List.mem_append.1 hc with h | h
            · exact hab c h
            · simp at h; omega
          have HREL : Hid (w3.ownsRow 0 5 1 (.slice va3 (acc ++ [b]).length vc3) (acc ++ [b]).length (toCells (acc ++ [b])) ∧ (∀ k ∈ fp (.slice va3 (acc ++ [b]).length vc3), w.heap.size ≤ k)) := Lib.hid (by rw [← hlen]; exact ⟨hown3, hf3'⟩)
          clear hn3 hf3 hm3 hown3 hone hcl hf3' hown
          go_wp2_with fail
          go_roundw
          case rel =>
            have := hfF.out
            refine ⟨i + n, k, vc3, va3, acc ++ [b], by omega, by omega, by go_num, by rw [← hlen], HREL.out.1, hab3, by rw [← hlen]; omega, by omega, HQ.out, HREL.out.2, hm3'⟩
          case measure => simp [intOf]; omega
    · have hiI : (s.size : Int) ≤ (i : Int) := by omega
      have e : Hid (quoV l = .tuple #[.string (Lx.ofS []), .int .i64 0]) := Lib.hid (by
        rw [List.drop_eq_nil_of_le (by omega)] at hq
        unfold quoV
        rw [← hq]
        cases f <;> rfl)
      clear hq
      go_wp2_with fail
      go_ret2
      exact ⟨by rw [e.out]; rfl, hmr⟩
end Go.Proofs.YtobimhmllkfmfaaDoor
