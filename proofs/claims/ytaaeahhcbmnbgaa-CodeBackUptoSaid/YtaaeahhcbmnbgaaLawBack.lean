/- THE STATEMENT CodeBack: the walk. -/
import Derived.Test.YtaaeahhcbmnbgaaReads
namespace Go.Proofs.Ytaaeahhcbmnbgaa
open Go.RowKit
set_option linter.unusedVariables false
set_option linter.unusedSimpArgs false
set_option maxRecDepth 100000

theorem good_toIt {x : Raw} (h : x.Good) (hs : x.s.size ≤ 9223372036854775807) : (toIt x).Good := by
  refine ⟨h.n_lt, ?_, ?_, hs⟩
  · show -9223372036854775808 ≤ wrap64 (x.n : Int)
    unfold wrap64; omega
  · show wrap64 (x.n : Int) ≤ 9223372036854775807
    unfold wrap64; omega
theorem size_le_weight {xs : List Raw} {x : Raw} (h : x ∈ xs) : x.s.size ≤ weight xs := by
  obtain ⟨i, hi, rfl⟩ := List.getElem_of_mem h
  have e1 := weight_snoc xs i hi
  have e2 := weight_take xs (i + 1)
  omega

theorem Items.cell {w wr : World} {xi : Option Addr} {c : Nat} {xs : List Raw} (h : Items w (.slice xi xs.length c) xs) (hm : ∀ p u, w.cell? p = some u → wr.cell? p = some u) {k : Nat} (hk : k < xs.length) :
    ∃ bi off, xi = some ⟨bi, off, none⟩ ∧ wr.cell? ⟨bi, off + k * 3, none⟩ = some (.int .i64 xs[k].k) ∧ wr.cell? ⟨bi, off + k * 3 + 1, none⟩ = some (.int .u64 (xs[k].n : Int)) ∧ wr.cell? ⟨bi, off + k * 3 + 2, none⟩ = some (.string xs[k].s) := by
  obtain ⟨-, ⟨y, d, hv, rfl⟩ | ⟨bi, off, cap, hv, hc⟩⟩ := h
  · simp at hk
  · cases hv
    obtain ⟨c0, c1, c2⟩ := hc k hk
    exact ⟨bi, off, rfl, hm _ _ c0, hm _ _ c1, hm _ _ c2⟩

theorem Reads.short {w : World} {x : Option Addr} {n c a : Nat} {l : List Nat} (h : Reads w (.slice x n c) l) (ha : a ≤ l.length) : Reads w (.slice x a c) (l.take a) := by
  have hl : (l.take a).length = a := by rw [List.length_take]; omega
  refine ⟨fun b hb => h.1 b (List.mem_of_mem_take hb), by have := h.2.1; omega, ?_⟩
  obtain ⟨-, -, ⟨y, d, hv, rfl⟩ | ⟨b, off, cap, hv, hc⟩⟩ := h
  · simp at ha
    subst ha
    exact .inl ⟨_, _, rfl, by simp⟩
  · cases hv
    refine .inr ⟨b, off, c, by rw [hl], fun i hi => ?_⟩
    rw [hl] at hi
    rw [hc i (by omega), List.getD_eq_getElem?_getD, List.getD_eq_getElem?_getD, List.getElem?_take, if_pos hi]
theorem Reads.lit {w : World} {v : Value} {l : List Nat} (h : Reads w v l) : ∃ a c, v = .slice a l.length c := by
  obtain ⟨-, -, ⟨x, c, rfl, rfl⟩ | ⟨b, off, cap, rfl, -⟩⟩ := h
  · exact ⟨_, _, rfl⟩
  · exact ⟨_, _, rfl⟩
theorem owns_cap {w : World} {base : Nat} {e : TypeId} {size : Nat} {x : Option Addr} {m c n : Nat} {xs : List Value} (h : w.ownsRow base e size (.slice x m c) n xs) : n ≤ c ∧ c ≤ maxLen := by
  rcases h.2 with ⟨hv, rfl⟩ | ⟨g, cap, cur, hv, h1, h2, h3, h4, -⟩
  · cases hv; exact ⟨Nat.le_refl _, Nat.zero_le _⟩
  · cases hv; exact ⟨h3, h4⟩

set_option maxHeartbeats 8000000 in
theorem back_walk (xi : Option Addr) (xc : Nat) (xs : List Raw) (vb : Value) (lb : List Nat) (c : Int) (w : World) (hi : Items w (.slice xi xs.length xc) xs) (hb : Reads w vb lb)
    (hc1 : -9223372036854775808 ≤ c) (hc2 : c ≤ 9223372036854775807) (hwt : weight xs ≤ 1048576) (hlb : lb.length ≤ 1048576) :
    Calls Try.prog 7 #[.slice xi xs.length xc, vb, .int .i64 c] w fun e w' => e = .returned (.bool true) ∧ Mod [] w w' := by
  obtain ⟨i0, hinf, hz0, hz1, hz2⟩ := info_parts Try.infoU8
  obtain ⟨ba, bc, rfl⟩ := hb.lit
  have hxl := weight_len xs
  have hEl := encs_le xs
  obtain ⟨E, hE⟩ : ∃ E, E = Cod.encs (xs.map toIt) := ⟨_, rfl⟩
  rw [← hE] at hEl
  go_enter Try.func7, Try.ntmps7
  go_wp2_with fail
  refine (shown_any w).mono ?_
  rintro e w1 ⟨rfl, hm1⟩
  go_wp2_with fail
  refine (New_any w1).mono ?_
  rintro e w2 ⟨rfl, hb2, hm2⟩
  have hs1 := hm1.size
  have hs2 := hm2.size
  have hi2 : Items w2 (.slice xi xs.length xc) xs := hi.past (fun p u hc => (hm1.trans hm2 (by simp)).cell hc (by simp))
  have hsep : 0 < xs.length → ∀ bi o c, Value.slice xi xs.length xc = .slice (some ⟨bi, o, none⟩) xs.length c → bi ∉ w1.heap.size :: fp (.slice none 0 0) := by
    intro h0 bi o c hv
    obtain ⟨b', off, hx, hc, -⟩ := hi.cell (wr := w1) (fun p u hc => hm1.cell hc (by simp)) h0
    cases hv
    cases hx
    have := World.block_lt_of_cell? w1 _ hc
    simp [fp] at this ⊢
    omega
  go_wp2_with fail
  generalize w1.heap.size = b at *
  refine (lay_any b _ _ [] xs w2 hb2 hi2 hsep (by simp; omega) (by omega)).mono ?_
  rintro e w3 ⟨rfl, v3, hb3, hm3, hf3⟩
  rw [List.nil_append, ← hE] at hb3
  have hm3' : Mod [] w w3 := (hm1.trans hm2 (by simp)).trans hm3 (by simp [fp]; omega)
  have HE := Lib.hid hE
  clear hi2 hsep hm1 hm2 hm3 hf3 hb2 hE
  go_wp2_with fail
  refine (Out_any _ _ _ _ hb3 (by omega)).mono ?_
  rintro e w4 ⟨v4, rfl, hown4, hm4, hf4, hn4⟩
  have hr4 := reads_own hown4 hb3.byte (by omega)
  have hEb := hb3.byte
  have m4 : Mod [] w w4 := hm3'.trans hm4 (by simp)
  obtain ⟨a4, c4, rfl⟩ := owns_slice hown4
  have hsrc4 := src_reads hr4
  obtain ⟨hcap4, hcapm⟩ := owns_cap hown4
  unfold maxLen at hcapm
  have hs3 := hm3'.size
  have hs4 := hm4.size
  clear hn4 hb3
  go_wp2_with (at_builtin; refine wpList_append_src _ rfl _ _ 22 22 rfl 5 i0 (.int .u8 0) 1 1 Try.underlying22 hinf hz0 hz1 hz2 rfl (.slice none 0 0) 0 [] rfl (World.ownsRow_nil _ _ _ _) _ _ _ rfl hsrc4 (by unfold maxLen; omega) (by omega) ?_)
  intro v5 w5 hown5 hm5 hf5 hn5
  have m5 : Mod [] w w5 := m4.trans hm5 (by simp [fp])
  have hsrcb := src_reads (hb.past m5 (by simp))
  have hs5 := hm5.size
  clear hn5 hsrc4
  go_wp2_with (at_builtin; refine wpList_append_src _ rfl _ _ 22 22 rfl 5 i0 (.int .u8 0) 1 1 Try.underlying22 hinf hz0 hz1 hz2 rfl v5 _ _ rfl hown5 _ _ _ rfl hsrcb (by unfold maxLen; omega) (by omega) ?_)
  intro v6 w6 hown6 hm6 hf6 hn6
  have hf5' : ∀ k ∈ fp v5, w4.heap.size ≤ k := fun k hk => by
    rcases hf5 k hk with h | h
    · simp [fp] at h
    · exact h
  have m6 : Mod [] w w6 := m5.trans hm6 (fun t ht => .inr (by have := hf5' t ht; omega))
  have hr4' : Mod [] w4 w6 := (hm5.mono (by simp [fp])).trans hm6 (fun t ht => .inr (hf5' t ht))
  have hown6' : w6.ownsRow 0 5 1 v6 (E ++ lb).length (toCells (E ++ lb)) := by
    have e1 : (E ++ lb).length = E.length + lb.length := by simp
    have e2 : toCells (E ++ lb) = toCells E ++ toCells lb := by simp [toCells]
    rw [e1, e2]; exact hown6
  have hr6 := reads_own hown6' (fun c hc => by rcases List.mem_append.1 hc with h | h; exact hEb c h; exact hb.1 c h) (by simp; omega)
  have hs6 := hm6.size
  clear hn6 hown6 hown6' hsrcb hf6 hm6 hown5 hf5 hm5
  go_wp2_with fail
  refine (Read_any _ _ _ hr6).mono ?_
  rintro e w7 ⟨br, vr, rfl, hr7, hm7, hbr, hfr⟩
  have m7 : Mod [] w w7 := m6.trans hm7 (by simp)
  have m47 : Mod [] w4 w7 := hr4'.trans hm7 (by simp)
  clear hfr hr6 m6 m5 m4 hm4 hf4 hown4 hr4'
  go_wp2_with fail
  go_loopw [12] (fun i wr => ∃ (k : Nat), k ≤ xs.length ∧ i = .int .i64 (k : Int) ∧ RdIs wr br vr (E ++ lb) (Cod.encs ((xs.take k).map toIt)).length 0 ∧ Mod [br] w7 wr) (fun i _ => xs.length - (intOf i).toNat)
  case atStart => exact ⟨0, Nat.zero_le _, rfl, by simpa [Cod.encs] using hr7, Mod.refl _ _⟩
  case round =>
    obtain ⟨k, hk, rfl, hrk, hmk⟩ := hrel
    have mk : Mod [] w wr := m7.trans hmk (fun t ht => .inr (by simp at ht; subst ht; omega))
    by_cases hlt : k < xs.length
    · obtain ⟨bi, off, rfl, c0, c1, c2⟩ := hi.cell (wr := wr) (fun p u hc => mk.cell hc (by simp)) hlt
      have hgx := hi.1 xs[k] (List.getElem_mem _)
      have hsx : xs[k].s.size ≤ weight xs := size_le_weight (List.getElem_mem _)
      have hrd : (toIt xs[k]).rd (E ++ lb) (Cod.encs ((xs.take k).map toIt)).length 0 = ((Cod.encs ((xs.take (k + 1)).map toIt)).length, 0, true) := by
        have hkl : k < (xs.map toIt).length := by simpa using hlt
        have hd := Cod.encs_drop (xs.map toIt) k hkl
        have hsn := Cod.encs_snoc (xs.map toIt) k hkl
        rw [← List.map_take] at hd hsn
        rw [← HE.out] at hd
        have hle : (Cod.encs ((xs.take k).map toIt)).length ≤ E.length := by
          have := congrArg List.length hd
          rw [List.length_drop, List.length_append] at this
          have := hrk.in_
          rw [HE.out]
          conv => rhs; rw [← List.take_append_drop k xs, List.map_append]
          unfold Cod.encs
          rw [List.flatMap_append, List.length_append]
          omega
        have h := (toIt xs[k]).rd_all (good_toIt hgx (by omega)) (E ++ lb) (Cod.encs (((xs.map toIt).drop (k + 1))) ++ lb) _ hrk.in_ (by
          rw [List.drop_append_of_le_length hle, hd, List.append_assoc]; simp)
        rw [h, hsn, List.length_append]
        simp
      have hcall := reads_any br vr _ _ _ xs[k] _ wr hrk hgx (by omega) hrd
      have HC := Lib.hid hcall
      clear hcall hrd hgx
      go_wp2_with fail
      refine HC.out.mono ?_
      rintro e w8 ⟨rfl, hr8, hm8⟩
      have hrel8 : Mod [br] w7 w8 := hmk.trans hm8 (fun t ht => .inl ht)
      clear hm8 HC
      go_wp2_with fail
      refine (Fault_any _ _ _ _ _ _ hr8).mono ?_
      rintro e w9 ⟨rfl, rfl⟩
      go_wp2_with fail
      go_roundw
      case rel => exact ⟨k + 1, by omega, by go_num, hr8, hrel8⟩
      case measure => simp [intOf]; omega
    · obtain rfl : k = xs.length := by omega
      rw [List.take_length, ← HE.out] at hrk
      clear hlt
      go_wp2_with fail
      refine (At_any _ _ _ _ _ _ hrk).mono ?_
      rintro e w8 ⟨rfl, rfl⟩
      go_wp2_with fail
      refine (Left_any _ _ _ _ _ _ hrk).mono ?_
      rintro e w8 ⟨rfl, hm8⟩
      have hrk8 := hrk.past hm8 (by simp)
      rw [show (E ++ lb).length - E.length = lb.length from by simp]
      have hend : endF (E ++ lb) E.length 0 = if lb.length = 0 then 0 else 13 := by
        unfold endF
        by_cases h0 : lb.length = 0
        · rw [if_neg (by rw [List.length_append]; omega), if_pos h0]
        · rw [if_pos (by rw [List.length_append]; omega), if_neg h0]
      have hB8 : Mod [] w4 w8 := (m47.trans hmk (fun t ht => .inr (by simp at ht; subst ht; omega))).trans hm8 (by simp)
      have hw8 : Mod [] w w8 := mk.trans hm8 (by simp)
      have hcallE := End_any _ _ _ _ _ _ hrk8
      rw [hend] at hcallE
      clear hrk hm8 mk hmk m47 m7 hr7 hm7 hend
      by_cases hz : lb.length = 0
      · rw [if_pos hz] at hcallE
        have hzb : ((lb.length : Int) == 0) = true := by rw [beq_iff_eq]; omega
        clear hz
        have HC := Lib.hid hcallE
        clear hcallE
        go_wp2_with fail
        refine HC.out.mono ?_
        rintro e w9 ⟨rfl, hm9⟩
        have hB9 := hB8.trans hm9 (by simp)
        have hw9 := hw8.trans hm9 (by simp)
        clear hB8 hw8 hm9 HC hrk8
        go_wp2_with fail
        · go_ret
          exact ⟨rfl, hw9⟩
        · have hE0 : ((E.length : Int) == 0) = false := by assumption
          have hE1 : 1 ≤ E.length := by rw [beq_eq_false_iff_ne] at hE0; omega
          refine (pick_any c E.length _ hc1 hc2 (by omega) (by omega)).mono ?_
          rintro e w10 ⟨rfl, rfl⟩
          have hpl := pickF_lt c E.length (by omega)
          generalize pickF c (E.length : Int) = p at *
          have hp0 : (0 : Int) ≤ (p : Int) := by omega
          have hp1 : (p : Int) ≤ (c4 : Int) := by omega
          have hp2 : p ≤ E.length := by omega
          have hp3 : (p : Int) ≤ (E.length : Int) := by omega
          go_wp2_with fail
          refine (Read_any _ (E.take p) _ ((hr4.past hB9 (by simp)).short hp2)).mono ?_
          rintro e w11 ⟨bs, vs, rfl, hr11, hm11, hbs, hfs⟩
          have hw11 := hw9.trans hm11 (by simp)
          have hs9 := hw9.size
          clear hB9 hw9 hm11 hr4 hfs
          go_wp2_with fail
          go_loopw [14] (fun i wr => ∃ (k a f : Nat), k ≤ xs.length ∧ i = .int .i64 (k : Int) ∧ RdIs wr bs vs (E.take p) a f ∧ Cod.CutAt (E.take p) (xs.map toIt) p k a f ∧ Mod [bs] w11 wr) (fun i _ => xs.length - (intOf i).toNat)
          case atStart => exact ⟨0, 0, 0, Nat.zero_le _, rfl, hr11, .inr ⟨rfl, by simp [Cod.encs], Nat.zero_le _⟩, Mod.refl _ _⟩
          case round =>
            obtain ⟨k, a, f, hk, rfl, hrk, hcut, hmk⟩ := hrel
            have mk : Mod [] w wr := hw11.trans hmk (fun t ht => .inr (by simp at ht; subst ht; omega))
            by_cases hlt : k < xs.length
            · obtain ⟨bi, off, rfl, c0, c1, c2⟩ := hi.cell (wr := wr) (fun p u hc => mk.cell hc (by simp)) hlt
              have hgx := hi.1 xs[k] (List.getElem_mem _)
              have hsx : xs[k].s.size ≤ weight xs := size_le_weight (List.getElem_mem _)
              have hkl : k < (xs.map toIt).length := by simpa using hlt
              have hstep := Cod.cut_step (xs := xs.map toIt) (l := E.take p) (by rw [HE.out]) (by rw [← HE.out]; exact hp2) hkl (by rw [List.getElem_map]; exact good_toIt hgx (by omega)) hcut
              rw [List.getElem_map] at hstep
              have hcall := reads_any bs vs _ _ _ xs[k] _ wr hrk hgx (by omega) rfl
              generalize (toIt xs[k]).rd (E.take p) a f = r at *
              obtain ⟨ra, rf, rb⟩ := r
              have HS := Lib.hid hstep
              have HC := Lib.hid hcall
              clear hcall hgx hstep hcut
              go_wp2_with fail
              refine HC.out.mono ?_
              rintro e w12 ⟨rfl, hr12, hm12⟩
              have hrel12 : Mod [bs] w11 w12 := hmk.trans hm12 (fun t ht => .inl ht)
              clear hm12 HC
              go_wp2_with fail
              go_roundw
              case rel => exact ⟨k + 1, ra, rf, by omega, by go_num, hr12, HS.out, hrel12⟩
              case measure => simp [intOf]; omega
            · obtain rfl : k = xs.length := by omega
              have hf10 : f = 10 := by
                rcases hcut with h | ⟨-, h1, h2⟩
                · exact h
                · rw [List.take_of_length_le (by simp), ← HE.out] at h1
                  omega
              subst hf10
              clear hcut hlt
              go_wp2_with fail
              refine (Fault_any _ _ _ _ _ _ hrk).mono ?_
              rintro e w13 ⟨rfl, rfl⟩
              go_wp2_with fail
              have hce := End_any _ _ _ _ _ _ hrk
              rw [show endF (E.take p) a 10 = 10 from by unfold endF; rw [if_neg (by omega)]] at hce
              have HC := Lib.hid hce
              clear hce
              refine HC.out.mono ?_
              rintro e w14 ⟨rfl, hm14⟩
              go_wp2_with fail
              go_ret
              exact ⟨rfl, mk.trans hm14 (by simp)⟩
      · rw [if_neg hz] at hcallE
        have hzb : ((lb.length : Int) == 0) = false := by rw [beq_eq_false_iff_ne]; omega
        clear hz
        have HC := Lib.hid hcallE
        clear hcallE
        go_wp2_with fail
        refine HC.out.mono ?_
        rintro e w9 ⟨rfl, hm9⟩
        have hB9 := hB8.trans hm9 (by simp)
        have hw9 := hw8.trans hm9 (by simp)
        clear hB8 hw8 hm9 HC hrk8
        go_wp2_with fail
        · go_ret
          exact ⟨rfl, hw9⟩
        · have hE0 : ((E.length : Int) == 0) = false := by assumption
          have hE1 : 1 ≤ E.length := by rw [beq_eq_false_iff_ne] at hE0; omega
          refine (pick_any c E.length _ hc1 hc2 (by omega) (by omega)).mono ?_
          rintro e w10 ⟨rfl, rfl⟩
          have hpl := pickF_lt c E.length (by omega)
          generalize pickF c (E.length : Int) = p at *
          have hp0 : (0 : Int) ≤ (p : Int) := by omega
          have hp1 : (p : Int) ≤ (c4 : Int) := by omega
          have hp2 : p ≤ E.length := by omega
          have hp3 : (p : Int) ≤ (E.length : Int) := by omega
          go_wp2_with fail
          refine (Read_any _ (E.take p) _ ((hr4.past hB9 (by simp)).short hp2)).mono ?_
          rintro e w11 ⟨bs, vs, rfl, hr11, hm11, hbs, hfs⟩
          have hw11 := hw9.trans hm11 (by simp)
          have hs9 := hw9.size
          clear hB9 hw9 hm11 hr4 hfs
          go_wp2_with fail
          go_loopw [14] (fun i wr => ∃ (k a f : Nat), k ≤ xs.length ∧ i = .int .i64 (k : Int) ∧ RdIs wr bs vs (E.take p) a f ∧ Cod.CutAt (E.take p) (xs.map toIt) p k a f ∧ Mod [bs] w11 wr) (fun i _ => xs.length - (intOf i).toNat)
          case atStart => exact ⟨0, 0, 0, Nat.zero_le _, rfl, hr11, .inr ⟨rfl, by simp [Cod.encs], Nat.zero_le _⟩, Mod.refl _ _⟩
          case round =>
            obtain ⟨k, a, f, hk, rfl, hrk, hcut, hmk⟩ := hrel
            have mk : Mod [] w wr := hw11.trans hmk (fun t ht => .inr (by simp at ht; subst ht; omega))
            by_cases hlt : k < xs.length
            · obtain ⟨bi, off, rfl, c0, c1, c2⟩ := hi.cell (wr := wr) (fun p u hc => mk.cell hc (by simp)) hlt
              have hgx := hi.1 xs[k] (List.getElem_mem _)
              have hsx : xs[k].s.size ≤ weight xs := size_le_weight (List.getElem_mem _)
              have hkl : k < (xs.map toIt).length := by simpa using hlt
              have hstep := Cod.cut_step (xs := xs.map toIt) (l := E.take p) (by rw [HE.out]) (by rw [← HE.out]; exact hp2) hkl (by rw [List.getElem_map]; exact good_toIt hgx (by omega)) hcut
              rw [List.getElem_map] at hstep
              have hcall := reads_any bs vs _ _ _ xs[k] _ wr hrk hgx (by omega) rfl
              generalize (toIt xs[k]).rd (E.take p) a f = r at *
              obtain ⟨ra, rf, rb⟩ := r
              have HS := Lib.hid hstep
              have HC := Lib.hid hcall
              clear hcall hgx hstep hcut
              go_wp2_with fail
              refine HC.out.mono ?_
              rintro e w12 ⟨rfl, hr12, hm12⟩
              have hrel12 : Mod [bs] w11 w12 := hmk.trans hm12 (fun t ht => .inl ht)
              clear hm12 HC
              go_wp2_with fail
              go_roundw
              case rel => exact ⟨k + 1, ra, rf, by omega, by go_num, hr12, HS.out, hrel12⟩
              case measure => simp [intOf]; omega
            · obtain rfl : k = xs.length := by omega
              have hf10 : f = 10 := by
                rcases hcut with h | ⟨-, h1, h2⟩
                · exact h
                · rw [List.take_of_length_le (by simp), ← HE.out] at h1
                  omega
              subst hf10
              clear hcut hlt
              go_wp2_with fail
              refine (Fault_any _ _ _ _ _ _ hrk).mono ?_
              rintro e w13 ⟨rfl, rfl⟩
              go_wp2_with fail
              have hce := End_any _ _ _ _ _ _ hrk
              rw [show endF (E.take p) a 10 = 10 from by unfold endF; rw [if_neg (by omega)]] at hce
              have HC := Lib.hid hce
              clear hce
              refine HC.out.mono ?_
              rintro e w14 ⟨rfl, hm14⟩
              go_wp2_with fail
              go_ret
              exact ⟨rfl, mk.trans hm14 (by simp)⟩
end Go.Proofs.Ytaaeahhcbmnbgaa
