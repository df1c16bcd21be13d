/- THE REFERENCE's TEXTS: unquoted. Printed by wip/gen_ruq.py. -/
import Derived.Test.YthdkaoegegiheaaDoorVaRefT1
import Derived.Deep.DeepCutAuto
import Derived.Deep.RegionHeld3
namespace Go.Proofs.YthdkaoegegiheaaDoor
open Go.RowKit
set_option linter.unusedVariables false
set_option linter.unusedSimpArgs false
set_option maxRecDepth 100000

/-- the loop over what stands between the quotes -/
structure RU (s : ByteArray) (w wr : World) (va : Option Addr) (vc : Nat) (acc : List Nat) (k K : Nat) : Prop where
  row : wr.ownsRow 0 5 1 (.slice va acc.length vc) acc.length (toCells acc)
  new : ∀ b ∈ fp (.slice va acc.length vc), w.heap.size ≤ b
  len : acc.length + 1 ≤ k
  byte : ∀ c ∈ acc, c < 256
  fuel : s.size < K + k
  eq : Va.ruq (Cod.str s) = acc ++ Va.ruqF K ((Cod.str s).drop k)
  mod : Mod [] w wr
theorem RU.step {s : ByteArray} {w wr : World} {va : Option Addr} {vc : Nat} {acc : List Nat} {k K : Nat} (h : RU s w wr va vc acc k (K + 1)) {b m : Nat} (hb : b < 256) (hm1 : 1 ≤ m)
    (he : Va.ruqF (K + 1) ((Cod.str s).drop k) = b :: Va.ruqF K ((Cod.str s).drop (k + m))) {w1 w3 : World} {v' : Value} (h1 : Mod [] wr w1)
    (hown : w3.ownsRow 0 5 1 v' (acc.length + 1) (toCells acc ++ toCells [b])) (hm : Mod (fp (.slice va acc.length vc)) w1 w3) (hf : ∀ b ∈ fp v', b ∈ fp (.slice va acc.length vc) ∨ wr.heap.size ≤ b) :
    ∃ va' vc', v' = .slice va' (acc ++ [b]).length vc' ∧ RU s w w3 va' vc' (acc ++ [b]) (k + m) K := by
  obtain ⟨va', vc', rfl⟩ := owns_slice hown
  rw [← toCells_append, show acc.length + 1 = (acc ++ [b]).length by simp] at hown
  have hl := h.len
  have hfu := h.fuel
  have hszw := h.mod.size
  refine ⟨va', vc', by simp, hown, fun c hc => ?_, ?_, fun c hc => ?_, ?_, ?_, ?_⟩
  · have hc' := hc
    rw [List.length_append] at hc'
    rcases hf c hc' with q | q
    · exact h.new c q
    · omega
  · rw [List.length_append]; simp; omega
  · rcases List.mem_append.1 hc with hc | hc
    · exact h.byte c hc
    · simp at hc; omega
  · omega
  · rw [h.eq, he]; simp
  · exact (h.mod.trans h1 (by simp)).trans hm (fun t ht => .inr (h.new t ht))
theorem drop2 {L : List Nat} {k : Nat} (h : k + 1 < L.length) : L.drop k = L[k] :: L[k + 1] :: L.drop (k + 2) := by
  rw [List.drop_eq_getElem_cons (by omega), List.drop_eq_getElem_cons (by omega)]
theorem ruq_one {L : List Nat} {k K : Nat} (h : k + 1 < L.length) (hc : L[k] ≠ 92) : Va.ruqF (K + 1) (L.drop k) = L[k] :: Va.ruqF K (L.drop (k + 1)) := by
  rw [drop2 h, Va.ruqF_one _ _ _ _ hc, List.drop_eq_getElem_cons (show k + 1 < L.length by omega)]
theorem ruq_n {L : List Nat} {k K : Nat} (h : k + 1 < L.length) (hc : L[k] = 92) (hx : L[k + 1] = 110) : Va.ruqF (K + 1) (L.drop k) = 10 :: Va.ruqF K (L.drop (k + 2)) := by
  rw [drop2 h, hc, Va.ruqF_esc, if_pos hx]
def hexB (L : List Nat) (k : Nat) : Bool := decide (k + 4 < L.length) && ((Va.hf (L.getD (k + 2) 0)).isSome && (Va.hf (L.getD (k + 3) 0)).isSome)
theorem ruq_x {L : List Nat} {k K a b : Nat} (h : k + 4 < L.length) (hc : L[k] = 92) (hx : L[k + 1] = 120) (ha : Va.hf (L.getD (k + 2) 0) = some a) (hb : Va.hf (L.getD (k + 3) 0) = some b) :
    Va.ruqF (K + 1) (L.drop k) = (a * 16 + b) :: Va.ruqF K (L.drop (k + 4)) := by
  have hh : Va.hx2 (L.drop (k + 2)) = some (a * 16 + b) := by
    unfold Va.hx2
    have e1 : (L.drop (k + 2)).headD 0 = L.getD (k + 2) 0 := by rw [List.headD_eq_head?_getD, List.head?_drop, List.getD_eq_getElem?_getD]
    have e2 : ((L.drop (k + 2)).drop 1).headD 0 = L.getD (k + 3) 0 := by rw [List.drop_drop, List.headD_eq_head?_getD, List.head?_drop, List.getD_eq_getElem?_getD]
    rw [e1, e2, ha, hb]
  rw [drop2 (by omega), hc, Va.ruqF_esc, hx, if_neg (by omega), if_pos ⟨rfl, by rw [List.length_drop]; omega⟩, hh]
  simp only
  rw [List.drop_drop]
theorem ruq_d {L : List Nat} {k K : Nat} (h : k + 1 < L.length) (hc : L[k] = 92) (hx : L[k + 1] ≠ 110) (hn : ¬ (L[k + 1] = 120 ∧ hexB L k = true)) : Va.ruqF (K + 1) (L.drop k) = L[k + 1] :: Va.ruqF K (L.drop (k + 2)) := by
  rw [drop2 h, hc, Va.ruqF_esc, if_neg hx]
  have hh : (if L[k + 1] = 120 ∧ 3 ≤ (L.drop (k + 2)).length then Va.hx2 (L.drop (k + 2)) else none) = none := by
    split
    · rename_i hq
      have hl := hq.2
      rw [List.length_drop] at hl
      have e1 : (L.drop (k + 2)).headD 0 = L.getD (k + 2) 0 := by rw [List.headD_eq_head?_getD, List.head?_drop, List.getD_eq_getElem?_getD]
      have e2 : ((L.drop (k + 2)).drop 1).headD 0 = L.getD (k + 3) 0 := by rw [List.drop_drop, List.headD_eq_head?_getD, List.head?_drop, List.getD_eq_getElem?_getD]
      unfold Va.hx2
      rw [e1, e2]
      cases ha : Va.hf (L.getD (k + 2) 0) with
      | none => rfl
      | some a =>
        cases hb : Va.hf (L.getD (k + 3) 0) with
        | none => rfl
        | some b =>
          exfalso
          refine hn ⟨hq.1, ?_⟩
          unfold hexB
          rw [ha, hb]
          simp; omega
    · rfl
  rw [hh]
theorem hfV_none {c : Nat} (h : Va.hf c = none) : hfV c = -1 := by unfold hfV; rw [h]
theorem hfV_some {c d : Nat} (h : Va.hf c = some d) : hfV c = (d : Int) ∧ d < 16 := by
  refine ⟨by unfold hfV; rw [h], ?_⟩
  unfold Va.hf at h
  split at h
  · simp at h; omega
  · split at h
    · simp at h; omega
    · simp at h

set_option maxHeartbeats 8000000 in
theorem vunquoted_any (s : ByteArray) (hs2 : s.size ≤ 1000000) (hs0 : 1 ≤ s.size) (w : World) :
    Calls Tryd.prog 82 #[.string s] w fun e w' => e = .returned (.string (Lx.ofS (Va.ruq (Cod.str s)))) ∧ Mod [] w w' := by
  obtain ⟨i0, hinf, hz0, hz1, hz2⟩ := info_parts Tryd.infoU8
  have hll := Cod.str_len s
  have hlb := Cod.str_lt s
  have hgetr : ∀ (k : Nat) (h : k < s.size) (h2 : k < (Cod.str s).length), s[k].toNat = (Cod.str s)[k] := fun k h h2 => by
    have := Lx.get_str s k h
    rw [← this, List.getD_eq_getElem?_getD, List.getElem?_eq_getElem h2]; rfl
  have HLL := Lib.hid hll; have HLB := Lib.hid hlb; have HGR := Lib.hid hgetr
  clear hll hlb hgetr
  go_enter Tryd.func82, Tryd.ntmps82
  go_wp2_with fail
  go_loopw [3, 4] (fun vv iv wr => ∃ (acc : List Nat) (va : Option Addr) (vc k K : Nat), k ≤ s.size ∧ vv = .slice va acc.length vc ∧ iv = .int .i64 (k : Nat) ∧ RU s w wr va vc acc k K) (fun _ iv _ => s.size - (intOf iv).toNat)
  case atStart => exact ⟨[], none, 0, 1, (Cod.str s).length + 1, by omega, rfl, rfl, ⟨World.ownsRow_nil _ _ _ _, by simp [fp], Nat.le_refl _, by simp, by rw [HLL.out]; omega, rfl, Mod.refl _ _⟩⟩
  case round =>
    obtain ⟨acc, va, vc, k, K, hk, rfl, rfl, hU⟩ := hrel
    have hU1 := hU.len
    have hU2 := hU.fuel
    have hown := hU.row
    by_cases hlt : k + 1 < s.size
    · obtain ⟨K, rfl⟩ : ∃ K', K = K' + 1 := ⟨K - 1, by omega⟩
      have HU := Lib.hid hU
      have hkI : (k : Int) + 1 < (s.size : Int) := by omega
      have hkI2 : (k : Int) < (s.size : Int) := by omega
      have hk0 : (0 : Int) ≤ (k : Int) := by omega
      have hk01 : (0 : Int) ≤ (k : Int) + 1 := by omega
      have hlt0 : k < s.size := by omega
      have hL1 : k + 1 < (Cod.str s).length := by rw [HLL.out]; exact hlt
      have hL0 : k < (Cod.str s).length := by rw [HLL.out]; exact hlt0
      have hg0 := HGR.out k hlt0 hL0
      have hg1 := HGR.out (k + 1) hlt hL1
      have hc0 := HLB.out _ (List.getElem_mem hL0)
      have hc1 := HLB.out _ (List.getElem_mem hL1)
      have h1 := Lib.hid (fun hc => ruq_one (K := K) hL1 hc)
      have h2 := Lib.hid (fun hc hx => ruq_n (K := K) hL1 hc hx)
      have h3 := Lib.hid (fun a b h hc hx ha hb => ruq_x (L := Cod.str s) (k := k) (K := K) (a := a) (b := b) h hc hx ha hb)
      have h4 := Lib.hid (fun hc hx hn => ruq_d (K := K) hL1 hc hx hn)
      generalize hcd : (Cod.str s)[k] = c at *
      generalize hxd : (Cod.str s)[k + 1] = x at *
      have HC := Lib.hid hcd; have HX := Lib.hid hxd
      clear hcd hxd hU
      by_cases c92 : c = 92
      · by_cases x110 : x = 110
        · have HE := Lib.hid (h2.out c92 x110)
          have hcI : ((c : Int) != 92) = false := by rw [c92]; rfl
          have hxI : ((x : Int) == 110) = true := by rw [x110]; rfl
          clear h1 h2 h3 h4 c92 x110
          have hsrc := src_lit (l := [10]) (heap_alloc_new wr (Obj.cells #[Value.int IntKind.u8 10] 5)) rfl
          have hma : Mod [] wr (wr.alloc (Obj.cells #[Value.int IntKind.u8 10] 5)) := (Mod.refl [] wr).alloc _
          have HSRC := Lib.hid hsrc; have HMA := Lib.hid hma
          clear hsrc hma
          go_wp2_with (at_builtin; refine wpList_append_src _ rfl _ _ 64 64 rfl 5 i0 (.int .u8 0) 1 1 Tryd.underlying64 hinf hz0 hz1 hz2 rfl (.slice va acc.length vc) acc.length (toCells acc) rfl (HU.out.row.alloc _) _ 1 (toCells [10]) rfl HSRC.out (by unfold maxLen; omega) (by omega) ?_)
          intro v' w3 hown3 hm3 hf3 hn3
          obtain ⟨va3, vc3, rfl, hU3⟩ := HU.out.step (m := 2) (by decide) (by omega) HE.out HMA.out hown3 hm3 (fun b hb => (hf3 b hb).imp id (fun h => by first | omega | (simp at h; omega)))
          have HU3 := Lib.hid hU3
          clear hown3 hm3 hf3 hn3 hU3
          go_wp2_with fail
          go_roundw
          case rel => exact ⟨_, va3, vc3, k + 2, K, by omega, rfl, by go_num, HU3.out⟩
          case measure => simp [intOf]; omega
        · have hcI : ((c : Int) != 92) = false := by rw [c92]; rfl
          have hxI : ((x : Int) == 110) = false := by rw [beq_eq_false_iff_ne]; omega
          obtain ⟨B, hB⟩ : ∃ B : Bool, B = (decide (x = 120) && hexB (Cod.str s) k) := ⟨_, rfl⟩
          have HB := Lib.hid hB
          have HH := Lib.hid (fun c hc w => half_any c hc w)
          clear hB
          go_upto_region 11 with fail
          go_cut [38] (fun cv wx => cv = .bool B ∧ wx = wr)
          case first =>
            by_cases x120 : x = 120
            · have hxT : ((x : Int) == 120) = true := by rw [x120]; rfl
              by_cases h4k : k + 4 < s.size
              · have h4I : (k : Int) + 1 + 3 < (s.size : Int) := by omega
                have hp2 : (k : Int) + 1 + 1 < (s.size : Int) := by omega
                have hp20 : (0 : Int) ≤ (k : Int) + 1 + 1 := by omega
                have hp3 : (k : Int) + 1 + 2 < (s.size : Int) := by omega
                have hp30 : (0 : Int) ≤ (k : Int) + 1 + 2 := by omega
                have hn2 : ((k : Int) + 1 + 1).toNat = k + 2 := by omega
                have hn3 : ((k : Int) + 1 + 2).toNat = k + 3 := by omega
                have q2 : k + 2 < s.size := by omega
                have q3 : k + 3 < s.size := by omega
                have r2 : k + 2 < (Cod.str s).length := by rw [HLL.out]; exact q2
                have r3 : k + 3 < (Cod.str s).length := by rw [HLL.out]; exact q3
                have hg2 := HGR.out (k + 2) q2 r2
                have hg3 := HGR.out (k + 3) q3 r3
                have hd2 : (Cod.str s).getD (k + 2) 0 = (Cod.str s)[k + 2] := by rw [List.getD_eq_getElem?_getD, List.getElem?_eq_getElem r2]; rfl
                have hd3 : (Cod.str s).getD (k + 3) 0 = (Cod.str s)[k + 3] := by rw [List.getD_eq_getElem?_getD, List.getElem?_eq_getElem r3]; rfl
                have hl2 := HLB.out _ (List.getElem_mem r2)
                have hl3 := HLB.out _ (List.getElem_mem r3)
                have hBe : B = ((Va.hf ((Cod.str s).getD (k + 2) 0)).isSome && (Va.hf ((Cod.str s).getD (k + 3) 0)).isSome) := by
                  rw [HB.out, decide_eq_true x120, Bool.true_and]; unfold hexB
                  rw [decide_eq_true (show k + 4 < (Cod.str s).length by rw [HLL.out]; exact h4k), Bool.true_and]
                rw [hd2, hd3] at hBe
                clear hd2 hd3
                generalize (Cod.str s)[k + 2] = y at *
                generalize (Cod.str s)[k + 3] = z at *
                have HY := Lib.hid (fun w => HH.out y hl2 w)
                have HZ := Lib.hid (fun w => HH.out z hl3 w)
                cases hy : Va.hf y with
                | none =>
                  rw [hy] at hBe
                  rw [hfV_none hy] at HY
                  have hBf : B = false := by rw [hBe]; rfl
                  clear hBe hy HB h1 h2 h3 h4
                  subst hBf
                  go_wp2_with fail
                  refine (HY.out _).mono ?_
                  rintro e w1 ⟨rfl, rfl⟩
                  go_wp2_with fail
                  go_meet
                  exact ⟨rfl, rfl⟩
                | some a =>
                  rw [hy] at hBe
                  rw [(hfV_some hy).1] at HY
                  have ha0 : (a : Int) ≥ 0 := by omega
                  cases hz : Va.hf z with
                  | none =>
                    rw [hz] at hBe
                    rw [hfV_none hz] at HZ
                    have hBf : B = false := by rw [hBe]; rfl
                    clear hBe hy hz HB h1 h2 h3 h4
                    subst hBf
                    go_wp2_with fail
                    refine (HY.out _).mono ?_
                    rintro e w1 ⟨rfl, rfl⟩
                    go_wp2_with fail
                    refine (HZ.out _).mono ?_
                    rintro e w1 ⟨rfl, rfl⟩
                    go_wp2_with fail
                    go_meet
                    exact ⟨rfl, rfl⟩
                  | some b =>
                    rw [hz] at hBe
                    rw [(hfV_some hz).1] at HZ
                    have hb0 : (b : Int) ≥ 0 := by omega
                    have hBf : B = true := by rw [hBe]; rfl
                    clear hBe hy hz HB h1 h2 h3 h4
                    subst hBf
                    go_wp2_with fail
                    refine (HY.out _).mono ?_
                    rintro e w1 ⟨rfl, rfl⟩
                    go_wp2_with fail
                    refine (HZ.out _).mono ?_
                    rintro e w1 ⟨rfl, rfl⟩
                    go_wp2_with fail
                    go_meet
                    exact ⟨rfl, rfl⟩
              · have h4I : ¬ (k : Int) + 1 + 3 < (s.size : Int) := by omega
                have hBf : B = false := by
                  rw [HB.out]; unfold hexB
                  rw [decide_eq_false (show ¬ k + 4 < (Cod.str s).length by rw [HLL.out]; exact h4k)]; simp
                clear HB h1 h2 h3 h4
                subst hBf
                go_wp2_with fail
                go_meet
                exact ⟨rfl, rfl⟩
            · have hxT : ((x : Int) == 120) = false := by rw [beq_eq_false_iff_ne]; omega
              have hBf : B = false := by rw [HB.out, decide_eq_false x120]; rfl
              clear HB h1 h2 h3 h4
              subst hBf
              go_wp2_with fail
              go_meet
              exact ⟨rfl, rfl⟩
          case rest =>
            obtain ⟨rfl, rfl⟩ := hcut
            by_cases hBt : B = true
            · have hBB := HB.out
              rw [hBt] at hBB
              have hbb := hBB.symm
              rw [Bool.and_eq_true, decide_eq_true_eq] at hbb
              obtain ⟨x120, hx⟩ := hbb
              unfold hexB at hx
              rw [Bool.and_eq_true, Bool.and_eq_true, decide_eq_true_eq] at hx
              obtain ⟨r4, hys, hzs⟩ := hx
              have h4k : k + 4 < s.size := by rw [← HLL.out]; exact r4
              have q2 : k + 2 < s.size := by omega
              have q3 : k + 3 < s.size := by omega
              have r2 : k + 2 < (Cod.str s).length := by rw [HLL.out]; exact q2
              have r3 : k + 3 < (Cod.str s).length := by rw [HLL.out]; exact q3
              obtain ⟨a, ha⟩ := Option.isSome_iff_exists.1 hys
              obtain ⟨b, hb⟩ := Option.isSome_iff_exists.1 hzs
              have HE := Lib.hid (h3.out a b r4 (HC.out.trans c92) (HX.out.trans x120) ha hb)
              have hg2 := HGR.out (k + 2) q2 r2
              have hg3 := HGR.out (k + 3) q3 r3
              have hd2 : (Cod.str s).getD (k + 2) 0 = (Cod.str s)[k + 2] := by rw [List.getD_eq_getElem?_getD, List.getElem?_eq_getElem r2]; rfl
              have hd3 : (Cod.str s).getD (k + 3) 0 = (Cod.str s)[k + 3] := by rw [List.getD_eq_getElem?_getD, List.getElem?_eq_getElem r3]; rfl
              have hl2 := HLB.out _ (List.getElem_mem r2)
              have hl3 := HLB.out _ (List.getElem_mem r3)
              rw [hd2] at ha
              rw [hd3] at hb
              generalize (Cod.str s)[k + 2] = y at *
              generalize (Cod.str s)[k + 3] = z at *
              obtain ⟨va1, va2⟩ := hfV_some ha
              obtain ⟨vb1, vb2⟩ := hfV_some hb
              have hy := fun w => HH.out y hl2 w
              have hz := fun w => HH.out z hl3 w
              rw [va1] at hy
              rw [vb1] at hz
              have HY := Lib.hid hy; have HZ := Lib.hid hz
              have hp2 : (k : Int) + 1 + 1 < (s.size : Int) := by omega
              have hp20 : (0 : Int) ≤ (k : Int) + 1 + 1 := by omega
              have hp3 : (k : Int) + 1 + 2 < (s.size : Int) := by omega
              have hp30 : (0 : Int) ≤ (k : Int) + 1 + 2 := by omega
              have hn2 : ((k : Int) + 1 + 1).toNat = k + 2 := by omega
              have hn3 : ((k : Int) + 1 + 2).toNat = k + 3 := by omega
              have hw : ∀ n : Int, 0 ≤ n → n ≤ 1000000000 → IntKind.i64.wrap n = n := fun n h1 h2 => by simp [IntKind.wrap, IntKind.signed, IntKind.bits]; omega
              have hw2 := hw ((k : Int) + 1 + 1) (by omega) (by omega)
              have hw3 := hw ((k : Int) + 1 + 2) (by omega) (by omega)
              have hw4 := hw ((a : Int) * 16) (by omega) (by omega)
              have hw5 := hw ((a : Int) * 16 + (b : Int)) (by omega) (by omega)
              have hw6 : IntKind.u8.wrap ((a : Int) * 16 + (b : Int)) = ((a * 16 + b : Nat) : Int) := by simp [IntKind.wrap, IntKind.signed, IntKind.bits]; omega
              have hab : a * 16 + b < 256 := by omega
              subst hBt
              clear hBB HB h1 h2 h3 h4 c92 x110 hy hz ha hb va1 vb1 hys hzs hd2 hd3 hw
              obtain ⟨q, hq⟩ : ∃ q, q = a * 16 + b := ⟨_, rfl⟩
              rw [← hq] at hw6 hab HE
              have hsrc := src_lit (l := [q]) (drew_at (heap_alloc_new wc (Obj.cells #[Value.int IntKind.u8 (q : Int)] 5))) rfl
              have hma : Mod [] wc ((wc.alloc (Obj.cells #[Value.int IntKind.u8 (q : Int)] 5)).drew) := ((Mod.refl [] wc).alloc _).drew
              have hrow : ((wc.alloc (Obj.cells #[Value.int IntKind.u8 (q : Int)] 5)).drew).ownsRow 0 5 1 (.slice va acc.length vc) acc.length (toCells acc) := hown.alloc _
              have HSRC := Lib.hid hsrc; have HMA := Lib.hid hma; have HROW := Lib.hid hrow
              clear hsrc hma hrow hq
              go_wp2_with fail
              refine wp_region_held_drew (S := (fun w' : World => wc.heap.size ≤ w'.heap.size)) (by kernel_rfl) (by (try dsimp only); exact (Mod.refl [] wc).drew.size) (fun hHeld => ?_)
              refine wpAnyH_take (i := 0) (oi := ?_) (v := ?_) ?_ ?_ ?_ ?_ ?_ ?_ (by assumption) ?_
              rotate_left 2
              · (simp only [List.getElem?_toArray, List.getElem?_cons_succ, List.getElem?_cons_zero]) <;> rfl
              · kernel_rfl
              · kernel_rfl
              · kernel_rfl
              rotate_left 1
              · refine Or.inl ⟨by rfl, ?_⟩
                intro w hSw
                (try dsimp only at hSw)
                go_simp
                all_goals with_reducible rfl
              rotate_left 1
              · exact fun _ _ _ h => h
              try simp only [Act.put, List.setIfInBounds_toArray, List.set_cons_zero, List.set_cons_succ]
              refine wpAnyH_take (i := 1) (oi := ?_) (v := ?_) ?_ ?_ ?_ ?_ ?_ ?_ (by assumption) ?_
              rotate_left 2
              · (simp only [List.getElem?_toArray, List.getElem?_cons_succ, List.getElem?_cons_zero]) <;> rfl
              · kernel_rfl
              · kernel_rfl
              · kernel_rfl
              rotate_left 1
              · refine Or.inl ⟨by rfl, ?_⟩
                intro w hSw
                (try dsimp only at hSw)
                go_simp
                all_goals with_reducible rfl
              rotate_left 1
              · exact fun _ _ _ h => h
              try simp only [Act.put, List.setIfInBounds_toArray, List.set_cons_zero, List.set_cons_succ]
              refine wpAnyH_take (i := 2) (oi := ?_) (v := ?_) ?_ ?_ ?_ ?_ ?_ ?_ (by assumption) ?_
              rotate_left 2
              · (simp only [List.getElem?_toArray, List.getElem?_cons_succ, List.getElem?_cons_zero]) <;> rfl
              · kernel_rfl
              · kernel_rfl
              · kernel_rfl
              rotate_left 1
              · refine Or.inl ⟨by rfl, ?_⟩
                intro w hSw
                (try dsimp only at hSw)
                go_simp
                all_goals with_reducible rfl
              rotate_left 1
              · exact fun _ _ _ h => h
              try simp only [Act.put, List.setIfInBounds_toArray, List.set_cons_zero, List.set_cons_succ]
              refine wpAnyH_take (i := 3) (oi := ?_) (v := ?_) ?_ ?_ ?_ ?_ ?_ ?_ (by assumption) ?_
              rotate_left 2
              · (simp only [List.getElem?_toArray, List.getElem?_cons_succ, List.getElem?_cons_zero]) <;> rfl
              · kernel_rfl
              · kernel_rfl
              · kernel_rfl
              rotate_left 1
              · refine Or.inl ⟨by rfl, ?_⟩
                intro w hSw
                (try dsimp only at hSw)
                go_simp
                all_goals with_reducible rfl
              rotate_left 1
              · exact fun _ _ _ h => h
              try simp only [Act.put, List.setIfInBounds_toArray, List.set_cons_zero, List.set_cons_succ]
              refine wpAnyH_take (i := 4) (oi := ?_) (v := ?_) ?_ ?_ ?_ ?_ ?_ ?_ (by assumption) ?_
              rotate_left 2
              · (simp only [List.getElem?_toArray, List.getElem?_cons_succ, List.getElem?_cons_zero]) <;> rfl
              · kernel_rfl
              · kernel_rfl
              · kernel_rfl
              rotate_left 1
              · refine Or.inl ⟨by rfl, ?_⟩
                intro w hSw
                (try dsimp only at hSw)
                go_simp
                all_goals with_reducible rfl
              rotate_left 1
              · exact fun _ _ _ h => h
              try simp only [Act.put, List.setIfInBounds_toArray, List.set_cons_zero, List.set_cons_succ]
              refine wpAnyH_take (i := 7) (oi := ?_) (v := ?_) ?_ ?_ ?_ ?_ ?_ ?_ (by assumption) ?_
              rotate_left 2
              · (simp only [List.getElem?_toArray, List.getElem?_cons_succ, List.getElem?_cons_zero]) <;> rfl
              · kernel_rfl
              · kernel_rfl
              · kernel_rfl
              rotate_left 1
              · refine Or.inl ⟨by rfl, ?_⟩
                intro w hSw
                (try dsimp only at hSw)
                go_simp
                all_goals with_reducible rfl
              rotate_left 1
              · exact fun _ _ _ h => h
              try simp only [Act.put, List.setIfInBounds_toArray, List.set_cons_zero, List.set_cons_succ]
              refine wpAnyH_take (i := 8) (oi := ?_) (v := ?_) ?_ ?_ ?_ ?_ ?_ ?_ (by assumption) ?_
              rotate_left 2
              · (simp only [List.getElem?_toArray, List.getElem?_cons_succ, List.getElem?_cons_zero]) <;> rfl
              · kernel_rfl
              · kernel_rfl
              · kernel_rfl
              rotate_left 1
              · refine Or.inl ⟨by rfl, ?_⟩
                intro w hSw
                (try dsimp only at hSw)
                go_simp
                all_goals with_reducible rfl
              rotate_left 1
              · exact fun _ _ _ h => h
              try simp only [Act.put, List.setIfInBounds_toArray, List.set_cons_zero, List.set_cons_succ]
              refine wpAnyH_take (i := 9) (oi := ?_) (v := ?_) ?_ ?_ ?_ ?_ ?_ ?_ (by assumption) ?_
              rotate_left 2
              · (simp only [List.getElem?_toArray, List.getElem?_cons_succ, List.getElem?_cons_zero]) <;> rfl
              · kernel_rfl
              · kernel_rfl
              · kernel_rfl
              rotate_left 1
              · refine Or.inl ⟨by rfl, ?_⟩
                intro w hSw
                (try dsimp only at hSw)
                go_simp
                all_goals with_reducible rfl
              rotate_left 1
              · exact fun _ _ _ h => h
              try simp only [Act.put, List.setIfInBounds_toArray, List.set_cons_zero, List.set_cons_succ]
              refine wpAnyH_take (i := 10) (oi := ?_) (v := ?_) ?_ ?_ ?_ ?_ ?_ ?_ (by assumption) ?_
              rotate_left 2
              · (simp only [List.getElem?_toArray, List.getElem?_cons_succ, List.getElem?_cons_zero]) <;> rfl
              · kernel_rfl
              · kernel_rfl
              · kernel_rfl
              rotate_left 1
              · refine Or.inl ⟨by rfl, ?_⟩
                intro w hSw
                (try dsimp only at hSw)
                go_simp
                all_goals with_reducible rfl
              rotate_left 1
              · exact fun _ _ _ h => h
              try simp only [Act.put, List.setIfInBounds_toArray, List.set_cons_zero, List.set_cons_succ]
              refine wpAnyH_ready (rs := [5]) (by kernel_rfl) (by simp) ?_
              refine AllReadyH.cons (o := ?_) ?_ ?_ AllReadyH.nil
              rotate_left 1
              · (simp only [List.getElem?_toArray, List.getElem?_cons_succ, List.getElem?_cons_zero]) <;> rfl
              intro K hK
              go_simp
              refine (HY.out _).mono ?_
              rintro e w1 ⟨rfl, rfl⟩
              refine hK.out _ _ (by (try dsimp only); exact (Mod.refl [] wc).drew.size) (fun hHeld => ?_)
              clear hK K
              try simp only [Act.put, List.setIfInBounds_toArray, List.set_cons_zero, List.set_cons_succ]
              refine wpAnyH_take (i := 6) (oi := ?_) (v := ?_) ?_ ?_ ?_ ?_ ?_ ?_ (by assumption) ?_
              rotate_left 2
              · (simp only [List.getElem?_toArray, List.getElem?_cons_succ, List.getElem?_cons_zero]) <;> rfl
              · kernel_rfl
              · kernel_rfl
              · kernel_rfl
              rotate_left 1
              · refine Or.inl ⟨by rfl, ?_⟩
                intro w hSw
                (try dsimp only at hSw)
                go_simp
                all_goals with_reducible rfl
              rotate_left 1
              · exact fun _ _ _ h => h
              try simp only [Act.put, List.setIfInBounds_toArray, List.set_cons_zero, List.set_cons_succ]
              refine wpAnyH_ready (rs := [11]) (by kernel_rfl) (by simp) ?_
              refine AllReadyH.cons (o := ?_) ?_ ?_ AllReadyH.nil
              rotate_left 1
              · (simp only [List.getElem?_toArray, List.getElem?_cons_succ, List.getElem?_cons_zero]) <;> rfl
              intro K hK
              go_simp
              refine (HZ.out _).mono ?_
              rintro e w1 ⟨rfl, rfl⟩
              refine hK.out _ _ (by (try dsimp only); exact (Mod.refl [] wc).drew.size) (fun hHeld => ?_)
              clear hK K
              try simp only [Act.put, List.setIfInBounds_toArray, List.set_cons_zero, List.set_cons_succ]
              refine wpAnyH_take (i := 12) (oi := ?_) (v := ?_) ?_ ?_ ?_ ?_ ?_ ?_ (by assumption) ?_
              rotate_left 2
              · (simp only [List.getElem?_toArray, List.getElem?_cons_succ, List.getElem?_cons_zero]) <;> rfl
              · kernel_rfl
              · kernel_rfl
              · kernel_rfl
              rotate_left 1
              · refine Or.inl ⟨by rfl, ?_⟩
                intro w hSw
                (try dsimp only at hSw)
                go_simp
                all_goals with_reducible rfl
              rotate_left 1
              · exact fun _ _ _ h => h
              try simp only [Act.put, List.setIfInBounds_toArray, List.set_cons_zero, List.set_cons_succ]
              refine wpAnyH_take (i := 13) (oi := ?_) (v := ?_) ?_ ?_ ?_ ?_ ?_ ?_ (by assumption) ?_
              rotate_left 2
              · (simp only [List.getElem?_toArray, List.getElem?_cons_succ, List.getElem?_cons_zero]) <;> rfl
              · kernel_rfl
              · kernel_rfl
              · kernel_rfl
              rotate_left 1
              · refine Or.inl ⟨by rfl, ?_⟩
                intro w hSw
                (try dsimp only at hSw)
                go_simp
                all_goals with_reducible rfl
              rotate_left 1
              · exact fun _ _ _ h => h
              try simp only [Act.put, List.setIfInBounds_toArray, List.set_cons_zero, List.set_cons_succ]
              refine wpAnyH_ready (rs := [14]) (by kernel_rfl) (by simp) ?_
              refine AllReadyH.cons (o := ?_) ?_ ?_ AllReadyH.nil
              rotate_left 1
              · (simp only [List.getElem?_toArray, List.getElem?_cons_succ, List.getElem?_cons_zero]) <;> rfl
              intro K hK
              go_simp
              refine hK.out _ _ (by (try dsimp only); exact ((Mod.refl [] wc).alloc _).drew.size) (fun hHeld => ?_)
              clear hK K
              try simp only [Act.put, List.setIfInBounds_toArray, List.set_cons_zero, List.set_cons_succ]
              refine wpAnyH_ready (rs := [15]) (by kernel_rfl) (by simp) ?_
              refine AllReadyH.cons (o := ?_) ?_ ?_ AllReadyH.nil
              rotate_left 1
              · (simp only [List.getElem?_toArray, List.getElem?_cons_succ, List.getElem?_cons_zero]) <;> rfl
              intro K hK
              refine step_append_src _ rfl _ _ 64 64 rfl 5 i0 (.int .u8 0) 1 1 Tryd.underlying64 hinf hz0 hz1 hz2 rfl (.slice va acc.length vc) acc.length (toCells acc) rfl HROW.out _ 1 (toCells [q]) rfl HSRC.out (by unfold maxLen; omega) (by omega) ?_
              intro v' w3 hown3 hm3 hf3
              refine hK.out _ _ (by (try dsimp only); exact Nat.le_trans HMA.out.size hm3.size) (fun hHeld => ?_)
              clear hK K
              try simp only [Act.put, List.setIfInBounds_toArray, List.set_cons_zero, List.set_cons_succ]
              refine wpAnyH_take (i := 16) (oi := ?_) (v := ?_) ?_ ?_ ?_ ?_ ?_ ?_ (by assumption) ?_
              rotate_left 2
              · (simp only [List.getElem?_toArray, List.getElem?_cons_succ, List.getElem?_cons_zero]) <;> rfl
              · kernel_rfl
              · kernel_rfl
              · kernel_rfl
              rotate_left 1
              · refine Or.inl ⟨by rfl, ?_⟩
                intro w hSw
                (try dsimp only at hSw)
                go_simp
                all_goals with_reducible rfl
              rotate_left 1
              · exact fun _ _ _ h => h
              try simp only [Act.put, List.setIfInBounds_toArray, List.set_cons_zero, List.set_cons_succ]
              refine wpAnyH_done (by kernel_rfl) ?_ _
              obtain ⟨va3, vc3, rfl, hU3⟩ := HU.out.step (m := 4) hab (by omega) HE.out HMA.out hown3 hm3 (fun b hb => (hf3 b hb).imp id (fun h => by have := HMA.out.size; omega))
              have HU3 := Lib.hid hU3
              clear hown3 hm3 hf3 hU3
              go_wp2_with fail
              go_roundw
              case rel => exact ⟨_, va3, vc3, k + 4, K, by omega, rfl, by go_num, HU3.out⟩
              case measure => simp [intOf]; omega
            · have hBf : B = false := by simpa using hBt
              have HE := Lib.hid (h4.out c92 x110 (by
                intro h
                refine hBt ?_
                rw [HB.out, decide_eq_true h.1, h.2]; rfl))
              clear HB h1 h2 h3 h4 hBt c92 x110
              subst hBf
              have hsrc := src_lit (l := [x]) (heap_alloc_new wc (Obj.cells #[Value.int IntKind.u8 (x : Int)] 5)) rfl
              have hma : Mod [] wc (wc.alloc (Obj.cells #[Value.int IntKind.u8 (x : Int)] 5)) := (Mod.refl [] wc).alloc _
              have HSRC := Lib.hid hsrc; have HMA := Lib.hid hma
              clear hsrc hma
              go_wp2_with (at_builtin; refine wpList_append_src _ rfl _ _ 64 64 rfl 5 i0 (.int .u8 0) 1 1 Tryd.underlying64 hinf hz0 hz1 hz2 rfl (.slice va acc.length vc) acc.length (toCells acc) rfl (HU.out.row.alloc _) _ 1 (toCells [x]) rfl HSRC.out (by unfold maxLen; omega) (by omega) ?_)
              intro v' w3 hown3 hm3 hf3 hn3
              obtain ⟨va3, vc3, rfl, hU3⟩ := HU.out.step (m := 2) hc1 (by omega) HE.out HMA.out hown3 hm3 (fun b hb => (hf3 b hb).imp id (fun h => by first | omega | (simp at h; omega)))
              have HU3 := Lib.hid hU3
              clear hown3 hm3 hf3 hn3 hU3
              go_wp2_with fail
              go_roundw
              case rel => exact ⟨_, va3, vc3, k + 2, K, by omega, rfl, by go_num, HU3.out⟩
              case measure => simp [intOf]; omega
      · have hcI : ((c : Int) != 92) = true := by rw [bne_iff_ne]; omega
        have HE := Lib.hid (h1.out c92)
        clear h1 h2 h3 h4 c92
        have hsrc := src_lit (l := [c]) (heap_alloc_new wr (Obj.cells #[Value.int IntKind.u8 (c : Int)] 5)) rfl
        have hma : Mod [] wr (wr.alloc (Obj.cells #[Value.int IntKind.u8 (c : Int)] 5)) := (Mod.refl [] wr).alloc _
        have HSRC := Lib.hid hsrc; have HMA := Lib.hid hma
        clear hsrc hma
        go_wp2_with (at_builtin; refine wpList_append_src _ rfl _ _ 64 64 rfl 5 i0 (.int .u8 0) 1 1 Tryd.underlying64 hinf hz0 hz1 hz2 rfl (.slice va acc.length vc) acc.length (toCells acc) rfl (HU.out.row.alloc _) _ 1 (toCells [c]) rfl HSRC.out (by unfold maxLen; omega) (by omega) ?_)
        intro v' w3 hown3 hm3 hf3 hn3
        obtain ⟨va3, vc3, rfl, hU3⟩ := HU.out.step (m := 1) hc0 (by omega) HE.out HMA.out hown3 hm3 (fun b hb => (hf3 b hb).imp id (fun h => by first | omega | (simp at h; omega)))
        have HU3 := Lib.hid hU3
        clear hown3 hm3 hf3 hn3 hU3
        go_wp2_with fail
        go_roundw
        case rel => exact ⟨_, va3, vc3, k + 1, K, by omega, rfl, by go_num, HU3.out⟩
        case measure => simp [intOf]; omega
    · have hkI : ¬ (k : Int) + 1 < (s.size : Int) := by omega
      have hcv := conv_reads (reads_own hown hU.byte (by omega))
      have HE : Hid (Va.ruq (Cod.str s) = acc) := Lib.hid (by
        rw [hU.eq, Va.ruqF_end _ _ (by have := HLL.out; rw [List.length_drop]; omega), List.append_nil])
      have HM := Lib.hid hU.mod
      clear hU
      go_wp2_with fail
      go_ret
      exact ⟨by rw [HE.out]; rfl, HM.out⟩
end Go.Proofs.YthdkaoegegiheaaDoor
