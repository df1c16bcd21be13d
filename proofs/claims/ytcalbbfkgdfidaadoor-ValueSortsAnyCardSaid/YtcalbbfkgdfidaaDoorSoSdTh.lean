/- value.Sorted: a row of its own, sorted, each kind once. (Th) -/
import Derived.Test.YtcalbbfkgdfidaaDoorSoStTh
import Derived.Test.YtcalbbfkgdfidaaDoorSoCptTh
import Derived.Test.YtcalbbfkgdfidaaDoorSoOwn
namespace Go.Proofs.YtcalbbfkgdfidaaDoor
open Go.RowKit Go.Sort Go.Lib
set_option linter.unusedVariables false
set_option linter.unusedSimpArgs false
set_option maxRecDepth 100000


theorem Tryd.infoTh : (Tryd.prog.info? 37).map (fun i => (i.zero, i.size, i.bytes)) = some (some (.agg #[.int .i64 0, .bool false]), 2, 16) := by kernel_rfl
set_option maxHeartbeats 4000000 in
theorem cloneTh_any {enc : Nat → List Value} (E : Enc enc 2) (l : List Nat) (n g c : Nat) (w : World) (hn : l.length = n) (hR : Row enc 2 w g l) (hl : n * 16 ≤ 140737488355328) :
    Calls Tryd.prog 27 #[.slice (some ⟨g, 0, none⟩) n c] w fun e w' => ∃ q cap, e = .returned (.slice (some ⟨q, 0, none⟩) n cap) ∧ n ≤ cap ∧ Row enc 2 w' q l ∧ w.heap.size ≤ q ∧ q < w'.heap.size ∧ Mod [] w w' := by
  obtain ⟨i0, hinf, hz0, hz1, hz2⟩ := info_parts Tryd.infoTh
  have q1 : ∀ (w : World) (a : Option Addr) (n c n' c' : Nat), (binOp .eql 35 (.slice a n c) (.slice none n' c')).run Tryd.prog w = .ok (.bool a.isNone) w := fun w a n c n' c' => Lib.run_eql_slice_nil w _ _ a n c n' c' Tryd.underlying35
  have m1 := (Mod.refl [] w).alloc (Obj.cells #[] 37)
  have hgw : l = [] ∨ g < w.heap.size := by
    cases l with
    | nil => exact .inl rfl
    | cons x r =>
      right
      have h1 := hR 0 (by rw [size_flatK]; simp)
      rcases Nat.lt_or_ge g w.heap.size with h | h
      · exact h
      · have h2 := h1.1
        simp [World.cell?, Array.getElem?_eq_none h] at h2
  have hS1 : Src Tryd.prog 2 35 (.slice (some ⟨g, 0, none⟩) n c) n (flL enc 2 l) (w.alloc (Obj.cells #[] 37)) := by
    rw [← hn]
    rcases hgw with h | h
    · subst h; exact Src.ofSlice _ Tryd.underlying35 _ _ c _ (flL_len enc 2 []) (fun j u hu => by simp [flL, flatK] at hu) (by simp [flL, flatK])
    · exact (hR.past m1 h).src E _ _ Tryd.underlying35 c
  have S1 := Lib.hid hS1
  have O1 : Hid ((w.alloc (Obj.cells #[] 37)).ownsRow 0 37 2 (.slice (some ⟨w.heap.size, 0, none⟩) 0 0) 0 []) := Lib.hid (World.ownsRow_made w #[] 0 (Nat.zero_le _) (Nat.zero_le _) rfl)
  have M1 := Lib.hid m1
  have HN := Lib.hid hn
  clear hR m1 hS1 hgw hn
  go_enter Tryd.func27, Tryd.ntmps27
  go_wp2_with (at_builtin; refine wpList_append_src _ rfl _ _ 35 35 rfl 37 i0 (.agg #[.int .i64 0, .bool false]) 2 16 Tryd.underlying35 hinf hz0 hz1 hz2 rfl (.slice (some ⟨w.heap.size, 0, none⟩) 0 0) 0 [] rfl O1.out _ n (flL enc 2 l) rfl S1.out (by unfold maxLen; omega) (by omega) ?_)
  intro v' w1 hown hmod hfresh hnil
  have hm : Mod [] w w1 := M1.out.trans hmod (fun t ht => .inr (by simp [fp] at ht; omega))
  have hv : v' ≠ .slice none 0 0 := fun h => hnil h
  try rw [List.nil_append] at hown
  try rw [Nat.zero_add] at hown
  obtain ⟨q, cap, rfl, h1, h2, h3, h4⟩ := Row.own hown HN.out hv
  have hq : w.heap.size ≤ q := by
    have := hfresh q (by simp [fp]); simp [fp] at this; omega
  have HO : Hid (n ≤ cap ∧ Row enc 2 w1 q l ∧ w.heap.size ≤ q ∧ q < w1.heap.size ∧ Mod [] w w1) := Lib.hid ⟨h1, h3, hq, h4, hm⟩
  clear hown hmod hfresh hnil hm hv h1 h2 h3 h4 hq S1 O1 M1
  go_wp2_with fail
  go_ret
  exact ⟨q, cap, rfl, HO.out⟩
set_option maxHeartbeats 4000000 in
theorem sortStableTh_any {enc : Nat → List Value} {f : Nat → Nat → Int} (E : Enc enc 2) (n g cap : Nat) (W : World) (hC : CmpOk 11 enc f W g) (hR : Row enc 2 W g (List.range' 0 n)) (hg : g < W.heap.size) (hsz : n ≤ 1152921504606846976) :
    Calls Tryd.prog 28 #[.slice (some ⟨g, 0, none⟩) n cap, .func (.func 11) #[] #[]] W fun e W' => e = .returned (.tuple #[]) ∧ ∃ C, So.Chunk f 0 C ∧ C.length = n ∧ Row enc 2 W' g C ∧ Mod [g] W W' := by
  have HC := Lib.hid (stableTh_any E n g cap W hC hR hg hsz)
  clear E hC hR hg
  go_enter Tryd.func28, Tryd.ntmps28
  go_wp2_with fail
  refine Calls.mono HC.out ?_
  rintro e2 w2 ⟨rfl, h⟩
  have H := Lib.hid h
  clear h HC
  go_wp2_with fail
  go_end0
  exact ⟨rfl, H.out⟩
theorem clipTh_any (g n cap : Nat) (hc : n ≤ cap) (W : World) : Calls Tryd.prog 29 #[.slice (some ⟨g, 0, none⟩) n cap] W fun e W' => e = .returned (.slice (some ⟨g, 0, none⟩) n n) ∧ W' = W := by
  go_enter Tryd.func29, Tryd.ntmps29
  go_wp2_with fail
  go_ret
  exact ⟨rfl, rfl⟩
set_option maxHeartbeats 4000000 in
theorem sortedTh_any {enc : Nat → List Value} {f : Nat → Nat → Int} (E : Enc enc 2) (n h c : Nat) (w : World) (hC : ∀ w', Mod [] w w' → ∀ g, w.heap.size ≤ g → CmpOk 11 enc f w' g) (hR : Row enc 2 w h (List.range' 0 n)) (hl : n * 16 ≤ 140737488355328) :
    Calls Tryd.prog 10 #[.slice (some ⟨h, 0, none⟩) n c, .func (.func 11) #[] #[]] w fun e w' => ∃ q C, e = .returned (.slice (some ⟨q, 0, none⟩) (So.cpt f C).length (So.cpt f C).length) ∧ So.Chunk f 0 C ∧ C.length = n ∧ Row enc 2 w' q (So.cpt f C) ∧ w.heap.size ≤ q ∧ q < w'.heap.size ∧ Mod [] w w' := by
  have m1 := (Mod.refl [] w).alloc (Obj.cells #[.func (.func 11) #[] #[]] 39)
  have hgw : n = 0 ∨ h < w.heap.size := by
    cases n with
    | zero => exact .inl rfl
    | succ n =>
      right
      have h1 := hR 0 (by rw [size_flatK]; simp)
      rcases Nat.lt_or_ge h w.heap.size with h2 | h2
      · exact h2
      · have h3 := h1.1
        simp [World.cell?, Array.getElem?_eq_none h2] at h3
  have hR1 : Row enc 2 (w.alloc (Obj.cells #[.func (.func 11) #[] #[]] 39)) h (List.range' 0 n) := by
    rcases hgw with h1 | h1
    · subst h1; intro j hj; rw [size_flatK] at hj; simp at hj
    · exact hR.past m1 h1
  have HCl := Lib.hid (cloneTh_any E (List.range' 0 n) n h c _ (by simp) hR1 hl)
  have HE := Lib.hid E; have HC := Lib.hid hC; have M1 := Lib.hid m1
  have hb : (w.alloc (Obj.cells #[.func (.func 11) #[] #[]] 39)).cell? ⟨w.heap.size, 0, none⟩ = some (.func (.func 11) #[] #[]) := by unfold World.cell?; simp only [heap_alloc_new]; rfl
  have HB := Lib.hid hb
  have hsz1 : (w.alloc (Obj.cells #[.func (.func 11) #[] #[]] 39)).heap.size = w.heap.size + 1 := by simp
  have HSZ1 := Lib.hid hsz1
  clear E hC hR m1 hR1 hgw hb hsz1
  go_enter Tryd.func10, Tryd.ntmps10
  go_wp2_with fail
  refine Calls.mono HCl.out ?_
  rintro e2 w2 ⟨g, cap, rfl, hcap, r2, hg1, hg2, m2⟩
  have M2 := Lib.hid (M1.out.trans m2 (by simp))
  have B2 := m2.cell HB.out (by simp)
  have hg1' : w.heap.size + 1 ≤ g := by rw [← HSZ1.out]; exact hg1
  have HG1 := Lib.hid hg1'
  have HS := Lib.hid (sortStableTh_any HE.out n g cap w2 (HC.out _ M2.out g (by omega)) r2 hg2 (by omega))
  have HCP := Lib.hid hcap; have HG2 := Lib.hid hg2
  clear m2 r2 hg1 hg1' HCl HB HSZ1 hg2 hcap
  go_wp2_with fail
  refine Calls.mono HS.out ?_
  rintro e3 w3 ⟨rfl, C, hCh, hCl, r3, m3⟩
  have B3 := m3.cell B2 (fun h => by have h2 := List.mem_singleton.1 h; have h3 := HG1.out; simp only at h2; omega)
  have M3 : Hid (Mod [g] w2 w3) := Lib.hid m3
  have M13 : Hid (Mod [] w w3) := Lib.hid (M2.out.trans m3 (fun t ht => .inr (by have h2 := List.mem_singleton.1 ht; have h3 := HG1.out; omega)))
  have HQ := eqTh_any HE.out g w.heap.size w3 (HC.out _ M13.out g (by have := HG1.out; omega)) B3 (by have := HG1.out; omega)
  have HCm := Lib.hid (compactTh_any HE.out C n g cap w.heap.size w3 HQ r3 hCl HCP.out (Nat.lt_of_lt_of_le HG2.out m3.size) (by omega))
  have HCh := Lib.hid hCh; have HCL := Lib.hid hCl
  have G3 := Lib.hid (Nat.lt_of_lt_of_le HG2.out m3.size)
  clear m3 r3 HQ HS B2 B3 hCh hCl
  go_wp2_with fail
  refine Calls.mono HCm.out ?_
  rintro e4 w4 ⟨rfl, r4, m4⟩
  have R4 := Lib.hid r4; have M4 := Lib.hid m4
  have hlc : (So.cpt f C).length ≤ cap := Nat.le_trans (So.cpt_len C) (by rw [HCL.out]; exact HCP.out)
  have HCx := Lib.hid (clipTh_any g (So.cpt f C).length cap hlc w4)
  clear r4 m4 HCm hlc
  go_wp2_with fail
  refine Calls.mono HCx.out ?_
  rintro e5 w5 ⟨rfl, rfl⟩
  clear HCx
  go_wp2_with fail
  go_ret
  exact ⟨g, C, rfl, HCh.out, HCL.out, R4.out, by have := HG1.out; omega, Nat.lt_of_lt_of_le G3.out M4.out.size, M13.out.trans M4.out (fun t ht => .inr (by have h2 := List.mem_singleton.1 ht; have h3 := HG1.out; omega))⟩
end Go.Proofs.YtcalbbfkgdfidaaDoor
