/- LexTokens. -/
import Derived.Test.YtobimhmllkfmfaaDoorKnown
namespace Go.Proofs.YtobimhmllkfmfaaDoor
open Go.RowKit
set_option linter.unusedVariables false
set_option linter.unusedSimpArgs false
set_option maxRecDepth 100000

/-- no more words than bytes -/
theorem allF_len : ∀ (k : Nat) (x : Lx.St), (∀ c ∈ x.s, c < 256) → (Lx.allF k x).1.length ≤ x.s.length ∧ ((Lx.allF k x).1 ≠ [] → x.long = false)
  | 0, x, _ => by simp [Lx.allF]
  | k + 1, x, hb => by
    rw [allF_succ]
    cases hn : Lx.next x with
    | mk y o =>
      cases o with
      | none => simp [rest]
      | some t =>
        obtain ⟨h1, h2, h3, h4⟩ := next_len hb hn
        have := (allF_len k y h2).1
        simp only [rest, List.length_cons]
        exact ⟨by omega, fun _ => h3⟩
theorem tokens_len (s : ByteArray) : (Lx.tokens (Cod.str s)).length ≤ 65536 := by
  have hb : ∀ c ∈ (Lx.start (Cod.str s)).s, c < 256 := Cod.str_lt s
  have h := allF_len ((Cod.str s).length + 1) (Lx.start (Cod.str s)) hb
  unfold Lx.tokens Lx.given
  split
  · by_cases he : (Lx.allF ((Cod.str s).length + 1) (Lx.start (Cod.str s))).1 = []
    · rw [he]; simp
    · have h3 := h.2 he
      rw [show (Lx.start (Cod.str s)).long = decide (65536 < (Cod.str s).length) from rfl] at h3
      have h4 := h.1
      rw [show (Lx.start (Cod.str s)).s.length = (Cod.str s).length from rfl] at h4
      simp only [decide_eq_false_iff_not] at h3
      omega
  · simp

set_option maxHeartbeats 2000000 in
theorem LexTokens_any (s : ByteArray) (hs : s.size ≤ 140737488355328) (w : World) (hG : Glob w) :
    Calls Tryd.prog 3 #[.string s] w fun e w' => e = .returned (.bool true) ∧ Mod [] w w' := by
  have hk := known_any w hG
  have ht := fun w hG => Tokens_any s hs w hG
  have hr := fun w => rTokens_any s hs w
  have hn := tokens_len s
  generalize hl : Lx.tokens (Cod.str s) = l at hn
  generalize hf : Lx.fault (Cod.str s) = f
  unfold Toks at ht hr
  rw [hl, hf] at ht hr
  have HK := Lib.hid hk; have HT := Lib.hid ht; have HR := Lib.hid hr
  clear hk ht hr hl hf
  obtain ⟨f1, f2, f3⟩ := f
  simp only [fltV] at HT HR
  go_enter Tryd.func3, Tryd.ntmps3
  go_wp2_with fail
  refine HK.out.mono ?_
  rintro e w1 ⟨rfl, hm1⟩
  go_wp2_with fail
  refine (HT.out w1 (hG.past hm1 (by simp))).mono ?_
  rintro e w2 ⟨v, rfl, hv, hm2⟩
  have hF2 := heap_alloc_new w2 (Obj.cells #[Value.int IntKind.i64 (f1 : Nat), Value.int IntKind.i64 (f2 : Nat), Value.int IntKind.i64 (f3 : Nat)] 28)
  have ha2 := (Mod.refl [] w2).alloc (Obj.cells #[Value.int IntKind.i64 (f1 : Nat), Value.int IntKind.i64 (f2 : Nat), Value.int IntKind.i64 (f3 : Nat)] 28)
  have hlv := hv.lit
  have HM2 := Lib.hid ((hm1.trans hm2 (by simp)).trans ha2 (by simp)); have HV := Lib.hid hv; have HA2 := Lib.hid ha2; have HF2 := Lib.hid hF2
  clear hv hm1 hm2 ha2 hF2
  obtain ⟨va, vc, rfl⟩ := hlv
  go_wp2_with fail
  refine (HR.out _).mono ?_
  rintro e w3 ⟨v', rfl, hv', hm3⟩
  have hlv := hv'.lit
  have HV' := Lib.hid hv'
  clear hv'
  obtain ⟨va', vc', rfl⟩ := hlv
  have hF3 := hm3.at HF2.out (by simp)
  have hm23 : Mod [] w2 w3 := HA2.out.trans hm3 (by simp)
  have ha3 := (Mod.refl [] w3).alloc (Obj.cells #[Value.int IntKind.i64 (f1 : Nat), Value.int IntKind.i64 (f2 : Nat), Value.int IntKind.i64 (f3 : Nat)] 28)
  have hF4 := heap_alloc_new w3 (Obj.cells #[Value.int IntKind.i64 (f1 : Nat), Value.int IntKind.i64 (f2 : Nat), Value.int IntKind.i64 (f3 : Nat)] 28)
  have hF3' := ha3.at hF3 (by simp)
  have hsame := rSame_any l _ _ _ _ _ (HV.out.past (hm23.trans ha3 (by simp)) (by simp)) (HV'.out.past ha3 (by simp)) (by omega)
  have HS := Lib.hid hsame; have HF3 := Lib.hid hF3'; have HF4 := Lib.hid hF4; have HM3 := Lib.hid ((HM2.out.trans hm3 (by simp)).trans ha3 (by simp))
  clear hsame hF3' hF4 ha3 hF3 hm23 hm3
  go_wp2_with fail
  refine HS.out.mono ?_
  rintro e w5 ⟨rfl, hm5⟩
  have hF5 := hm5.at HF3.out (by simp)
  have hF6 := hm5.at HF4.out (by simp)
  have a0 : w5.cell? ⟨w2.heap.size, 0, none⟩ = some (.int .i64 (f1 : Nat)) := by simp [World.cell?, hF5]
  have a1 : w5.cell? ⟨w2.heap.size, 1, none⟩ = some (.int .i64 (f2 : Nat)) := by simp [World.cell?, hF5]
  have a2 : w5.cell? ⟨w2.heap.size, 2, none⟩ = some (.int .i64 (f3 : Nat)) := by simp [World.cell?, hF5]
  have b0 : w5.cell? ⟨w3.heap.size, 0, none⟩ = some (.int .i64 (f1 : Nat)) := by simp [World.cell?, hF6]
  have b1 : w5.cell? ⟨w3.heap.size, 1, none⟩ = some (.int .i64 (f2 : Nat)) := by simp [World.cell?, hF6]
  have b2 : w5.cell? ⟨w3.heap.size, 2, none⟩ = some (.int .i64 (f3 : Nat)) := by simp [World.cell?, hF6]
  have HM5 := Lib.hid (HM3.out.trans hm5 (by simp))
  clear hF5 hF6 hm5
  go_wp2_with fail
  go_ret
  exact ⟨rfl, HM5.out⟩
end Go.Proofs.YtobimhmllkfmfaaDoor
