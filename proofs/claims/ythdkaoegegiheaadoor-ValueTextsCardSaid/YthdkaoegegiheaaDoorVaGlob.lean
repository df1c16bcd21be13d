/- WHAT THE ROW's LIST GIVES: the table of powers, the library's two errors. HOW ARGUMENTS ARE OPENED: a value that came in. -/
import Derived.Test.YthdkaoegegiheaaDoorVaUnq
import Derived.Test.YthdkaoegegiheaaDoorRows
import Derived.ProofKit
import Derived.OpenShut
import Derived.LaidMore
import Derived.Stop.LaidErr
import Derived.Stop.Joined
import Derived.Deep.Slices
import Derived.Deep.Fields
namespace Go.Proofs.YthdkaoegegiheaaDoor
open Go.ChangeShapes Go.WideShapes Go.ChangeAt Go.RowKit
set_option linter.unusedVariables false
set_option linter.unusedSimpArgs false
set_option maxRecDepth 100000

theorem gTabV : Tryd.prog.globalNamed "internal/strconv.uint64pow10" = some 3 := by kernel_rfl
theorem gRngV : Tryd.prog.globalNamed "strconv.ErrRange" = some 2 := by kernel_rfl
theorem gSynW : Tryd.prog.globalNamed "strconv.ErrSyntax" = some 1 := by kernel_rfl
theorem tRngV : (Tryd.prog.globals[2]?).map (·.type) = some 88 := by kernel_rfl
theorem tSynV : (Tryd.prog.globals[1]?).map (·.type) = some 88 := by kernel_rfl
theorem tTabV : (Tryd.prog.globals[3]?).map (·.type) = some 211 := by kernel_rfl
theorem starEV : "*" ++ "errors.errorString" = "*errors.errorString" := by decide
theorem rowEV (u : TypeId) (h : Tryd.prog.typeName? 3 u = some "*errors.errorString") : u = 206 :=
  typeName_ptr_named (nm := "errors.errorString") (by rw [starEV]; kernel_rfl) (by kernel_rfl) (by decide) u (by rw [starEV]; exact h)

theorem globV_of_laid {W : World} (h : laidMetH Tryd.prog Rows.valueTextBackRow.laid W) : GlobV W := by
  rw [MakeChecks.laidMetH_plain _ _ _ (by kernel_rfl)] at h
  have h2 := h.tail.tail
  have h3 := h2.tail
  obtain ⟨a0, s0, hv0, -⟩ := laid_sentinel h3 gRngV tRngV Tryd.underlying88 rowEV Tryd.underlying206 Tryd.underlying208 rfl rfl Tryd.underlying9 (by kernel_rfl) (by kernel_rfl)
  obtain ⟨a1, s1, hv1, -⟩ := laid_sentinel h3.tail gSynW tSynV Tryd.underlying88 rowEV Tryd.underlying206 Tryd.underlying208 rfl rfl Tryd.underlying9 (by kernel_rfl) (by kernel_rfl)
  exact ⟨Lib.tabIs_of_head (zs := Lib.pow10Tab) gTabV tTabV Tryd.underlying211 Tryd.underlying121 (by kernel_rfl) (by kernel_rfl) h2, ⟨_, _, hv1⟩, ⟨_, _, hv0⟩⟩

theorem Tryd.underVal : ∃ fs f0 f1 f2, Tryd.prog.underlying 23 = some (.struct fs) ∧ fs = #[f0, f1, f2] ∧ f0.offset = 0 ∧ f1.offset = 1 ∧ f2.offset = 2 ∧ f0.type = 3 ∧ f1.type = 3 ∧ f2.type = 9 :=
  ⟨_, _, _, _, Tryd.underlying23, rfl, rfl, rfl, rfl, rfl, rfl, rfl⟩
/-- one value, out of its reading -/
theorem open_val_cells {H : Type} {enc : TypeId × Value → H} {W : World} {fuel : Nat} {cs : List Value} {x : DataW H × List MemPlace}
    (h : DataW.trod enc Tryd.prog W 0 (fun _ => true) true fuel 23 cs = some x) :
    ∃ v : Va.Val, cs = (valV v).toList ∧ v.Ok ∧ x.1 = .agg [.lit (.int .i64 v.k), .lit (.int .i64 v.n), .lit (.string ((v.s).map UInt8.ofNat))] ∧ v.s.length ≤ 9223372036854775807 := by
  obtain ⟨fs, f0, f1, f2, hu, rfl, o0, o1, o2, t0, t1, t2⟩ := Tryd.underVal
  obtain ⟨ys, n, -, hx, hlen, hyl, hf⟩ := DataW.trod_struct hu h
  rw [show Tryd.prog.cellsOf 23 = 3 by kernel_rfl] at hlen
  match cs, hlen, ys, hyl with
  | [c0, c1, c2], _, [y0, y1, y2], _ =>
    have h0 := hf 0 f0 rfl
    have h1 := hf 1 f1 rfl
    have h2 := hf 2 f2 rfl
    rw [o0, t0, show Tryd.prog.cellsOf 3 = 1 by kernel_rfl] at h0
    rw [o1, t1, show Tryd.prog.cellsOf 3 = 1 by kernel_rfl] at h1
    rw [o2, t2, show Tryd.prog.cellsOf 9 = 1 by kernel_rfl] at h2
    simp at h0 h1 h2
    obtain ⟨k, e0, e0', w0⟩ := DataW.trod_int Tryd.underlying3 h0
    obtain ⟨m, e1, e1', w1⟩ := DataW.trod_int Tryd.underlying3 h1
    obtain ⟨s, e2, e2', w2⟩ := DataW.trod_string Tryd.underlying9 h2
    have r1 : -9223372036854775808 ≤ m ∧ m ≤ 9223372036854775807 := by
      simp [Lit.wf, IntKind.min, IntKind.max, IntKind.signed, IntKind.bits] at w1
      omega
    simp at e0 e1 e2
    subst e0 e1 e2
    refine ⟨⟨k, m, Cod.str s⟩, ?_, ⟨Cod.str_lt s, r1.1, r1.2⟩, ?_, by rw [Cod.str_len]; exact w2⟩
    · simp [valV, Lx.ofS_str]
    · rw [hx]
      simp only [str_map]
      simp [e0', e1', e2']
theorem open_val {H : Type} {enc : TypeId × Value → H} {W : World} {v0 : Value} {d : DataW H} {p : List MemPlace}
    (hv : ∃ cs, v0 = .agg cs ∧ cs.size = Tryd.prog.cellsOf 23) (h : DataW.Trod enc Tryd.prog W 0 (fun _ => true) true 23 v0 d p) : ∃ v : Va.Val, v0 = .agg (valV v) ∧ v.Ok ∧ v.s.length ≤ 9223372036854775807 := by
  obtain ⟨cs, rfl, -⟩ := hv
  obtain ⟨fuel, hf⟩ := h
  obtain ⟨v, e, hk, -, hln⟩ := open_val_cells hf
  refine ⟨v, ?_, hk, hln⟩
  congr 1
  apply Array.ext'
  simpa [Value.cells] using e
end Go.Proofs.YthdkaoegegiheaaDoor
