/- WHAT THE ROW's LIST GIVES: the marks, the library's two errors. -/
import Derived.Test.YtobimhmllkfmfaaDoorLawTok
import Derived.Test.YtobimhmllkfmfaaDoorRows
import Derived.ProofKit
import Derived.OpenShut
import Derived.LaidMore
import Derived.Stop.LaidErr
import Derived.Stop.Joined
namespace Go.Proofs.YtobimhmllkfmfaaDoor
open Go.RowKit
set_option linter.unusedVariables false
set_option linter.unusedSimpArgs false
set_option maxRecDepth 100000

theorem gRng : Tryd.prog.globalNamed "strconv.ErrRange" = some 2 := by kernel_rfl
theorem gSyn : Tryd.prog.globalNamed "strconv.ErrSyntax" = some 1 := by kernel_rfl
theorem gMrk : Tryd.prog.globalNamed "pedigree/lex.marks" = some 0 := by kernel_rfl
theorem tRng : (Tryd.prog.globals[2]?).map (·.type) = some 80 := by kernel_rfl
theorem tSyn : (Tryd.prog.globals[1]?).map (·.type) = some 80 := by kernel_rfl
theorem tMrk : (Tryd.prog.globals[0]?).map (·.type) = some 72 := by kernel_rfl
theorem starE : "*" ++ "errors.errorString" = "*errors.errorString" := by decide
theorem rowE (u : TypeId) (h : Tryd.prog.typeName? 3 u = some "*errors.errorString") : u = 104 :=
  typeName_ptr_named (nm := "errors.errorString") (by rw [starE]; kernel_rfl) (by kernel_rfl) (by decide) u (by rw [starE]; exact h)
theorem var_heap {P : Program} {w : World} {n : String} {g : Nat} {cs : Array Value} (hg : P.globalNamed n = some g) (h : w.var? P n = some cs) : ∃ T fr, w.heap[g]? = some (.cells cs T fr) := by
  simp only [World.var?, hg, Option.bind_some] at h
  split at h
  · rename_i c T fr he
    cases h
    exact ⟨_, _, he⟩
  · cases h

theorem glob_of_laid {W : World} (h : laidMetH Tryd.prog Rows.lexTokensRow.laid W) : Glob W := by
  rw [MakeChecks.laidMetH_plain _ _ _ (by kernel_rfl)] at h
  have h3 := h.tail.tail.tail
  obtain ⟨a0, s0, hv0, -⟩ := laid_sentinel h3 gRng tRng Tryd.underlying80 rowE Tryd.underlying104 Tryd.underlying106 rfl rfl Tryd.underlying9 (by kernel_rfl) (by kernel_rfl)
  obtain ⟨a1, s1, hv1, -⟩ := laid_sentinel h3.tail gSyn tSyn Tryd.underlying80 rowE Tryd.underlying104 Tryd.underlying106 rfl rfl Tryd.underlying9 (by kernel_rfl) (by kernel_rfl)
  obtain ⟨T0, f0, hr⟩ := var_heap gRng hv0
  obtain ⟨T1, f1, hs⟩ := var_heap gSyn hv1
  obtain ⟨ps, ⟨g2, t2, cs2, fu, p2, q2, hg2, ht2, hv2, hd2, -, -⟩, -, -⟩ := h3.tail.tail
  obtain rfl := Option.some.inj (gMrk.symm.trans hg2)
  obtain rfl := Option.some.inj (tMrk.symm.trans ht2)
  obtain ⟨T2, f2, hm⟩ := var_heap gMrk hv2
  obtain ⟨xs, m, rfl, hx, hlen, hn, hel⟩ := DataW.trod_array Tryd.underlying72 hd2
  rw [show Tryd.prog.cellsOf 72 = 19 by kernel_rfl] at hlen
  rw [show Tryd.prog.cellsOf 9 = 1 by kernel_rfl] at hel
  simp only [Prod.mk.injEq, DataW.agg.injEq, Rows.laid_pedigree_lex_marks] at hx
  have hcs : cs2 = (markL.map fun l => Value.string (Lx.ofS l)).toArray := by
    apply Array.ext'
    apply List.ext_getElem?
    intro i
    by_cases hi : i < 19
    · have he := hel i hi
      have hlt : i < cs2.toList.length := by omega
      have hone : (cs2.toList.drop (i * 1)).take 1 = [cs2.toList[i]] := by
        rw [Nat.mul_one, List.drop_eq_getElem_cons hlt]; rfl
      rw [hone] at he
      have hxi : i < xs.length := by omega
      rw [List.getElem?_eq_getElem hxi] at he
      obtain ⟨s, hc, hy, -⟩ := DataW.trod_string Tryd.underlying9 he
      rw [List.getElem?_eq_getElem hlt]
      have hlit : (markL.map fun l => (DataW.lit (.string (l.map UInt8.ofNat)) : DataW Unit)) = xs.map (·.1) := hx.1
      have h1 : (markL.map fun l => (DataW.lit (.string (l.map UInt8.ofNat)) : DataW Unit))[i]? = (xs.map (·.1))[i]? := by rw [hlit]
      rw [List.getElem?_map, List.getElem?_map, List.getElem?_eq_getElem hxi, hy] at h1
      have hmi : i < markL.length := by show i < 19; exact hi
      rw [List.getElem?_eq_getElem hmi] at h1
      simp only [Option.map_some, Option.some.injEq, DataW.lit.injEq, Lit.string.injEq] at h1
      simp only [List.getElem?_map]
      rw [List.getElem?_eq_getElem hmi]
      have hcc : cs2.toList[i] = Value.string s := by simpa using hc
      rw [hcc]
      simp only [Option.map_some]
      congr 2
      unfold Lx.ofS
      rw [h1]
    · rw [List.getElem?_eq_none (by omega), List.getElem?_eq_none (by simp [markL]; omega)]
  exact ⟨⟨_, _, hcs ▸ hm⟩, ⟨_, _, _, _, hs⟩, ⟨_, _, _, _, hr⟩⟩
end Go.Proofs.YtobimhmllkfmfaaDoor
