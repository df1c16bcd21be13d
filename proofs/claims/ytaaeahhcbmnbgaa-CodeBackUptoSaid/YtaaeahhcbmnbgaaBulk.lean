/- WHAT THE BOUND ON THE BULK GIVES: lengths. -/
import Derived.Test.YtaaeahhcbmnbgaaRows
namespace Go.Proofs.Ytaaeahhcbmnbgaa

theorem bulk_one {H : Type} (d : DataW H) : 1 ≤ Rows.uptoBulk d := by
  cases d with
  | lit l => cases l <;> simp [Rows.uptoBulk]
  | nil => simp [Rows.uptoBulk]
  | ptr d => simp [Rows.uptoBulk]
  | slice elems spare => simp [Rows.uptoBulk]
  | agg parts => simp [Rows.uptoBulk]
  | iface t d => simp [Rows.uptoBulk]
  | map entries => simp [Rows.uptoBulk]
  | held h => simp [Rows.uptoBulk]
theorem bulk_len {H : Type} (l : List (DataW H)) : l.length ≤ Rows.uptoBulkAll l := by
  induction l with
  | nil => simp [Rows.uptoBulkAll]
  | cons x r ih => have := bulk_one x; simp only [Rows.uptoBulkAll, List.length_cons]; omega
theorem bulk_slice {H : Type} (elems spare : List (DataW H)) : elems.length + spare.length + 1 ≤ Rows.uptoBulk (.slice elems spare) := by
  have h1 := bulk_len elems
  have h2 := bulk_len spare
  simp only [Rows.uptoBulk]
  omega
theorem bulk_str {H : Type} (l : List UInt8) : Rows.uptoBulk (DataW.lit (H := H) (.string l)) = l.length + 1 := by simp [Rows.uptoBulk]
theorem u8s_bulk {H : Type} {d : DataW H} {len cap : Nat} (hd : (len = 0 ∧ cap = 0) ∨ ∃ els sp, d = .slice els sp ∧ els.length = len ∧ els.length + sp.length = cap) : len ≤ Rows.uptoBulk d := by
  rcases hd with ⟨h, -⟩ | ⟨els, sp, rfl, h, -⟩
  · omega
  · have := bulk_slice els sp
    omega
end Go.Proofs.Ytaaeahhcbmnbgaa
