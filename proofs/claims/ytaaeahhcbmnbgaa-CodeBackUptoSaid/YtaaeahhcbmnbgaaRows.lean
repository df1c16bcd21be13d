/-
  No cell of these rows narrows 'for every input' (looked for: loops, veiled, ifaces, maps, wideKeys, modest, calm, conditions, laid).
  DERIVED. THE GIVEN ROWS OF THIS SEAT. 5 by the template 'for every input the law returns true; each argument reads behind the call as it read before'; 0 by the template 'total and deterministic' (their statements: YtaaeahhcbmnbgaaTotals.lean).
  GIVEN WITH THE SEED: the statements are not yours to turn. If you find one false, say at which input.
  Laid BY PROGRAM, IN A SANDBOX (cutbox-rows.mjs): the forced cells as the released guide's own fill.sh prints them over the translation df358ea84c5fbd61… (all of the seat's roots in one cut). By AI agents, Wed Nov 11 2026. No macro, syntax, notation, axiom, sorry.
-/
import Derived.Test.YtaaeahhcbmnbgaaChecked
import GoSem.Claim
import GoSem.ClaimJoined
import GoSem.ClaimMapViews
import Derived.JoinedTies
import Derived.KernelRfl
namespace Go.Proofs.Ytaaeahhcbmnbgaa
/- THE CELL 'sum', in the pinned program and in every row, IS THE sha256 OF THE DUMP (.gsa) THAT YtaaeahhcbmnbgaaProg.lean LOADS. Nothing in Lean hashes anything: it is a label: what it is worth is what the hold of that sum in a sandbox is worth. -/
noncomputable def Try.pinned : Pinned := { name := "ytaaeahhcbmnbgaa", sum := "df358ea84c5fbd61905bbf2e06ff566e98ea466dca4eb44378fa7b39f18bece7", checked := Try.checked }
namespace Rows
def none {H : Type} : Left H := { results := [], args := [] }

/-- 'pedigreelaw01.CodeSums': WHATEVER THE INPUT: true; the input reads as it did. -/
def codeSumsSpec : ChangeSpec := { name := "codeSums", fn := fun _ => fun
  | [d1, d2] => { results := [.lit (.bool true)], args := [d1, d2] }
  | _ => none }
def codeSumsRow : OpenClaim := { program := "ytaaeahhcbmnbgaa", sum := "df358ea84c5fbd61905bbf2e06ff566e98ea466dca4eb44378fa7b39f18bece7", func := "pedigree/pedigreelaw01.CodeSums", spec := "codeSums", apart := false }
def CodeSumsSaid : Prop := codeSumsRow.holds Try.pinned (OpenSpec.ofChange codeSumsSpec)

/-- ITS FALSE NEIGHBOUR: 'it returns false'. Refute it at one input. -/
def codeSumsWrong : ChangeSpec := { name := "codeSums", fn := fun _ => fun
  | [d1, d2] => { results := [.lit (.bool false)], args := [d1, d2] }
  | _ => none }
def CodeSumsWrongFalsely : Prop := codeSumsRow.holds Try.pinned (OpenSpec.ofChange codeSumsWrong)

/-- 'pedigreelaw01.CodeTurned': WHATEVER THE INPUT: true; the input reads as it did. -/
def codeTurnedSpec : ChangeSpec := { name := "codeTurned", fn := fun _ => fun
  | [d1, d2, d3] => { results := [.lit (.bool true)], args := [d1, d2, d3] }
  | _ => none }
def codeTurnedRow : OpenClaim := { program := "ytaaeahhcbmnbgaa", sum := "df358ea84c5fbd61905bbf2e06ff566e98ea466dca4eb44378fa7b39f18bece7", func := "pedigree/pedigreelaw01.CodeTurned", spec := "codeTurned", apart := false }
def CodeTurnedSaid : Prop := codeTurnedRow.holds Try.pinned (OpenSpec.ofChange codeTurnedSpec)

/-- ITS FALSE NEIGHBOUR: 'it returns false'. Refute it at one input. -/
def codeTurnedWrong : ChangeSpec := { name := "codeTurned", fn := fun _ => fun
  | [d1, d2, d3] => { results := [.lit (.bool false)], args := [d1, d2, d3] }
  | _ => none }
def CodeTurnedWrongFalsely : Prop := codeTurnedRow.holds Try.pinned (OpenSpec.ofChange codeTurnedWrong)

/-- 'pedigreelaw01.CodeOne': WHATEVER THE INPUT: true; the input reads as it did. -/
def codeOneSpec : ChangeSpec := { name := "codeOne", fn := fun _ => fun
  | [d1, d2] => { results := [.lit (.bool true)], args := [d1, d2] }
  | _ => none }
def codeOneRow : OpenClaim := { program := "ytaaeahhcbmnbgaa", sum := "df358ea84c5fbd61905bbf2e06ff566e98ea466dca4eb44378fa7b39f18bece7", func := "pedigree/pedigreelaw01.CodeOne", spec := "codeOne", apart := false }
def CodeOneSaid : Prop := codeOneRow.holds Try.pinned (OpenSpec.ofChange codeOneSpec)

/-- ITS FALSE NEIGHBOUR: 'it returns false'. Refute it at one input. -/
def codeOneWrong : ChangeSpec := { name := "codeOne", fn := fun _ => fun
  | [d1, d2] => { results := [.lit (.bool false)], args := [d1, d2] }
  | _ => none }
def CodeOneWrongFalsely : Prop := codeOneRow.holds Try.pinned (OpenSpec.ofChange codeOneWrong)

/-- 'pedigreelaw01.CodeNone': WHATEVER THE INPUT: true; the input reads as it did. -/
def codeNoneSpec : ChangeSpec := { name := "codeNone", fn := fun _ => fun
  | [d1, d2, d3] => { results := [.lit (.bool true)], args := [d1, d2, d3] }
  | _ => none }
def codeNoneRow : OpenClaim := { program := "ytaaeahhcbmnbgaa", sum := "df358ea84c5fbd61905bbf2e06ff566e98ea466dca4eb44378fa7b39f18bece7", func := "pedigree/pedigreelaw01.CodeNone", spec := "codeNone", apart := false }
def CodeNoneSaid : Prop := codeNoneRow.holds Try.pinned (OpenSpec.ofChange codeNoneSpec)

/-- ITS FALSE NEIGHBOUR: 'it returns false'. Refute it at one input. -/
def codeNoneWrong : ChangeSpec := { name := "codeNone", fn := fun _ => fun
  | [d1, d2, d3] => { results := [.lit (.bool false)], args := [d1, d2, d3] }
  | _ => none }
def CodeNoneWrongFalsely : Prop := codeNoneRow.holds Try.pinned (OpenSpec.ofChange codeNoneWrong)

/-- 'pedigreelaw01.CodeBack': WHATEVER THE INPUT: true; the input reads as it did. -/
def codeBackSpec : ChangeSpec := { name := "codeBack", fn := fun _ => fun
  | [d1, d2, d3] => { results := [.lit (.bool true)], args := [d1, d2, d3] }
  | _ => none }
def codeBackRow : OpenClaim := { program := "ytaaeahhcbmnbgaa", sum := "df358ea84c5fbd61905bbf2e06ff566e98ea466dca4eb44378fa7b39f18bece7", func := "pedigree/pedigreelaw01.CodeBack", spec := "codeBack", apart := false }
def CodeBackSaid : Prop := codeBackRow.holds Try.pinned (OpenSpec.ofChange codeBackSpec)

/-- ITS FALSE NEIGHBOUR: 'it returns false'. Refute it at one input. -/
def codeBackWrong : ChangeSpec := { name := "codeBack", fn := fun _ => fun
  | [d1, d2, d3] => { results := [.lit (.bool false)], args := [d1, d2, d3] }
  | _ => none }
def CodeBackWrongFalsely : Prop := codeBackRow.holds Try.pinned (OpenSpec.ofChange codeBackWrong)

/- THE SECOND FORM. 'bulk': how many values and letters a reading holds, each counted each time it is reached (what is shared counts as often as it is met; a slice's spare places count too). A statement '..UptoSaid' is the law's where the arguments, and the package variables that the reading takes, are together of bulk at most 1048576: NARROWER than '..Said'. Prove '..Said' where nothing that the law and all that it calls make is longer than what came in: it says more and counts as full. Else prove '..UptoSaid'. A law counts once. -/
mutual
def uptoBulk {H : Type} : DataW H → Nat
  | .lit (.string bytes) => bytes.length + 1
  | .lit _ => 1
  | .nil => 1
  | .ptr d => uptoBulk d + 1
  | .slice elems spare => uptoBulkAll elems + uptoBulkAll spare + 1
  | .agg parts => uptoBulkAll parts + 1
  | .iface _ d => uptoBulk d + 1
  | .map entries => uptoBulkEntries entries + 1
  | .held _ => 1
def uptoBulkAll {H : Type} : List (DataW H) → Nat
  | [] => 0
  | d :: r => uptoBulk d + uptoBulkAll r
def uptoBulkEntries {H : Type} : List (Lit × DataW H) → Nat
  | [] => 0
  | x :: r => uptoBulkEntry x + uptoBulkEntries r
def uptoBulkEntry {H : Type} : Lit × DataW H → Nat
  | (.string bytes, d) => bytes.length + uptoBulk d + 1
  | (_, d) => uptoBulk d + 1
 end
def uptoSmall : (H : Type) → List (DataW H) → Bool := fun _ ds => decide (uptoBulkAll ds ≤ 1048576)
def OpenSpec.upto (s : _root_.Go.ChangeSpec) : _root_.Go.OpenSpec := { _root_.Go.OpenSpec.ofChange s with cond := some uptoSmall }

/-- 'pedigreelaw01.CodeSums', WHERE WHAT IT READS IS OF BULK AT MOST 1048576: true; the input reads as it did. -/
def codeSumsUptoRow : OpenClaim := { program := "ytaaeahhcbmnbgaa", sum := "df358ea84c5fbd61905bbf2e06ff566e98ea466dca4eb44378fa7b39f18bece7", func := "pedigree/pedigreelaw01.CodeSums", spec := "codeSums", apart := false, narrowed := true }
def CodeSumsUptoSaid : Prop := codeSumsUptoRow.holds Try.pinned (OpenSpec.upto codeSumsSpec)

/-- 'pedigreelaw01.CodeTurned', WHERE WHAT IT READS IS OF BULK AT MOST 1048576: true; the input reads as it did. -/
def codeTurnedUptoRow : OpenClaim := { program := "ytaaeahhcbmnbgaa", sum := "df358ea84c5fbd61905bbf2e06ff566e98ea466dca4eb44378fa7b39f18bece7", func := "pedigree/pedigreelaw01.CodeTurned", spec := "codeTurned", apart := false, narrowed := true }
def CodeTurnedUptoSaid : Prop := codeTurnedUptoRow.holds Try.pinned (OpenSpec.upto codeTurnedSpec)

/-- 'pedigreelaw01.CodeOne', WHERE WHAT IT READS IS OF BULK AT MOST 1048576: true; the input reads as it did. -/
def codeOneUptoRow : OpenClaim := { program := "ytaaeahhcbmnbgaa", sum := "df358ea84c5fbd61905bbf2e06ff566e98ea466dca4eb44378fa7b39f18bece7", func := "pedigree/pedigreelaw01.CodeOne", spec := "codeOne", apart := false, narrowed := true }
def CodeOneUptoSaid : Prop := codeOneUptoRow.holds Try.pinned (OpenSpec.upto codeOneSpec)

/-- 'pedigreelaw01.CodeNone', WHERE WHAT IT READS IS OF BULK AT MOST 1048576: true; the input reads as it did. -/
def codeNoneUptoRow : OpenClaim := { program := "ytaaeahhcbmnbgaa", sum := "df358ea84c5fbd61905bbf2e06ff566e98ea466dca4eb44378fa7b39f18bece7", func := "pedigree/pedigreelaw01.CodeNone", spec := "codeNone", apart := false, narrowed := true }
def CodeNoneUptoSaid : Prop := codeNoneUptoRow.holds Try.pinned (OpenSpec.upto codeNoneSpec)

/-- 'pedigreelaw01.CodeBack', WHERE WHAT IT READS IS OF BULK AT MOST 1048576: true; the input reads as it did. -/
def codeBackUptoRow : OpenClaim := { program := "ytaaeahhcbmnbgaa", sum := "df358ea84c5fbd61905bbf2e06ff566e98ea466dca4eb44378fa7b39f18bece7", func := "pedigree/pedigreelaw01.CodeBack", spec := "codeBack", apart := false, narrowed := true }
def CodeBackUptoSaid : Prop := codeBackUptoRow.holds Try.pinned (OpenSpec.upto codeBackSpec)

end Rows
end Go.Proofs.Ytaaeahhcbmnbgaa
