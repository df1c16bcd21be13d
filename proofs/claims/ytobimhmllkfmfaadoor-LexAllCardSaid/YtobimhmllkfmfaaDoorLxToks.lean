/- A SCANNER MADE AND ASKED; ALL WORDS OF A TEXT: the program's. -/
import Derived.Test.YtobimhmllkfmfaaDoorLxNext
namespace Go.Proofs.YtobimhmllkfmfaaDoor
open Go.RowKit
set_option linter.unusedVariables false
set_option linter.unusedSimpArgs false
set_option maxRecDepth 100000

theorem Scan_any (s : ByteArray) (hs : s.size ≤ 140737488355328) (w : World) :
    Calls Tryd.prog 14 #[.string s] w fun e w' => ∃ b, e = .returned (.pointer (some ⟨b, 0, none⟩)) ∧ ScIs w' b s (Lx.start (Cod.str s)) ∧ w.heap.size ≤ b ∧ Mod [] w w' := by
  go_enter Tryd.func14, Tryd.ntmps14
  go_wp2
  go_ret
  refine ⟨_, rfl, ⟨?_, rfl, hs, fun hl => ?_⟩, ?_, ((Mod.refl [] w).alloc _).alloc _⟩
  · refine (alloc_at _ (by simp)).trans ?_
    simp [scCells, Lx.start, Cod.str_len]
    omega
  · simp only [Lx.start, decide_eq_false_iff_not, Cod.str_len] at hl ⊢
    omega
  · simp

def faultV (x : Lx.St) : Array Value := #[.int .i64 (x.code : Nat), .int .i64 (x.fp.1 : Nat), .int .i64 (x.fp.2 : Nat)]
theorem Fault_any (b : Nat) (s : ByteArray) (x : Lx.St) (w : World) (h : ScIs w b s x) :
    Calls Tryd.prog 29 #[.pointer (some ⟨b, 0, none⟩)] w fun e w' => e = .returned (.agg (faultV x)) ∧ Mod [] w w' := by
  have hlt := h.lt
  have hne : b ≠ w.heap.size := by omega
  obtain ⟨c0, c1, c2, c3, c4, c5, c6, c7, c8⟩ := sc_cells h
  go_enter Tryd.func29, Tryd.ntmps29
  go_wp2
  refine bodyPost_ret (results_cell_row rfl _ _ _ _ (faultV x) _ _ rfl (heap_alloc_new w _) Tryd.underlying28 rfl (by kernel_rfl)) rfl ⟨rfl, (Mod.refl [] w).alloc _⟩
def endV (x : Lx.St) : Array Value := #[.int .i64 (x.fin.1 : Nat), .int .i64 (x.fin.2 : Nat)]
theorem End_any (b : Nat) (s : ByteArray) (x : Lx.St) (w : World) (h : ScIs w b s x) :
    Calls Tryd.prog 30 #[.pointer (some ⟨b, 0, none⟩)] w fun e w' => e = .returned (.agg (endV x)) ∧ Mod [] w w' := by
  have hlt := h.lt
  have hne : b ≠ w.heap.size := by omega
  obtain ⟨c0, c1, c2, c3, c4, c5, c6, c7, c8⟩ := sc_cells h
  go_enter Tryd.func30, Tryd.ntmps30
  go_wp2
  refine bodyPost_ret (results_cell_row rfl _ _ _ _ (endV x) _ _ rfl (heap_alloc_new w _) Tryd.underlying26 rfl (by kernel_rfl)) rfl ⟨rfl, (Mod.refl [] w).alloc _⟩

/-- words as cells -/
def tokCells (l : List Lx.Tok) : List Value := l.flatMap fun t => (tokC t).toList
theorem tokCells_len (l : List Lx.Tok) : (tokCells l).length = l.length * 7 := by
  induction l with
  | nil => rfl
  | cons t r ih => simp only [tokCells, List.flatMap_cons, List.length_append, List.length_cons] at ih ⊢; rw [ih]; simp [tokC]; omega
theorem tokCells_append (a b : List Lx.Tok) : tokCells (a ++ b) = tokCells a ++ tokCells b := by simp [tokCells]
theorem Tryd.infoTok : (Tryd.prog.info? 45).map (fun i => (i.zero, i.size, i.bytes)) = some (some (.agg (tokC zeroT)), 7, 72) := by kernel_rfl
/-- the slice v, newer than base, owns these words -/
structure TokRow (w : World) (base : Nat) (v : Value) (l : List Lx.Tok) : Prop where
  row : w.ownsRow 0 45 7 v l.length (tokCells l)
  new : ∀ k ∈ fp v, base ≤ k

theorem TokRow.nil (w : World) (base : Nat) : TokRow w base (.slice none 0 0) [] := ⟨World.ownsRow_nil _ _ _ _, by simp [fp]⟩
theorem TokRow.keep {S : List Nat} {w w' : World} {base : Nat} {v : Value} {l : List Lx.Tok} (h : TokRow w base v l) (hm : Mod S w w') (hS : ∀ k ∈ fp v, k ∉ S) : TokRow w' base v l :=
  ⟨hm.owns h.row hS, h.new⟩
theorem TokRow.past {S : List Nat} {w w' : World} {base : Nat} {v : Value} {l : List Lx.Tok} (h : TokRow w base v l) (hm : Mod S w w') (hS : ∀ t ∈ S, w.heap.size ≤ t) : TokRow w' base v l :=
  h.keep hm (fun k hk hs => by have := hS k hs; have := fp_lt h.row k hk; omega)
theorem TokRow.lit {w : World} {base : Nat} {v : Value} {l : List Lx.Tok} (h : TokRow w base v l) : ∃ a c, v = .slice a l.length c := by
  rcases h.row.2 with ⟨rfl, h0⟩ | ⟨g, cap, cur, rfl, -⟩
  · exact ⟨_, _, by rw [h0]⟩
  · exact ⟨_, _, rfl⟩

theorem tokC_one (t : Lx.Tok) : ∀ u ∈ (tokC t).toList, u.oneCell' = true := by
  intro u hu
  simp [tokC] at hu
  rcases hu with rfl | rfl | rfl | rfl | rfl | rfl | rfl <;> rfl
/-- one word, as what is appended -/
theorem src_tok {w : World} {b : Nat} {t : Lx.Tok} {T : TypeId} {fr : Nat × Nat} (h : w.heap[b]? = some (.cells (tokC t) T fr)) :
    Src Tryd.prog 7 23 (.slice (some ⟨b, 0, none⟩) 1 1) 1 (tokC t).toList w := by
  refine Src.ofSlice w Tryd.underlying23 ⟨b, 0, none⟩ 1 1 _ (by simp [tokC]) (fun j u hu => ?_) (tokC_one t)
  rw [addr_add, Nat.zero_add]
  simp [World.cell?, h]
  rw [← Array.getElem?_toList]; exact hu

def St.len (x : Lx.St) : Nat := x.s.length
theorem next_len {x y : Lx.St} {t : Lx.Tok} (hb : ∀ c ∈ x.s, c < 256) (h : Lx.next x = (y, some t)) : y.s.length < x.s.length ∧ (∀ c ∈ y.s, c < 256) ∧ x.long = false ∧ y.long = false := by
  unfold Lx.next at h
  split at h
  · simp at h
  · split at h
    · simp at h
    · rename_i hl
      have hl' : x.long = false := by simpa using hl
      split at h
      · simp at h
      · rename_i he
        split at h
        · simp at h
        · rename_i wd hw
          have hbs : ∀ c ∈ x.skip.s, c < 256 := fun c hc => hb c (List.mem_of_mem_drop hc)
          obtain ⟨h1, h2, -⟩ := Lx.word_len hbs he hw
          simp only [Prod.mk.injEq] at h
          obtain ⟨rfl, -⟩ := h
          have hsk : x.skip.s.length ≤ x.s.length := by unfold Lx.St.skip; simp
          refine ⟨?_, fun c hc => hbs c (List.mem_of_mem_drop hc), hl', hl'⟩
          simp only [List.length_drop]; omega
theorem next_bytes {x : Lx.St} (hb : ∀ c ∈ x.s, c < 256) : ∀ c ∈ (Lx.next x).1.s, c < 256 := by
  have hbs : ∀ c ∈ x.skip.s, c < 256 := fun c hc => hb c (List.mem_of_mem_drop hc)
  unfold Lx.next
  split
  · exact hb
  · split
    · exact hb
    · split
      · exact hbs
      · split
        · exact hbs
        · exact fun c hc => hbs c (List.mem_of_mem_drop hc)
/-- what is still to come, one call of Next done -/
def rest (k : Nat) (r : Lx.St × Option Lx.Tok) : List Lx.Tok × Lx.St :=
  match r with
  | (y, none) => ([], y)
  | (y, some t) => (t :: (Lx.allF k y).1, (Lx.allF k y).2)
theorem allF_succ (k : Nat) (x : Lx.St) : Lx.allF (k + 1) x = rest k (Lx.next x) := by
  rw [Lx.allF]
  unfold rest
  cases Lx.next x with
  | mk y o => cases o <;> rfl

def fltV (f : Nat × Nat × Nat) : Array Value := #[.int .i64 (f.1 : Nat), .int .i64 (f.2.1 : Nat), .int .i64 (f.2.2 : Nat)]
/-- what Tokens answers -/
def Toks (l : List Nat) (w : World) (e : Ending) (w' : World) : Prop :=
  ∃ v, e = .returned (.tuple #[v, .agg (fltV (Lx.fault l))]) ∧ TokRow w' w.heap.size v (Lx.tokens l) ∧ Mod [] w w'
theorem nextV_eq (o : Option Lx.Tok) : nextV o = .tuple #[.agg (tokC (o.getD zeroT)), .bool o.isSome] := by cases o <;> rfl

/-- the loop over all words: what it holds -/
structure TLoop (l : List Nat) (w wr : World) (b : Nat) (va : Option Addr) (vc : Nat) (acc : List Lx.Tok) (p : Nat) (x : Lx.St) (o : Option Lx.Tok) (k gk : Nat) (s' : ByteArray) : Prop where
  box : wr.heap[p]? = some (.cells (tokC (o.getD zeroT)) 45 (0, 0))
  pnew : w.heap.size < p
  row : TokRow wr (w.heap.size + 1) (.slice va acc.length vc) acc
  sc : ScIs wr b s' x
  pb : p ≠ b
  pv : p ∉ fp (.slice va acc.length vc)
  bv : b ∉ fp (.slice va acc.length vc)
  all : Lx.given l = (acc ++ (rest k (x, o)).1, (rest k (x, o)).2)
  lim : o.isSome = true → acc.length + 1 + x.s.length ≤ 65536 ∧ x.s.length + 1 ≤ k ∧ x.s.length + 1 ≤ gk
  byte : ∀ c ∈ x.s, c < 256
  mod : Mod [] w wr

theorem res_toks {fn : Func} {p u : Tmp} (h : fn.results = #[.tmp u, .cell p 28]) (tmps : Array Value) (w : World) (b : Nat) (cs : Array Value) (T : TypeId) (fr : Nat × Nat) (x : Value)
    (hp : tmps.getD p undef = .pointer (some ⟨b, 0, none⟩)) (hx : tmps.getD u undef = x) (hg : w.heap[b]? = some (.cells cs T fr)) (hc : cs.size = 3) :
    (results fn tmps).run Tryd.prog w = .ok (.tuple #[x, .agg cs]) w := by
  have hl := run_loadVar_row (P := Tryd.prog) w b T 28 cs fr _ hg Tryd.underlying28 rfl (by rw [show (Tryd.prog.info? 28).map (·.size) = some 3 by kernel_rfl, hc])
  have hp' : tmps[p]?.getD undef = .pointer (some ⟨b, 0, none⟩) := by simpa using hp
  have hx' : tmps[u]?.getD undef = x := by simpa using hx
  simp [results, h, hp', hx', asAddr, hl]

theorem store3 {w : World} {b : Nat} {a0 a1 a2 : Value} {T : TypeId} {fr : Nat × Nat} (h : w.heap[b]? = some (.cells #[a0, a1, a2] T fr)) (v0 v1 v2 : Value) :
    (((w.setCell ⟨b, 0, none⟩ v0).setCell ⟨b, 1, none⟩ v1).setCell ⟨b, 2, none⟩ v2).heap[b]? = some (.cells #[v0, v1, v2] T fr) := by
  have h1 := setCell_at h 0 v0
  generalize w.setCell ⟨b, 0, none⟩ v0 = w1 at *
  have h2 := setCell_at h1 1 v1
  generalize w1.setCell ⟨b, 1, none⟩ v1 = w2 at *
  have h3 := setCell_at h2 2 v2
  rw [h3]; simp
theorem mod3 {S : List Nat} {w0 w : World} {b : Nat} (h : Mod S w0 w) (hb : b ∈ S ∨ w0.heap.size ≤ b) (v0 v1 v2 : Value) :
    Mod S w0 (((w.setCell ⟨b, 0, none⟩ v0).setCell ⟨b, 1, none⟩ v1).setCell ⟨b, 2, none⟩ v2) :=
  ((h.setCell hb _).setCell hb _).setCell hb _
theorem TokRow.base {w : World} {b b' : Nat} {v : Value} {l : List Lx.Tok} (h : TokRow w b v l) (hb : b' ≤ b) : TokRow w b' v l :=
  ⟨h.row, fun k hk => Nat.le_trans hb (h.new k hk)⟩

set_option maxHeartbeats 4000000 in
theorem Tokens_any (s : ByteArray) (hs : s.size ≤ 140737488355328) (w : World) (hG : Glob w) :
    Calls Tryd.prog 11 #[.string s] w (Toks (Cod.str s) w) := by
  obtain ⟨i0, hinf, hz0, hz1, hz2⟩ := info_parts Tryd.infoTok
  obtain ⟨l, hl⟩ : ∃ l, l = Cod.str s := ⟨_, rfl⟩
  have hlb : ∀ c ∈ l, c < 256 := by rw [hl]; exact Cod.str_lt s
  rw [← hl]
  have HL := Lib.hid hl; have HB := Lib.hid hlb
  clear hl hlb
  go_enter Tryd.func11, Tryd.ntmps11
  go_wp2_with fail
  refine (Scan_any s hs _).mono ?_
  rintro e w1 ⟨b, rfl, h1, hb1, hm1⟩
  rw [← HL.out] at h1
  have hm0 := (Mod.refl [] w).alloc (Obj.cells #[Value.int IntKind.i64 0, Value.int IntKind.i64 0, Value.int IntKind.i64 0] 28)
  have hF0 := heap_alloc_new w (Obj.cells #[Value.int IntKind.i64 0, Value.int IntKind.i64 0, Value.int IntKind.i64 0] 28)
  have hm1' := hm0.trans hm1 (by simp)
  have hF1 := hm1.at hF0 (by simp)
  have hG1 := hG.past hm1' (by simp)
  have hbw : w.heap.size < b := by simp at hb1; omega
  have hw3 := hG.size
  have hb3 : 3 ≤ b := by omega
  have hsz1 := hm1'.size
  go_wp2_with fail
  refine (next_any b s _ w1 h1 hG1 hb3).mono ?_
  rintro e w2 ⟨rfl, s2, h2, hm2⟩
  have hF2 := hm2.at hF1 (by simp; omega)
  have hm2' : Mod [] w w2 := hm1'.trans hm2 (fun t ht => .inr (by simp at ht; omega))
  rw [nextV_eq]
  have hT0 : TLoop l w (w2.alloc (Obj.cells (tokC ((Lx.next (Lx.start l)).2.getD zeroT)) 45)) b none 0 [] w2.heap.size (Lx.next (Lx.start l)).1 (Lx.next (Lx.start l)).2 l.length ((Lx.next (Lx.start l)).1.s.length + 1) s2 := by
    have hlt2 := h2.lt
    refine ⟨heap_alloc_new _ _, by have := hm2'.size; omega, TokRow.nil _ _, h2.past ((Mod.refl [] w2).alloc _) (by simp), by omega, by simp [fp], by simp [fp], ?_, fun hi => ?_, next_bytes (x := Lx.start l) HB.out, hm2'.alloc _⟩
    · rw [show ((Lx.next (Lx.start l)).1, (Lx.next (Lx.start l)).2) = Lx.next (Lx.start l) from rfl, ← allF_succ]
      simp [Lx.given]
    · cases ho : (Lx.next (Lx.start l)).2 with
      | none => rw [ho] at hi; cases hi
      | some t =>
        have hn : Lx.next (Lx.start l) = ((Lx.next (Lx.start l)).1, some t) := by rw [← ho]
        have := next_len (x := Lx.start l) HB.out hn
        have h3 : l.length ≤ 65536 := by
          have := this.2.2.1
          simp [Lx.start] at this
          exact this
        have h4 : (Lx.start l).s.length = l.length := rfl
        have h5 := this.1
        refine ⟨?_, ?_, Nat.le_refl _⟩
        · simp only [List.length_nil]; omega
        · omega
  have HF2 := Lib.hid hF2; have HT0 := Lib.hid hT0
  clear hT0 hF0 hF1 hF2 h1 h2 hm1 hm2 hm0 hm1' hG1
  generalize Lx.next (Lx.start l) = r at *
  obtain ⟨x0, o0⟩ := r
  simp only at HT0
  have hO : ∀ o : Option Lx.Tok, o.isSome = true ∨ o.isSome = false := fun o => by cases o <;> simp
  generalize ht0 : o0.getD zeroT = t0 at *
  generalize ho0 : o0.isSome = ok0 at *
  rw [tokC]
  have HT1 := Lib.hid ht0; have HO1 := Lib.hid ho0
  clear ht0 ho0
  go_wp2_with fail
  go_loopg [5, 6, 7] (x0.s.length + 1) (fun gk bv tv kv wr => ∃ (va : Option Addr) (vc p k : Nat) (acc : List Lx.Tok) (x : Lx.St) (o : Option Lx.Tok) (s' : ByteArray),
      bv = .slice va acc.length vc ∧ tv = .pointer (some ⟨p, 0, none⟩) ∧ kv = .bool o.isSome ∧ TLoop l w wr b va vc acc p x o k gk s' ∧ wr.heap[w.heap.size]? = some (.cells #[Value.int IntKind.i64 0, Value.int IntKind.i64 0, Value.int IntKind.i64 0] 28 (0, 0)))
  case atStart =>
    refine ⟨none, 0, _, l.length, [], x0, o0, s2, rfl, rfl, by rw [HO1.out], ?_, ?_⟩
    · have := HT0.out
      rw [tokC] at this
      exact this
    · exact ((Mod.refl [] w2).alloc _).at HF2.out (by simp)
  case round =>
    obtain ⟨va, vc, p, k, acc, x, o, s', rfl, rfl, rfl, hT, hF⟩ := hrel
    cases o with
    | none =>
      have hall := hT.all
      simp only [rest, List.append_nil] at hall
      have hrow := hT.row
      have hm := hT.mod
      obtain ⟨c0, c1, c2, c3, c4, c5, c6, c7, c8⟩ := sc_cells hT.sc
      have fz : ∀ j, wr.frozen? ⟨w.heap.size, j, none⟩ = false := fun j => by simp [World.frozen?, hF]
      have f0 : wr.cell? ⟨w.heap.size, 0, none⟩ = some (.int .i64 0) := by simp [World.cell?, hF]
      have f1 : wr.cell? ⟨w.heap.size, 1, none⟩ = some (.int .i64 0) := by simp [World.cell?, hF]
      have f2 : wr.cell? ⟨w.heap.size, 2, none⟩ = some (.int .i64 0) := by simp [World.cell?, hF]
      by_cases hc : x.code = 0
      · have hcB : ((x.code : Int) != 0) = false := by rw [hc]; rfl
        have e : Hid (Lx.fault l = (0, 0, 0) ∧ Lx.tokens l = acc) := Lib.hid (by
          unfold Lx.fault Lx.tokens; rw [hall]; simp [hc])
        have hall' := Lib.hid hall
        have HR := Lib.hid hrow
        simp only [Option.isSome]
        clear hT HT0 hall hc hrow
        go_wp2_with fail
        refine bodyPost_ret (res_toks rfl _ _ _ _ _ _ _ rfl rfl (store3 hF _ _ _) rfl) rfl ?_
        refine ⟨_, by rw [e.out.1]; rfl, ?_, mod3 hm (.inr (Nat.le_refl _)) _ _ _⟩
        rw [e.out.2]
        exact (HR.out.keep (S := [w.heap.size]) (mod3 (Mod.refl _ _) (by simp) _ _ _) (fun k hk => by have := HR.out.new k hk; simp; omega)).base (by omega)
      · have hcB : ((x.code : Int) != 0) = true := by rw [bne_iff_ne]; omega
        have e : Hid (Lx.fault l = (x.code, x.fp.1, x.fp.2) ∧ Lx.tokens l = []) := Lib.hid (by
          unfold Lx.fault Lx.tokens; rw [hall]; simp [hc])
        have HR := Lib.hid hrow
        simp only [Option.isSome]
        clear hT HT0 hall hc hrow
        go_wp2_with fail
        go_region
        go_wp2_with fail
        refine bodyPost_ret (res_toks rfl _ _ _ _ _ _ _ rfl rfl (drew_at (store3 hF _ _ _)) rfl) rfl ?_
        refine ⟨_, by rw [e.out.1]; rfl, ?_, (mod3 hm (.inr (Nat.le_refl _)) _ _ _).drew⟩
        rw [e.out.2]
        exact TokRow.nil _ _
    | some t =>
      obtain ⟨hl1, hl2, hl3⟩ := hT.lim rfl
      obtain ⟨k', rfl⟩ : ∃ k', k = k' + 1 := ⟨k - 1, by omega⟩
      have hall := hT.all
      have hbox := hT.box
      simp only [Option.getD] at hbox
      obtain ⟨t0', t1, t2, t3, t4, t5, t6⟩ := tok_cells hbox
      have hown := hT.row.row
      have hfn := hT.row.new
      have hpv := hT.pv
      have hbv := hT.bv
      have hpb := hT.pb
      have hpn := hT.pnew
      have hmr := hT.mod
      have hsc := hT.sc
      have hby := hT.byte
      simp only [rest] at hall
      rw [allF_succ] at hall
      have hnl := fun (y : Lx.St) (u : Lx.Tok) (hy : Lx.next x = (y, some u)) => next_len hby hy
      have hnb := next_bytes hby
      have HALL := Lib.hid hall; have HNL := Lib.hid hnl; have HNB := Lib.hid hnb
      have hbox' := heap_alloc_new wr (Obj.cells (tokC t) 45)
      have hsrc := src_tok hbox'
      have hFb := Lib.hid hF
      simp only [Option.isSome]
      clear hT HT0 hall hnl hnb hby hF
      go_wp2_with (at_builtin; refine wpList_append_src _ rfl _ _ 23 23 rfl 45 i0 (.agg (tokC zeroT)) 7 72 Tryd.underlying23 hinf hz0 hz1 hz2 rfl (.slice va acc.length vc) acc.length (tokCells acc) rfl (hown.alloc _) _ 1 (tokC t).toList rfl hsrc (by unfold maxLen; omega) (by omega) ?_)
      intro v' w3 hown3 hm3 hf3 hn3
      obtain ⟨va3, vc3, rfl⟩ := owns_slice hown3
      have hma : Mod [] wr (wr.alloc (Obj.cells (tokC t) 45)) := (Mod.refl [] wr).alloc _
      have hm3r : Mod (fp (.slice va acc.length vc)) wr w3 := (hma.mono (by simp)).trans hm3 (fun t ht => .inl ht)
      have hlen : acc.length + 1 = (acc ++ [t]).length := by simp
      have hcl : tokCells acc ++ (tokC t).toList = tokCells (acc ++ [t]) := by rw [tokCells_append]; simp [tokCells]
      rw [hcl, hlen] at hown3
      have hsz3 := hm3r.size
      have hf3' : ∀ k ∈ fp (.slice va3 (acc.length + 1) vc3), w.heap.size + 1 ≤ k ∧ (k ∈ fp (.slice va acc.length vc) ∨ wr.heap.size ≤ k) := fun k hk => by
        have := hmr.size
        rcases hf3 k hk with h | h
        · exact ⟨hfn k h, .inl h⟩
        · have hlb := lt_of_block hbox
          first | exact ⟨by omega, .inr (by omega)⟩ | (simp at h; exact ⟨by omega, .inr (by omega)⟩)
      have hbox3 := hm3r.at hbox hpv
      have hsc3 := hsc.keep hm3r hbv
      have hF3 := hm3r.at hFb.out (fun h => by have := hfn _ h; omega)
      have hm3w : Mod [] w w3 := hmr.trans hm3r (fun t ht => .inr (by have := hfn t ht; omega))
      have hpl := lt_of_block hbox
      have hbl := hsc.lt
      have hG3 := hG.past hm3w (by simp)
      clear t0' t1 t2 t3 t4 t5 t6 hm3 hn3 hf3 hown hsrc hbox' hma hm3r hbox hsc
      obtain ⟨t0', t1, t2, t3, t4, t5, t6⟩ := tok_cells hbox3
      rw [hlen] at hf3'
      have HO3 := Lib.hid hown3; have HF3 := Lib.hid hf3'
      clear hown3 hf3' hcl
      go_wp2_with fail
      have hmb : Mod [] w3 (w3.alloc (Obj.cells (tokC t) 45)) := (Mod.refl [] w3).alloc _
      refine (next_any b s' x (w3.alloc (Obj.cells (tokC t) 45)) (hsc3.past hmb (by simp)) (hG3.past hmb (by simp)) hb3).mono ?_
      rintro e w4 ⟨rfl, s4, h4, hm4⟩
      rw [nextV_eq]
      have hsz4 := hm4.size
      have hp4 := hm4.at (heap_alloc_new w3 (Obj.cells (tokC t) 45)) (by simp; omega)
      have hF4 := hm4.at (hmb.at hF3 (by simp)) (by simp; omega)
      have hm4w : Mod [] w w4 := (hm3w.trans hmb (by simp)).trans hm4 (fun t ht => .inr (by simp at ht; omega))
      have hm34 : Mod [b] w3 w4 := (hmb.mono (by simp)).trans hm4 (fun t ht => .inl ht)
      have hrow4 : TokRow w4 (w.heap.size + 1) (.slice va3 (acc ++ [t]).length vc3) (acc ++ [t]) := (TokRow.mk HO3.out (fun k hk => (HF3.out k hk).1)).keep hm34 (fun k hk => by
        simp
        rintro rfl
        rcases (HF3.out k hk).2 with h | h
        · exact hbv h
        · omega)
      have hp3 : w3.heap.size ∉ fp (.slice va3 (acc ++ [t]).length vc3) := fun h => by have := fp_lt HO3.out _ h; omega
      have hb3v : b ∉ fp (.slice va3 (acc ++ [t]).length vc3) := fun h => by
        rcases (HF3.out b h).2 with h | h
        · exact hbv h
        · omega
      have hne3 : w3.heap.size ≠ b := by omega
      have hwn3 : w.heap.size < w3.heap.size := by omega
      have HR4 := Lib.hid hrow4
      clear t0' t1 t2 t3 t4 t5 t6 hrow4 hm34 hm4 hmb hsc3 hG3 hbox3 hF3
      obtain ⟨t0', t1, t2, t3, t4, t5, t6⟩ := tok_cells hp4
      have fz4 : ∀ j, w4.frozen? ⟨w3.heap.size, j, none⟩ = false := fun j => by simp [World.frozen?, hp4]
      have hpn4 : w3.heap.size < w4.heap.size := lt_of_block hp4
      have HH := Lib.hid h4
      clear h4
      generalize hr : Lx.next x = r at *
      obtain ⟨x', o'⟩ := r
      simp only at HH ⊢
      have hst := fun v0 v1 v2 v3 v4 v5 v6 => store_tok hp4 v0 v1 v2 v3 v4 v5 v6
      have HST := Lib.hid hst
      generalize hot : o'.getD zeroT = u at *
      generalize hos : o'.isSome = ok at *
      have HU := Lib.hid hot; have HK := Lib.hid hos; have HR := Lib.hid hr
      clear hst hot hos hr
      rw [tokC]
      go_wp2_with fail
      go_roundg (x.s.length)
      case measure => omega
      case rel =>
        refine ⟨va3, vc3, w3.heap.size, k', acc ++ [t], x', o', s4, by rw [← hlen], rfl, by rw [HK.out], ?_, ?_⟩
        · refine ⟨?_, hwn3, HR4.out.keep (S := [w3.heap.size]) (mod_tok (Mod.refl _ _) (by simp) _ _ _ _ _ _ _) (fun k hk => by simp; rintro rfl; exact hp3 hk), HH.out.keep (S := [w3.heap.size]) (mod_tok (Mod.refl _ _) (by simp) _ _ _ _ _ _ _) (by simp; omega), hne3, hp3, hb3v, ?_, ?_, HNB.out, mod_tok hm4w (.inr (by omega)) _ _ _ _ _ _ _⟩
          · rw [HU.out]; exact HST.out _ _ _ _ _ _ _
          · have := HALL.out
            rw [this]; simp
          · intro hi
            cases o' with
            | none => cases hi
            | some u' =>
              have := (HNL.out x' u' rfl).1
              rw [List.length_append]
              simp only [List.length_cons, List.length_nil]
              omega
        · exact ((mod_tok (Mod.refl [w3.heap.size] w4) (by simp) _ _ _ _ _ _ _)).at hF4 (by simp; omega)
end Go.Proofs.YtobimhmllkfmfaaDoor
