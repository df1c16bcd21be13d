/- A RANGE OVER A FUNCTION WHOSE ITERATOR KEEPS STATE IN CELLS OF ITS OWN: the iterator's contract, the caller's law. No function of the program is named here. -/
import Derived.RangeFuncNested
import Derived.RangeFuncBound
import Derived.RangeFuncCalls
import Derived.RangeFuncLeaves
import Derived.Shelf.Abstract
import Derived.Shelf.RegionOpen
import Derived.OwnWalkIn
import Derived.TacticsInMore
import Derived.LoopNIn
import Derived.LoopIn
import Derived.OrdersIn
import Derived.Test.YtcalbbfkgdfidaaDoorMem
namespace Go.Proofs.YtcalbbfkgdfidaaDoor
open Go.RowKit Go.Shelf
set_option linter.unusedVariables false
attribute [local go_sem] Oper.semAt_some

/-- it speaks of the blocks below B alone -/
def AbB {α : Type} (B : Nat) (J : List α → World → Prop) : Prop := ∀ s A C, J s A → Below B A C → J s C

/-- an iterator's contract: U: the blocks that a round may turn; G: those that the iterator does not lean on -/
def SeqU {α : Type} (P : Program) (n : Nat) (g : Nat) (lb : Array Value) (encs : α → Array Value) (G : Nat → Prop) (S Sp : List α → Prop) (Nx : List α → α → Prop) (w : World) : Prop :=
  ∀ (l : Nat) (J Jx : List α → World → Prop) (W : World) (U : List Nat), Mod [] w W → (∀ u ∈ U, G u ∧ u < W.heap.size) → AbB W.heap.size J → AbB W.heap.size Jx →
    (∀ pre x W1, J pre W1 → Nx pre x → W.heap.size ≤ W1.heap.size → YieldAt Fence.wide (n - 1) P l (encs x) W1 fun e W' =>
      (e = .returned (.bool true) ∧ J (pre ++ [x]) W' ∧ Mod U W1 W') ∨ (e = .returned (.bool false) ∧ Jx (pre ++ [x]) W')) →
    J [] W →
    CallsIn Fence.wide n P g (#[.func (.yield l) #[] #[]] ++ lb) W fun e W' => (∃ v, e = .returned v) ∧ ((∃ xs, S xs ∧ J xs W') ∨ (∃ pre, Sp pre ∧ Jx pre W'))

theorem SeqU.later {α : Type} {P : Program} {n g : Nat} {lb : Array Value} {encs : α → Array Value} {G : Nat → Prop} {S Sp : List α → Prop} {Nx : List α → α → Prop} {w w' : World}
    (h : SeqU P n g lb encs G S Sp Nx w) (hm : Mod [] w w') : SeqU P n g lb encs G S Sp Nx w' :=
  fun l J Jx W U hW => h l J Jx W U (hm.trans hW (by simp))

/-- how the body of a round may be left -/
def seqPost {α : Type} (V : List Nat) (I : List α → World → Prop) (Ix : Code → List α → World → Prop) (xs : List α) (W : World) : Exit → Act → World → Prop
  | .normal, _, W' => Mod V W W' ∧ I xs W'
  | .ret, _, W' => Mod V W W' ∧ Ix .ret xs W'
  | .exit id, _, W' => Mod V W W' ∧ Ix (.exit id) xs W'
  | .goto t, _, W' => Mod V W W' ∧ Ix (.goto t) xs W'
  | .panic _, _, _ => False
  | .outgrown, _, _ => False

theorem mod_putObj (W : World) (l : Nat) (o : Obj) : Mod [l] W (W.putObj l o) := ⟨rfl, rfl, rfl, by simp, fun k _ hk => World.putObj_heap_other (by simpa using hk)⟩
theorem below_putObj {B : Nat} (W : World) (l : Nat) (o : Obj) (hB : B ≤ l) (hl : l < W.heap.size) : Below B W (W.putObj l o) :=
  (mod_putObj W l o).below (by omega) (by simpa using hB)

theorem wp_seq {α : Type} {P : Program} {n : Nat} {g : Operand} {ps : Array Tmp} {assign body : Code} {Q : Exit → Act → World → Prop} {a : Act} {w : World}
    {gf : Nat} {lb : Array Value} (hg : a.eval g = .func (.func gf) #[] lb) (eg : ∀ args w, (callFunc gf args).run P w = .ok (.enter gf args) w)
    {encs : α → Array Value} {G : Nat → Prop} {S Sp : List α → Prop} {Nx : List α → α → Prop} {w0 : World} (hseq : SeqU P (n - 1) gf lb encs G S Sp Nx w0) (hm0 : Mod [] w0 w) (hps : ∀ x, (encs x).size = ps.size)
    (V : List Nat) (hV : ∀ u ∈ V, G u ∧ u < w.heap.size) (hG : ∀ u, w.heap.size ≤ u → G u)
    (I : List α → World → Prop) (Ix : Code → List α → World → Prop) (hI : AbB w.heap.size I) (hIx : ∀ c, AbB w.heap.size (Ix c)) (h0 : I [] w)
    (Ax : α → Act → World → Prop) (hAx : ∀ x a' A C, Ax x a' A → Mod [w.heap.size + 1] A C → Ax x a' C)
    (hassign : ∀ (l : Nat) (pre : List α) (x : α) (W : World) (K : Act → World → Prop), I pre W → w.heap.size + 1 < W.heap.size → (∀ a' W', Mod [] W W' → I pre W' → Ax x a' W' → K a' W') →
      assign.wpIn (Fence.wide.inRound l) (n - 1 - 1) P (Exit.then K (fun _ _ _ => False)) { tmps := (ps.zip (encs x)).foldl (fun t (p, v) => t.setIfInBounds p v) a.tmps, defers := [] } W)
    (hbody : ∀ (l : Nat) (pre : List α) (x : α) (a' : Act) (W : World), I pre W → Ax x a' W → Nx pre x → w.heap.size + 1 < W.heap.size → body.wpIn (Fence.wide.inRound l) (n - 1 - 1) P (seqPost V I Ix (pre ++ [x]) W) a' W)
    (hdone : ∀ (D : Nat) (xs : List α) (W : World), w.heap.size ≤ D → S xs → I xs W → W.heap[D]? = some (.deferred (some [])) → Q .normal { a with defers := { target := .collected D, args := #[] } :: a.defers } W)
    (hstop : ∀ (D : Nat) (c : Code) (pre : List α) (W : World), w.heap.size ≤ D → Sp pre → Ix c pre W → W.heap[D]? = some (.deferred (some [])) → c.wpIn Fence.wide n P Q { a with defers := { target := .collected D, args := #[] } :: a.defers } W) :
    (Code.rangeFunc g ps assign body).wpIn Fence.wide n P Q a w := by
  refine wpIn_rangeFunc ?_
  intro fn hfn
  generalize hR : w.heap.size + 1 = R at *
  obtain ⟨rec, hrec⟩ : ∃ rec : LoopState → Option Code → Loop, rec = fun st pe => { state := st, pending := pe, fn, tmps := a.tmps, params := ps, assign, body, defers := w.heap.size } := ⟨_, rfl⟩
  obtain ⟨W1, hW1⟩ : ∃ W1, (w.alloc (.deferred (some []))).alloc (.loop (rec .ready none)) = W1 := ⟨_, rfl⟩
  have hs1 : W1.heap.size = R + 1 := by rw [← hW1]; simp; omega
  have hmw : Mod [] w W1 := by rw [← hW1]; exact ((Mod.refl [] w).alloc _).alloc _
  have hL1 : W1.heap[R]? = some (.loop (rec .ready none)) := by
    rw [← hW1, ← hR]; have := World.alloc_heap_new (w.alloc (.deferred (some []))) (.loop (rec .ready none)); rwa [World.size_alloc] at this
  have hK1 : W1.heap[w.heap.size]? = some (.deferred (some [])) := by
    rw [← hW1]; exact (Below.heap_alloc _ _ _ (by simp)).trans (World.alloc_heap_new w _)
  have bel : ∀ {A C : World} {s : List α} {J : List α → World → Prop}, AbB w.heap.size J → J s A → Below w.heap.size A C → J s C := fun h j b => h _ _ _ j b
  have hI1 : I [] W1 := bel hI h0 (hmw.below (Nat.le_refl _) (by simp))
  have up : ∀ {A C : World}, Below W1.heap.size A C → Below w.heap.size A C := fun h => h.mono (by omega)
  refine ⟨R, [{ target := .collected w.heap.size, args := #[] }], W1, { target := .fn (.func gf) lb, args := #[.func (.yield R) #[] #[]] }, W1, gf,
    #[.func (.yield R) #[] #[]] ++ lb, W1, ?_, ?_, ?_, ?_, fun h => (by cases h), ?_⟩
  · rw [← hW1, hrec, ← hR]; exact run_enterLoop_outer _ _ _ _ _
  · simp only [resolve, hg]
    simp [go_sem]
  · intro f' hf'; trivial
  · simp [invoke, go_sem, eg]
  · refine (hseq R
      (fun pre W => I pre W ∧ W.heap[R]? = some (.loop (rec .ready none)) ∧ W.heap[w.heap.size]? = some (.deferred (some [])))
      (fun pre W => ∃ c, Ix c pre W ∧ W.heap[R]? = some (.loop (rec .done (some c))) ∧ W.heap[w.heap.size]? = some (.deferred (some [])))
      W1 (R :: V) (hm0.trans hmw (by simp)) (fun u hu => ?_)
      (fun s A C hs hb => ⟨bel hI hs.1 (up hb), (hb.block R (by omega)).trans hs.2.1, (hb.block w.heap.size (by omega)).trans hs.2.2⟩)
      (fun s A C hs hb => by
        obtain ⟨c, hc, hl, hk⟩ := hs
        exact ⟨c, bel (hIx c) hc (up hb), (hb.block R (by omega)).trans hl, (hb.block w.heap.size (by omega)).trans hk⟩)
      ?_ ⟨hI1, hL1, hK1⟩).mono ?_
    · rcases List.mem_cons.1 hu with rfl | hu
      · exact ⟨hG _ (by omega), by omega⟩
      · exact ⟨(hV u hu).1, by have := (hV u hu).2; omega⟩
    · rintro pre x W ⟨hi, hl, hk⟩ hlen hWs
      have hlt : R < W.heap.size := (Array.getElem?_eq_some_iff.1 hl).1
      have hy := run_yield (P := P) (args := encs x) hl (by rw [hrec]; exact hps x)
      rw [hrec] at hy
      refine ⟨fn, _, assign, body, hy, roundIn_of_wpIn hfn (hassign _ pre x W _ hi (by omega) ?_)⟩
      intro a2 W2 m2 i2 x2
      have hl2 := m2.at hl (by simp)
      have hk2 := m2.at hk (by simp)
      have hlt2 : R < W2.heap.size := lt_of_block hl2
      refine ⟨_, run_beginRound hl2 (by rw [hrec]), ?_⟩
      have hl3 : (W2.putObj R (.loop { rec .ready none with state := .busy })).heap[R]? = some (.loop { rec .ready none with state := .busy }) := World.putObj_heap_same hlt2
      have hk3 : (W2.putObj R (.loop { rec .ready none with state := .busy })).heap[w.heap.size]? = some (.deferred (some [])) := (World.putObj_heap_other (by omega)).trans hk2
      have m3 := mod_putObj W2 R (.loop { rec .ready none with state := .busy })
      generalize hW3 : W2.putObj R (.loop { rec .ready none with state := .busy }) = W3 at *
      have hlt3 : R < W3.heap.size := lt_of_block hl3
      refine wpIn_mono (hbody _ pre x _ _ (bel hI i2 (m3.below (by omega) (by simp; omega))) (hAx _ _ _ _ x2 m3) hlen (by omega)) ?_
      have fin : ∀ (jump : Option Code) (W4 : World), Mod V W3 W4 →
          (Instr.endRound R jump).run P W4 = .ok (.bool jump.isNone) (W4.putObj R (.loop (rec (if jump.isNone then .ready else .done) jump))) ∧
          (W4.putObj R (.loop (rec (if jump.isNone then .ready else .done) jump))).heap[R]? = some (.loop (rec (if jump.isNone then .ready else .done) jump)) ∧
          (W4.putObj R (.loop (rec (if jump.isNone then .ready else .done) jump))).heap[w.heap.size]? = some (.deferred (some [])) ∧
          Mod (R :: V) W (W4.putObj R (.loop (rec (if jump.isNone then .ready else .done) jump))) ∧ Below w.heap.size W4 (W4.putObj R (.loop (rec (if jump.isNone then .ready else .done) jump))) := fun jump W4 m4 => by
        have hRV : R ∉ V := fun h => by have := (hV R h).2; omega
        have hDV : w.heap.size ∉ V := fun h => by have := (hV _ h).2; omega
        have hl4 := m4.at hl3 hRV
        have hlt4 : R < W4.heap.size := lt_of_block hl4
        have := run_endRound (P := P) jump hl4
        rw [hrec] at this ⊢
        refine ⟨this, World.putObj_heap_same hlt4, (World.putObj_heap_other (by omega)).trans (m4.at hk3 hDV), ?_, below_putObj _ _ _ (by omega) hlt4⟩
        refine (((m2.mono (T := R :: V) (by simp)).trans m3 (by simp)).trans m4 (fun t ht => .inl (List.mem_cons_of_mem _ ht))).trans (mod_putObj _ _ _) (by simp)
      rintro e a3 W4 hp
      cases e with
      | normal =>
        obtain ⟨m4, hi4⟩ := hp
        obtain ⟨hr, hl4, hk4, hm4, hb4⟩ := fin none W4 m4
        exact ⟨_, _, hr, .inl ⟨rfl, ⟨bel hI hi4 hb4, hl4, hk4⟩, hm4⟩⟩
      | ret =>
        obtain ⟨m4, hi4⟩ := hp
        obtain ⟨hr, hl4, hk4, hm4, hb4⟩ := fin (some .ret) W4 m4
        exact ⟨_, _, hr, .inr ⟨rfl, .ret, bel (hIx _) hi4 hb4, hl4, hk4⟩⟩
      | exit id =>
        obtain ⟨m4, hi4⟩ := hp
        obtain ⟨hr, hl4, hk4, hm4, hb4⟩ := fin (some (.exit id)) W4 m4
        exact ⟨_, _, hr, .inr ⟨rfl, .exit id, bel (hIx _) hi4 hb4, hl4, hk4⟩⟩
      | goto t =>
        obtain ⟨m4, hi4⟩ := hp
        obtain ⟨hr, hl4, hk4, hm4, hb4⟩ := fin (some (.goto t)) W4 m4
        exact ⟨_, _, hr, .inr ⟨rfl, .goto t, bel (hIx _) hi4 hb4, hl4, hk4⟩⟩
      | panic ch => exact hp.elim
      | outgrown => exact hp.elim
    · rintro e W2 ⟨⟨v, rfl⟩, (⟨xs, hS, hi, hl, hk⟩ | ⟨pre, hSp, c, hi, hl, hk⟩)⟩
      · have hlt : R < W2.heap.size := lt_of_block hl
        exact ⟨none, _, by have := run_endLoop (P := P) hl (by rw [hrec]; simp); rw [hrec] at this; exact this, hdone _ xs _ (Nat.le_refl _) hS (bel hI hi (below_putObj _ _ _ (by omega) hlt)) ((World.putObj_heap_other (by omega)).trans hk)⟩
      · have hlt : R < W2.heap.size := lt_of_block hl
        exact ⟨some c, _, by have := run_endLoop (P := P) hl (by rw [hrec]; simp); rw [hrec] at this; exact this, hstop _ c pre _ (Nat.le_refl _) hSp (bel (hIx c) hi (below_putObj _ _ _ (by omega) hlt)) ((World.putObj_heap_other (by omega)).trans hk)⟩

/-- no operation of these is a defer statement -/
def noDefer (l : List Oper) : Bool := l.all fun o => match o.op with | .defer _ => false | _ => true
theorem noDefer_spec {l : List Oper} (h : noDefer l = true) : ∀ o ∈ l, ∀ c, o.op ≠ .defer c := by
  intro o ho c hc
  have := List.all_eq_true.1 h o ho
  simp [hc] at this
section
variable {P : Program} {C : World → Prop} {l n : Nat}
theorem wpIn_of_quiet {o : Oper} {a : Act} {K : Act → Prop} {K' : Act → World → Prop} {Q' : Exit → Act → World → Prop} {w : World} (hd : ∀ c, o.op ≠ .defer c) (hw : C w) (h : ∀ a w', C w' → K a → K' a w') (hh : o.quiet P a C K) :
    o.wpIn (Fence.wide.inRound l) n P a w K' Q' := by
  obtain ⟨v, h1, h2⟩ := hh
  have h3 := h1 w hw
  unfold Oper.quietAt at h3
  refine ⟨fun _ _ => trivial, ?_⟩
  rw [Oper.semAt_eq _ _ _ hd]
  generalize (execOp a.eval o).run P w = r at *
  cases r with
  | ok x w' =>
    cases x <;> simp only [Oper.quietUpon] at h3 <;> simp only [Oper.uponIn]
    case value u =>
      obtain ⟨e1, e2⟩ := h3
      rw [e1, e2]
      exact h _ _ hw h2
    case skip =>
      obtain ⟨e1, e2⟩ := h3
      rw [e1, ← e2]
      exact h _ _ hw h2
    case enter f args =>
      obtain ⟨e1, hc⟩ := h3
      rw [e1]
      exact ⟨fun hh => (by cases hh), CallsIn.inRound l (CallsIn.mono (callsIn_wide.2 hc) fun e w'' ⟨he, hw''⟩ => by subst he; exact h _ _ hw'' h2)⟩
  | halt x w' => simp only [Oper.quietUpon] at h3
theorem wpAnyIn_of_quiet {ops : Array Oper} {md : Region.Mode} (hd : ∀ o ∈ ops.toList, ∀ c, o.op ≠ .defer c) {Q : Act → Prop} {Q' : Exit → Act → World → Prop} (hQ : ∀ a w, C w → Q a → Q' .normal a w) : ∀ (fuel : Nat) (listed : Array Bool) (a : Act) (w : World), C w →
    wpAnyQ P md ops C Q fuel listed a → wpAnyIn (Fence.wide.inRound l) n P md ops Q' fuel listed a w
  | 0, _, _, _, hw, h => ⟨h.1, hQ _ _ hw h.2⟩
  | fuel + 1, _, a, w, hw, h => ⟨fun h0 => hQ _ _ hw (h.1 h0), fun i hi => by
    have hh := h.2 i hi
    unfold qOp at hh
    unfold wpOpIn
    split
    · rename_i ho; simp only [ho] at hh; exact wpAnyIn_of_quiet hd hQ fuel _ _ _ hw hh
    · rename_i o ho
      simp only [ho] at hh
      split
      · rename_i hwn
        simp only [hwn, if_true] at hh
        exact wpIn_of_quiet (hd o (by rw [← Array.getElem?_toList] at ho; exact List.mem_of_getElem? ho)) hw (fun a' w' hw' => wpAnyIn_of_quiet hd hQ fuel _ a' w' hw') hh
      · rename_i hwn
        simp only [hwn] at hh
        exact ⟨fun _ _ => trivial, wpAnyIn_of_quiet hd hQ fuel _ _ _ hw hh⟩⟩
/-- a drawn region that only reads, in a round -/
theorem wpIn_region_quiet_lit {id : Nat} {Q : Exit → Act → World → Prop} {a : Act} {w : World} {ops : List Oper} (hm : P.follows .mixedOrders = true) (hB : Region.lexB .any ops.toArray = true) (hd : noDefer ops = true)
    (h : wpQuiet P ops.toArray (fun w' => ∃ n, w' = w.drewN n) (fun a' => ∀ w', (∃ n, w' = w.drewN n) → Q .normal a' w') ops a) : (Code.region id ops.toArray true).wpIn (Fence.wide.inRound l) n P Q a w := by
  simp only [Region.lexB, Bool.and_eq_true] at hB
  refine wpIn_region_any hm (wpAnyIn_of_quiet (C := fun w' => ∃ n, w' = w.drewN n) (by simpa using noDefer_spec hd) (Q := fun a' => ∀ w', (∃ n, w' = w.drewN n) → Q .normal a' w') (fun _ w' hw' h => h w' hw') _ _ _ _ ⟨1, rfl⟩ ?_)
  have := wpAnyQ_lex (C := fun w' => ∃ n, w' = w.drewN n) (md := .any) (Q := fun a' => ∀ w', (∃ n, w' = w.drewN n) → Q .normal a' w') hB.1 ops 0 (Array.replicate ops.toArray.size false) a (by simp) (by simpa using hB.2) h
  simpa using this
end
end Go.Proofs.YtcalbbfkgdfidaaDoor
