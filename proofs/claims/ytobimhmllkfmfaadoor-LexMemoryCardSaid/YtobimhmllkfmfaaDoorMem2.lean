/- MEMORY: an append writes behind the slice's length alone; rows of words that are written over. -/
import Derived.Test.YtobimhmllkfmfaaDoorLawPlace
namespace Go.Proofs.YtobimhmllkfmfaaDoor
open Go.RowKit
set_option linter.unusedVariables false
set_option linter.unusedSimpArgs false
set_option maxRecDepth 100000

/-- what lies ahead of place m of the slice, and elsewhere, is as it was -/
def Keeps (v : Value) (m : Nat) (w w' : World) : Prop := ∀ g off u, w.cell? ⟨g, off, none⟩ = some u → (g ∈ fp v → off < m) → w'.cell? ⟨g, off, none⟩ = some u
theorem Keeps.refl (v : Value) (m : Nat) (w : World) : Keeps v m w w := fun g off u h _ => h
theorem Keeps.of_mod {v : Value} {m : Nat} {w w' : World} (h : Mod [] w w') : Keeps v m w w' := fun g off u hc _ => h.cell hc (by simp)

section
variable {P : Program} (w : World)
theorem run_append_keeps (t tx ty e : TypeId) (i : TypeInfo) (z : Value) (size bytes : Nat) (ht : P.underlying t = some (.slice e)) (hi : P.info? e = some i) (hz : i.zero = some z)
    (hsize : i.size = size) (hby : i.bytes = bytes) (hzs : z.cells.size = size)
    (v : Value) (n : Nat) (xs : List Value) (hown : w.ownsRow 0 e size v n xs)
    (x : Value) (m : Nat) (news : List Value) (hs : Src P size tx x m news w)
    (h63 : n + m ≤ maxLen) (hbytes : (n + m) * bytes ≤ 140737488355328) :
    ∃ v' w', (Builtin.append_ #[t, tx] ty #[v, x]).run P w = .ok v' w' ∧ w'.ownsRow 0 e size v' (n + m) (xs ++ news) ∧ Mod (fp v) w w' ∧
      (∀ k ∈ fp v', k ∈ fp v ∨ w.heap.size ≤ k) ∧ Keeps v (n * size) w w' := by
  subst hsize
  subst hby
  have hl := hs.newsLen
  have hsmall : n + m ≤ 9223372036854775807 := by simp only [maxLen] at h63; omega
  have hlen : (xs ++ news).length = (n + m) * i.size := by rw [List.length_append, hown.1, hl, Nat.add_mul]
  have grown : ∀ (old : Nat), old < n + m →
      (w.drew.alloc (.cells ((xs ++ news).toArray ++ Builtin.zeroCells z.cells (grownCap w (n + m) old e - (n + m))) e)).ownsRow 0 e i.size
        (.slice (some ⟨w.heap.size, 0, none⟩) (n + m) (grownCap w (n + m) old e)) (n + m) (xs ++ news) := by
    intro old ho
    have hge := grownCap_ge w (n + m) old e
    have hcm : grownCap w (n + m) old e ≤ maxLen := grownCap_le_maxLen w (n + m) old e h63
    refine ⟨hlen, .inr ⟨w.heap.size, _, _, rfl, Nat.zero_le _, heap_alloc_new w.drew _, hge, hcm, ?_, ?_⟩⟩
    · simp only [Array.size_append, List.size_toArray, size_zeroCells, hzs, hlen, ← Nat.add_mul]
      congr 1
      omega
    · simp only [Array.toList_append]
      rw [← hlen]
      exact List.take_left
  have gmod : ∀ (o : Obj) (S : List Nat), Mod S w (w.drew.alloc o) := fun o S => ((Mod.refl S w).drew).alloc o
  rcases hown.2 with ⟨rfl, rfl⟩ | ⟨g, cap, cur, rfl, hbg, hg, hnc, hcm, hcs, htake⟩
  · have hx : xs = [] := List.eq_nil_of_length_eq_zero (by simpa using hown.1)
    subst hx
    by_cases hm : m = 0
    · subst hm
      have hn : news = [] := List.eq_nil_of_length_eq_zero (by simpa using hl)
      subst hn
      refine ⟨.slice none 0 0, w, ?_, World.ownsRow_nil w 0 e i.size, Mod.refl _ _, by simp [fp], Keeps.refl _ _ _⟩
      have hc : (Builtin.firstCells i.size 0 x).run P w = .ok #[] w := hs.cells
      rcases hs.kind with ⟨e', hk⟩ | hk <;> simp [Builtin.append_, run_underlying ht, run_underlying hk, sizeOf, typeInfo, hi, hs.len, hc]
    · have hr := run_append_grow_src (P := P) w t tx ty e i z ht hi hz none 0 0 [] (run_firstCells_none w.drew i.size 0 0 0) x m news hs (by omega) (by omega) (growslice_fits (by omega) hbytes)
      have hgr := grown 0 (by omega)
      simp only [Nat.zero_add, List.nil_append] at hgr hr ⊢
      exact ⟨_, _, hr, hgr, gmod _ _, by simp [fp], Keeps.of_mod (gmod _ _)⟩
  · by_cases hroom : n + m ≤ cap
    · have hfit : n * i.size + news.length ≤ cur.size := by rw [hl, hcs, ← Nat.add_mul]; exact Nat.mul_le_mul_right _ hroom
      have hr := run_append_room_own (P := P) w t tx ty e i ht hi g n cap cur hg x m news hs hroom hfit
      refine ⟨_, _, hr, ⟨hlen, .inr ⟨g, cap, _, rfl, hbg, setRow_heap w g cur _ e _ hg, hroom, hcm, ?_, ?_⟩⟩, ⟨rfl, rfl, rfl, by simp, fun k _ hk => setRow_other w g k _ (fun e => hk (by simp [fp, e]))⟩, by simp [fp], ?_⟩
      · simp only [List.size_toArray, List.length_append, List.length_take, List.length_drop, Array.length_toList]
        omega
      · rw [htake, ← hlen]
        exact List.take_left
      · intro k off u hc hlt
        by_cases hk : k = g
        · subst hk
          have ho := hlt (by simp [fp])
          have hnew := setRow_heap w k cur (cur.toList.take (n * i.size) ++ news ++ cur.toList.drop (n * i.size + news.length)).toArray e _ hg
          simp only [World.cell?, hg] at hc
          simp only [World.cell?, hnew]
          have hsz : off < cur.size := by omega
          rw [← Array.getElem?_toList, List.append_assoc, List.getElem?_append_left (by rw [List.length_take, Array.length_toList]; omega), List.getElem?_take, if_pos ho]
          rw [Array.getElem?_toList]; exact hc
        · exact (World.cell?_of_block (setRow_other w g k _ hk)).trans hc
    · have holds : ∀ j u, xs[j]? = some u → w.cell? ((⟨g, 0, none⟩ : Addr).add j) = some u := hown.cells (g := g) rfl
      have hr := run_append_grow_src (P := P) w t tx ty e i z ht hi hz (some ⟨g, 0, none⟩) n cap xs (run_firstCells_some w.drew i.size n ⟨g, 0, none⟩ n cap xs hown.1 (by simpa using holds)) x m news hs (by omega) (by omega) (growslice_fits (by omega) hbytes)
      exact ⟨_, _, hr, grown cap (by omega), gmod _ _, by simp [fp], Keeps.of_mod (gmod _ _)⟩

theorem wpList_append_keeps {ops : Array Oper} {rest : List Oper} {o : Oper} {a : Act} {Q : Exit → Act → World → Prop} (hgd : o.guard = none) (s x : Operand) (t tx : TypeId)
    (ho : o.op = .call { callee := .builtin .append, args := #[s, x], argTypes := #[t, tx] })
    (e : TypeId) (i : TypeInfo) (z : Value) (size bytes : Nat) (ht : P.underlying t = some (.slice e)) (hi : P.info? e = some i) (hz : i.zero = some z)
    (hsize : i.size = size) (hby : i.bytes = bytes) (hzs : z.cells.size = size)
    (v : Value) (n : Nat) (xs : List Value) (hs : a.eval s = v) (hown : w.ownsRow 0 e size v n xs)
    (vx : Value) (m : Nat) (news : List Value) (hx : a.eval x = vx) (hsrc : Src P size tx vx m news w)
    (h63 : n + m ≤ maxLen) (hbytes : (n + m) * bytes ≤ 140737488355328)
    (h : ∀ v' w', w'.ownsRow 0 e size v' (n + m) (xs ++ news) → Mod (fp v) w w' → (∀ k ∈ fp v', k ∈ fp v ∨ w.heap.size ≤ k) → Keeps v (n * size) w w' → wpList P ops Q rest (a.put o.dst v') w') : wpList P ops Q (o :: rest) a w :=
  wpList_plain hgd fun K hK => by
    obtain ⟨v', w', hr, h2, h3, h4, h5⟩ := run_append_keeps (P := P) w t tx o.type e i z size bytes ht hi hz hsize hby hzs v n xs hown vx m news hsrc h63 hbytes
    unfold Oper.wp execOp
    simp only [ho, resolve, invoke, builtin, Sem.run_bind, Sem.run_pure, Result.andThen_ok, List.map_toArray, List.map_cons, List.map_nil, hs, hx, hr]
    exact hK _ _ (h v' w' h2 h3 h4 h5)
end

/-- one cell of a row is written -/
theorem owns_set {w : World} {e : TypeId} {size n : Nat} {g cap : Nat} {xs : List Value} (h : w.ownsRow 0 e size (.slice (some ⟨g, 0, none⟩) n cap) n xs) (off : Nat) (u : Value) (ho : off < n * size) :
    (w.setCell ⟨g, off, none⟩ u).ownsRow 0 e size (.slice (some ⟨g, 0, none⟩) n cap) n (xs.set off u) := by
  obtain ⟨h1, h2⟩ := h
  refine ⟨by rw [List.length_set]; exact h1, ?_⟩
  rcases h2 with ⟨h3, -⟩ | ⟨g', cap', cur, hv, hb, hg, hn, hc, hs, ht⟩
  · simp at h3
  · simp only [Value.slice.injEq, Option.some.injEq, Addr.mk.injEq, and_true, true_and] at hv
    obtain ⟨rfl, rfl⟩ := hv
    refine .inr ⟨g, cap, cur.setIfInBounds off u, rfl, hb, setCell_at hg off u, hn, hc, by simpa using hs, ?_⟩
    rw [Array.toList_setIfInBounds, List.take_set, ht]
/-- a row whose words are all of a kind, the first k of them -/
structure MRow (w : World) (v : Value) (n : Nat) (mark : Int) (k : Nat) : Prop where
  row : ∃ xs, w.ownsRow 0 45 7 v n xs ∧ (∀ i, i < k → i < n → xs[i * 7]? = some (.int .i64 mark))
theorem MRow.keep {S : List Nat} {w w' : World} {v : Value} {n k : Nat} {mark : Int} (h : MRow w v n mark k) (hm : Mod S w w') (hS : ∀ k ∈ fp v, k ∉ S) : MRow w' v n mark k := by
  obtain ⟨xs, h1, h2⟩ := h.row
  exact ⟨xs, hm.owns h1 hS, h2⟩
theorem MRow.lt {w : World} {v : Value} {n k : Nat} {mark : Int} (h : MRow w v n mark k) : ∀ k ∈ fp v, k < w.heap.size := by
  obtain ⟨xs, h1, h2⟩ := h.row
  exact fp_lt h1
/-- the kinds, as they are read -/
def Marked (w : World) (v : Value) (n : Nat) (mark : Int) : Prop := (∃ a c, v = .slice a n c) ∧ ∀ i, i < n → ∃ g c, v = .slice (some ⟨g, 0, none⟩) n c ∧ w.cell? ⟨g, i * 7, none⟩ = some (.int .i64 mark)
theorem MRow.marked {w : World} {v : Value} {n : Nat} {mark : Int} (h : MRow w v n mark n) : Marked w v n mark := by
  obtain ⟨xs, h1, h2⟩ := h.row
  refine ⟨owns_slice h1, fun i hi => ?_⟩
  have hx := h2 i hi hi
  rcases h1.2 with ⟨-, h0⟩ | ⟨g, cap, cur, rfl, hb, hg, hn, hc, hs, ht⟩
  · omega
  · refine ⟨g, cap, rfl, ?_⟩
    rw [← ht, List.getElem?_take] at hx
    simp only [World.cell?, hg]
    split at hx
    · simpa using hx
    · cases hx
theorem Marked.keep {S : List Nat} {w w' : World} {v : Value} {n : Nat} {mark : Int} (h : Marked w v n mark) (hm : Mod S w w') (hS : ∀ k ∈ fp v, k ∉ S) : Marked w' v n mark := by
  refine ⟨h.1, fun i hi => ?_⟩
  obtain ⟨g, c, rfl, hc⟩ := h.2 i hi
  exact ⟨g, c, rfl, hm.cell hc (hS g (by simp [fp]))⟩
theorem Marked.keeps {w w' : World} {v : Value} {n : Nat} {mark : Int} (h : Marked w v n mark) (hm : Keeps v (n * 7) w w') : Marked w' v n mark := by
  refine ⟨h.1, fun i hi => ?_⟩
  obtain ⟨g, c, rfl, hc⟩ := h.2 i hi
  exact ⟨g, c, rfl, hm _ _ _ hc (fun _ => by omega)⟩
end Go.Proofs.YtobimhmllkfmfaaDoor
