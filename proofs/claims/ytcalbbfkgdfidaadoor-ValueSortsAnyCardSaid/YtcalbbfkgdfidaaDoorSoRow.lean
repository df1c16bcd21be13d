/- A ROW OF THINGS (of k cells each, told by their numbers) that a sort writes over in place. -/
import Derived.Test.YtcalbbfkgdfidaaDoorSoPl
import Derived.Test.YtcalbbfkgdfidaaDoorSeq
import Derived.Test.YtcalbbfkgdfidaaDoorCodeW
import Derived.Shelf.GgSortFunc.RowK
namespace Go.Proofs.YtcalbbfkgdfidaaDoor
open Go.RowKit Go.Sort Go.Lib
set_option linter.unusedVariables false
set_option linter.unusedSimpArgs false
set_option maxRecDepth 100000

/-- two things of a list, exchanged -/
def swL (l : List Nat) (p q : Nat) : List Nat := (l.set p (l.getD q 0)).set q (l.getD p 0)
theorem swL_len (l : List Nat) (p q : Nat) : (swL l p q).length = l.length := by unfold swL; simp
theorem swL_at (A B C : List Nat) (x y p q : Nat) (hp : p = A.length) (hq : q = A.length + 1 + B.length) : swL (A ++ x :: (B ++ y :: C)) p q = A ++ y :: (B ++ x :: C) := by
  subst hp hq
  unfold swL
  have e1 : (A ++ x :: (B ++ y :: C)).getD A.length 0 = x := by simp
  have e2 : (A ++ x :: (B ++ y :: C)).getD (A.length + 1 + B.length) 0 = y := by
    rw [List.getD_eq_getElem?_getD, List.getElem?_append_right (by omega), show A.length + 1 + B.length - A.length = B.length + 1 by omega]
    simp
  rw [e1, e2, List.set_append_right _ _ (by omega), Nat.sub_self, List.set_cons_zero, List.set_append_right _ _ (by omega), show A.length + 1 + B.length - A.length = B.length + 1 by omega, List.set_cons_succ, List.set_append_right _ _ (by omega), Nat.sub_self, List.set_cons_zero]
theorem swL_adj (A C : List Nat) (x y p q : Nat) (hp : p = A.length + 1) (hq : q = A.length) : swL (A ++ x :: y :: C) p q = A ++ y :: x :: C := by
  subst hp hq
  unfold swL
  have e1 : (A ++ x :: y :: C).getD A.length 0 = x := by simp
  have e2 : (A ++ x :: y :: C).getD (A.length + 1) 0 = y := by
    rw [List.getD_eq_getElem?_getD, List.getElem?_append_right (by omega), show A.length + 1 - A.length = 1 by omega]
    rfl
  rw [e1, e2, List.set_append_right _ _ (by omega), show A.length + 1 - A.length = 1 by omega, List.set_cons_succ, List.set_cons_zero, List.set_append_right _ _ (by omega), Nat.sub_self, List.set_cons_zero]
theorem getD_at (A C : List Nat) (x p : Nat) (hp : p = A.length) : (A ++ x :: C).getD p 0 = x := by
  subst hp; simp
theorem getD_in (P B Y : List Nat) (i p : Nat) (hi : i < B.length) (hp : p = P.length + i) : (P ++ (B ++ Y)).getD p 0 = B[i] := by
  subst hp
  rw [List.getD_eq_getElem?_getD, List.getElem?_append_right (by omega), Nat.add_sub_cancel_left, List.getElem?_append_left hi, List.getElem?_eq_getElem hi]
  rfl
theorem swap_step (X U M V Y : List Nat) (i n p q : Nat) (hU : U.length = n) (hV : V.length = n) (hi : i < n) (hp : p = X.length + i) (hq : q = X.length + n + M.length + i) :
    swL (X ++ ((V.take i ++ U.drop i) ++ (M ++ ((U.take i ++ V.drop i) ++ Y)))) p q = X ++ ((V.take (i + 1) ++ U.drop (i + 1)) ++ (M ++ ((U.take (i + 1) ++ V.drop (i + 1)) ++ Y))) := by
  have hu : i < U.length := by omega
  have hv : i < V.length := by omega
  rw [List.drop_eq_getElem_cons hu, List.drop_eq_getElem_cons hv]
  have e := swL_at (X ++ V.take i) (U.drop (i + 1) ++ (M ++ U.take i)) (V.drop (i + 1) ++ Y) U[i] V[i] p q (by simp; omega) (by simp; omega)
  have e1 : X ++ ((V.take i ++ U[i] :: U.drop (i + 1)) ++ (M ++ ((U.take i ++ V[i] :: V.drop (i + 1)) ++ Y))) = (X ++ V.take i) ++ U[i] :: ((U.drop (i + 1) ++ (M ++ U.take i)) ++ V[i] :: (V.drop (i + 1) ++ Y)) := by simp only [List.append_assoc, List.cons_append]
  rw [e1, e, List.take_succ_eq_append_getElem hu, List.take_succ_eq_append_getElem hv]
  simp only [List.append_assoc, List.cons_append, List.nil_append]
theorem swp_list (l : List Nat) (p q : Nat) (hp : p < l.length) (hq : q < l.length) : swp l.toArray p q = (swL l p q).toArray := by
  unfold swp swL
  simp [List.getD_eq_getElem?_getD, hp, hq]
structure Enc (enc : Nat → List Value) (k : Nat) : Prop where
  len : ∀ x, (enc x).length = k
  one : ∀ x, ∀ v ∈ enc x, v.oneCell' = true
theorem Enc.two {enc : Nat → List Value} (E : Enc enc 2) (x : Nat) : ∃ a b, enc x = [a, b] := by
  have := E.len x
  match h : enc x, this with
  | [a, b], _ => exact ⟨a, b, rfl⟩
theorem Enc.three {enc : Nat → List Value} (E : Enc enc 3) (x : Nat) : ∃ a b c, enc x = [a, b, c] := by
  have := E.len x
  match h : enc x, this with
  | [a, b, c], _ => exact ⟨a, b, c, rfl⟩
def Row (enc : Nat → List Value) (k : Nat) (W : World) (g : Nat) (l : List Nat) : Prop := HoldsK enc k W g 0 l.toArray
theorem stores_row (P : Program) {W : World} {g : Nat} {F : Array Value} (h : Holds id W g 0 F) (s : Nat) (vs : List Value) (hs : s + vs.length ≤ F.size) (h1 : ∀ v ∈ vs, v.oneCell' = true) :
    Sem.run P (storeCells ⟨g, s, none⟩ vs 0) W = .ok () (W.setCells g s vs) := by
  have hc : ∀ c, c < vs.length → W.cell? ⟨g, s + 0 + c, none⟩ = some (F[s + c]!) ∧ W.frozen? ⟨g, s + 0 + c, none⟩ = false := fun c hc => by
    have := h (s + c) (by omega)
    rwa [Nat.zero_add] at this
  have := run_storeCells_cells (P := P) g s vs 0 W (fun c h2 => by rw [(hc c h2).1]; rfl) (fun c h2 => (hc c h2).2) h1
  rwa [Nat.add_zero] at this
section
variable {enc : Nat → List Value} {k : Nat} {W W' : World} {g : Nat} {l : List Nat} {S : List Nat}
theorem Row.keep (h : Row enc k W g l) (hm : Mod S W W') (hg : g ∉ S) (hl : g < W.heap.size) : Row enc k W' g l := by
  intro j hj
  obtain ⟨h1, h2⟩ := h j hj
  have hb := hm.block g hl hg
  exact ⟨by unfold World.cell? at h1 ⊢; simp only at h1 ⊢; rw [hb]; exact h1, by unfold World.frozen? at h2 ⊢; simp only at h2 ⊢; rw [hb]; exact h2⟩
theorem Row.load (h : Row enc k W g l) (E : Enc enc k) (P : Program) (i : Nat) (hi : i < l.length) : Sem.run P (loadCellsFrom ⟨g, i * k, none⟩ 0 k #[]) W = .ok (enc (l.getD i 0)).toArray W := by
  have e : l.toArray[i]! = l.getD i 0 := by simp [List.getD_eq_getElem?_getD, hi]
  have hc : ∀ j v, (enc (l.getD i 0))[j]? = some v → W.cell? ((⟨g, i * k, none⟩ : Addr).add j) = some v := fun c v hv => by
    have hc : c < k := by have := (List.getElem?_eq_some_iff.1 hv).1; rwa [E.len] at this
    have h2 := (HoldsK.cell h (i := i) (c := c) (by simpa using hi) hc).1
    rw [e, Nat.zero_add, getElem!_pos (enc (l.getD i 0)) c (by rw [E.len]; exact hc)] at h2
    rw [List.getElem?_eq_getElem (by rw [E.len]; exact hc)] at hv
    rw [addr_add, h2, hv]
  have := run_loadCells_list (P := P) (w := W) _ _ hc
  rw [E.len] at this
  simpa [loadCells] using this
theorem Row.cell (h : Row enc k W g l) (E : Enc enc k) (i : Nat) (hi : i < l.length) (c : Nat) (v : Value) (hv : (enc (l.getD i 0))[c]? = some v) :
    W.cell? ⟨g, i * k + c, none⟩ = some v ∧ W.frozen? ⟨g, i * k + c, none⟩ = false := by
  have e : l.toArray[i]! = l.getD i 0 := by simp [List.getD_eq_getElem?_getD, hi]
  have hc : c < k := by have := (List.getElem?_eq_some_iff.1 hv).1; rwa [E.len] at this
  have h2 := HoldsK.cell h (i := i) (c := c) (by simpa using hi) hc
  rw [e, Nat.zero_add, getElem!_pos (enc (l.getD i 0)) c (by rw [E.len]; exact hc)] at h2
  rw [List.getElem?_eq_getElem (by rw [E.len]; exact hc)] at hv
  rw [hv] at h2
  exact h2
theorem flat_size (enc : Nat → List Value) (k : Nat) (l : List Nat) (i : Nat) (hi : i < l.length) : i * k + k ≤ (flatK enc k l.toArray).size := by
  rw [size_flatK]
  have := Nat.mul_le_mul_right k (show i + 1 ≤ l.length from hi)
  rw [Nat.add_mul, Nat.one_mul] at this
  simpa using this
theorem Row.st1 (h : Row enc k W g l) (E : Enc enc k) (P : Program) (i : Nat) (hi : i < l.length) (x : Nat) :
    Sem.run P (storeCells ⟨g, i * k, none⟩ (enc x) 0) W = .ok () (W.setCells g (i * k) (enc x)) := by
  have := stores_row P h (i * k) (enc x) (by rw [E.len]; exact flat_size enc k l i hi) (E.one x)
  exact this
theorem setCells_holds {F : Array Value} (h : Holds id W g 0 F) (s : Nat) (vs : List Value) (hs : s + vs.length ≤ F.size) : Holds id (W.setCells g s vs) g 0 (setMany F s vs) := by
  have e : W.setCells g s vs = putRow id W g 0 (setMany F s vs) := by
    have h0 : W.setCells g (0 + s) vs = putRow id W g 0 (setMany F s vs) := by
      conv => lhs; rw [← putRow_self id W g 0 F h]
      exact setCells_putRow _ _ _ _ _ _ hs
    rwa [Nat.zero_add] at h0
  rw [e]
  exact holds_putRow id W g 0 F _ h (by rw [size_setMany])
theorem Row.st2 (h : Row enc k W g l) (E : Enc enc k) (P : Program) (i j : Nat) (hi : i < l.length) (hj : j < l.length) (y x : Nat) :
    Sem.run P (storeCells ⟨g, j * k, none⟩ (enc x) 0) (W.setCells g (i * k) (enc y)) = .ok () ((W.setCells g (i * k) (enc y)).setCells g (j * k) (enc x)) := by
  have h1 := setCells_holds h (i * k) (enc y) (by rw [E.len]; exact flat_size enc k l i hi)
  have := stores_row P h1 (j * k) (enc x) (by rw [E.len, size_setMany]; exact flat_size enc k l j hj) (E.one x)
  exact this
theorem Row.swapped (h : Row enc k W g l) (E : Enc enc k) (p q : Nat) (hp : p < l.length) (hq : q < l.length) : Row enc k ((W.setCells g (p * k) (enc (l.getD q 0))).setCells g (q * k) (enc (l.getD p 0))) g (swL l p q) := by
  have h1 := setCells_holds h (p * k) (enc (l.getD q 0)) (by rw [E.len]; exact flat_size enc k l p hp)
  have h2 := setCells_holds h1 (q * k) (enc (l.getD p 0)) (by rw [E.len, size_setMany]; exact flat_size enc k l q hq)
  have e := setMany_swp enc k E.len l.toArray p q (by simpa using hp) (by simpa using hq)
  have e1 : l.toArray[p]! = l.getD p 0 := by simp [List.getD_eq_getElem?_getD, hp]
  have e2 : l.toArray[q]! = l.getD q 0 := by simp [List.getD_eq_getElem?_getD, hq]
  rw [e1, e2, swp_list l p q hp hq] at e
  unfold Row HoldsK
  rw [← e]
  exact h2
theorem mod_setCells (g : Nat) : ∀ (vs : List Value) (o : Nat) (W : World), Mod [g] W (W.setCells g o vs)
  | [], _, W => Mod.refl _ _
  | v :: r, o, W => by
    rw [World.setCells]
    exact ((Mod.refl [g] W).setCell (.inl (by simp)) v).trans (mod_setCells g r _ _) (fun t ht => .inl ht)
theorem Row.drew (h : Row enc k W g l) : Row enc k W.drew g l := h
end
/-- a cell that may be written -/
def Wr (W : World) (g j : Nat) : Prop := (W.cell? ⟨g, j, none⟩).isSome = true ∧ W.frozen? ⟨g, j, none⟩ = false
theorem Wr.set {W : World} {g j : Nat} (h : Wr W g j) (p : Addr) (v : Value) : Wr (W.setCell p v) g j := by
  refine ⟨?_, by rw [World.frozen?_setCell]; exact h.2⟩
  obtain ⟨u, hu⟩ := Option.isSome_iff_exists.1 h.1
  by_cases e : p = ⟨g, j, none⟩
  · subst e; rw [World.cell?_setCell_same W _ v hu]; rfl
  · rw [World.cell?_setCell_other W p _ v e, hu]; rfl
theorem store_ok (P : Program) {W : World} {g j : Nat} {v : Value} (h : Wr W g j) (h1 : v.oneCell' = true) : Sem.run P (store ⟨g, j, none⟩ v) W = .ok () (W.setCell ⟨g, j, none⟩ v) := by
  rw [run_store P W _ v _ h1]
  obtain ⟨u, hu⟩ := Option.isSome_iff_exists.1 h.1
  have hz := h.2
  simp [hu, hz]
theorem store_drew (P : Program) {W : World} {g j : Nat} {v : Value} (h : Wr W g j) (h1 : v.oneCell' = true) : Sem.run P (store ⟨g, j, none⟩ v) W.drew = .ok () (W.setCell ⟨g, j, none⟩ v).drew := by
  have := store_ok P (W := W.drew) h h1
  rw [this]
  rfl
theorem Row.wr {enc : Nat → List Value} {k : Nat} {W : World} {g : Nat} {l : List Nat} (h : Row enc k W g l) (E : Enc enc k) (p : Nat) (hp : p < l.length) (c : Nat) (hc : c < k) : Wr W g (p * k + c) := by
  have h1 := h.cell E p hp c _ (List.getElem?_eq_getElem (by rw [E.len]; exact hc))
  exact ⟨by rw [h1.1]; rfl, h1.2⟩
theorem Row.seted {enc : Nat → List Value} {k : Nat} {W : World} {g : Nat} {l : List Nat} (h : Row enc k W g l) (E : Enc enc k) (p x : Nat) (hp : p < l.length) : Row enc k (W.setCells g (p * k) (enc x)) g (l.set p x) := by
  have h1 := setCells_holds h (p * k) (enc x) (by rw [E.len]; exact flat_size enc k l p hp)
  unfold Row HoldsK
  have e : setMany (flatK enc k l.toArray) (p * k) (enc x) = flatK enc k (l.set p x).toArray := by
    refine ext_get! (by simp) fun t ht => ?_
    have ht' : t < l.toArray.size * k := by simpa using ht
    have k0 : 0 < k := by rcases Nat.eq_zero_or_pos k with h | h; · subst h; simp at ht'
                          · exact h
    rw [get_setMany _ _ _ t (by simpa using ht'), get_flatK _ _ _ t ht', get_flatK _ _ _ t (by simpa using ht'), E.len]
    by_cases a : t / k = p
    · rw [if_pos ((blk_iff k p t k0).2 a)]
      subst a
      have hd : t / k < l.length := hp
      rw [show t - t / k * k = t % k by rw [Nat.mod_eq_sub_div_mul]]
      simp [hd]
    · rw [if_neg (fun h => a ((blk_iff k p t k0).1 h))]
      simp [a, Ne.symm a]
  rw [← e]
  exact h1
theorem Row.swap2 {enc : Nat → List Value} {W : World} {g : Nat} {l : List Nat} (h : Row enc 2 W g l) (E : Enc enc 2) (P : Program) (p q : Nat) (hp : p < l.length) (hq : q < l.length) :
    ∃ x0 x1 y0 y1, enc (l.getD p 0) = [x0, x1] ∧ enc (l.getD q 0) = [y0, y1] ∧
    W.cell? ⟨g, p * 2, none⟩ = some x0 ∧ W.cell? ⟨g, p * 2 + 1, none⟩ = some x1 ∧ W.cell? ⟨g, q * 2, none⟩ = some y0 ∧ W.cell? ⟨g, q * 2 + 1, none⟩ = some y1 ∧
    Sem.run P (store ⟨g, p * 2, none⟩ y0) W.drew = .ok () (W.setCell ⟨g, p * 2, none⟩ y0).drew ∧
    Sem.run P (store ⟨g, p * 2 + 1, none⟩ y1) (W.setCell ⟨g, p * 2, none⟩ y0).drew = .ok () ((W.setCell ⟨g, p * 2, none⟩ y0).setCell ⟨g, p * 2 + 1, none⟩ y1).drew ∧
    Sem.run P (store ⟨g, q * 2, none⟩ x0) ((W.setCell ⟨g, p * 2, none⟩ y0).setCell ⟨g, p * 2 + 1, none⟩ y1).drew = .ok () (((W.setCell ⟨g, p * 2, none⟩ y0).setCell ⟨g, p * 2 + 1, none⟩ y1).setCell ⟨g, q * 2, none⟩ x0).drew ∧
    Sem.run P (store ⟨g, q * 2 + 1, none⟩ x1) (((W.setCell ⟨g, p * 2, none⟩ y0).setCell ⟨g, p * 2 + 1, none⟩ y1).setCell ⟨g, q * 2, none⟩ x0).drew = .ok () ((((W.setCell ⟨g, p * 2, none⟩ y0).setCell ⟨g, p * 2 + 1, none⟩ y1).setCell ⟨g, q * 2, none⟩ x0).setCell ⟨g, q * 2 + 1, none⟩ x1).drew ∧
    (Row enc 2 ((((W.setCell ⟨g, p * 2, none⟩ y0).setCell ⟨g, p * 2 + 1, none⟩ y1).setCell ⟨g, q * 2, none⟩ x0).setCell ⟨g, q * 2 + 1, none⟩ x1).drew g (swL l p q) ∧ Mod [g] W ((((W.setCell ⟨g, p * 2, none⟩ y0).setCell ⟨g, p * 2 + 1, none⟩ y1).setCell ⟨g, q * 2, none⟩ x0).setCell ⟨g, q * 2 + 1, none⟩ x1).drew) := by
  obtain ⟨x0, x1, hx⟩ := E.two (l.getD p 0)
  obtain ⟨y0, y1, hy⟩ := E.two (l.getD q 0)
  have N := h.swapped E p q hp hq
  rw [hx, hy] at N
  have cp0 := h.cell E p hp 0 x0 (by rw [hx]; rfl)
  have op0 := E.one (l.getD p 0) x0 (by rw [hx]; simp)
  have cp1 := h.cell E p hp 1 x1 (by rw [hx]; rfl)
  have op1 := E.one (l.getD p 0) x1 (by rw [hx]; simp)
  have cq0 := h.cell E q hq 0 y0 (by rw [hy]; rfl)
  have oq0 := E.one (l.getD q 0) y0 (by rw [hy]; simp)
  have cq1 := h.cell E q hq 1 y1 (by rw [hy]; rfl)
  have oq1 := E.one (l.getD q 0) y1 (by rw [hy]; simp)
  have w0 : ∀ b c, (∃ v, W.cell? ⟨g, b * 2 + c, none⟩ = some v ∧ W.frozen? ⟨g, b * 2 + c, none⟩ = false) → Wr W g (b * 2 + c) := fun b c ⟨v, h1, h2⟩ => ⟨by rw [h1]; rfl, h2⟩
  have wp0 := w0 p 0 ⟨_, cp0.1, cp0.2⟩
  have wp1 := w0 p 1 ⟨_, cp1.1, cp1.2⟩
  have wq0 := w0 q 0 ⟨_, cq0.1, cq0.2⟩
  have wq1 := w0 q 1 ⟨_, cq1.1, cq1.2⟩
  rw [Nat.add_zero] at cp0 cq0 wp0 wq0
  have N2 : Row enc 2 ((((W.setCell ⟨g, p * 2, none⟩ y0).setCell ⟨g, p * 2 + 1, none⟩ y1).setCell ⟨g, q * 2, none⟩ x0).setCell ⟨g, q * 2 + 1, none⟩ x1) g (swL l p q) := N
  exact ⟨x0, x1, y0, y1, hx, hy, cp0.1, cp1.1, cq0.1, cq1.1, store_drew P wp0 oq0, store_drew P (Wr.set wp1 _ _) oq1, store_drew P (Wr.set (Wr.set wq0 _ _) _ _) op0, store_drew P (Wr.set (Wr.set (Wr.set wq1 _ _) _ _) _ _) op1, ⟨N2.drew, (((((Mod.refl [g] W).setCell (.inl (by simp)) _).setCell (.inl (by simp)) _).setCell (.inl (by simp)) _).setCell (.inl (by simp)) _).drew⟩⟩
theorem Row.see2 {enc : Nat → List Value} {W : World} {g : Nat} {l : List Nat} (h : Row enc 2 W g l) (E : Enc enc 2) (p : Nat) (hp : p < l.length) :
    ∃ x0 x1, enc (l.getD p 0) = [x0, x1] ∧ W.cell? ⟨g, p * 2, none⟩ = some x0 ∧ W.cell? ⟨g, p * 2 + 1, none⟩ = some x1 := by
  obtain ⟨x0, x1, hx⟩ := E.two (l.getD p 0)
  have c0 := h.cell E p hp 0 x0 (by rw [hx]; rfl)
  have c1 := h.cell E p hp 1 x1 (by rw [hx]; rfl)
  rw [Nat.add_zero] at c0
  exact ⟨x0, x1, hx, c0.1, c1.1⟩
theorem Row.copy2 {enc : Nat → List Value} {W : World} {g : Nat} {l : List Nat} (h : Row enc 2 W g l) (E : Enc enc 2) (P : Program) (p q : Nat) (hp : p < l.length) (hq : q < l.length) :
    ∃ y0 y1, enc (l.getD q 0) = [y0, y1] ∧ W.cell? ⟨g, q * 2, none⟩ = some y0 ∧ W.cell? ⟨g, q * 2 + 1, none⟩ = some y1 ∧
    Sem.run P (store ⟨g, p * 2, none⟩ y0) W = .ok () (W.setCell ⟨g, p * 2, none⟩ y0) ∧
    Sem.run P (store ⟨g, p * 2 + 1, none⟩ y1) (W.setCell ⟨g, p * 2, none⟩ y0) = .ok () ((W.setCell ⟨g, p * 2, none⟩ y0).setCell ⟨g, p * 2 + 1, none⟩ y1) ∧
    (Row enc 2 ((W.setCell ⟨g, p * 2, none⟩ y0).setCell ⟨g, p * 2 + 1, none⟩ y1) g (l.set p (l.getD q 0)) ∧ Mod [g] W ((W.setCell ⟨g, p * 2, none⟩ y0).setCell ⟨g, p * 2 + 1, none⟩ y1)) := by
  obtain ⟨y0, y1, hy⟩ := E.two (l.getD q 0)
  have N := h.seted E p (l.getD q 0) hp
  rw [hy] at N
  have cq0 := h.cell E q hq 0 y0 (by rw [hy]; rfl)
  have oq0 := E.one (l.getD q 0) y0 (by rw [hy]; simp)
  have wp0 : Wr W g (p * 2 + 0) := h.wr E p hp 0 (by omega)
  have cq1 := h.cell E q hq 1 y1 (by rw [hy]; rfl)
  have oq1 := E.one (l.getD q 0) y1 (by rw [hy]; simp)
  have wp1 : Wr W g (p * 2 + 1) := h.wr E p hp 1 (by omega)
  rw [Nat.add_zero] at cq0 wp0
  exact ⟨y0, y1, hy, cq0.1, cq1.1, store_ok P wp0 oq0, store_ok P (Wr.set wp1 _ _) oq1, ⟨N, (((Mod.refl [g] W).setCell (.inl (by simp)) _).setCell (.inl (by simp)) _)⟩⟩

theorem Row.swap3 {enc : Nat → List Value} {W : World} {g : Nat} {l : List Nat} (h : Row enc 3 W g l) (E : Enc enc 3) (P : Program) (p q : Nat) (hp : p < l.length) (hq : q < l.length) :
    ∃ x0 x1 x2 y0 y1 y2, enc (l.getD p 0) = [x0, x1, x2] ∧ enc (l.getD q 0) = [y0, y1, y2] ∧
    W.cell? ⟨g, p * 3, none⟩ = some x0 ∧ W.cell? ⟨g, p * 3 + 1, none⟩ = some x1 ∧ W.cell? ⟨g, p * 3 + 2, none⟩ = some x2 ∧ W.cell? ⟨g, q * 3, none⟩ = some y0 ∧ W.cell? ⟨g, q * 3 + 1, none⟩ = some y1 ∧ W.cell? ⟨g, q * 3 + 2, none⟩ = some y2 ∧
    Sem.run P (store ⟨g, p * 3, none⟩ y0) W.drew = .ok () (W.setCell ⟨g, p * 3, none⟩ y0).drew ∧
    Sem.run P (store ⟨g, p * 3 + 1, none⟩ y1) (W.setCell ⟨g, p * 3, none⟩ y0).drew = .ok () ((W.setCell ⟨g, p * 3, none⟩ y0).setCell ⟨g, p * 3 + 1, none⟩ y1).drew ∧
    Sem.run P (store ⟨g, p * 3 + 2, none⟩ y2) ((W.setCell ⟨g, p * 3, none⟩ y0).setCell ⟨g, p * 3 + 1, none⟩ y1).drew = .ok () (((W.setCell ⟨g, p * 3, none⟩ y0).setCell ⟨g, p * 3 + 1, none⟩ y1).setCell ⟨g, p * 3 + 2, none⟩ y2).drew ∧
    Sem.run P (store ⟨g, q * 3, none⟩ x0) (((W.setCell ⟨g, p * 3, none⟩ y0).setCell ⟨g, p * 3 + 1, none⟩ y1).setCell ⟨g, p * 3 + 2, none⟩ y2).drew = .ok () ((((W.setCell ⟨g, p * 3, none⟩ y0).setCell ⟨g, p * 3 + 1, none⟩ y1).setCell ⟨g, p * 3 + 2, none⟩ y2).setCell ⟨g, q * 3, none⟩ x0).drew ∧
    Sem.run P (store ⟨g, q * 3 + 1, none⟩ x1) ((((W.setCell ⟨g, p * 3, none⟩ y0).setCell ⟨g, p * 3 + 1, none⟩ y1).setCell ⟨g, p * 3 + 2, none⟩ y2).setCell ⟨g, q * 3, none⟩ x0).drew = .ok () (((((W.setCell ⟨g, p * 3, none⟩ y0).setCell ⟨g, p * 3 + 1, none⟩ y1).setCell ⟨g, p * 3 + 2, none⟩ y2).setCell ⟨g, q * 3, none⟩ x0).setCell ⟨g, q * 3 + 1, none⟩ x1).drew ∧
    Sem.run P (store ⟨g, q * 3 + 2, none⟩ x2) (((((W.setCell ⟨g, p * 3, none⟩ y0).setCell ⟨g, p * 3 + 1, none⟩ y1).setCell ⟨g, p * 3 + 2, none⟩ y2).setCell ⟨g, q * 3, none⟩ x0).setCell ⟨g, q * 3 + 1, none⟩ x1).drew = .ok () ((((((W.setCell ⟨g, p * 3, none⟩ y0).setCell ⟨g, p * 3 + 1, none⟩ y1).setCell ⟨g, p * 3 + 2, none⟩ y2).setCell ⟨g, q * 3, none⟩ x0).setCell ⟨g, q * 3 + 1, none⟩ x1).setCell ⟨g, q * 3 + 2, none⟩ x2).drew ∧
    (Row enc 3 ((((((W.setCell ⟨g, p * 3, none⟩ y0).setCell ⟨g, p * 3 + 1, none⟩ y1).setCell ⟨g, p * 3 + 2, none⟩ y2).setCell ⟨g, q * 3, none⟩ x0).setCell ⟨g, q * 3 + 1, none⟩ x1).setCell ⟨g, q * 3 + 2, none⟩ x2).drew g (swL l p q) ∧ Mod [g] W ((((((W.setCell ⟨g, p * 3, none⟩ y0).setCell ⟨g, p * 3 + 1, none⟩ y1).setCell ⟨g, p * 3 + 2, none⟩ y2).setCell ⟨g, q * 3, none⟩ x0).setCell ⟨g, q * 3 + 1, none⟩ x1).setCell ⟨g, q * 3 + 2, none⟩ x2).drew) := by
  obtain ⟨x0, x1, x2, hx⟩ := E.three (l.getD p 0)
  obtain ⟨y0, y1, y2, hy⟩ := E.three (l.getD q 0)
  have N := h.swapped E p q hp hq
  rw [hx, hy] at N
  have cp0 := h.cell E p hp 0 x0 (by rw [hx]; rfl)
  have op0 := E.one (l.getD p 0) x0 (by rw [hx]; simp)
  have cp1 := h.cell E p hp 1 x1 (by rw [hx]; rfl)
  have op1 := E.one (l.getD p 0) x1 (by rw [hx]; simp)
  have cp2 := h.cell E p hp 2 x2 (by rw [hx]; rfl)
  have op2 := E.one (l.getD p 0) x2 (by rw [hx]; simp)
  have cq0 := h.cell E q hq 0 y0 (by rw [hy]; rfl)
  have oq0 := E.one (l.getD q 0) y0 (by rw [hy]; simp)
  have cq1 := h.cell E q hq 1 y1 (by rw [hy]; rfl)
  have oq1 := E.one (l.getD q 0) y1 (by rw [hy]; simp)
  have cq2 := h.cell E q hq 2 y2 (by rw [hy]; rfl)
  have oq2 := E.one (l.getD q 0) y2 (by rw [hy]; simp)
  have w0 : ∀ b c, (∃ v, W.cell? ⟨g, b * 3 + c, none⟩ = some v ∧ W.frozen? ⟨g, b * 3 + c, none⟩ = false) → Wr W g (b * 3 + c) := fun b c ⟨v, h1, h2⟩ => ⟨by rw [h1]; rfl, h2⟩
  have wp0 := w0 p 0 ⟨_, cp0.1, cp0.2⟩
  have wp1 := w0 p 1 ⟨_, cp1.1, cp1.2⟩
  have wp2 := w0 p 2 ⟨_, cp2.1, cp2.2⟩
  have wq0 := w0 q 0 ⟨_, cq0.1, cq0.2⟩
  have wq1 := w0 q 1 ⟨_, cq1.1, cq1.2⟩
  have wq2 := w0 q 2 ⟨_, cq2.1, cq2.2⟩
  rw [Nat.add_zero] at cp0 cq0 wp0 wq0
  have N2 : Row enc 3 ((((((W.setCell ⟨g, p * 3, none⟩ y0).setCell ⟨g, p * 3 + 1, none⟩ y1).setCell ⟨g, p * 3 + 2, none⟩ y2).setCell ⟨g, q * 3, none⟩ x0).setCell ⟨g, q * 3 + 1, none⟩ x1).setCell ⟨g, q * 3 + 2, none⟩ x2) g (swL l p q) := N
  exact ⟨x0, x1, x2, y0, y1, y2, hx, hy, cp0.1, cp1.1, cp2.1, cq0.1, cq1.1, cq2.1, store_drew P wp0 oq0, store_drew P (Wr.set wp1 _ _) oq1, store_drew P (Wr.set (Wr.set wp2 _ _) _ _) oq2, store_drew P (Wr.set (Wr.set (Wr.set wq0 _ _) _ _) _ _) op0, store_drew P (Wr.set (Wr.set (Wr.set (Wr.set wq1 _ _) _ _) _ _) _ _) op1, store_drew P (Wr.set (Wr.set (Wr.set (Wr.set (Wr.set wq2 _ _) _ _) _ _) _ _) _ _) op2, ⟨N2.drew, (((((((Mod.refl [g] W).setCell (.inl (by simp)) _).setCell (.inl (by simp)) _).setCell (.inl (by simp)) _).setCell (.inl (by simp)) _).setCell (.inl (by simp)) _).setCell (.inl (by simp)) _).drew⟩⟩
theorem Row.see3 {enc : Nat → List Value} {W : World} {g : Nat} {l : List Nat} (h : Row enc 3 W g l) (E : Enc enc 3) (p : Nat) (hp : p < l.length) :
    ∃ x0 x1 x2, enc (l.getD p 0) = [x0, x1, x2] ∧ W.cell? ⟨g, p * 3, none⟩ = some x0 ∧ W.cell? ⟨g, p * 3 + 1, none⟩ = some x1 ∧ W.cell? ⟨g, p * 3 + 2, none⟩ = some x2 := by
  obtain ⟨x0, x1, x2, hx⟩ := E.three (l.getD p 0)
  have c0 := h.cell E p hp 0 x0 (by rw [hx]; rfl)
  have c1 := h.cell E p hp 1 x1 (by rw [hx]; rfl)
  have c2 := h.cell E p hp 2 x2 (by rw [hx]; rfl)
  rw [Nat.add_zero] at c0
  exact ⟨x0, x1, x2, hx, c0.1, c1.1, c2.1⟩
theorem Row.copy3 {enc : Nat → List Value} {W : World} {g : Nat} {l : List Nat} (h : Row enc 3 W g l) (E : Enc enc 3) (P : Program) (p q : Nat) (hp : p < l.length) (hq : q < l.length) :
    ∃ y0 y1 y2, enc (l.getD q 0) = [y0, y1, y2] ∧ W.cell? ⟨g, q * 3, none⟩ = some y0 ∧ W.cell? ⟨g, q * 3 + 1, none⟩ = some y1 ∧ W.cell? ⟨g, q * 3 + 2, none⟩ = some y2 ∧
    Sem.run P (store ⟨g, p * 3, none⟩ y0) W = .ok () (W.setCell ⟨g, p * 3, none⟩ y0) ∧
    Sem.run P (store ⟨g, p * 3 + 1, none⟩ y1) (W.setCell ⟨g, p * 3, none⟩ y0) = .ok () ((W.setCell ⟨g, p * 3, none⟩ y0).setCell ⟨g, p * 3 + 1, none⟩ y1) ∧
    Sem.run P (store ⟨g, p * 3 + 2, none⟩ y2) ((W.setCell ⟨g, p * 3, none⟩ y0).setCell ⟨g, p * 3 + 1, none⟩ y1) = .ok () (((W.setCell ⟨g, p * 3, none⟩ y0).setCell ⟨g, p * 3 + 1, none⟩ y1).setCell ⟨g, p * 3 + 2, none⟩ y2) ∧
    (Row enc 3 (((W.setCell ⟨g, p * 3, none⟩ y0).setCell ⟨g, p * 3 + 1, none⟩ y1).setCell ⟨g, p * 3 + 2, none⟩ y2) g (l.set p (l.getD q 0)) ∧ Mod [g] W (((W.setCell ⟨g, p * 3, none⟩ y0).setCell ⟨g, p * 3 + 1, none⟩ y1).setCell ⟨g, p * 3 + 2, none⟩ y2)) := by
  obtain ⟨y0, y1, y2, hy⟩ := E.three (l.getD q 0)
  have N := h.seted E p (l.getD q 0) hp
  rw [hy] at N
  have cq0 := h.cell E q hq 0 y0 (by rw [hy]; rfl)
  have oq0 := E.one (l.getD q 0) y0 (by rw [hy]; simp)
  have wp0 : Wr W g (p * 3 + 0) := h.wr E p hp 0 (by omega)
  have cq1 := h.cell E q hq 1 y1 (by rw [hy]; rfl)
  have oq1 := E.one (l.getD q 0) y1 (by rw [hy]; simp)
  have wp1 : Wr W g (p * 3 + 1) := h.wr E p hp 1 (by omega)
  have cq2 := h.cell E q hq 2 y2 (by rw [hy]; rfl)
  have oq2 := E.one (l.getD q 0) y2 (by rw [hy]; simp)
  have wp2 : Wr W g (p * 3 + 2) := h.wr E p hp 2 (by omega)
  rw [Nat.add_zero] at cq0 wp0
  exact ⟨y0, y1, y2, hy, cq0.1, cq1.1, cq2.1, store_ok P wp0 oq0, store_ok P (Wr.set wp1 _ _) oq1, store_ok P (Wr.set (Wr.set wp2 _ _) _ _) oq2, ⟨N, ((((Mod.refl [g] W).setCell (.inl (by simp)) _).setCell (.inl (by simp)) _).setCell (.inl (by simp)) _)⟩⟩
end Go.Proofs.YtcalbbfkgdfidaaDoor
