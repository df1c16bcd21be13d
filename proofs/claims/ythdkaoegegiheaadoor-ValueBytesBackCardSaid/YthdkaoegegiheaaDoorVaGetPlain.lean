/- PLAIN: tuples as bytes and back. No program in sight. -/
import Derived.Test.YthdkaoegegiheaaDoorVaPut
import Derived.Test.YthdkaoegegiheaaDoorOnePlain
namespace Go.Proofs.YthdkaoegegiheaaDoor.Va
open Cod
set_option linter.unusedVariables false
set_option linter.unusedSimpArgs false

/-- a value that is read: it, the next place, the error -/
def gv (l : List Nat) (a : Nat) : Val × Nat × Nat :=
  if (rByte l a 0).2.2 ≠ 0 then (zero, a, (rByte l a 0).2.2)
  else if (rByte l a 0).1 = 1 then (⟨1, (rInt l (rByte l a 0).2.1 0 (-2147483647) 2147483647).1, []⟩, (rInt l (rByte l a 0).2.1 0 (-2147483647) 2147483647).2.1, (rInt l (rByte l a 0).2.1 0 (-2147483647) 2147483647).2.2)
  else if (rByte l a 0).1 = 2 then (⟨2, 0, (rText l (rByte l a 0).2.1 0 64).1⟩, (rText l (rByte l a 0).2.1 0 64).2.1, (rText l (rByte l a 0).2.1 0 64).2.2)
  else (zero, a, 20)
def gt : Nat → List Nat → Nat → List Val → List Val × Nat × Nat
  | 0, _, a, acc => (acc, a, 0)
  | n + 1, l, a, acc => if (gv l a).2.2 ≠ 0 then ([], a, (gv l a).2.2) else gt n l (gv l a).2.1 (acc ++ [(gv l a).1])
def get (l : List Nat) : List Val × Nat :=
  if (rUint l 0 0 8).2.2 ≠ 0 then ([], (rUint l 0 0 8).2.2)
  else if (gt (rUint l 0 0 8).1 l (rUint l 0 0 8).2.1 []).2.2 ≠ 0 then ([], (gt (rUint l 0 0 8).1 l (rUint l 0 0 8).2.1 []).2.2)
  else if (gt (rUint l 0 0 8).1 l (rUint l 0 0 8).2.1 []).2.1 < l.length then ([], 13)
  else ((gt (rUint l 0 0 8).1 l (rUint l 0 0 8).2.1 []).1, 0)

theorem enc1_cases {v : Val} (h : may v = true) : (v.k = 1 ∧ v.s = [] ∧ -2147483647 ≤ v.n ∧ v.n ≤ 2147483647 ∧ enc1 v = 1 :: uv (zz v.n)) ∨ (v.k = 2 ∧ v.n = 0 ∧ v.s.length ≤ 64 ∧ enc1 v = 2 :: (uv v.s.length ++ v.s)) := by
  unfold may at h
  simp only [Bool.or_eq_true, Bool.and_eq_true, beq_iff_eq, decide_eq_true_eq] at h
  rcases h with ⟨h1, h2, h3, h4⟩ | ⟨h1, h2, h3⟩
  · exact .inl ⟨h1, h2, h3, h4, by unfold enc1; rw [h1]; rfl⟩
  · exact .inr ⟨h1, h2, h3, by unfold enc1; rw [h1]; rfl⟩
theorem byte_here {l : List Nat} {a k : Nat} {r : List Nat} (h : l.drop a = k :: r) : rByte l a 0 = (k, a + 1, 0) ∧ l.drop (a + 1) = r ∧ a + 1 ≤ l.length := by
  have hl := congrArg List.length h
  simp only [List.length_drop, List.length_cons] at hl
  have hlt : a < l.length := by omega
  rw [List.drop_eq_getElem_cons hlt] at h
  obtain ⟨e1, e2⟩ := List.cons.inj h
  refine ⟨?_, e2, by omega⟩
  unfold rByte
  rw [if_neg (by simp), if_neg (by omega), List.getD_eq_getElem?_getD, List.getElem?_eq_getElem hlt]
  simp [e1]
theorem byte_none {l : List Nat} {a : Nat} (h : l.drop a = []) : rByte l a 0 = (0, a, 10) := by
  have : l.length ≤ a := by simpa using h
  unfold rByte
  rw [if_neg (by simp), if_pos (by omega)]
theorem zz64 {n : Int} (h1 : -2147483647 ≤ n) (h2 : n ≤ 2147483647) : zz n < U64 := zz_lt n (by omega) (by omega)
theorem gv_all {v : Val} (hm : may v = true) {l r : List Nat} {a : Nat} (h : l.drop a = enc1 v ++ r) : gv l a = (v, a + (enc1 v).length, 0) := by
  obtain ⟨k, n, s⟩ := v
  rcases enc1_cases hm with ⟨hk, hs, h1, h2, he⟩ | ⟨hk, hn, hs, he⟩
  · simp only at hk hs h1 h2
    subst hk; subst hs
    rw [he] at h ⊢
    obtain ⟨hb, hd, hle⟩ := byte_here (r := uv (zz n) ++ r) h
    have hi : rInt l (a + 1) 0 (-2147483647) 2147483647 = (n, a + 1 + (uv (zz n)).length, 0) := by
      unfold rInt
      rw [if_neg (by simp), hd, nx_uv_top _ _ (zz64 h1 h2)]
      simp only [unzz_zz]
      rw [if_neg (by simp), if_neg (by omega)]
    unfold gv
    rw [hb]
    simp only
    rw [if_neg (by simp), if_pos trivial, hi]
    simp; omega
  · simp only at hk hn hs
    subst hk; subst hn
    rw [he] at h ⊢
    obtain ⟨hb, hd, hle⟩ := byte_here (r := uv s.length ++ (s ++ r)) (by simpa using h)
    have hd2 : l.drop (a + 1 + (uv s.length).length) = s ++ r := by rw [← List.drop_drop, hd, List.drop_left]
    have hl2 := congrArg List.length hd2
    simp only [List.length_drop, List.length_append] at hl2
    have hi : rText l (a + 1) 0 64 = (s, a + 1 + (uv s.length).length + s.length, 0) := by
      unfold rText
      rw [if_neg (by simp), hd, nx_uv_top _ _ (by unfold U64; omega)]
      simp only
      rw [if_neg (by simp), if_neg (by omega), if_neg (by omega), hd2, List.take_left]
    unfold gv
    rw [hb]
    simp only
    rw [if_neg (by simp), if_neg (by simp), if_pos trivial, hi]
    simp; omega
theorem gv_cut {v : Val} (hm : may v = true) {l : List Nat} {a j : Nat} (hj : j < (enc1 v).length) (h : l.drop a = (enc1 v).take j) : (gv l a).2.2 = 10 := by
  obtain ⟨k, n, s⟩ := v
  rcases enc1_cases hm with ⟨hk, hs, h1, h2, he⟩ | ⟨hk, hn, hs, he⟩
  · simp only at hk hs h1 h2
    subst hk; subst hs
    rw [he] at h hj
    cases j with
    | zero =>
      have hb := byte_none (l := l) (a := a) (by simpa using h)
      unfold gv
      rw [hb]; simp
    | succ j =>
      rw [List.take_succ_cons] at h
      simp only [List.length_cons] at hj
      obtain ⟨hb, hd, hle⟩ := byte_here h
      have := nx_cut 10 0 0 (zz n) j (by decide) (by unfold uv at hj; omega) rfl (by simpa using zz64 h1 h2) (by omega)
      simp only [uv] at hd
      have hi : (rInt l (a + 1) 0 (-2147483647) 2147483647).2.2 = 10 := by simp [rInt, hd, this]
      unfold gv
      rw [hb]
      simp only
      rw [if_neg (by simp), if_pos trivial]
      exact hi
  · simp only at hk hn hs
    subst hk; subst hn
    have he' : enc1 ⟨2, 0, s⟩ = 2 :: (uv s.length ++ s) := he
    rw [he'] at h hj
    cases j with
    | zero =>
      have hb := byte_none (l := l) (a := a) (by simpa using h)
      unfold gv
      rw [hb]; simp
    | succ j =>
      rw [List.take_succ_cons] at h
      simp only [List.length_cons] at hj
      have hj' : j < (uv s.length ++ s).length := by omega
      clear hj
      have hj := hj'
      obtain ⟨hb, hd, hle⟩ := byte_here h
      have hi : (rText l (a + 1) 0 64).2.2 = 10 := by
        rcases Nat.lt_or_ge j (uv s.length).length with hju | hju
        · rw [List.take_append_of_le_length (by omega)] at hd
          have := nx_cut 10 0 0 s.length j (by decide) hju rfl (by unfold U64; simp; omega) (by omega)
          simp only [uv] at hd
          simp [rText, hd, this]
        · rw [List.take_append, List.take_of_length_le hju] at hd
          rw [List.length_append] at hj
          have hl2 := congrArg List.length hd
          simp only [List.length_drop, List.length_append, List.length_take] at hl2
          unfold rText
          rw [if_neg (by simp), hd, nx_uv_top _ _ (by unfold U64; omega)]
          simp only
          rw [if_neg (by simp), if_neg (by omega), if_pos (by omega)]
      unfold gv
      rw [hb]
      simp only
      rw [if_neg (by simp), if_neg (by simp), if_pos trivial]
      exact hi
theorem gt_all : ∀ (ts : List Val) (l r : List Nat) (a : Nat) (acc : List Val), ts.all may = true → l.drop a = ts.flatMap enc1 ++ r → gt ts.length l a acc = (acc ++ ts, a + (ts.flatMap enc1).length, 0)
  | [], l, r, a, acc, _, _ => by simp [gt]
  | v :: ts, l, r, a, acc, hm, h => by
    rw [List.all_cons, Bool.and_eq_true] at hm
    rw [List.flatMap_cons, List.append_assoc] at h
    have hg := gv_all hm.1 h
    have hd : l.drop (a + (enc1 v).length) = ts.flatMap enc1 ++ r := by rw [← List.drop_drop, h, List.drop_left]
    simp only [List.length_cons, gt, hg]
    rw [if_neg (by simp), gt_all ts l r _ _ hm.2 hd]
    simp only [List.flatMap_cons, List.length_append, List.append_assoc, List.singleton_append]
    rw [Nat.add_assoc]
theorem gt_cut : ∀ (ts : List Val) (l : List Nat) (a j : Nat) (acc : List Val), ts.all may = true → j < (ts.flatMap enc1).length → l.drop a = (ts.flatMap enc1).take j → (gt ts.length l a acc).2.2 = 10
  | [], l, a, j, acc, _, hj, _ => by simp at hj
  | v :: ts, l, a, j, acc, hm, hj, h => by
    rw [List.all_cons, Bool.and_eq_true] at hm
    rw [List.flatMap_cons] at h hj
    simp only [List.length_cons, gt]
    rcases Nat.lt_or_ge j (enc1 v).length with hc | hc
    · rw [List.take_append_of_le_length (by omega)] at h
      have := gv_cut hm.1 hc h
      rw [if_pos (by rw [this]; simp)]
      exact this
    · rw [List.take_append, List.take_of_length_le hc] at h
      have hg := gv_all hm.1 h
      have hd : l.drop (a + (enc1 v).length) = (ts.flatMap enc1).take (j - (enc1 v).length) := by rw [← List.drop_drop, h, List.drop_left]
      rw [hg, if_neg (by simp)]
      rw [List.length_append] at hj
      exact gt_cut ts l _ _ _ hm.2 (by omega) hd
theorem nxU8 (n : Nat) (h : n ≤ 8) : n < U64 := by unfold U64; omega
/-- there and back -/
theorem get_put {ts : List Val} (hm : ts.all may = true) (hl : ts.length ≤ 8) : get (putB ts) = (ts, 0) := by
  have hu : rUint (putB ts) 0 0 8 = (ts.length, (uv ts.length).length, 0) := by
    unfold rUint putB
    rw [if_neg (by simp), List.drop_zero, nx_uv_top _ _ (nxU8 _ hl)]
    simp only
    rw [if_neg (by simp), if_neg (by omega)]
    simp
  have hg := gt_all ts (putB ts) [] (uv ts.length).length [] hm (by unfold putB; rw [List.drop_left]; simp)
  unfold get
  rw [hu]
  simp only
  rw [if_neg (by simp), hg]
  simp only
  rw [if_neg (by simp), if_neg (by unfold putB; simp)]
  simp
/-- a beginning is short -/
theorem get_cut {ts : List Val} (hm : ts.all may = true) (hl : ts.length ≤ 8) {j : Nat} (hj : j < (putB ts).length) : get ((putB ts).take j) = ([], 10) := by
  rcases Nat.lt_or_ge j (uv ts.length).length with hju | hju
  · have hcut := nx_cut 10 0 0 ts.length j (by decide) hju rfl (by simpa using nxU8 _ hl) (by omega)
    have hu : (rUint ((putB ts).take j) 0 0 8).2.2 = 10 := by
      unfold rUint putB
      rw [if_neg (by simp), List.drop_zero, List.take_append_of_le_length (by omega)]
      simp only [uv, hcut]
      rfl
    unfold get
    rw [hu, if_pos (by simp)]
  · have hd : (putB ts).take j = uv ts.length ++ (ts.flatMap enc1).take (j - (uv ts.length).length) := by
      unfold putB
      rw [List.take_append, List.take_of_length_le hju]
    have hu : rUint ((putB ts).take j) 0 0 8 = (ts.length, (uv ts.length).length, 0) := by
      unfold rUint
      rw [if_neg (by simp), List.drop_zero, hd, nx_uv_top _ _ (nxU8 _ hl)]
      simp only
      rw [if_neg (by simp), if_neg (by omega)]
      simp
    have hg := gt_cut ts ((putB ts).take j) (uv ts.length).length (j - (uv ts.length).length) [] hm (by unfold putB at hj; rw [List.length_append] at hj; omega) (by rw [hd, List.drop_left])
    unfold get
    rw [hu]
    simp only
    rw [if_neg (by simp), if_pos (by rw [hg]; simp), hg]
theorem putB_pos (ts : List Val) : 0 < (putB ts).length := by
  have := uvF_pos 10 ts.length
  unfold putB uv
  rw [List.length_append]; omega

/-- what is read: the bytes between the two places are its own -/
theorem gv_step {l : List Nat} {a : Nat} (hb : ∀ c ∈ l, c < 256) (ha : a ≤ l.length) (h : (gv l a).2.2 = 0) :
    may (gv l a).1 = true ∧ (∀ c ∈ (gv l a).1.s, c < 256) ∧ (gv l a).2.1 ≤ l.length ∧ l.take a ++ enc1 (gv l a).1 = l.take (gv l a).2.1 := by
  obtain ⟨hst, -⟩ := step_byte (f := 0) hb ha
  unfold gv at h ⊢
  by_cases hf : (rByte l a 0).2.2 = 0
  · rw [if_neg (by simpa using hf)] at h ⊢
    have hbt := hst.same hf
    have hle := hst.in_
    generalize (rByte l a 0).1 = k at *
    generalize (rByte l a 0).2.1 = a2 at *
    by_cases k1 : k = 1
    · subst k1
      simp only [if_true] at h ⊢
      unfold rInt at h ⊢
      rw [if_neg (by simp)] at h ⊢
      by_cases hn : (nx 10 0 0 (l.drop a2)).2.2 = 0
      · obtain ⟨m, s, he, h1, h2, h3, h4⟩ := nx_top (fun c hc => hb c (List.mem_of_mem_drop hc)) hn
        rw [he] at h ⊢
        simp only at h ⊢
        rw [List.length_drop] at h2
        rw [if_neg (by simp)] at h ⊢
        by_cases ho : unzz m < -2147483647 ∨ 2147483647 < unzz m
        · rw [if_pos ho] at h; simp at h
        · rw [if_neg ho] at h ⊢
          simp only
          refine ⟨by unfold may; simp; omega, by simp, by omega, ?_⟩
          rw [show enc1 ⟨1, unzz m, []⟩ = [1] ++ uv (zz (unzz m)) from rfl, zz_unzz, ← List.append_assoc, hbt, h3, take_more]
      · exfalso
        generalize nx 10 0 0 (l.drop a2) = t at *
        obtain ⟨t1, t2, t3⟩ := t
        simp only at h hn
        rw [if_pos hn] at h
        exact hn h
    · rw [if_neg k1] at h ⊢
      by_cases k2 : k = 2
      · subst k2
        simp only [if_true] at h ⊢
        unfold rText at h ⊢
        rw [if_neg (by simp)] at h ⊢
        by_cases hn : (nx 10 0 0 (l.drop a2)).2.2 = 0
        · obtain ⟨m, s, he, h1, h2, h3, h4⟩ := nx_top (fun c hc => hb c (List.mem_of_mem_drop hc)) hn
          rw [he] at h ⊢
          simp only at h ⊢
          rw [List.length_drop] at h2
          rw [if_neg (by simp)] at h ⊢
          by_cases ho : (64 : Int) < (m : Int)
          · rw [if_pos ho] at h; simp at h
          · rw [if_neg ho] at h ⊢
            by_cases hc : l.length - (a2 + s) < m
            · rw [if_pos hc] at h; simp at h
            · rw [if_neg hc] at h ⊢
              simp only
              have hl : ((l.drop (a2 + s)).take m).length = m := by rw [List.length_take, List.length_drop]; omega
              refine ⟨by unfold may; simp [hl]; omega, fun c hc' => hb c (List.mem_of_mem_drop (List.mem_of_mem_take hc')), by omega, ?_⟩
              rw [show enc1 ⟨2, 0, (l.drop (a2 + s)).take m⟩ = [2] ++ (uv ((l.drop (a2 + s)).take m).length ++ (l.drop (a2 + s)).take m) from rfl, hl, ← List.append_assoc, hbt, h3, ← List.append_assoc, take_more, take_more]
        · exfalso
          generalize nx 10 0 0 (l.drop a2) = t at *
          obtain ⟨t1, t2, t3⟩ := t
          simp only at h hn
          rw [if_pos hn] at h
          exact hn h
      · rw [if_neg k2] at h
        simp at h
  · rw [if_pos hf] at h
    exact absurd h hf
theorem gt_step : ∀ (n : Nat) (l : List Nat) (a : Nat) (acc : List Val), (∀ c ∈ l, c < 256) → a ≤ l.length → (gt n l a acc).2.2 = 0 →
    ∃ ts, (gt n l a acc).1 = acc ++ ts ∧ ts.length = n ∧ ts.all may = true ∧ (∀ v ∈ ts, ∀ c ∈ v.s, c < 256) ∧ (gt n l a acc).2.1 ≤ l.length ∧ l.take a ++ ts.flatMap enc1 = l.take (gt n l a acc).2.1
  | 0, l, a, acc, hb, ha, h => ⟨[], by simp [gt], rfl, rfl, by simp, by simpa [gt] using ha, by simp [gt]⟩
  | n + 1, l, a, acc, hb, ha, h => by
    simp only [gt] at h ⊢
    by_cases hf : (gv l a).2.2 = 0
    · rw [if_neg (by simpa using hf)] at h ⊢
      obtain ⟨h1, h2, h3, h4⟩ := gv_step hb ha hf
      obtain ⟨ts, e1, e2, e3, e4, e5, e6⟩ := gt_step n l _ _ hb h3 h
      refine ⟨(gv l a).1 :: ts, by rw [e1]; simp, by simp [e2], by simp [h1, e3], ?_, e5, ?_⟩
      · intro v hv
        rcases List.mem_cons.1 hv with rfl | hv
        · exact h2
        · exact e4 v hv
      · rw [List.flatMap_cons, ← List.append_assoc, h4, e6]
    · rw [if_pos hf] at h
      exact absurd h hf
/-- bytes that are read: written again they are themselves -/
theorem put_get {l : List Nat} (hb : ∀ c ∈ l, c < 256) (h : (get l).2 = 0) : (get l).1.all may = true ∧ (get l).1.length ≤ 8 ∧ (∀ v ∈ (get l).1, ∀ c ∈ v.s, c < 256) ∧ putB (get l).1 = l := by
  unfold get at h ⊢
  by_cases hf : (rUint l 0 0 8).2.2 = 0
  · rw [if_neg (by simpa using hf)] at h ⊢
    by_cases hg : (gt (rUint l 0 0 8).1 l (rUint l 0 0 8).2.1 []).2.2 = 0
    · rw [if_neg (by simpa using hg)] at h ⊢
      by_cases hr : (gt (rUint l 0 0 8).1 l (rUint l 0 0 8).2.1 []).2.1 < l.length
      · rw [if_pos hr] at h; simp at h
      · rw [if_neg hr]
        simp only
        have hu : ∃ m s, rUint l 0 0 8 = (m, s, 0) ∧ m ≤ 8 ∧ s ≤ l.length ∧ uv m = l.take s := by
          unfold rUint at hf ⊢
          rw [if_neg (by simp), List.drop_zero] at hf ⊢
          by_cases hn : (nx 10 0 0 l).2.2 = 0
          · obtain ⟨m, s, he, h1, h2, h3, h4⟩ := nx_top hb hn
            rw [he] at hf ⊢
            simp only at hf ⊢
            rw [if_neg (by simp)] at hf ⊢
            by_cases ho : 8 < m
            · rw [if_pos ho] at hf; simp at hf
            · rw [if_neg ho]
              exact ⟨m, s, by simp, by omega, h2, h3⟩
          · exfalso
            generalize nx 10 0 0 l = t at *
            obtain ⟨t1, t2, t3⟩ := t
            simp only at hf hn
            rw [if_pos hn] at hf
            exact hn hf
        obtain ⟨m, s, he, hm, hs, huv⟩ := hu
        rw [he] at hg hr ⊢
        simp only at hg hr ⊢
        obtain ⟨ts, e1, e2, e3, e4, e5, e6⟩ := gt_step m l s [] hb hs hg
        rw [e1, List.nil_append]
        refine ⟨e3, by omega, e4, ?_⟩
        unfold putB
        rw [e2, huv, e6, List.take_of_length_le (by omega)]
    · rw [if_pos hg] at h
      exact absurd h hg
  · rw [if_pos hf] at h
    exact absurd h hf
end Go.Proofs.YthdkaoegegiheaaDoor.Va
