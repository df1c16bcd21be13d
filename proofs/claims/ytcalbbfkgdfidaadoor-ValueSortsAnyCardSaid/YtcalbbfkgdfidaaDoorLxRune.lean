/- PLAIN: runes and bytes: how far a text goes on with a kind. No program in sight. -/
import Derived.Test.YtcalbbfkgdfidaaDoorLxPlain
import Derived.Laws.RangeAny
namespace Go.Proofs.YtcalbbfkgdfidaaDoor.Lx
open Cod (str)
set_option linter.unusedSimpArgs false

theorem get_str (s : ByteArray) (i : Nat) (h : i < s.size) : (str s).getD i 0 = (s[i]'h).toNat := by
  unfold str
  have h' : i < s.data.toList.length := by rw [Array.length_toList]; exact h
  rw [List.getD_eq_getElem?_getD, List.getElem?_map, List.getElem?_eq_getElem h']
  simp
  rfl
theorem get_bang (s : ByteArray) (i : Nat) (h : i < s.size) : (s.get! i).toNat = (str s).getD i 0 := by
  rw [get_str s i h]
  have := get_at s i h
  simp only [Nat.add_zero] at this
  rw [this]
/-- a rune's bytes behind the first are no letters -/
theorem decode_cont (s : ByteArray) (pos : Nat) (h : pos < s.size) (ha : 128 ≤ (str s).getD pos 0) (i : Nat) (hi : i < (Utf8.decode s pos).2) : pos + i < s.size ∧ 128 ≤ (str s).getD (pos + i) 0 := by
  have hn : ¬ (s.get! (pos + 0)).toNat < 128 := by
    rw [Nat.add_zero, get_bang s pos h]; omega
  have key : ∀ k, (decide (pos + k < s.size) && (s.get! (pos + k)).toNat / 64 == 2) = true → pos + k < s.size ∧ 128 ≤ (str s).getD (pos + k) 0 := by
    intro k hk
    simp at hk
    rw [← get_bang s (pos + k) hk.1]
    exact ⟨hk.1, by omega⟩
  have h0 : pos + 0 < s.size ∧ 128 ≤ (str s).getD (pos + 0) 0 := ⟨h, ha⟩
  have one : ∀ {a : Nat}, i < (a, 1).2 → pos + i < s.size ∧ 128 ≤ (str s).getD (pos + i) 0 := by
    intro a hi
    have : i = 0 := by simp at hi; exact hi
    subst this
    exact h0
  simp only [Utf8.decode, hn, if_false] at hi
  split at hi
  · rename_i h1
    rw [Bool.and_eq_true] at h1
    have k1 := key 1 h1.2
    split at hi
    · have : i = 0 ∨ i = 1 := by simp at hi; omega
      rcases this with rfl | rfl
      · exact h0
      · exact k1
    · exact one hi
  · split at hi
    · rename_i h1
      rw [Bool.and_eq_true, Bool.and_eq_true] at h1
      have k1 := key 1 h1.1.2
      have k2 := key 2 h1.2
      split at hi
      · have : i = 0 ∨ i = 1 ∨ i = 2 := by simp at hi; omega
        rcases this with rfl | rfl | rfl
        · exact h0
        · exact k1
        · exact k2
      · exact one hi
    · split at hi
      · rename_i h1
        rw [Bool.and_eq_true, Bool.and_eq_true, Bool.and_eq_true] at h1
        have k1 := key 1 h1.1.1.2
        have k2 := key 2 h1.1.2
        have k3 := key 3 h1.2
        split at hi
        · have : i = 0 ∨ i = 1 ∨ i = 2 ∨ i = 3 := by simp at hi; omega
          rcases this with rfl | rfl | rfl | rfl
          · exact h0
          · exact k1
          · exact k2
          · exact k3
        · exact one hi
      · exact one hi

theorem run_ge_succ (q : Nat → Bool) : ∀ (l : List Nat) (n : Nat), n ≤ run q l → n < l.length → q (l.getD n 0) = true → n + 1 ≤ run q l
  | [], n, _, h, _ => by simp at h
  | c :: r, 0, _, _, h => by rw [run_cons]; simp at h; simp [h]
  | c :: r, n + 1, hn, hl, h => by
    rw [run_cons] at hn ⊢
    by_cases hc : q c = true
    · rw [if_pos hc] at hn ⊢
      have := run_ge_succ q r n (by omega) (by simpa using hl) (by simpa using h)
      omega
    · rw [if_neg hc] at hn; omega
theorem run_stop (q : Nat → Bool) : ∀ (l : List Nat) (n : Nat), n ≤ run q l → n < l.length → q (l.getD n 0) = false → run q l = n
  | [], n, _, h, _ => by simp at h
  | c :: r, 0, _, _, h => by rw [run_cons]; simp at h; simp [h]
  | c :: r, n + 1, hn, hl, h => by
    rw [run_cons] at hn ⊢
    by_cases hc : q c = true
    · rw [if_pos hc] at hn ⊢
      have := run_stop q r n (by omega) (by simpa using hl) (by simpa using h)
      omega
    · rw [if_neg hc] at hn; omega
theorem run_many (q : Nat → Bool) (l : List Nat) (n : Nat) (hn : n ≤ run q l) : ∀ k, (∀ i, i < k → n + i < l.length ∧ q (l.getD (n + i) 0) = true) → n + k ≤ run q l
  | 0, _ => by simpa using hn
  | k + 1, h => by
    have := run_many q l n hn k (fun i hi => h i (by omega))
    have h2 := h k (by omega)
    exact run_ge_succ q l (n + k) this h2.1 h2.2

/-- a kind of runes and a kind of bytes are the same, and beyond the letters all is one -/
structure Alike (p : Int → Bool) (q : Nat → Bool) (d : Bool) : Prop where
  low : ∀ c : Nat, c < 128 → p (c : Int) = q c
  high : ∀ c : Nat, 128 ≤ c → p (c : Int) = d
  byte : ∀ c : Nat, 128 ≤ c → q c = d

theorem Alike.step {p : Int → Bool} {q : Nat → Bool} {d : Bool} (h : Alike p q d) (s : ByteArray) (pos : Nat) (hp : pos < s.size) (hr : pos ≤ run q (str s)) (hd : p ((Utf8.decode s pos).1 : Int) = true) :
    pos + (Utf8.decode s pos).2 ≤ run q (str s) ∧ 1 ≤ (Utf8.decode s pos).2 := by
  have hg := get_str s pos hp
  rcases Nat.lt_or_ge ((str s).getD pos 0) 128 with ha | ha
  · have e := decode_ascii s pos hp (by omega)
    rw [e] at hd ⊢
    simp only at hd ⊢
    rw [← hg, h.low _ ha] at hd
    exact ⟨run_ge_succ q _ pos hr (by rw [Cod.str_len]; exact hp) hd, Nat.le_refl _⟩
  · have e := decode_high s pos hp (by omega)
    rw [h.high _ e.1] at hd
    subst hd
    refine ⟨run_many q _ pos hr _ (fun i hi => ?_), e.2⟩
    have := decode_cont s pos hp ha i hi
    exact ⟨by rw [Cod.str_len]; exact this.1, h.byte _ this.2⟩
theorem Alike.stop {p : Int → Bool} {q : Nat → Bool} {d : Bool} (h : Alike p q d) (s : ByteArray) (pos : Nat) (hp : pos < s.size) (hr : pos ≤ run q (str s)) (hd : p ((Utf8.decode s pos).1 : Int) = false) :
    run q (str s) = pos := by
  have hg := get_str s pos hp
  refine run_stop q _ pos hr (by rw [Cod.str_len]; exact hp) ?_
  rcases Nat.lt_or_ge ((str s).getD pos 0) 128 with ha | ha
  · have e := decode_ascii s pos hp (by omega)
    rw [e] at hd
    simp only at hd
    rw [← hg, h.low _ ha] at hd
    exact hd
  · have e := decode_high s pos hp (by omega)
    rw [h.high _ e.1] at hd
    rw [h.byte _ ha]; exact hd
end Go.Proofs.YtcalbbfkgdfidaaDoor.Lx
