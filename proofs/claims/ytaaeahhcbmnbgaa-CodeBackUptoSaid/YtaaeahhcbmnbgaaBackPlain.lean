/- PLAIN: items, written and read again; a beginning that is cut off ends within an item. No program in sight. -/
import Derived.Test.YtaaeahhcbmnbgaaCodePlain
namespace Go.Proofs.Ytaaeahhcbmnbgaa.Cod
set_option linter.unusedVariables false

/-- a string of bytes -/
def ofS (l : List Nat) : ByteArray := ⟨(l.map UInt8.ofNat).toArray⟩
theorem str_ofS {l : List Nat} (h : ∀ c ∈ l, c < 256) : str (ofS l) = l := by
  unfold str ofS
  rw [List.map_map]
  conv => rhs; rw [← List.map_id l]
  exact List.map_congr_left (fun c hc => by simp [Nat.mod_eq_of_lt (h c hc)])
theorem ofS_str (s : ByteArray) : ofS (str s) = s := by
  unfold ofS str
  rw [List.map_map]
  have : s.data.toList.map (UInt8.ofNat ∘ UInt8.toNat) = s.data.toList := by
    conv => rhs; rw [← List.map_id s.data.toList]
    exact List.map_congr_left (fun c _ => by simp)
  rw [this]

/-- an item: which of five kinds, a number, that number as one with a sign, a text -/
structure It where
  k : Nat
  n : Nat
  z : Int
  s : ByteArray
structure It.Good (x : It) : Prop where
  n_lt : x.n < U64
  z_lo : -9223372036854775808 ≤ x.z
  z_hi : x.z ≤ 9223372036854775807
  s_len : x.s.size ≤ 9223372036854775807
def It.enc (x : It) : List Nat :=
  if x.k = 0 then [x.n % 256] else if x.k = 1 then uv x.n else if x.k = 2 then uv (zz x.z) else if x.k = 3 then uv x.s.size ++ str x.s else str x.s
/-- what reading an item with bounds that just hold it comes to: the place, the fault, is it that? -/
def It.rd (x : It) (l : List Nat) (a f : Nat) : Nat × Nat × Bool :=
  if x.k = 0 then ((rByte l a f).2.1, (rByte l a f).2.2, decide ((rByte l a f).1 = x.n % 256))
  else if x.k = 1 then ((rUint l a f x.n).2.1, (rUint l a f x.n).2.2, decide ((rUint l a f x.n).1 = x.n))
  else if x.k = 2 then ((rInt l a f x.z x.z).2.1, (rInt l a f x.z x.z).2.2, decide ((rInt l a f x.z x.z).1 = x.z))
  else if x.k = 3 then ((rText l a f x.s.size).2.1, (rText l a f x.s.size).2.2, decide (ofS (rText l a f x.s.size).1 = x.s))
  else ((rRaw l a f x.s.size).2.1, (rRaw l a f x.s.size).2.2, decide (ofS (rRaw l a f x.s.size).1 = x.s))
def encs (xs : List It) : List Nat := xs.flatMap It.enc

theorem It.enc_lt (x : It) : ∀ c ∈ x.enc, c < 256 := by
  unfold It.enc
  intro c hc
  split at hc
  · simp at hc; omega
  · split at hc
    · exact uvF_lt _ _ c hc
    · split at hc
      · exact uvF_lt _ _ c hc
      · split at hc
        · rcases List.mem_append.1 hc with h | h
          · exact uvF_lt _ _ c h
          · exact str_lt _ c h
        · exact str_lt _ c hc
theorem It.enc_len (x : It) : x.enc.length ≤ x.s.size + 11 := by
  have h1 := uvF_len 10 x.n
  have h2 := uvF_len 10 (zz x.z)
  have h3 := uvF_len 10 x.s.size
  have h4 := str_len x.s
  unfold It.enc uv
  split
  · simp
  · split
    · omega
    · split
      · omega
      · split
        · rw [List.length_append]; omega
        · omega

/-- a fault stays -/
theorem It.rd_old (x : It) (l : List Nat) (a f : Nat) (h : f ≠ 0) : (x.rd l a f).1 = a ∧ (x.rd l a f).2.1 = f := by
  unfold It.rd
  split
  · simp [rByte, h]
  · split
    · simp [rUint, h]
    · split
      · simp [rInt, h]
      · split
        · simp [rText, h]
        · simp [rRaw, h]

theorem drop_len {l : List Nat} {a : Nat} {e r : List Nat} (h : l.drop a = e ++ r) (he : e ≠ []) : a + e.length + r.length = l.length := by
  have := congrArg List.length h
  rw [List.length_drop, List.length_append] at this
  have : 0 < e.length := List.length_pos_iff.2 he
  omega

/-- what was written is read -/
theorem It.rd_all (x : It) (hx : x.Good) (l r : List Nat) (a : Nat) (ha : a ≤ l.length) (h : l.drop a = x.enc ++ r) : x.rd l a 0 = (a + x.enc.length, 0, true) := by
  have hl : a + x.enc.length + r.length = l.length := by
    have := congrArg List.length h
    rw [List.length_drop, List.length_append] at this
    omega
  unfold It.rd
  unfold It.enc at h hl ⊢
  split
  · rename_i hk
    simp only [hk, if_true] at h hl ⊢
    have hlt : a < l.length := by simp at hl; omega
    have hg : l.getD a 0 = x.n % 256 := by
      rw [List.drop_eq_getElem_cons hlt] at h
      rw [List.getD_eq_getElem?_getD, List.getElem?_eq_getElem hlt]
      simpa using (List.cons.inj h).1
    have e : rByte l a 0 = (x.n % 256, a + 1, 0) := by
      unfold rByte
      rw [if_neg (by simp), if_neg (by omega), hg]
    rw [e]
    simp
  · rename_i hk0
    simp only [hk0, if_false] at h hl ⊢
    split
    · rename_i hk
      simp only [hk, if_true] at h hl ⊢
      have e : rUint l a 0 x.n = (x.n, a + (uv x.n).length, 0) := by
        unfold rUint
        rw [if_neg (by simp), h, nx_uv_top _ _ hx.n_lt]
        simp
      rw [e]
      simp
    · rename_i hk1
      simp only [hk1, if_false] at h hl ⊢
      split
      · rename_i hk
        simp only [hk, if_true] at h hl ⊢
        have e : rInt l a 0 x.z x.z = (x.z, a + (uv (zz x.z)).length, 0) := by
          unfold rInt
          rw [if_neg (by simp), h, nx_uv_top _ _ (zz_lt _ hx.z_lo hx.z_hi)]
          simp [unzz_zz]
        rw [e]
        simp
      · rename_i hk2
        simp only [hk2, if_false] at h hl ⊢
        split
        · rename_i hk
          simp only [hk, if_true] at h hl ⊢
          have hs := str_len x.s
          have h64 : x.s.size < U64 := by have := hx.s_len; unfold U64; omega
          rw [List.append_assoc] at h
          have hd : l.drop (a + (uv x.s.size).length) = str x.s ++ r := by
            rw [← List.drop_drop, h, List.drop_left]
          have e : rText l a 0 x.s.size = (str x.s, a + (uv x.s.size).length + x.s.size, 0) := by
            unfold rText
            rw [if_neg (by simp), h, nx_uv_top _ _ h64]
            rw [List.length_append] at hl
            simp only
            rw [if_neg (by simp), if_neg (by omega), if_neg (by omega), hd, ← hs, List.take_left]
          rw [e]
          simp [ofS_str, hs]; omega
        · rename_i hk
          simp only [hk, if_false] at h hl ⊢
          have hs := str_len x.s
          have e : rRaw l a 0 x.s.size = (str x.s, a + x.s.size, 0) := by
            unfold rRaw
            rw [if_neg (by simp), if_neg (by omega), Int.toNat_natCast, if_neg (by omega), h, ← hs, List.take_left]
          rw [e]
          simp [ofS_str, hs]

/-- a beginning of an item is too short -/
theorem It.rd_cut (x : It) (hx : x.Good) (l : List Nat) (a j : Nat) (ha : a ≤ l.length) (hj : j < x.enc.length) (h : l.drop a = x.enc.take j) : (x.rd l a 0).2.1 = 10 := by
  have hl : l.length - a = j := by
    have := congrArg List.length h
    rw [List.length_drop, List.length_take] at this
    omega
  unfold It.rd
  unfold It.enc at h hj
  split
  · rename_i hk
    simp only [hk, if_true] at h hj
    simp at hj
    subst hj
    simp [rByte, hl]
  · rename_i hk0
    simp only [hk0, if_false] at h hj
    split
    · rename_i hk
      simp only [hk, if_true] at h hj
      have := nx_cut 10 0 0 x.n j (by decide) hj rfl (by simpa using hx.n_lt) (by omega)
      simp only [uv] at h
      simp [rUint, h, this]
    · rename_i hk1
      simp only [hk1, if_false] at h hj
      split
      · rename_i hk
        simp only [hk, if_true] at h hj
        have := nx_cut 10 0 0 (zz x.z) j (by decide) hj rfl (by simpa using zz_lt _ hx.z_lo hx.z_hi) (by omega)
        simp only [uv] at h
        simp [rInt, h, this]
      · rename_i hk2
        simp only [hk2, if_false] at h hj
        split
        · rename_i hk
          simp only [hk, if_true] at h hj
          have hs := str_len x.s
          have h64 : x.s.size < U64 := by have := hx.s_len; unfold U64; omega
          rcases Nat.lt_or_ge j (uv x.s.size).length with hju | hju
          · rw [List.take_append_of_le_length (by omega)] at h
            have := nx_cut 10 0 0 x.s.size j (by decide) hju rfl (by simpa using h64) (by omega)
            simp only [uv] at h
            simp [rText, h, this]
          · rw [List.take_append, List.take_of_length_le hju] at h
            rw [List.length_append] at hj
            unfold rText
            rw [if_neg (by simp), h, nx_uv_top _ _ h64]
            simp only
            rw [if_neg (by simp), if_neg (by omega), if_pos (by omega)]
        · rename_i hk
          simp only [hk, if_false] at h hj
          have hs := str_len x.s
          unfold rRaw
          rw [if_neg (by simp), if_neg (by omega), Int.toNat_natCast, if_pos (by omega)]

/-- THE CUT LIST: either nothing was amiss so far, or it ended too early -/
def CutAt (l : List Nat) (xs : List It) (j k a f : Nat) : Prop :=
  f = 10 ∨ (f = 0 ∧ a = (encs (xs.take k)).length ∧ a ≤ j)
theorem encs_snoc (xs : List It) (k : Nat) (h : k < xs.length) : encs (xs.take (k + 1)) = encs (xs.take k) ++ xs[k].enc := by
  unfold encs
  rw [List.take_succ_eq_append_getElem h, List.flatMap_append, List.flatMap_singleton]
theorem encs_drop (xs : List It) (k : Nat) (h : k < xs.length) : (encs xs).drop (encs (xs.take k)).length = xs[k].enc ++ encs (xs.drop (k + 1)) := by
  have e : encs xs = encs (xs.take k) ++ (xs[k].enc ++ encs (xs.drop (k + 1))) := by
    conv => lhs; rw [← List.take_append_drop k xs, List.drop_eq_getElem_cons h]
    unfold encs
    rw [List.flatMap_append, List.flatMap_cons]
  rw [e, List.drop_left]
theorem cut_step {xs : List It} {l : List Nat} {j k a f : Nat} (hl : l = (encs xs).take j) (hj : j ≤ (encs xs).length) (hk : k < xs.length) (hg : xs[k].Good) (h : CutAt l xs j k a f) :
    CutAt l xs j (k + 1) (xs[k].rd l a f).1 (xs[k].rd l a f).2.1 := by
  have hll : l.length = j := by rw [hl, List.length_take]; omega
  rcases h with rfl | ⟨rfl, rfl, haj⟩
  · have := xs[k].rd_old l a 10 (by decide)
    rw [this.1, this.2]
    exact .inl rfl
  · have hd : l.drop (encs (xs.take k)).length = (xs[k].enc ++ encs (xs.drop (k + 1))).take (j - (encs (xs.take k)).length) := by
      rw [hl, List.drop_take, encs_drop xs k hk]
    rcases Nat.lt_or_ge (j - (encs (xs.take k)).length) xs[k].enc.length with hc | hc
    · rw [List.take_append_of_le_length (by omega)] at hd
      rw [xs[k].rd_cut hg l _ _ (by omega) hc hd]
      exact .inl rfl
    · rw [List.take_append, List.take_of_length_le hc] at hd
      rw [xs[k].rd_all hg l _ _ (by omega) hd]
      refine .inr ⟨rfl, ?_, by simp only; omega⟩
      rw [encs_snoc xs k hk, List.length_append]
end Go.Proofs.Ytaaeahhcbmnbgaa.Cod
