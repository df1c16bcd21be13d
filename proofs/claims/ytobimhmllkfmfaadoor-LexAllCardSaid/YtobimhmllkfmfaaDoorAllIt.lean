/- lex.All: the iterator's contract. -/
import Derived.Test.YtobimhmllkfmfaaDoorLawTok
import Derived.Test.YtobimhmllkfmfaaDoorSeq
namespace Go.Proofs.YtobimhmllkfmfaaDoor
open Go.RowKit Go.Shelf
set_option linter.unusedVariables false
set_option linter.unusedSimpArgs false
set_option maxRecDepth 100000
attribute [local go_sem] Oper.semAt_some

/-- the iterator's loop -/
structure ALoop (L : List Nat) (W wr : World) (b p : Nat) (x : Lx.St) (o : Option Lx.Tok) (s' : ByteArray) (pre : List Lx.Tok) (k : Nat) : Prop where
  box : wr.heap[p]? = some (.cells (tokC (o.getD zeroT)) 45 (0, 0))
  pnew : W.heap.size ≤ p
  bnew : W.heap.size ≤ b
  pb : p ≠ b
  sc : ScIs wr b s' x
  all : Lx.given L = (pre ++ (rest k (x, o)).1, (rest k (x, o)).2)
  lim : o.isSome = true → x.s.length + 1 ≤ k
  byte : ∀ c ∈ x.s, c < 256
  glob : Glob wr
  size : W.heap.size ≤ wr.heap.size

def meaS (b : Nat) (kv : Value) (wr : World) : Nat :=
  2 * (match wr.cell? ⟨b, 0, none⟩ with | some (.string s) => s.size | _ => 0) + (match kv with | .bool true => 1 | _ => 0)
theorem meaS_eq {b : Nat} {kk : Bool} {wr : World} {s : ByteArray} {x : Lx.St} (h : ScIs wr b s x) : meaS b (.bool kk) wr = 2 * x.s.length + (if kk then 1 else 0) := by
  unfold meaS
  have hc := h.cell 0
  have hc' : wr.cell? ⟨b, 0, none⟩ = some (.string s) := by rw [hc]; rfl
  rw [hc', ← h.str, Cod.str_len]
  cases kk <;> rfl

theorem next_le (x : Lx.St) : (Lx.next x).1.s.length ≤ x.s.length := by
  have hsk : x.skip.s.length ≤ x.s.length := by unfold Lx.St.skip; simp
  unfold Lx.next
  split
  · exact Nat.le_refl _
  · split
    · exact Nat.le_refl _
    · split
      · exact hsk
      · split
        · exact hsk
        · simp only [List.length_drop]; omega

set_option maxHeartbeats 4000000 in
theorem all_stops (n : Nat) (s : ByteArray) (hs : s.size ≤ 140737488355328) (p : Nat) (w : World) (hbox : w.cell? ⟨p, 0, none⟩ = some (.string s)) (hG : Glob w) :
    SeqU Tryd.prog n 34 #[.pointer (some ⟨p, 0, none⟩)] (fun t : Lx.Tok => #[.agg (tokC t)]) (fun u => 3 ≤ u ∧ u ≠ p)
      (fun xs => xs = (Lx.given (Cod.str s)).1) (fun pre => pre <+: (Lx.given (Cod.str s)).1) (fun pre x => pre ++ [x] <+: (Lx.given (Cod.str s)).1) w := by
  intro l J Jx W U hW hU hJ hJx hY h0
  obtain ⟨L, hL⟩ : ∃ L, L = Cod.str s := ⟨_, rfl⟩
  have hlb : ∀ c ∈ L, c < 256 := by rw [hL]; exact Cod.str_lt s
  rw [← hL] at hY ⊢
  have HL := Lib.hid hL; have HB := Lib.hid hlb
  have hbx := hW.cell hbox (by simp)
  have hGW := hG.past hW (by simp)
  have HY := Lib.hid hY; have HU := Lib.hid hU; have HJ := Lib.hid hJ; have HJx := Lib.hid hJx; have H0 := Lib.hid h0
  have hW3 := hGW.size
  have HGW := Lib.hid hGW
  clear hY hU hJ hJx h0 hL hlb hG hbox hW hGW
  refine callsIn_of_wp Tryd.func34 rfl trivial ?_
  simp only [Tryd.ntmps34, List.size_toArray, List.length_cons, List.length_nil, Nat.reduceAdd, Nat.reduceSub, Array.replicate_succ, Array.replicate_zero, List.push_toArray, List.append_toArray, List.nil_append, List.cons_append]
  gi_wp2_with fail
  refine ⟨trivial, fun h => (by cases h), callsIn_wide.2 ?_⟩
  refine (Scan_any s hs _).mono ?_
  rintro e w1 ⟨b, rfl, h1, hb1, hm1⟩
  rw [← HL.out] at h1
  have hb3 : 3 ≤ b := by omega
  gi_wp2_with fail
  refine ⟨trivial, fun h => (by cases h), callsIn_wide.2 ?_⟩
  refine (next_any b s _ w1 h1 (HGW.out.past hm1 (by simp)) hb3).mono ?_
  rintro e w2 ⟨rfl, s2, h2, hm2⟩
  have hm2' : Mod [] W w2 := hm1.trans hm2 (fun t ht => .inr (by simp at ht; omega))
  rw [nextV_eq]
  have hT0 : ALoop L W (w2.alloc (Obj.cells (tokC ((Lx.next (Lx.start L)).2.getD zeroT)) 45)) b w2.heap.size (Lx.next (Lx.start L)).1 (Lx.next (Lx.start L)).2 s2 [] L.length := by
    have hlt2 := h2.lt
    refine ⟨heap_alloc_new _ _, hm2'.size, hb1, by omega, h2.past ((Mod.refl [] w2).alloc _) (by simp), ?_, fun hi => ?_, next_bytes (x := Lx.start L) HB.out, HGW.out.past (hm2'.alloc _) (by simp), by have := hm2'.size; simp; omega⟩
    · rw [show ((Lx.next (Lx.start L)).1, (Lx.next (Lx.start L)).2) = Lx.next (Lx.start L) from rfl, ← allF_succ]
      simp [Lx.given]
    · cases ho : (Lx.next (Lx.start L)).2 with
      | none => rw [ho] at hi; cases hi
      | some t =>
        have hn : Lx.next (Lx.start L) = ((Lx.next (Lx.start L)).1, some t) := by rw [← ho]
        have := next_len (x := Lx.start L) HB.out hn
        have h4 : (Lx.start L).s.length = L.length := rfl
        omega
  have HJ0 := Lib.hid (HJ.out [] W _ H0.out ((hm2'.alloc (Obj.cells (tokC ((Lx.next (Lx.start L)).2.getD zeroT)) 45)).below (Nat.le_refl _) (by simp)))
  have HT0 := Lib.hid hT0
  clear hT0 h1 h2 hm1 hm2 hm2'
  generalize Lx.next (Lx.start L) = r at *
  obtain ⟨x0, o0⟩ := r
  simp only at HT0 HJ0
  generalize ht0 : o0.getD zeroT = t0 at *
  generalize ho0 : o0.isSome = ok0 at *
  rw [tokC]
  have HT1 := Lib.hid ht0; have HO1 := Lib.hid ho0
  clear ht0 ho0
  gi_wp2_with fail
  gi_loopw [4, 5] (fun tv kv wr => ∃ (q k : Nat) (pre : List Lx.Tok) (x : Lx.St) (o : Option Lx.Tok) (s' : ByteArray),
      tv = .pointer (some ⟨q, 0, none⟩) ∧ kv = .bool o.isSome ∧ ALoop L W wr b q x o s' pre k ∧ J pre wr) (fun tv kv wr => meaS b kv wr)
  case atStart =>
    refine ⟨_, L.length, [], x0, o0, s2, rfl, by rw [HO1.out], ?_, ?_⟩
    · have := HT0.out
      rw [tokC] at this
      exact this
    · exact HJ0.out
  case round =>
    obtain ⟨q, k, pre, x, o, s', rfl, rfl, hT, hj⟩ := hrel
    have HMe := fun kk => Lib.hid (meaS_eq (kk := kk) hT.sc)
    cases o with
    | none =>
      have hall := hT.all
      simp only [rest, List.append_nil] at hall
      have HA := Lib.hid hall; have HJ1 := Lib.hid hj
      simp only [Option.isSome]
      clear hT HT0 hall hj HMe
      gi_wp2_with fail
      go_end0
      exact ⟨⟨_, rfl⟩, .inl ⟨pre, by rw [HA.out], HJ1.out⟩⟩
    | some t =>
      obtain ⟨k', rfl⟩ : ∃ k', k = k' + 1 := ⟨k - 1, by have := hT.lim rfl; omega⟩
      have hall := hT.all
      have hbox := hT.box
      simp only [Option.getD] at hbox
      simp only [rest] at hall
      have hpf : pre ++ [t] <+: (Lx.given L).1 := by rw [hall]; simp
      obtain ⟨fn, tmps, assign, body, hy, hR⟩ := HY.out pre t wr hj hpf hT.size
      rw [allF_succ] at hall
      have HNL := Lib.hid (fun (y : Lx.St) (u : Lx.Tok) (hy : Lx.next x = (y, some u)) => next_len hT.byte hy)
      have HNB := Lib.hid (next_bytes hT.byte); have HNE := Lib.hid (next_le x)
      have HALL := Lib.hid hall; have HT := Lib.hid hT; have HR := Lib.hid hR; have HB1 := Lib.hid hbox
      obtain ⟨t0', t1, t2, t3, t4, t5, t6⟩ := tok_cells hbox
      simp only [tokC] at hy
      simp only [Option.isSome]
      clear hT HT0 hall hj hR hbox hpf
      gi_wp2_with fail
      refine ⟨fun h => (by cases h), HR.out.mono ?_⟩
      rintro e W3 (⟨rfl, hj3, hm3⟩ | ⟨rfl, hjx⟩)
      · have hqU : q ∉ U := fun h => by have := (HU.out q h).2; have := HT.out.pnew; omega
        have hbU : b ∉ U := fun h => by have := (HU.out b h).2; have := HT.out.bnew; omega
        have hbox3 := hm3.at HB1.out hqU
        have hsc3 := HT.out.sc.keep hm3 hbU
        have hG3 := HT.out.glob.keep hm3 (fun t ht => (HU.out t ht).1.1)
        have hsz3 := hm3.size
        have hszW := HT.out.size
        have hpn := HT.out.pnew
        have hbn := HT.out.bnew
        have hql := lt_of_block hbox3
        have hbl := hsc3.lt
        have HJ3 := Lib.hid hj3
        clear t0' t1 t2 t3 t4 t5 t6 hy hm3 hj3
        obtain ⟨t0', t1, t2, t3, t4, t5, t6⟩ := tok_cells hbox3
        gi_wp2_with fail
        refine ⟨trivial, fun h => (by cases h), callsIn_wide.2 ?_⟩
        have hmb : Mod [] W3 (W3.alloc (Obj.cells (tokC t) 45)) := (Mod.refl [] W3).alloc _
        refine (next_any b s' x (W3.alloc (Obj.cells (tokC t) 45)) (hsc3.past hmb (by simp)) (hG3.past hmb (by simp)) hb3).mono ?_
        rintro e w4 ⟨rfl, s4, h4, hm4⟩
        rw [nextV_eq]
        have hsz4 := hm4.size
        have hp4 := hm4.at (heap_alloc_new W3 (Obj.cells (tokC t) 45)) (by simp; omega)
        have hne3 : W3.heap.size ≠ b := by omega
        have HG4 := Lib.hid ((hG3.past hmb (by simp)).keep hm4 (by simp; omega))
        have HB4 := Lib.hid ((hmb.mono (T := [b]) (by simp)).trans hm4 (by simp))
        clear t0' t1 t2 t3 t4 t5 t6 hm4 hmb hsc3 hG3 hbox3
        obtain ⟨t0', t1, t2, t3, t4, t5, t6⟩ := tok_cells hp4
        have fz4 : ∀ j, w4.frozen? ⟨W3.heap.size, j, none⟩ = false := fun j => by simp [World.frozen?, hp4]
        have hpn4 : W3.heap.size < w4.heap.size := lt_of_block hp4
        have HH := Lib.hid h4
        clear h4
        generalize hr : Lx.next x = r at *
        obtain ⟨x', o'⟩ := r
        simp only at HH HNE HNB ⊢
        have hst := fun v0 v1 v2 v3 v4 v5 v6 => store_tok hp4 v0 v1 v2 v3 v4 v5 v6
        have HST := Lib.hid hst
        have HMS := Lib.hid (fun v0 v1 v2 v3 v4 v5 v6 => mod_tok (b := W3.heap.size) (Mod.refl [W3.heap.size] w4) (.inl (by simp)) v0 v1 v2 v3 v4 v5 v6)
        generalize hot : o'.getD zeroT = u at *
        generalize hos : o'.isSome = ok at *
        have HU2 := Lib.hid hot; have HK := Lib.hid hos; have HR2 := Lib.hid hr
        clear hst hot hos hr
        rw [tokC]
        simp at hsz4
        gi_wp2_with fail
        go_roundw
        case rel =>
          have hms := HMS.out (.int .i64 (u.kind : Nat)) (.string (Lx.ofS u.text)) (.int .i64 (u.vk : Nat)) (.int .i64 (u.num : Nat)) (.string (Lx.ofS u.sym)) (.int .i64 (u.line : Nat)) (.int .i64 (u.col : Nat))
          refine ⟨W3.heap.size, k', pre ++ [t], x', o', s4, rfl, by rw [← HK.out]; cases o' <;> rfl, ?_, ?_⟩
          · refine ⟨?_, by omega, hbn, hne3, HH.out.keep hms (by simp; omega), ?_, ?_, HNB.out, HG4.out.keep hms (by simp; omega), by have := hms.size; omega⟩
            · rw [HU2.out]; exact HST.out _ _ _ _ _ _ _
            · rw [HALL.out]; simp
            · intro hi
              cases o' with
              | none => cases hi
              | some u' =>
                have := (HNL.out x' u' rfl).1
                have := HT.out.lim rfl
                omega
          · refine HJ.out _ _ _ HJ3.out ?_
            exact ((HB4.out.below (B := W.heap.size) (by omega) (by simp; omega)).trans (hms.below (by omega) (by simp; omega)))
        case measure =>
          have hms := HMS.out (.int .i64 (u.kind : Nat)) (.string (Lx.ofS u.text)) (.int .i64 (u.vk : Nat)) (.int .i64 (u.num : Nat)) (.string (Lx.ofS u.sym)) (.int .i64 (u.line : Nat)) (.int .i64 (u.col : Nat))
          rw [meaS_eq (HH.out.keep hms (by simp; omega)), (HMe true).out]
          have hle := HNE.out
          rw [← HK.out]
          cases o' with
          | none => simp; omega
          | some u' =>
            have := (HNL.out x' u' rfl).1
            simp; omega
      · gi_wp2_with fail
        refine bodyPost_ret (results_none rfl _ _ _) rfl ?_
        exact ⟨⟨_, rfl⟩, .inr ⟨pre ++ [t], by rw [HALL.out]; simp, hjx⟩⟩
end Go.Proofs.YtobimhmllkfmfaaDoor
