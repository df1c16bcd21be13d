/- THE WRITER: contracts of what lays bytes. -/
import Derived.Test.YtcalbbfkgdfidaaDoorMem
import Derived.Test.YtcalbbfkgdfidaaDoorBase
import Derived.Test.YtcalbbfkgdfidaaDoorCodePlain
namespace Go.Proofs.YtcalbbfkgdfidaaDoor
open Go.RowKit
set_option linter.unusedVariables false
set_option maxRecDepth 100000

def toCells (l : List Nat) : List Value := l.map fun (c : Nat) => Value.int .u8 (c : Int)
theorem toCells_len (l : List Nat) : (toCells l).length = l.length := by simp [toCells]
theorem toCells_append (l k : List Nat) : toCells (l ++ k) = toCells l ++ toCells k := by simp [toCells]
theorem toCells_one (l : List Nat) : ∀ u ∈ toCells l, u.oneCell' = true := by
  intro u hu
  obtain ⟨_, _, rfl⟩ := List.mem_map.1 hu
  rfl
theorem toCells_get (l : List Nat) (i : Nat) (h : i < l.length) : (toCells l)[i]? = some (.int .u8 (l.getD i 0 : Nat)) := by
  simp [toCells, List.getD_eq_getElem?_getD, List.getElem?_eq_getElem h]

theorem Tryd.infoU8 : (Tryd.prog.info? 5).map (fun i => (i.zero, i.size, i.bytes)) = some (some (.int .u8 0), 1, 1) := by kernel_rfl

/-- block b holds a writer (or a box) whose slice is v; it holds the bytes l -/
structure BoxIs (w : World) (b : Nat) (v : Value) (l : List Nat) : Prop where
  at_ : w.heap[b]? = some (.cells #[v] 97 (0, 0))
  row : w.ownsRow 0 5 1 v l.length (toCells l)
  out : b ∉ fp v
  byte : ∀ c ∈ l, c < 256

theorem addr_add (b o j : Nat) : (⟨b, o, none⟩ : Addr).add j = ⟨b, o + j, none⟩ := by
  unfold Addr.add; split <;> simp_all

theorem src_reads {w : World} {v : Value} {l : List Nat} (h : Reads w v l) : Src Tryd.prog 1 51 v l.length (toCells l) w := by
  obtain ⟨hb, hl, ⟨x, c, rfl, rfl⟩ | ⟨b, off, cap, rfl, hc⟩⟩ := h
  · cases x with
    | none => exact Src.ofNil (size := 1) w Tryd.underlying51 c
    | some a => exact Src.ofSlice w Tryd.underlying51 a 0 c [] rfl (by simp) (by simp)
  · refine Src.ofSlice w Tryd.underlying51 _ _ _ _ (by rw [toCells_len, Nat.mul_one]) (fun j u hu => ?_) (toCells_one l)
    have hj : j < l.length := by
      have := List.getElem?_eq_some_iff.1 hu
      obtain ⟨h, _⟩ := this
      rwa [toCells_len] at h
    rw [toCells_get l j hj] at hu
    cases hu
    rw [addr_add]
    exact hc j hj

theorem reads_own {w : World} {v : Value} {l : List Nat} (h : w.ownsRow 0 5 1 v l.length (toCells l)) (hb : ∀ c ∈ l, c < 256) (hl : l.length ≤ 140737488355328) : Reads w v l := by
  refine ⟨hb, hl, ?_⟩
  rcases h.2 with ⟨rfl, hn⟩ | ⟨g, cap, cur, rfl, h1, h2, h3, h4, h5, h6⟩
  · exact .inl ⟨_, _, rfl, List.eq_nil_of_length_eq_zero hn⟩
  · refine .inr ⟨g, 0, cap, rfl, fun i hi => ?_⟩
    have := h.cells (g := g) rfl i _ (toCells_get l i hi)
    rwa [addr_add] at this

/-- what a call that lays bytes leaves -/
def Laid (b : Nat) (v : Value) (l : List Nat) (w : World) (e : Ending) (w' : World) : Prop :=
  e = .returned (.tuple #[]) ∧ ∃ v', BoxIs w' b v' l ∧ Mod (b :: fp v) w w' ∧ ∀ k ∈ fp v', k ∈ fp v ∨ w.heap.size ≤ k

theorem laid_of {b : Nat} {v v' : Value} {l k : List Nat} {w w1 : World} (h : BoxIs w b v l) (hown : w1.ownsRow 0 5 1 v' (l.length + k.length) (toCells l ++ toCells k))
    (hmod : Mod (fp v) w w1) (hfresh : ∀ t ∈ fp v', t ∈ fp v ∨ w.heap.size ≤ t) (hk : ∀ c ∈ k, c < 256) :
    Laid b v (l ++ k) w (.returned (.tuple #[])) (w1.setCell ⟨b, 0, none⟩ v') := by
  have hat1 := hmod.at h.at_ h.out
  have hb' : b ∉ fp v' := fun hb => by
    rcases hfresh b hb with r | r
    · exact h.out r
    · have := lt_of_block h.at_; omega
  exact ⟨rfl, v', ⟨one_setCell hat1, by
      rw [List.length_append, toCells_append]
      exact ownsRow_setCell_other hown (fun e => hb' (ownBlock_fp _ _ e)) _, hb', fun c hc => (List.mem_append.1 hc).elim (h.byte c) (hk c)⟩,
    Mod.setCell (p := ⟨b, 0, none⟩) (hmod.mono (fun t ht => .inl (List.mem_cons_of_mem _ ht))) (.inl List.mem_cons_self) _, hfresh⟩

theorem put_any (b : Nat) (v src : Value) (l k : List Nat) (w : World) (h : BoxIs w b v l) (hr : Reads w src k) (hlen : l.length + k.length ≤ 140737488355328) :
    Calls Tryd.prog 55 #[.pointer (some ⟨b, 0, none⟩), src] w (Laid b v (l ++ k) w) := by
  obtain ⟨i0, hi, hz0, hz1, hz2⟩ := info_parts Tryd.infoU8
  have hcell := cell_of_one h.at_
  have hfree := free_of_one h.at_
  have hsrc := src_reads hr
  go_enter Tryd.func55, Tryd.ntmps55
  go_wp2_with (at_builtin; refine wpList_append_src _ rfl _ _ 51 51 rfl 5 i0 (.int .u8 0) 1 1 Tryd.underlying51 hi hz0 hz1 hz2 rfl v l.length (toCells l) rfl h.row src k.length (toCells k) rfl hsrc (by unfold maxLen; omega) (by omega) ?_)
  intro v' w1 hown hmod hfresh hnil
  have hat1 := hmod.at h.at_ h.out
  have hc1 := cell_of_one hat1
  have hf1 := free_of_one hat1
  have HH := laid_of h hown hmod hfresh hr.1
  obtain ⟨a', c', rfl⟩ := owns_slice hown
  clear hnil hfresh hown hmod
  go_wp2
  go_end0
  exact HH

/-- two calls that lay bytes, one behind the other -/
theorem Laid.then {b : Nat} {v : Value} {l k : List Nat} {w w1 w2 : World} {e e2 : Ending} (h : Laid b v l w e w1) (k2 : ∀ v', BoxIs w1 b v' l → Laid b v' k w1 e2 w2) : Laid b v k w e2 w2 := by
  obtain ⟨_, v1, hb, hm, hf⟩ := h
  obtain ⟨he, v2, hb2, hm2, hf2⟩ := k2 v1 hb
  refine ⟨he, v2, hb2, hm.trans hm2 (fun t ht => ?_), fun t ht => ?_⟩
  · rcases List.mem_cons.1 ht with rfl | r
    · exact .inl List.mem_cons_self
    · rcases hf t r with r | r
      · exact .inl (List.mem_cons_of_mem _ r)
      · exact .inr r
  · rcases hf2 t ht with r | r
    · exact hf t r
    · exact .inr (by have := hm.size; omega)

theorem reads_one (w : World) (c : Nat) (hc : c < 256) : Reads (w.alloc (.cells #[.int .u8 (c : Int)] 5)) (.slice (some ⟨w.heap.size, 0, none⟩) 1 1) [c] := by
  refine ⟨by simpa using hc, by simp, .inr ⟨_, _, _, rfl, fun i hi => ?_⟩⟩
  obtain rfl : i = 0 := by simp at hi; omega
  exact cell_of_one (heap_alloc_new w _)

theorem BoxIs.alloc {w : World} {b : Nat} {v : Value} {l : List Nat} (h : BoxIs w b v l) (o : Obj) : BoxIs (w.alloc o) b v l :=
  ⟨(Below.heap_alloc _ _ _ (lt_of_block h.at_)).trans h.at_, h.row.alloc o, h.out, h.byte⟩

theorem Laid.after {b : Nat} {v v' : Value} {k : List Nat} {w wr w2 : World} {e : Ending} (hmod : Mod (b :: fp v) w wr) (hfr : ∀ t ∈ fp v', t ∈ fp v ∨ w.heap.size ≤ t) (h : Laid b v' k wr e w2) : Laid b v k w e w2 := by
  obtain ⟨he, v2, hb2, hm2, hf2⟩ := h
  refine ⟨he, v2, hb2, hmod.trans hm2 (fun t ht => ?_), fun t ht => ?_⟩
  · rcases List.mem_cons.1 ht with rfl | r
    · exact .inl List.mem_cons_self
    · rcases hfr t r with r | r
      · exact .inl (List.mem_cons_of_mem _ r)
      · exact .inr r
  · rcases hf2 t ht with r | r
    · exact hfr t r
    · exact .inr (by have := hmod.size; omega)

theorem u8_or128 (n : Nat) : Go.bits .or .u8 ((n : Int) % 256) 128 = ((n % 128 + 128 : Nat) : Int) := by
  have := u8_or_nat (n % 256) 128 (by omega) (by decide)
  rw [Cod.or128 _ (by omega)] at this
  have e : ((n : Int) % 256) = ((n % 256 : Nat) : Int) := by simp
  rw [e, show (128 : Int) = ((128 : Nat) : Int) from rfl, this]
  congr 2
  omega

theorem uint_any (b : Nat) (v : Value) (n : Nat) (l : List Nat) (w : World) (h : BoxIs w b v l) (hn : n < Cod.U64) (hlen : l.length + 11 ≤ 140737488355328) :
    Calls Tryd.prog 54 #[.pointer (some ⟨b, 0, none⟩), .int .u64 n] w (Laid b v (l ++ Cod.uv n) w) := by
  go_enter Tryd.func54, Tryd.ntmps54
  go_wp2_with fail
  go_loopw [1, 4] (fun m i wr => ∃ (k : Nat) (m' : Nat) (done : List Nat) (v' : Value), k ≤ 10 ∧ done.length = k ∧ i = .int .i64 k ∧ m = .int .u64 m' ∧ m' < Cod.U64 ∧ done ++ Cod.uvF (10 - k) m' = Cod.uv n ∧ BoxIs wr b v' (l ++ done) ∧ Mod (b :: fp v) w wr ∧ (∀ t ∈ fp v', t ∈ fp v ∨ w.heap.size ≤ t)) (fun _ i _ => 10 - (intOf i).toNat)
  case atStart => exact ⟨0, n, [], v, Nat.zero_le _, rfl, rfl, rfl, hn, rfl, by simpa using h, Mod.refl _ _, fun t ht => .inl ht⟩
  case round =>
    obtain ⟨k, m', done, v', hk, hd, rfl, rfl, hm, hu, hbox, hmod, hfr⟩ := hrel
    have hl : (l ++ done).length + 1 ≤ 140737488355328 := by rw [List.length_append]; omega
    have hu' := Lib.hid hu
    have hd' := Lib.hid hd
    clear hu hd
    by_cases hlt : k < 10
    · by_cases hs : m' < 128
      · have hone := reads_one wr m' (by omega)
        have hfin : Hid ((l ++ done) ++ [m'] = l ++ Cod.uv n) := Lib.hid (by
          rw [← hu'.out, List.append_assoc]; congr 2; rw [show 10 - k = (9 - k) + 1 by omega]; simp [Cod.uvF, hs])
        go_wp2_with fail
        refine (put_any b v' _ (l ++ done) [m'] _ (hbox.alloc _) hone hl).mono ?_
        rintro e w2 hlaid
        obtain ⟨rfl, -⟩ := id hlaid
        go_wp2_with fail
        go_end0
        rw [← hfin.out]
        exact hlaid.after (hmod.alloc _) hfr
      · have hor := u8_or128 m'
        have hone := reads_one wr (m' % 128 + 128) (by omega)
        have hfin : Hid ((done ++ [m' % 128 + 128]) ++ Cod.uvF (10 - (k + 1)) (m' / 128) = Cod.uv n) := Lib.hid (by
          rw [← hu'.out, List.append_assoc]; congr 1; rw [show 10 - k = (10 - (k + 1)) + 1 by omega]; simp [Cod.uvF, hs])
        go_wp2_with fail
        refine (put_any b v' _ (l ++ done) [m' % 128 + 128] _ (hbox.alloc _) hone hl).mono ?_
        rintro e w2 hlaid
        obtain ⟨rfl, v2, hb2, -, -⟩ := id hlaid
        obtain ⟨-, v3, hb3, hm3, hf3⟩ := hlaid.after (hmod.alloc _) hfr
        clear hb2 hor
        rw [List.append_assoc] at hb3
        go_wp2_with fail
        go_roundw
        case rel => exact ⟨k + 1, m' / 128, done ++ [m' % 128 + 128], v3, by omega, by simp [hd'.out], by go_num, by go_num, by unfold Cod.U64 at *; omega, hfin.out, hb3, hm3, hf3⟩
        case measure => simp [intOf]; omega
    · obtain rfl : k = 10 := by omega
      have hone := reads_one wr (m' % 256) (by omega)
      have hfin : Hid ((l ++ done) ++ [m' % 256] = l ++ Cod.uv n) := Lib.hid (by
        rw [← hu'.out, List.append_assoc]; simp [Cod.uvF])
      go_wp2_with fail
      rw [show ((m' : Int) % 256) = ((m' % 256 : Nat) : Int) from by simp]
      refine (put_any b v' _ (l ++ done) [m' % 256] _ (hbox.alloc _) hone hl).mono ?_
      rintro e w2 hlaid
      obtain ⟨rfl, -⟩ := id hlaid
      go_wp2_with fail
      go_end0
      rw [← hfin.out]
      exact hlaid.after (hmod.alloc _) hfr
end Go.Proofs.YtcalbbfkgdfidaaDoor
