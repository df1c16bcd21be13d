/- VALUES: a symbol in quotes: the program's. -/
import Derived.Test.YtcalbbfkgdfidaaDoorVaFn
import Derived.Test.YtcalbbfkgdfidaaDoorVaHex
import Derived.Deep.RegionLaw
namespace Go.Proofs.YtcalbbfkgdfidaaDoor
open Go.RowKit
set_option linter.unusedVariables false
set_option linter.unusedSimpArgs false
set_option maxRecDepth 100000

theorem src_lit {w : World} {b : Nat} {cs : Array Value} {l : List Nat} {T : TypeId} {fr : Nat × Nat} (h : w.heap[b]? = some (.cells cs T fr)) (hc : cs.toList = toCells l) :
    Src Tryd.prog 1 51 (.slice (some ⟨b, 0, none⟩) l.length l.length) l.length (toCells l) w := by
  refine Src.ofSlice w Tryd.underlying51 ⟨b, 0, none⟩ _ _ _ (by rw [toCells_len, Nat.mul_one]) (fun j u hu => ?_) (toCells_one l)
  rw [addr_add, Nat.zero_add, ← hc] at *
  simp [World.cell?, h]
  rw [← Array.getElem?_toList]; exact hu

/-- the loop over a symbol's bytes: what it holds -/
structure QL (w wr : World) (s : ByteArray) (bb : Nat) (va : Option Addr) (vc : Nat) (acc : List Nat) (k : Nat) : Prop where
  row : wr.ownsRow 0 5 1 (.slice va acc.length vc) acc.length (toCells acc)
  new : ∀ b ∈ fp (.slice va acc.length vc), w.heap.size ≤ b ∧ b ≠ bb
  byt : ∀ j, j < s.size → wr.cell? ⟨bb, j, none⟩ = some (.int .u8 ((Cod.str s).getD j 0 : Nat))
  bbl : bb < wr.heap.size
  val : acc = 34 :: ((Cod.str s).take k).flatMap Va.qb
  mod : Mod [] w wr
theorem qb_len (c : Nat) : (Va.qb c).length ≤ 4 := by
  unfold Va.qb
  split
  · simp
  · split
    · simp
    · split <;> simp
theorem qb_lt {c : Nat} (hc : c < 256) : ∀ x ∈ Va.qb c, x < 256 := by
  have : ∀ c : Fin 256, ∀ x ∈ Va.qb c.val, x < 256 := by decide +kernel
  exact this ⟨c, hc⟩
theorem digit_at (a : Nat) (ha : a < 16) (h : a < ({ data := #[48, 49, 50, 51, 52, 53, 54, 55, 56, 57, 65, 66, 67, 68, 69, 70] } : ByteArray).size) : (({ data := #[48, 49, 50, 51, 52, 53, 54, 55, 56, 57, 65, 66, 67, 68, 69, 70] } : ByteArray)[a]'h).toNat = Va.hexd a := by
  have : ∀ m : Fin 16, ∀ h : m.val < ({ data := #[48, 49, 50, 51, 52, 53, 54, 55, 56, 57, 65, 66, 67, 68, 69, 70] } : ByteArray).size, (({ data := #[48, 49, 50, 51, 52, 53, 54, 55, 56, 57, 65, 66, 67, 68, 69, 70] } : ByteArray)[m.val]'h).toNat = Va.hexd m.val := by decide
  exact this ⟨a, ha⟩ h
theorem and15 (c : Nat) (hc : c < 256) : bits BinOp.and IntKind.u8 (c : Int) 15 = ((c % 16 : Nat) : Int) := by
  have : ∀ c : Fin 256, bits BinOp.and IntKind.u8 (c.1 : Int) 15 = ((c.1 % 16 : Nat) : Int) := by decide +kernel
  exact this ⟨c, hc⟩
section
variable {P : Program} (w : World)
theorem step_append_src {ops : Array Oper} {o : Oper} {a : Act} {K : Act → World → Prop} {Q : Exit → Act → World → Prop} {E : Prop} (hgd : o.guard = none) (s x : Operand) (t tx : TypeId)
    (ho : o.op = .call { callee := .builtin .append, args := #[s, x], argTypes := #[t, tx] })
    (e : TypeId) (i : TypeInfo) (z : Value) (size bytes : Nat) (ht : P.underlying t = some (.slice e)) (hi : P.info? e = some i) (hz : i.zero = some z)
    (hsize : i.size = size) (hby : i.bytes = bytes) (hzs : z.cells.size = size)
    (v : Value) (n : Nat) (xs : List Value) (hs : a.eval s = v) (hown : w.ownsRow 0 e size v n xs)
    (vx : Value) (m : Nat) (news : List Value) (hx : a.eval x = vx) (hsrc : Src P size tx vx m news w)
    (h63 : n + m ≤ maxLen) (hbytes : (n + m) * bytes ≤ 140737488355328)
    (h : ∀ v' w', w'.ownsRow 0 e size v' (n + m) (xs ++ news) → Mod (fp v) w w' → (∀ k ∈ fp v', k ∈ fp v ∨ w.heap.size ≤ k) → K (a.put o.dst v') w') :
    if Region.wanted o (yielded ops a.tmps) = true then Oper.wp P o a w K Q else E := by
  have hw : Region.wanted o (yielded ops a.tmps) = true := by simp [Region.wanted, hgd]
  rw [if_pos hw]
  obtain ⟨v', w', hr, h2, h3, h4, h5⟩ := run_append_own_src (P := P) w t tx o.type e i z size bytes ht hi hz hsize hby hzs v n xs hown vx m news hsrc h63 hbytes
  unfold Oper.wp execOp
  simp only [ho, resolve, invoke, builtin, Sem.run_bind, Sem.run_pure, Result.andThen_ok, List.map_toArray, List.map_cons, List.map_nil, hs, hx, hr]
  exact h v' w' h2 h3 h4
end
theorem flat_len : ∀ l : List Nat, (l.flatMap Va.qb).length ≤ 4 * l.length
  | [] => by simp
  | c :: r => by
    have := flat_len r
    have := qb_len c
    rw [List.flatMap_cons, List.length_append, List.length_cons]
    omega
theorem QL.le {w wr : World} {s : ByteArray} {bb : Nat} {va : Option Addr} {vc : Nat} {acc : List Nat} {k : Nat} (h : QL w wr s bb va vc acc k) (hk : k ≤ s.size) : acc.length ≤ 1 + 4 * s.size := by
  rw [h.val, List.length_cons]
  have := flat_len ((Cod.str s).take k)
  rw [List.length_take, Cod.str_len] at this
  omega
theorem QL.step {w wr : World} {s : ByteArray} {bb : Nat} {va : Option Addr} {vc : Nat} {acc : List Nat} {k : Nat} (h : QL w wr s bb va vc acc k) (hk : k < s.size) {l : List Nat} (hl : Va.qb ((Cod.str s).getD k 0) = l) {w1 w3 : World} {v' : Value}
    (h1 : Mod [] wr w1) (hown : w3.ownsRow 0 5 1 v' (acc.length + l.length) (toCells acc ++ toCells l)) (hm : Mod (fp (.slice va acc.length vc)) w1 w3) (hf : ∀ b ∈ fp v', b ∈ fp (.slice va acc.length vc) ∨ wr.heap.size ≤ b) :
    ∃ va' vc', v' = .slice va' (acc ++ l).length vc' ∧ QL w w3 s bb va' vc' (acc ++ l) (k + 1) := by
  obtain ⟨va', vc', rfl⟩ := owns_slice hown
  rw [← List.length_append, ← toCells_append] at hown
  have hsz := h1.size
  have hsz3 := hm.size
  have hszw := h.mod.size
  have hbl := h.bbl
  refine ⟨va', vc', by rw [List.length_append], hown, fun b hb => ?_, fun j hj => ?_, by omega, ?_, ?_⟩
  · have hb' := hb
    rw [List.length_append] at hb'
    rcases hf b hb' with q | q
    · exact h.new b q
    · exact ⟨by omega, by omega⟩
  · refine hm.cell (h1.cell (h.byt j hj) (by simp)) (fun hb => (h.new _ hb).2 rfl)
  · rw [h.val, take_snoc _ 0 _ (by rw [Cod.str_len]; exact hk), List.flatMap_append, List.cons_append]
    simp only [List.flatMap_cons, List.flatMap_nil, List.append_nil, hl]
  · exact (h.mod.trans h1 (by simp)).trans hm (fun t ht => .inr (h.new t ht).1)

set_option maxHeartbeats 4000000 in
theorem quoted_any (s : ByteArray) (hs : s.size ≤ 1000) (w : World) :
    Calls Tryd.prog 48 #[.string s] w fun e w' => e = .returned (.string (Lx.ofS (Va.quoted (Cod.str s)))) ∧ Mod [] w w' := by
  obtain ⟨i0, hinf, hz0, hz1, hz2⟩ := info_parts Tryd.infoU8
  have hcv := fun w s => run_bytes_of_string (P := Tryd.prog) w 9 51 5 s Tryd.underlying9 Tryd.underlying51 Tryd.underlying5
  go_enter Tryd.func48, Tryd.ntmps48
  go_wp2_with fail
  have hQ0 : QL w (((w.alloc (Obj.cells #[Value.int IntKind.u8 34] 5)).alloc (Obj.cells (bytesRow s (grownCap (w.alloc (Obj.cells #[Value.int IntKind.u8 34] 5)) s.size 0 5)) 5 ((bytesRow s (grownCap (w.alloc (Obj.cells #[Value.int IntKind.u8 34] 5)) s.size 0 5)).size, (bytesRow s (grownCap (w.alloc (Obj.cells #[Value.int IntKind.u8 34] 5)) s.size 0 5)).size + 1))).drew) s (w.heap.size + 1) (some ⟨w.heap.size, 0, none⟩) 1 [34] 0 := by
    have hmA : Mod [] w (w.alloc (Obj.cells #[Value.int IntKind.u8 34] 5)) := (Mod.refl [] w).alloc _
    have hmB : Mod [] (w.alloc (Obj.cells #[Value.int IntKind.u8 34] 5)) (((w.alloc (Obj.cells #[Value.int IntKind.u8 34] 5)).alloc (Obj.cells (bytesRow s (grownCap (w.alloc (Obj.cells #[Value.int IntKind.u8 34] 5)) s.size 0 5)) 5 ((bytesRow s (grownCap (w.alloc (Obj.cells #[Value.int IntKind.u8 34] 5)) s.size 0 5)).size, (bytesRow s (grownCap (w.alloc (Obj.cells #[Value.int IntKind.u8 34] 5)) s.size 0 5)).size + 1))).drew) := ((Mod.refl [] _).alloc _).drew
    refine ⟨⟨rfl, .inr ⟨w.heap.size, 1, #[.int .u8 34], rfl, Nat.zero_le _, hmB.at (heap_alloc_new w _) (by simp), Nat.le_refl _, by unfold maxLen; omega, rfl, rfl⟩⟩, fun b hb => ?_, fun j hj => ?_, ?_, rfl, hmA.trans hmB (by simp)⟩
    · simp [fp] at hb; omega
    · have := bytes_read (w.alloc (Obj.cells #[Value.int IntKind.u8 34] 5)) s (grownCap (w.alloc (Obj.cells #[Value.int IntKind.u8 34] 5)) s.size 0 5) ((bytesRow s (grownCap (w.alloc (Obj.cells #[Value.int IntKind.u8 34] 5)) s.size 0 5)).size, (bytesRow s (grownCap (w.alloc (Obj.cells #[Value.int IntKind.u8 34] 5)) s.size 0 5)).size + 1) j hj
      simpa using this
    · show w.heap.size + 1 < ((w.alloc _).alloc _).heap.size
      simp
  have HQ0 := Lib.hid hQ0
  clear hQ0 hcv
  generalize (((w.alloc (Obj.cells #[Value.int IntKind.u8 34] 5)).alloc (Obj.cells (bytesRow s (grownCap (w.alloc (Obj.cells #[Value.int IntKind.u8 34] 5)) s.size 0 5)) 5 ((bytesRow s (grownCap (w.alloc (Obj.cells #[Value.int IntKind.u8 34] 5)) s.size 0 5)).size, (bytesRow s (grownCap (w.alloc (Obj.cells #[Value.int IntKind.u8 34] 5)) s.size 0 5)).size + 1))).drew) = wL at *
  generalize grownCap (w.alloc (Obj.cells #[Value.int IntKind.u8 34] 5)) s.size 0 5 = cap at *
  have hlb := Cod.str_lt s
  have hll := Cod.str_len s
  have HLB := Lib.hid hlb; have HLL := Lib.hid hll
  clear hlb hll
  go_loopw [3, 10] (fun vv iv wr => ∃ (acc : List Nat) (va : Option Addr) (vc k : Nat), k ≤ s.size ∧ vv = .slice va acc.length vc ∧ iv = .int .i64 (k : Nat) ∧ QL w wr s (w.heap.size + 1) va vc acc k) (fun _ iv _ => s.size - (intOf iv).toNat)
  case atStart => exact ⟨[34], _, _, 0, Nat.zero_le _, rfl, rfl, HQ0.out⟩
  case round =>
    obtain ⟨acc, va, vc, k, hk, rfl, rfl, hQ⟩ := hrel
    have hal := hQ.le hk
    have HQ := Lib.hid hQ
    by_cases hlt : k < s.size
    · have hkI : (k : Int) < (s.size : Int) := by omega
      have hk0 : (0 : Int) ≤ (k : Int) := by omega
      have hby := hQ.byt k hlt
      have hc := getD_lt' HLB.out k
      have HQB : Hid (∀ l, Va.qb ((Cod.str s).getD k 0) = l → Va.qb ((Cod.str s).getD k 0) = l) := Lib.hid (fun l h => h)
      clear hQ HQB
      have hqb : Va.qb ((Cod.str s).getD k 0) = Va.qb ((Cod.str s).getD k 0) := rfl
      generalize hcd : (Cod.str s).getD k 0 = c at hby hc
      by_cases c34 : c = 34
      · have e1 : ((c : Int) == 34) = true := by rw [beq_iff_eq]; omega
        have HQB : Hid (Va.qb ((Cod.str s).getD k 0) = [92, c]) := Lib.hid (by rw [hcd]; unfold Va.qb; rw [if_pos (by omega)])
        clear c34 hcd hqb
        have hsrc := src_lit (l := [92, c]) (heap_alloc_new wr (Obj.cells #[Value.int IntKind.u8 92, Value.int IntKind.u8 (c : Int)] 5)) rfl
        have h1 : Mod [] wr (wr.alloc (Obj.cells #[Value.int IntKind.u8 92, Value.int IntKind.u8 (c : Int)] 5)) := (Mod.refl [] wr).alloc _
        have HSRC := Lib.hid hsrc; have H1 := Lib.hid h1
        clear hsrc h1
        go_wp2_with (at_builtin; refine wpList_append_src _ rfl _ _ 51 51 rfl 5 i0 (.int .u8 0) 1 1 Tryd.underlying51 hinf hz0 hz1 hz2 rfl (.slice va acc.length vc) acc.length (toCells acc) rfl (HQ.out.row.alloc _) _ 2 (toCells [92, c]) rfl HSRC.out (by unfold maxLen; omega) (by omega) ?_)
        intro v' w3 hown3 hm3 hf3 hn3
        obtain ⟨va3, vc3, rfl, hQ3⟩ := HQ.out.step hlt HQB.out H1.out hown3 hm3 (fun b hb => (hf3 b hb).imp id (fun h => by first | omega | (simp at h; omega)))
        have HQ3 := Lib.hid hQ3
        clear hown3 hm3 hf3 hn3 hQ3
        go_wp2_with fail
        go_roundw
        case rel => exact ⟨_, va3, vc3, k + 1, by omega, rfl, by go_num, HQ3.out⟩
        case measure => simp [intOf]; omega
      · have e1 : ((c : Int) == 34) = false := by rw [beq_eq_false_iff_ne]; omega
        by_cases c92 : c = 92
        · have e2 : ((c : Int) == 92) = true := by rw [beq_iff_eq]; omega
          have HQB : Hid (Va.qb ((Cod.str s).getD k 0) = [92, c]) := Lib.hid (by rw [hcd]; unfold Va.qb; rw [if_pos (by omega)])
          clear c34 c92 hcd hqb
          have hsrc := src_lit (l := [92, c]) (heap_alloc_new wr (Obj.cells #[Value.int IntKind.u8 92, Value.int IntKind.u8 (c : Int)] 5)) rfl
          have h1 : Mod [] wr (wr.alloc (Obj.cells #[Value.int IntKind.u8 92, Value.int IntKind.u8 (c : Int)] 5)) := (Mod.refl [] wr).alloc _
          have HSRC := Lib.hid hsrc; have H1 := Lib.hid h1
          clear hsrc h1
          go_wp2_with (at_builtin; refine wpList_append_src _ rfl _ _ 51 51 rfl 5 i0 (.int .u8 0) 1 1 Tryd.underlying51 hinf hz0 hz1 hz2 rfl (.slice va acc.length vc) acc.length (toCells acc) rfl (HQ.out.row.alloc _) _ 2 (toCells [92, c]) rfl HSRC.out (by unfold maxLen; omega) (by omega) ?_)
          intro v' w3 hown3 hm3 hf3 hn3
          obtain ⟨va3, vc3, rfl, hQ3⟩ := HQ.out.step hlt HQB.out H1.out hown3 hm3 (fun b hb => (hf3 b hb).imp id (fun h => by first | omega | (simp at h; omega)))
          have HQ3 := Lib.hid hQ3
          clear hown3 hm3 hf3 hn3 hQ3
          go_wp2_with fail
          go_roundw
          case rel => exact ⟨_, va3, vc3, k + 1, by omega, rfl, by go_num, HQ3.out⟩
          case measure => simp [intOf]; omega
        · have e2 : ((c : Int) == 92) = false := by rw [beq_eq_false_iff_ne]; omega
          by_cases c10 : c = 10
          · have e3 : ((c : Int) == 10) = true := by rw [beq_iff_eq]; omega
            have HQB : Hid (Va.qb ((Cod.str s).getD k 0) = [92, 110]) := Lib.hid (by rw [hcd]; unfold Va.qb; rw [if_neg (by omega), if_pos c10])
            clear c34 c92 c10 hcd hqb
            have hsrc := src_lit (l := [92, 110]) (heap_alloc_new wr (Obj.cells #[Value.int IntKind.u8 92, Value.int IntKind.u8 110] 5)) rfl
            have h1 : Mod [] wr (wr.alloc (Obj.cells #[Value.int IntKind.u8 92, Value.int IntKind.u8 110] 5)) := (Mod.refl [] wr).alloc _
            have HSRC := Lib.hid hsrc; have H1 := Lib.hid h1
            clear hsrc h1
            go_wp2_with (at_builtin; refine wpList_append_src _ rfl _ _ 51 51 rfl 5 i0 (.int .u8 0) 1 1 Tryd.underlying51 hinf hz0 hz1 hz2 rfl (.slice va acc.length vc) acc.length (toCells acc) rfl (HQ.out.row.alloc _) _ 2 (toCells [92, 110]) rfl HSRC.out (by unfold maxLen; omega) (by omega) ?_)
            intro v' w3 hown3 hm3 hf3 hn3
            obtain ⟨va3, vc3, rfl, hQ3⟩ := HQ.out.step hlt HQB.out H1.out hown3 hm3 (fun b hb => (hf3 b hb).imp id (fun h => by first | omega | (simp at h; omega)))
            have HQ3 := Lib.hid hQ3
            clear hown3 hm3 hf3 hn3 hQ3
            go_wp2_with fail
            go_roundw
            case rel => exact ⟨_, va3, vc3, k + 1, by omega, rfl, by go_num, HQ3.out⟩
            case measure => simp [intOf]; omega
          · have e3 : ((c : Int) == 10) = false := by rw [beq_eq_false_iff_ne]; omega
            by_cases c32 : c < 32
            · have e4 : (c : Int) < 32 := by omega
              have HQB : Hid (Va.qb ((Cod.str s).getD k 0) = [92, 120, Va.hexd (c / 16), Va.hexd (c % 16)]) := Lib.hid (by rw [hcd]; unfold Va.qb; rw [if_neg (by omega), if_neg (by omega), if_pos (by omega)])
              clear c34 c92 c10 hcd hqb
              go_wp2_with fail
              obtain ⟨a, ha⟩ : ∃ a : Nat, a = c / 16 := ⟨_, rfl⟩
              obtain ⟨b, hb⟩ : ∃ b : Nat, b = c % 16 := ⟨_, rfl⟩
              have hA : (c : Int) / 16 = (a : Int) := by omega
              have hB : (c : Int) % 16 = (b : Int) := by omega
              have ha1 : (0 : Int) ≤ (a : Int) := by omega
              have ha2 : (a : Int) < 16 := by omega
              have hb1 : (0 : Int) ≤ (b : Int) := by omega
              have hb2 : (b : Int) < 16 := by omega
              have hxa : ∀ h, ((({ data := #[48, 49, 50, 51, 52, 53, 54, 55, 56, 57, 65, 66, 67, 68, 69, 70] } : ByteArray)[a]'h).toNat : Nat) = Va.hexd a := fun h => digit_at a (by omega) h
              have hxb : ∀ h, ((({ data := #[48, 49, 50, 51, 52, 53, 54, 55, 56, 57, 65, 66, 67, 68, 69, 70] } : ByteArray)[b]'h).toNat : Nat) = Va.hexd b := fun h => digit_at b (by omega) h
              rw [← ha, ← hb] at HQB
              have hsrc := src_lit (l := [92, 120, Va.hexd a, Va.hexd b]) (drew_at (heap_alloc_new wr (Obj.cells #[Value.int IntKind.u8 92, Value.int IntKind.u8 120, Value.int IntKind.u8 (Va.hexd a : Nat), Value.int IntKind.u8 (Va.hexd b : Nat)] 5))) rfl
              have h1 : Mod [] wr ((wr.alloc (Obj.cells #[Value.int IntKind.u8 92, Value.int IntKind.u8 120, Value.int IntKind.u8 (Va.hexd a : Nat), Value.int IntKind.u8 (Va.hexd b : Nat)] 5)).drew) := ((Mod.refl [] wr).alloc _).drew
              have hrow : ((wr.alloc (Obj.cells #[Value.int IntKind.u8 92, Value.int IntKind.u8 120, Value.int IntKind.u8 (Va.hexd a : Nat), Value.int IntKind.u8 (Va.hexd b : Nat)] 5)).drew).ownsRow 0 5 1 (.slice va acc.length vc) acc.length (toCells acc) := HQ.out.row.alloc _
              have HSRC := Lib.hid hsrc; have H1 := Lib.hid h1; have HROW := Lib.hid hrow
              have hB2 : bits BinOp.and IntKind.u8 (c : Int) 15 = (b : Int) := by rw [and15 c hc]; omega
              clear hsrc h1 hrow ha hb
              go_region_law (refine step_append_src _ rfl _ _ 51 51 rfl 5 i0 (.int .u8 0) 1 1 Tryd.underlying51 hinf hz0 hz1 hz2 rfl (.slice va acc.length vc) acc.length (toCells acc) rfl HROW.out _ 4 (toCells [92, 120, Va.hexd a, Va.hexd b]) rfl HSRC.out (by unfold maxLen; omega) (by omega) ?_; intro v' w3 hown3 hm3 hf3; obtain ⟨va3, vc3, rfl, hQ3⟩ := HQ.out.step hlt HQB.out H1.out hown3 hm3 (fun bq hbq => (hf3 bq hbq).imp id (fun h => Nat.le_trans (Nat.le_succ _) (by rw [show ((wr.alloc (Obj.cells #[Value.int IntKind.u8 92, Value.int IntKind.u8 120, Value.int IntKind.u8 (Va.hexd a : Nat), Value.int IntKind.u8 (Va.hexd b : Nat)] 5)).drew).heap.size = wr.heap.size + 1 by simp] at h; exact h))); have HQ3 := Lib.hid hQ3; clear hown3 hm3 hf3 hQ3)
              all_goals (
                go_wp2_with fail
                go_roundw
                case rel => exact ⟨_, va3, vc3, k + 1, by omega, by simp, by go_num, HQ3.out⟩
                case measure => simp [intOf]; omega)
            · have e4 : ¬ (c : Int) < 32 := by omega
              by_cases c126 : 126 < c
              · have e5 : 126 < (c : Int) := by omega
                have HQB : Hid (Va.qb ((Cod.str s).getD k 0) = [92, 120, Va.hexd (c / 16), Va.hexd (c % 16)]) := Lib.hid (by rw [hcd]; unfold Va.qb; rw [if_neg (by omega), if_neg (by omega), if_pos (by omega)])
                clear c34 c92 c10 hcd hqb
                go_wp2_with fail
                obtain ⟨a, ha⟩ : ∃ a : Nat, a = c / 16 := ⟨_, rfl⟩
                obtain ⟨b, hb⟩ : ∃ b : Nat, b = c % 16 := ⟨_, rfl⟩
                have hA : (c : Int) / 16 = (a : Int) := by omega
                have hB : (c : Int) % 16 = (b : Int) := by omega
                have ha1 : (0 : Int) ≤ (a : Int) := by omega
                have ha2 : (a : Int) < 16 := by omega
                have hb1 : (0 : Int) ≤ (b : Int) := by omega
                have hb2 : (b : Int) < 16 := by omega
                have hxa : ∀ h, ((({ data := #[48, 49, 50, 51, 52, 53, 54, 55, 56, 57, 65, 66, 67, 68, 69, 70] } : ByteArray)[a]'h).toNat : Nat) = Va.hexd a := fun h => digit_at a (by omega) h
                have hxb : ∀ h, ((({ data := #[48, 49, 50, 51, 52, 53, 54, 55, 56, 57, 65, 66, 67, 68, 69, 70] } : ByteArray)[b]'h).toNat : Nat) = Va.hexd b := fun h => digit_at b (by omega) h
                rw [← ha, ← hb] at HQB
                have hsrc := src_lit (l := [92, 120, Va.hexd a, Va.hexd b]) (drew_at (heap_alloc_new wr (Obj.cells #[Value.int IntKind.u8 92, Value.int IntKind.u8 120, Value.int IntKind.u8 (Va.hexd a : Nat), Value.int IntKind.u8 (Va.hexd b : Nat)] 5))) rfl
                have h1 : Mod [] wr ((wr.alloc (Obj.cells #[Value.int IntKind.u8 92, Value.int IntKind.u8 120, Value.int IntKind.u8 (Va.hexd a : Nat), Value.int IntKind.u8 (Va.hexd b : Nat)] 5)).drew) := ((Mod.refl [] wr).alloc _).drew
                have hrow : ((wr.alloc (Obj.cells #[Value.int IntKind.u8 92, Value.int IntKind.u8 120, Value.int IntKind.u8 (Va.hexd a : Nat), Value.int IntKind.u8 (Va.hexd b : Nat)] 5)).drew).ownsRow 0 5 1 (.slice va acc.length vc) acc.length (toCells acc) := HQ.out.row.alloc _
                have HSRC := Lib.hid hsrc; have H1 := Lib.hid h1; have HROW := Lib.hid hrow
                have hB2 : bits BinOp.and IntKind.u8 (c : Int) 15 = (b : Int) := by rw [and15 c hc]; omega
                clear hsrc h1 hrow ha hb
                go_region_law (refine step_append_src _ rfl _ _ 51 51 rfl 5 i0 (.int .u8 0) 1 1 Tryd.underlying51 hinf hz0 hz1 hz2 rfl (.slice va acc.length vc) acc.length (toCells acc) rfl HROW.out _ 4 (toCells [92, 120, Va.hexd a, Va.hexd b]) rfl HSRC.out (by unfold maxLen; omega) (by omega) ?_; intro v' w3 hown3 hm3 hf3; obtain ⟨va3, vc3, rfl, hQ3⟩ := HQ.out.step hlt HQB.out H1.out hown3 hm3 (fun bq hbq => (hf3 bq hbq).imp id (fun h => Nat.le_trans (Nat.le_succ _) (by rw [show ((wr.alloc (Obj.cells #[Value.int IntKind.u8 92, Value.int IntKind.u8 120, Value.int IntKind.u8 (Va.hexd a : Nat), Value.int IntKind.u8 (Va.hexd b : Nat)] 5)).drew).heap.size = wr.heap.size + 1 by simp] at h; exact h))); have HQ3 := Lib.hid hQ3; clear hown3 hm3 hf3 hQ3)
                all_goals (
                  go_wp2_with fail
                  go_roundw
                  case rel => exact ⟨_, va3, vc3, k + 1, by omega, by simp, by go_num, HQ3.out⟩
                  case measure => simp [intOf]; omega)
              · have e5 : ¬ 126 < (c : Int) := by omega
                have HQB : Hid (Va.qb ((Cod.str s).getD k 0) = [c]) := Lib.hid (by rw [hcd]; unfold Va.qb; rw [if_neg (by omega), if_neg (by omega), if_neg (by omega)])
                clear c34 c92 c10 c32 c126 hcd hqb
                have hsrc := src_lit (l := [c]) (heap_alloc_new wr (Obj.cells #[Value.int IntKind.u8 (c : Int)] 5)) rfl
                have h1 : Mod [] wr (wr.alloc (Obj.cells #[Value.int IntKind.u8 (c : Int)] 5)) := (Mod.refl [] wr).alloc _
                have HSRC := Lib.hid hsrc; have H1 := Lib.hid h1
                clear hsrc h1
                go_wp2_with (at_builtin; refine wpList_append_src _ rfl _ _ 51 51 rfl 5 i0 (.int .u8 0) 1 1 Tryd.underlying51 hinf hz0 hz1 hz2 rfl (.slice va acc.length vc) acc.length (toCells acc) rfl (HQ.out.row.alloc _) _ 1 (toCells [c]) rfl HSRC.out (by unfold maxLen; omega) (by omega) ?_)
                intro v' w3 hown3 hm3 hf3 hn3
                obtain ⟨va3, vc3, rfl, hQ3⟩ := HQ.out.step hlt HQB.out H1.out hown3 hm3 (fun b hb => (hf3 b hb).imp id (fun h => by first | omega | (simp at h; omega)))
                have HQ3 := Lib.hid hQ3
                clear hown3 hm3 hf3 hn3 hQ3
                go_wp2_with fail
                go_roundw
                case rel => exact ⟨_, va3, vc3, k + 1, by omega, rfl, by go_num, HQ3.out⟩
                case measure => simp [intOf]; omega
    · obtain rfl : k = s.size := by omega
      have hkI : ¬ (s.size : Int) < (s.size : Int) := by omega
      clear hQ
      have hsrc := src_lit (l := [34]) (heap_alloc_new wr (Obj.cells #[Value.int IntKind.u8 34] 5)) rfl
      have h1 : Mod [] wr (wr.alloc (Obj.cells #[Value.int IntKind.u8 34] 5)) := (Mod.refl [] wr).alloc _
      have HSRC := Lib.hid hsrc; have H1 := Lib.hid h1
      clear hsrc h1
      go_wp2_with (at_builtin; refine wpList_append_src _ rfl _ _ 51 51 rfl 5 i0 (.int .u8 0) 1 1 Tryd.underlying51 hinf hz0 hz1 hz2 rfl (.slice va acc.length vc) acc.length (toCells acc) rfl (HQ.out.row.alloc _) _ 1 (toCells [34]) rfl HSRC.out (by unfold maxLen; omega) (by omega) ?_)
      intro v' w3 hown3 hm3 hf3 hn3
      have hval := HQ.out.val
      rw [List.take_of_length_le (by rw [HLL.out]; omega)] at hval
      rw [← toCells_append, show acc.length + 1 = (acc ++ [34]).length by simp] at hown3
      have hcv := conv_reads (reads_own hown3 (fun x hx => by
        rw [hval] at hx
        simp only [List.mem_append, List.mem_cons, List.mem_flatMap, List.not_mem_nil, or_false] at hx
        rcases hx with (rfl | ⟨y, hy, hx⟩) | rfl
        · decide
        · exact qb_lt (HLB.out y hy) x hx
        · decide) (by rw [List.length_append]; simp; omega))
      have e : Hid (acc ++ [34] = Va.quoted (Cod.str s)) := Lib.hid (by rw [hval]; rfl)
      have hmw := (HQ.out.mod.trans H1.out (by simp)).trans hm3 (fun t ht => .inr (HQ.out.new t ht).1)
      have HMW := Lib.hid hmw
      clear hown3 hm3 hf3 hn3 hval hmw
      go_wp2_with fail
      go_ret
      exact ⟨by rw [← e.out]; rfl, HMW.out⟩
end Go.Proofs.YtcalbbfkgdfidaaDoor
