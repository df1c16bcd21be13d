/- PLAIN: the reference's way of reading a value's text: the same values. No program in sight. -/
import Derived.Test.YtppigckioalhhaaGreatDoorRKB1
import Derived.Lib.AtoiAll
import Derived.Lib.Atoi
import Derived.Lib.ItoaNum
/- A QUOTED WORD: the program's. -/
namespace Go.Proofs.YtppigckioalhhaaGreatDoorR
open Go.RowKit
set_option linter.unusedVariables false
set_option linter.unusedSimpArgs false
set_option maxRecDepth 100000

/-- a word's cells -/
def tokC (t : Lx.Tok) : Array Value := #[.int .i64 (t.kind : Nat), .string (Lx.ofS t.text), .int .i64 (t.vk : Nat), .int .i64 (t.num : Nat), .string (Lx.ofS t.sym), .int .i64 (t.line : Nat), .int .i64 (t.col : Nat)]
def zeroT : Lx.Tok := ⟨0, [], 0, 0, [], 0, 0⟩
def wdT (s : List Nat) (w : Lx.Wd) : Lx.Tok := ⟨w.kind, s.take w.n, w.vk, w.num, w.sym, 0, 0⟩
/-- what word answers -/
def rwV (s : List Nat) : Lx.Rw → Value
  | .ok w => .tuple #[.agg (tokC (wdT s w)), .int .i64 0]
  | .bad e => .tuple #[.agg (tokC zeroT), .int .i64 (e : Nat)]
def quoR (s : List Nat) : Lx.Rw := match Lx.quo s with | none => .bad 32 | some (sym, n) => .ok ⟨4, n, 2, 0, sym⟩

theorem extract_take (s : ByteArray) (n : Nat) : s.extract 0 n = Lx.ofS ((Cod.str s).take n) := by
  rw [← Lx.ofS_str (s.extract 0 n), Lx.str_extract]; simp

theorem tok_cells {w : World} {b : Nat} {t : Lx.Tok} {T : TypeId} {fr : Nat × Nat} (h : w.heap[b]? = some (.cells (tokC t) T fr)) :
    w.cell? ⟨b, 0, none⟩ = some (.int .i64 (t.kind : Nat)) ∧ w.cell? ⟨b, 1, none⟩ = some (.string (Lx.ofS t.text)) ∧ w.cell? ⟨b, 2, none⟩ = some (.int .i64 (t.vk : Nat)) ∧ w.cell? ⟨b, 3, none⟩ = some (.int .i64 (t.num : Nat)) ∧
    w.cell? ⟨b, 4, none⟩ = some (.string (Lx.ofS t.sym)) ∧ w.cell? ⟨b, 5, none⟩ = some (.int .i64 (t.line : Nat)) ∧ w.cell? ⟨b, 6, none⟩ = some (.int .i64 (t.col : Nat)) := by
  simp [World.cell?, h, tokC]

theorem Tryz.sizeTok : (Tryz.prog.info? 74).map (·.size) = some 7 := by kernel_rfl
theorem res_tok {fn : Func} {p u : Tmp} (h : fn.results = #[.cell p 74, .tmp u]) (tmps : Array Value) (w : World) (b : Nat) (cs : Array Value) (T : TypeId) (fr : Nat × Nat) (x : Value)
    (hp : tmps.getD p undef = .pointer (some ⟨b, 0, none⟩)) (hx : tmps.getD u undef = x) (hg : w.heap[b]? = some (.cells cs T fr)) (hc : cs.size = 7) :
    (results fn tmps).run Tryz.prog w = .ok (.tuple #[.agg cs, x]) w := by
  have hl := run_loadVar_row (P := Tryz.prog) w b T 74 cs fr _ hg Tryz.underlying74 rfl (by rw [Tryz.sizeTok, hc])
  rw [results_cell_tmp h, hp, hx]
  simp [asAddr, hl]
theorem st_list (a0 a1 a2 a3 a4 a5 a6 v0 v1 v2 v3 v4 v5 v6 : Value) : ((((((((#[a0, a1, a2, a3, a4, a5, a6] : Array Value).setIfInBounds 0 v0).setIfInBounds 1 v1).setIfInBounds 2 v2).setIfInBounds 3 v3).setIfInBounds 4 v4).setIfInBounds 5 v5).setIfInBounds 6 v6) = #[v0, v1, v2, v3, v4, v5, v6] := by
  simp only [List.setIfInBounds_toArray, List.set_cons_zero, List.set_cons_succ]
theorem store_tok {w : World} {b : Nat} {a0 a1 a2 a3 a4 a5 a6 : Value} {T : TypeId} {fr : Nat × Nat} (h : w.heap[b]? = some (.cells #[a0, a1, a2, a3, a4, a5, a6] T fr)) (v0 v1 v2 v3 v4 v5 v6 : Value) :
    (((((((w.setCell ⟨b, 0, none⟩ v0).setCell ⟨b, 1, none⟩ v1).setCell ⟨b, 2, none⟩ v2).setCell ⟨b, 3, none⟩ v3).setCell ⟨b, 4, none⟩ v4).setCell ⟨b, 5, none⟩ v5).setCell ⟨b, 6, none⟩ v6).heap[b]? = some (.cells #[v0, v1, v2, v3, v4, v5, v6] T fr) := by
  have h1 := setCell_at h 0 v0
  generalize w.setCell ⟨b, 0, none⟩ v0 = w1 at *
  have h2 := setCell_at h1 1 v1
  generalize w1.setCell ⟨b, 1, none⟩ v1 = w2 at *
  have h3 := setCell_at h2 2 v2
  generalize w2.setCell ⟨b, 2, none⟩ v2 = w3 at *
  have h4 := setCell_at h3 3 v3
  generalize w3.setCell ⟨b, 3, none⟩ v3 = w4 at *
  have h5 := setCell_at h4 4 v4
  generalize w4.setCell ⟨b, 4, none⟩ v4 = w5 at *
  have h6 := setCell_at h5 5 v5
  generalize w5.setCell ⟨b, 5, none⟩ v5 = w6 at *
  have h7 := setCell_at h6 6 v6
  rw [h7, st_list]
theorem drew_at {X : World} {b : Nat} {o : Option Obj} (h : X.heap[b]? = o) : X.drew.heap[b]? = o := h
theorem store_tokD {w : World} {b : Nat} {a0 a1 a2 a3 a4 a5 a6 : Value} {T : TypeId} {fr : Nat × Nat} (h : w.heap[b]? = some (.cells #[a0, a1, a2, a3, a4, a5, a6] T fr)) (v0 v1 v2 v3 v4 v5 v6 : Value) :
    ((((((((w.setCell ⟨b, 0, none⟩ v0).setCell ⟨b, 1, none⟩ v1).setCell ⟨b, 2, none⟩ v2).setCell ⟨b, 3, none⟩ v3).setCell ⟨b, 4, none⟩ v4).setCell ⟨b, 5, none⟩ v5).setCell ⟨b, 6, none⟩ v6).drew).heap[b]? = some (.cells #[v0, v1, v2, v3, v4, v5, v6] T fr) :=
  drew_at (store_tok h v0 v1 v2 v3 v4 v5 v6)
theorem mod_tok {S : List Nat} {w0 w : World} {b : Nat} (h : Mod S w0 w) (hb : b ∈ S ∨ w0.heap.size ≤ b) (v0 v1 v2 v3 v4 v5 v6 : Value) :
    Mod S w0 (((((((w.setCell ⟨b, 0, none⟩ v0).setCell ⟨b, 1, none⟩ v1).setCell ⟨b, 2, none⟩ v2).setCell ⟨b, 3, none⟩ v3).setCell ⟨b, 4, none⟩ v4).setCell ⟨b, 5, none⟩ v5).setCell ⟨b, 6, none⟩ v6) :=
  ((((((h.setCell hb _).setCell hb _).setCell hb _).setCell hb _).setCell hb _).setCell hb _).setCell hb _

set_option maxHeartbeats 2000000 in
theorem quoted_any (s : ByteArray) (hs : s.size ≤ 65536) (w : World) (hG : Glob w) :
    Calls Tryz.prog 121 #[.string s] w fun e w' => e = .returned (rwV (Cod.str s) (quoR (Cod.str s))) ∧ Mod [] w w' := by
  obtain ⟨i0, hinf, hz0, hz1, hz2⟩ := info_parts Tryz.infoU8
  have hlt := Cod.str_lt s
  have hsz := Cod.str_len s
  obtain ⟨l, hl⟩ : ∃ l, l = Cod.str s := ⟨_, rfl⟩
  rw [← hl] at hlt hsz ⊢
  have HL := Lib.hid hl
  have HSZ := Lib.hid hsz
  have HLT := Lib.hid hlt
  clear hl hsz hlt
  go_enter Tryz.func121, Tryz.ntmps121
  go_wp2_with fail
  have hB0 : (w.alloc (Obj.cells (tokC zeroT) 74)).heap[w.heap.size]? = some (.cells (tokC zeroT) 74 (0, 0)) := heap_alloc_new w _
  go_loopw [4, 5] (fun bv iv wr => ∃ (i f vc : Nat) (va : Option Addr) (acc : List Nat), 1 ≤ i ∧ i ≤ l.length + 1 ∧ iv = .int .i64 (i : Int) ∧ bv = .slice va acc.length vc ∧ wr.ownsRow 0 5 1 (.slice va acc.length vc) acc.length (toCells acc) ∧
      (∀ c ∈ acc, c < 256) ∧ acc.length ≤ i ∧ l.length ≤ f + i ∧ Lx.quoF f (l.drop i) acc i = Lx.quo l ∧ wr.heap[w.heap.size]? = some (.cells (tokC zeroT) 74 (0, 0)) ∧ (∀ k ∈ fp (.slice va acc.length vc), w.heap.size < k) ∧ Mod [] w wr)
    (fun _ iv _ => l.length + 1 - (intOf iv).toNat)
  case atStart =>
    exact ⟨1, l.length, 0, none, [], Nat.le_refl _, by omega, rfl, rfl, World.ownsRow_nil _ _ _ _, by simp, by simp, by omega, rfl, hB0, by simp [fp], (Mod.refl _ _).alloc _⟩
  case round =>
    obtain ⟨i, f, vc, va, acc, hi1, hi2, rfl, rfl, hown, hab, hai, hf, hq, hBr, hfp, hmr⟩ := hrel
    clear hB0
    have hsz := HSZ.out
    obtain ⟨q0, q1, q2, q3, q4, q5, q6⟩ := tok_cells hBr
    have fz : ∀ j, wr.frozen? ⟨w.heap.size, j, none⟩ = false := fun j => by simp [World.frozen?, hBr]
    by_cases hi : i < l.length
    · obtain ⟨c, r, hd⟩ : ∃ c r, l.drop i = c :: r := ⟨_, _, List.drop_eq_getElem_cons hi⟩
      have his : i < s.size := by omega
      have hc0 : s[i].toNat = c := by
        rw [← Lx.get_str s i his, ← HL.out, List.getD_eq_getElem?_getD, ← List.head?_drop, hd]; rfl
      have hc : c < 256 := by rw [← hc0]; exact (s[i]).toNat_lt
      obtain ⟨k, rfl⟩ : ∃ k, f = k + 1 := ⟨f - 1, by omega⟩
      have hr : r = l.drop (i + 1) := by rw [← List.drop_drop, hd]; rfl
      rw [hd] at hq
      have hp : ∀ k : Nat, c = k → (s[i].toNat : Int) = (k : Int) := fun k h => by rw [hc0, h]
      have hn : ∀ k : Nat, c ≠ k → (¬ (s[i].toNat : Int) = (k : Int)) ∧ ((s[i].toNat : Int) == (k : Int)) = false ∧ ((s[i].toNat : Int) != (k : Int)) = true := fun k h => by
        rw [hc0]
        refine ⟨by omega, by rw [beq_eq_false_iff_ne]; omega, by rw [bne_iff_ne]; omega⟩
      by_cases h34 : c = 34
      · have p34 := hp 34 h34
        by_cases hlong : 64 < acc.length
        · have e : Hid (quoR l = .bad 32) := Lib.hid (by
            unfold quoR; rw [← hq, Lx.quoF, if_pos h34, if_pos hlong])
          have hlI : (64 : Int) < (acc.length : Int) := by omega
          have HQ := Lib.hid hq
          clear hp hn hc0 hd hq h34 hr
          go_wp2_with fail
          exact bodyPost_ret (res_tok rfl _ _ _ _ _ _ _ rfl rfl (store_tok hBr _ _ _ _ _ _ _) rfl) rfl ⟨by rw [e.out]; rfl, mod_tok hmr (.inr (Nat.le_refl _)) _ _ _ _ _ _ _⟩
        · have e : Hid (quoR l = .ok ⟨4, i + 1, 2, 0, acc⟩) := Lib.hid (by
            unfold quoR; rw [← hq, Lx.quoF, if_pos h34, if_neg hlong])
          have hlI : (acc.length : Int) ≤ 64 := by omega
          have hrd : Reads wr (.slice va acc.length vc) acc := reads_own hown hab (by omega)
          have hcv := conv_reads hrd
          have hcv2 : (convert 189 9 (.slice va acc.length vc)).run Tryz.prog wr.drew = .ok (.string (Lx.ofS acc)) wr.drew := conv_reads (w := wr.drew) hrd
          have hsl : (i : Int) + 1 ≤ (s.size : Int) := by omega
          have HQ := Lib.hid hq
          clear hp hn hc0 hd hq h34 hr hrd
          go_wp2_with fail
          go_region
          go_wp2_with fail
          rw [extract_take s (i + 1), ← HL.out]
          exact bodyPost_ret (res_tok rfl _ _ _ _ _ _ _ rfl rfl (store_tokD hBr _ _ _ _ _ _ _) rfl) rfl ⟨by rw [e.out]; rfl, (mod_tok hmr (.inr (Nat.le_refl _)) _ _ _ _ _ _ _).drew⟩
      · obtain ⟨a34, b34, d34⟩ := hn 34 h34
        by_cases h10 : c = 10
        · have p10 := hp 10 h10
          have e : Hid (quoR l = .bad 32) := Lib.hid (by
            unfold quoR; rw [← hq, Lx.quoF, if_neg h34, if_pos h10])
          have HQ := Lib.hid hq
          clear hp hn hc0 hd hq h34 hr h10
          go_wp2_with fail
          exact bodyPost_ret (res_tok rfl _ _ _ _ _ _ _ rfl rfl (store_tok hBr _ _ _ _ _ _ _) rfl) rfl ⟨by rw [e.out]; rfl, mod_tok hmr (.inr (Nat.le_refl _)) _ _ _ _ _ _ _⟩
        · obtain ⟨a10, b10, d10⟩ := hn 10 h10
          by_cases h92 : c = 92
          · have p92 := hp 92 h92
            have hsx : Cod.str (s.extract (i + 1) s.size) = r := by
              rw [Lx.str_extract, ← HL.out, hr, List.take_of_length_le (by rw [List.length_drop]; omega)]
            have hesc := fun w hG => escape_any (s.extract (i + 1) s.size) (by rw [ByteArray.size_extract]; omega) w hG
            rw [hsx] at hesc
            have hrl : r.length = l.length - (i + 1) := by rw [hr, List.length_drop]
            have hrb : ∀ c ∈ r, c < 256 := fun c hc => HLT.out c (by rw [hr] at hc; exact List.mem_of_mem_drop hc)
            have hGr := hG.past hmr (by simp)
            have hsl : (i : Int) + 1 ≤ (s.size : Int) := by omega
            cases hx : Lx.esc r with
            | none =>
              have hv : escV r = (0, 0) := by simp [escV, hx]
              rw [hv] at hesc
              have e : Hid (quoR l = .bad 32) := Lib.hid (by
                unfold quoR; rw [← hq, Lx.quoF, if_neg h34, if_neg h10, if_pos h92, hx])
              have HE := Lib.hid hesc
              clear hp hn hc0 hd hq h34 hr h10 h92 hx hv hesc hsx hrl hrb
              go_wp2_with fail
              refine (HE.out _ hGr).mono ?_
              rintro e2 w2 ⟨rfl, hm2⟩
              have hB2 := hm2.at hBr (by simp)
              have hm2' := hmr.trans hm2 (by simp)
              have fz2 : ∀ j, w2.frozen? ⟨w.heap.size, j, none⟩ = false := fun j => by simp [World.frozen?, hB2]
              obtain ⟨q0, q1, q2, q3, q4, q5, q6⟩ := tok_cells hB2
              go_wp2_with fail
              exact bodyPost_ret (res_tok rfl _ _ _ _ _ _ _ rfl rfl (store_tok hB2 _ _ _ _ _ _ _) rfl) rfl ⟨by rw [e.out]; rfl, mod_tok hm2' (.inr (Nat.le_refl _)) _ _ _ _ _ _ _⟩
            | some bm =>
              obtain ⟨b, m⟩ := bm
              have hv : escV r = (b, m) := by simp [escV, hx]
              obtain ⟨hm1, hml, hb256⟩ := Lx.esc_len hrb hx
              rw [hv] at hesc
              have hqn : Hid (Lx.quoF k (l.drop (i + m + 1)) (acc ++ [b]) (i + m + 1) = Lx.quo l) := Lib.hid (by
                rw [← hq, Lx.quoF, if_neg h34, if_neg h10, if_pos h92, hx]
                simp only
                rw [hr, List.drop_drop, show i + 1 + m = i + m + 1 by omega])
              have hmz : ((m : Int) == 0) = false := by rw [beq_eq_false_iff_ne]; omega
              have HE := Lib.hid hesc
              have HF := Lib.hid hf
              clear hp hn hc0 hd hq h34 hr h10 h92 hx hv hesc hsx hrb
              go_wp2_with fail
              refine (HE.out _ hGr).mono ?_
              rintro e2 w2 ⟨rfl, hm2⟩
              have hB2 := hm2.at hBr (by simp)
              have hm2' := hmr.trans hm2 (by simp)
              have hown2 := hm2.owns hown (by simp)
              have hs2 := hm2'.size
              have hone := reads_one w2 b hb256
              go_wp2_with (at_builtin; refine wpList_append_src _ rfl _ _ 189 189 rfl 5 i0 (.int .u8 0) 1 1 Tryz.underlying189 hinf hz0 hz1 hz2 rfl (.slice va acc.length vc) acc.length (toCells acc) rfl (hown2.alloc _) _ 1 [.int .u8 (b : Nat)] rfl (src_reads hone) (by unfold maxLen; omega) (by omega) ?_)
              intro v' w3 hown3 hm3 hf3 hn3
              obtain ⟨va3, vc3, rfl⟩ := owns_slice hown3
              have hB3 : w3.heap[w.heap.size]? = some (.cells (tokC zeroT) 74 (0, 0)) := hm3.at (((Mod.refl [] w2).alloc _).at hB2 (by simp)) (fun hb => by have := hfp _ hb; omega)
              have hm3' : Mod [] w w3 := (hm2'.alloc _).trans hm3 (fun t ht => .inr (by have := hfp t ht; omega))
              have hlen : acc.length + 1 = (acc ++ [b]).length := by simp
              have hcl : toCells acc ++ [.int .u8 (b : Nat)] = toCells (acc ++ [b]) := by simp [toCells]
              have hf3' : ∀ k ∈ fp (.slice va3 (acc.length + 1) vc3), w.heap.size < k := fun k hk => by
                rcases hf3 k hk with h | h
                · exact hfp k h
                · have := lt_of_block hB2; first | omega | (simp at h; omega)
              rw [hcl] at hown3
              have hab3 : ∀ c ∈ acc ++ [b], c < 256 := fun c hc => by
                rcases List.mem_append.1 hc with h | h
                · exact hab c h
                · simp at h; omega
              have HREL : Hid (w3.ownsRow 0 5 1 (.slice va3 (acc ++ [b]).length vc3) (acc ++ [b]).length (toCells (acc ++ [b])) ∧ (∀ k ∈ fp (.slice va3 (acc ++ [b]).length vc3), w.heap.size < k)) := Lib.hid (by rw [← hlen]; exact ⟨hown3, hf3'⟩)
              clear hn3 hf3 hm3 hown3 hown2 hone hcl hm2 hf3' hown
              go_wp2_with fail
              go_roundw
              case rel =>
                have := HF.out
                refine ⟨i + m + 1, k, vc3, va3, acc ++ [b], by omega, by omega, by go_num, by rw [← hlen], HREL.out.1, hab3, by rw [← hlen]; omega, by omega, hqn.out, hB3, HREL.out.2, hm3'⟩
              case measure => simp [intOf]; omega
          · obtain ⟨a92, b92, d92⟩ := hn 92 h92
            have hqn : Hid (Lx.quoF k (l.drop (i + 1)) (acc ++ [c]) (i + 1) = Lx.quo l) := Lib.hid (by
              rw [← hq, Lx.quoF, if_neg h34, if_neg h10, if_neg h92, hr])
            have HF := Lib.hid hf
            have HC := Lib.hid hc0
            have hone := reads_one wr c hc
            clear hp hn hd hq h34 hr h10 h92 hf
            rw [← HC.out] at hone
            have HO := Lib.hid hone
            clear hc0 hone
            go_wp2_with (at_builtin; refine wpList_append_src _ rfl _ _ 189 189 rfl 5 i0 (.int .u8 0) 1 1 Tryz.underlying189 hinf hz0 hz1 hz2 rfl (.slice va acc.length vc) acc.length (toCells acc) rfl (hown.alloc _) _ 1 [.int .u8 (s[i].toNat : Nat)] rfl (src_reads HO.out) (by unfold maxLen; omega) (by omega) ?_)
            intro v' w3 hown3 hm3 hf3 hn3
            obtain ⟨va3, vc3, rfl⟩ := owns_slice hown3
            have hB3 : w3.heap[w.heap.size]? = some (.cells (tokC zeroT) 74 (0, 0)) := hm3.at (((Mod.refl [] wr).alloc _).at hBr (by simp)) (fun hb => by have := hfp _ hb; omega)
            have hm3' : Mod [] w w3 := (hmr.alloc _).trans hm3 (fun t ht => .inr (by have := hfp t ht; omega))
            have hlen : acc.length + 1 = (acc ++ [c]).length := by simp
            have hcl : toCells acc ++ [.int .u8 (s[i].toNat : Nat)] = toCells (acc ++ [c]) := by rw [HC.out]; simp [toCells]
            have hf3' : ∀ k ∈ fp (.slice va3 (acc.length + 1) vc3), w.heap.size < k := fun k hk => by
              rcases hf3 k hk with h | h
              · exact hfp k h
              · have := lt_of_block hBr; first | omega | (simp at h; omega)
            rw [hcl] at hown3
            have hab3 : ∀ x ∈ acc ++ [c], x < 256 := fun x hx => by
              rcases List.mem_append.1 hx with h | h
              · exact hab x h
              · simp at h; omega
            have HREL : Hid (w3.ownsRow 0 5 1 (.slice va3 (acc ++ [c]).length vc3) (acc ++ [c]).length (toCells (acc ++ [c])) ∧ (∀ k ∈ fp (.slice va3 (acc ++ [c]).length vc3), w.heap.size < k)) := Lib.hid (by rw [← hlen]; exact ⟨hown3, hf3'⟩)
            clear hn3 hf3 hm3 hown3 hcl hf3' hown
            go_wp2_with fail
            go_roundw
            case rel =>
              have := HF.out
              refine ⟨i + 1, k, vc3, va3, acc ++ [c], by omega, by omega, by go_num, by rw [← hlen], HREL.out.1, hab3, by rw [← hlen]; omega, by omega, hqn.out, hB3, HREL.out.2, hm3'⟩
            case measure => simp [intOf]; omega
    · have e : Hid (quoR l = .bad 32) := Lib.hid (by
        unfold quoR
        rw [← hq, List.drop_eq_nil_of_le (by omega)]
        cases f <;> rfl)
      clear hq
      go_wp2_with fail
      exact bodyPost_ret (res_tok rfl _ _ _ _ _ _ _ rfl rfl (store_tok hBr _ _ _ _ _ _ _) rfl) rfl ⟨by rw [e.out]; rfl, mod_tok hmr (.inr (Nat.le_refl _)) _ _ _ _ _ _ _⟩
end Go.Proofs.YtppigckioalhhaaGreatDoorR
/- A NUMBER: the program's. -/
namespace Go.Proofs.YtppigckioalhhaaGreatDoorR
open Go.RowKit
set_option linter.unusedVariables false
set_option linter.unusedSimpArgs false
set_option maxRecDepth 100000

theorem parse_digits : ∀ (l : List UInt8) (acc : Nat), (∀ c ∈ l, Lx.digit c.toNat = true) →
    ((l.map UInt8.toNat).foldl (fun a c => 10 * a + (c - 48)) acc < 18446744073709551616 → Lib.parseUint10 acc l = .ok ((l.map UInt8.toNat).foldl (fun a c => 10 * a + (c - 48)) acc)) ∧
    (18446744073709551616 ≤ (l.map UInt8.toNat).foldl (fun a c => 10 * a + (c - 48)) acc → acc < 18446744073709551616 → Lib.parseUint10 acc l = .range) ∧
    acc ≤ (l.map UInt8.toNat).foldl (fun a c => 10 * a + (c - 48)) acc
  | [], acc, _ => by
    refine ⟨fun _ => rfl, fun h1 h2 => ?_, Nat.le_refl _⟩
    simp only [List.map_nil, List.foldl_nil] at h1
    omega
  | c :: r, acc, h => by
    have hc := h c (by simp)
    have ih := parse_digits r (10 * acc + (c.toNat - 48)) (fun x hx => h x (by simp [hx]))
    simp only [Lx.digit, Bool.and_eq_true, decide_eq_true_eq] at hc
    simp only [List.map_cons, List.foldl_cons]
    generalize List.foldl (fun a c => 10 * a + (c - 48)) (10 * acc + (c.toNat - 48)) (List.map UInt8.toNat r) = v at *
    obtain ⟨h1, h2, h3⟩ := ih
    have e : acc * 10 + (c.toNat - 48) = 10 * acc + (c.toNat - 48) := by omega
    refine ⟨fun hv => ?_, fun hv ha => ?_, by omega⟩
    · rw [Lib.parseUint10, if_pos hc, if_neg (by omega), e, if_neg (by omega)]
      exact h1 hv
    · rw [Lib.parseUint10, if_pos hc]
      split
      · rfl
      · rw [e]
        split
        · rfl
        · exact h2 hv (by omega)

theorem atoi_digits (l : List UInt8) (h0 : l ≠ []) (h : ∀ c ∈ l, Lx.digit c.toNat = true) :
    (Lx.numv (l.map UInt8.toNat) < 9223372036854775808 → Lib.atoiAll l = .ok (Lx.numv (l.map UInt8.toNat) : Nat)) ∧
    (9223372036854775808 ≤ Lx.numv (l.map UInt8.toNat) → Lib.atoiAll l = .range) := by
  have hp := parse_digits l 0 h
  have hv : (l.map UInt8.toNat).foldl (fun a c => 10 * a + (c - 48)) 0 = Lx.numv (l.map UInt8.toNat) := rfl
  rw [hv] at hp
  generalize Lx.numv (l.map UInt8.toNat) = v at *
  cases l with
  | nil => simp at h0
  | cons c r =>
    have hc := h c (by simp)
    simp only [Lx.digit, Bool.and_eq_true, decide_eq_true_eq] at hc
    have hs : ¬ (c.toNat = 43 ∨ c.toNat = 45) := by omega
    have hn : ¬ c.toNat = 45 := by omega
    have hm : Lib.parseMag (c :: r) = Lib.parseUint10 0 (c :: r) := by simp [Lib.parseMag]
    refine ⟨fun h1 => ?_, fun h1 => ?_⟩
    · simp only [Lib.atoiAll, if_neg hs, hm, hp.1 (by omega)]
      rw [if_neg (by simp [hn]; omega), if_neg (by simp [hn]), if_neg hn]
    · rcases Nat.lt_or_ge v 18446744073709551616 with h2 | h2
      · simp only [Lib.atoiAll, if_neg hs, hm, hp.1 h2]
        rw [if_pos ⟨hn, h1⟩]
      · simp only [Lib.atoiAll, if_neg hs, hm, hp.2.1 h2 (by omega)]

def numR (l : List Nat) : Lx.Rw :=
  if (1 < Lx.run Lx.digit l ∧ l.headD 0 = 48) ∨ 2147483647 < Lx.numv (l.take (Lx.run Lx.digit l)) ∨ Lx.run Lx.digit l < Lx.run Lx.goes l then .bad 31
  else .ok ⟨3, Lx.run Lx.digit l, 1, Lx.numv (l.take (Lx.run Lx.digit l)), []⟩

theorem run_all (p : Nat → Bool) (l : List Nat) : ∀ c ∈ l.take (Lx.run p l), p c = true := by
  induction l with
  | nil => simp
  | cons c r ih =>
    rw [Lx.run_cons]
    by_cases h : p c = true
    · rw [if_pos h, List.take_succ_cons]
      intro x hx
      rcases List.mem_cons.1 hx with rfl | hx
      · exact h
      · exact ih x hx
    · rw [if_neg h]; simp

/-- strconv.Atoi of digits -/
theorem atoi_any (s : ByteArray) (hs : s.size ≤ 65536) (h0 : 0 < s.size) (hd : ∀ c ∈ Cod.str s, Lx.digit c = true) (w : World) (hG : Glob w) :
    Calls Tryz.prog 133 #[.string s] w fun e w' => ((Lx.numv (Cod.str s) < 9223372036854775808 ∧ e = .returned (.tuple #[.int .i64 (Lx.numv (Cod.str s) : Nat), .nilIface])) ∨
      (9223372036854775808 ≤ Lx.numv (Cod.str s) ∧ ∃ n ty v, e = .returned (.tuple #[.int .i64 n, .iface ty v]))) ∧ Mod [] w w' := by
  have hat := atoi_digits s.data.toList (by
    intro h
    have := congrArg List.length h
    rw [Array.length_toList] at this
    have e : s.data.size = s.size := rfl
    rw [e] at this; simp only [List.length_nil] at this; omega) (fun c hc => hd _ (List.mem_map.2 ⟨c, hc, rfl⟩))
  have e : s.data.toList.map UInt8.toNat = Cod.str s := rfl
  rw [e] at hat
  rcases Nat.lt_or_ge (Lx.numv (Cod.str s)) 9223372036854775808 with hv | hv
  · refine (Tryz.strconv_Atoi_ok s (by omega) _ (hat.1 hv) w).mono ?_
    rintro e w' ⟨rfl, hw⟩
    refine ⟨.inl ⟨hv, rfl⟩, ?_⟩
    rcases hw with rfl | ⟨t, rfl⟩
    · exact Mod.refl _ _
    · exact Mod.of_below (Lib.bytesWorld_below _ _ _)
  · obtain ⟨tp, p, T, fr, hr⟩ := hG.rng
    refine (Tryz.strconv_Atoi_range_var s (by omega) (hat.2 hv) tp p w (by
      have hg : Tryz.prog.globalNamed "strconv.ErrRange" = some 3 := by kernel_rfl
      simp [World.var?, hg, hr])).mono ?_
    rintro e w' ⟨N, rfl, -, -, hb⟩
    exact ⟨.inr ⟨hv, _, _, _, rfl⟩, Mod.of_below hb⟩

set_option maxHeartbeats 2000000 in
theorem number_any (s : ByteArray) (hs : s.size ≤ 65536) (h0 : 0 < s.size) (hd0 : Lx.digit ((Cod.str s).headD 0) = true) (w : World) (hG : Glob w) :
    Calls Tryz.prog 120 #[.string s] w fun e w' => e = .returned (rwV (Cod.str s) (numR (Cod.str s))) ∧ Mod [] w w' := by
  have hlb := Cod.str_lt s
  have hsz := Cod.str_len s
  have hc0 : s[0].toNat = (Cod.str s).headD 0 := by
    rw [← Lx.get_str s 0 h0]
    cases Cod.str s <;> rfl
  have hnd : 1 ≤ Lx.run Lx.digit (Cod.str s) := Lx.run_pos (by intro h; rw [h] at hsz; simp at hsz; omega) hd0
  have hnl := Lx.run_le Lx.digit (Cod.str s)
  have hex := extract_take s (Lx.run Lx.digit (Cod.str s))
  have hstr : Cod.str (s.extract 0 (Lx.run Lx.digit (Cod.str s))) = (Cod.str s).take (Lx.run Lx.digit (Cod.str s)) := by rw [Lx.str_extract]; simp
  have hat := fun w hG => atoi_any (s.extract 0 (Lx.run Lx.digit (Cod.str s))) (by rw [ByteArray.size_extract]; omega) (by rw [ByteArray.size_extract]; omega) (by rw [hstr]; exact run_all _ _) w hG
  rw [hstr] at hat
  have hdg := len_digit s (by omega)
  have hrs := len_rest s (by omega)
  have hR : numR (Cod.str s) = if (1 < Lx.run Lx.digit (Cod.str s) ∧ (Cod.str s).headD 0 = 48) ∨ 2147483647 < Lx.numv ((Cod.str s).take (Lx.run Lx.digit (Cod.str s))) ∨ Lx.run Lx.digit (Cod.str s) < Lx.run Lx.goes (Cod.str s) then .bad 31
      else .ok ⟨3, Lx.run Lx.digit (Cod.str s), 1, Lx.numv ((Cod.str s).take (Lx.run Lx.digit (Cod.str s))), []⟩ := rfl
  have hgl := Lx.run_le Lx.goes (Cod.str s)
  rw [hsz] at hgl hnl
  have hF : Hid (∀ n' v', rwV (Cod.str s) (.ok ⟨3, n', 1, v', []⟩) = .tuple #[.agg #[.int .i64 3, .string (Lx.ofS ((Cod.str s).take n')), .int .i64 1, .int .i64 (v' : Nat), .string { data := #[] }, .int .i64 0, .int .i64 0], .int .i64 0]) := Lib.hid (fun _ _ => rfl)
  generalize Lx.numv ((Cod.str s).take (Lx.run Lx.digit (Cod.str s))) = v at *
  generalize hn : Lx.run Lx.digit (Cod.str s) = n at *
  generalize Lx.run Lx.goes (Cod.str s) = m at *
  generalize (Cod.str s).headD 0 = c at *
  have HAT := Lib.hid hat; have HDG := Lib.hid hdg; have HRS := Lib.hid hrs; have HEX := Lib.hid hex; have HR := Lib.hid hR; have HC := Lib.hid hc0
  clear hat hdg hrs hex hR hn hstr hlb hsz hd0 hc0
  have hB0 : (w.alloc (Obj.cells (tokC zeroT) 74)).heap[w.heap.size]? = some (.cells (tokC zeroT) 74 (0, 0)) := heap_alloc_new w _
  have hm0 : Mod [] w (w.alloc (Obj.cells (tokC zeroT) 74)) := (Mod.refl [] w).alloc _
  have hz : (w.alloc (Obj.cells (tokC zeroT) 74)) = w.alloc (Obj.cells #[Value.int IntKind.i64 0, Value.string { data := #[] }, Value.int IntKind.i64 0, Value.int IntKind.i64 0, Value.string { data := #[] }, Value.int IntKind.i64 0, Value.int IntKind.i64 0] 74) := rfl
  rw [hz] at hB0 hm0
  have HB := Lib.hid hB0; have HM := Lib.hid hm0
  clear hz hB0 hm0
  go_enter Tryz.func120, Tryz.ntmps120
  go_wp2_with fail
  refine (HDG.out _).mono ?_
  rintro e w2 ⟨rfl, hm2⟩
  have hB2 := hm2.at HB.out (by simp)
  have hm2' := HM.out.trans hm2 (by simp)
  have hG2 := hG.past hm2' (by simp)
  clear hm2
  go_wp2_with fail
  refine (HAT.out _ hG2).mono ?_
  rintro e w3 ⟨hres, hm3⟩
  have hB3 := hm3.at hB2 (by simp)
  have hm3' := hm2'.trans hm3 (by simp)
  obtain ⟨q0, q1, q2, q3, q4, q5, q6⟩ := tok_cells hB3
  have fz : ∀ j, w3.frozen? ⟨w.heap.size, j, none⟩ = false := fun j => by simp [World.frozen?, hB3]
  clear hm3 hm2' hB2 hG2
  rcases hres with ⟨hv, rfl⟩ | ⟨hv, x, ty, y, rfl⟩
  · by_cases hmax : 2147483647 < v
    · have e : Hid (numR (Cod.str s) = .bad 31) := Lib.hid (by rw [HR.out, if_pos (.inr (.inl hmax))])
      have hmI : (2147483647 : Int) < (v : Int) := by omega
      clear hv hmax
      go_wp2_with fail
      exact bodyPost_ret (res_tok rfl _ _ _ _ _ _ _ rfl rfl (store_tok hB3 _ _ _ _ _ _ _) rfl) rfl ⟨by rw [e.out]; rfl, mod_tok hm3' (.inr (Nat.le_refl _)) _ _ _ _ _ _ _⟩
    · have hmI : (v : Int) ≤ 2147483647 := by omega
      have hend : ∀ (w4 : World), Mod [] w3 w4 → ∀ j, w4.frozen? ⟨w.heap.size, j, none⟩ = false := fun w4 hm j => by
        have := hm.at hB3 (by simp)
        simp [World.frozen?, this]
      have HEND := Lib.hid hend
      clear hend hv
      by_cases hn1 : 1 < n
      · have hn1I : (1 : Int) < (n : Int) := by omega
        by_cases hc : c = 48
        · have e : Hid (numR (Cod.str s) = .bad 31) := Lib.hid (by rw [HR.out, if_pos (.inl ⟨hn1, hc⟩)])
          have hcI : (s[0].toNat : Int) = 48 := by rw [HC.out, hc]; rfl
          clear hc hmax
          go_wp2_with fail
          exact bodyPost_ret (res_tok rfl _ _ _ _ _ _ _ rfl rfl (store_tok hB3 _ _ _ _ _ _ _) rfl) rfl ⟨by rw [e.out]; rfl, mod_tok hm3' (.inr (Nat.le_refl _)) _ _ _ _ _ _ _⟩
        · have hcI : ¬ (s[0].toNat : Int) = 48 := by rw [HC.out]; omega
          have hcB : ((s[0].toNat : Int) == 48) = false := by rw [beq_eq_false_iff_ne]; exact hcI
          by_cases hmn : n < m
          · have e : Hid (numR (Cod.str s) = .bad 31) := Lib.hid (by rw [HR.out, if_pos (.inr (.inr hmn))])
            have hmnI : (n : Int) < (m : Int) := by omega
            clear hmn hmax
            go_wp2_with fail
            refine (HRS.out _).mono ?_
            rintro e4 w4 ⟨rfl, hm4⟩
            have hB4 := hm4.at hB3 (by simp)
            have fz4 := HEND.out w4 hm4
            have hm4' := hm3'.trans hm4 (by simp)
            obtain ⟨q0, q1, q2, q3, q4, q5, q6⟩ := tok_cells hB4
            clear hm4
            go_wp2_with fail
            exact bodyPost_ret (res_tok rfl _ _ _ _ _ _ _ rfl rfl (store_tok hB4 _ _ _ _ _ _ _) rfl) rfl ⟨by rw [e.out]; rfl, mod_tok hm4' (.inr (Nat.le_refl _)) _ _ _ _ _ _ _⟩
          · have e : Hid (numR (Cod.str s) = .ok ⟨3, n, 1, v, []⟩) := Lib.hid (by rw [HR.out, if_neg (by rintro (h | h | h); exact hc h.2; exact hmax h; exact hmn h)])
            have hmnI : (m : Int) ≤ (n : Int) := by omega
            have hnI : (n : Int) ≤ (s.size : Int) := by omega
            clear hmn hmax
            go_wp2_with fail
            refine (HRS.out _).mono ?_
            rintro e4 w4 ⟨rfl, hm4⟩
            have hB4 := hm4.at hB3 (by simp)
            have fz4 := HEND.out w4 hm4
            have hm4' := hm3'.trans hm4 (by simp)
            obtain ⟨q0, q1, q2, q3, q4, q5, q6⟩ := tok_cells hB4
            clear hm4
            go_wp2_with fail
            rw [HEX.out]
            exact bodyPost_ret (res_tok rfl _ _ _ _ _ _ _ rfl rfl (store_tok hB4 _ _ _ _ _ _ _) rfl) rfl ⟨by rw [e.out, hF.out]; rfl, mod_tok hm4' (.inr (Nat.le_refl _)) _ _ _ _ _ _ _⟩
      · have hn1I : (n : Int) ≤ 1 := by omega
        by_cases hmn : n < m
        · have e : Hid (numR (Cod.str s) = .bad 31) := Lib.hid (by rw [HR.out, if_pos (.inr (.inr hmn))])
          have hmnI : (n : Int) < (m : Int) := by omega
          clear hmn hmax
          go_wp2_with fail
          refine (HRS.out _).mono ?_
          rintro e4 w4 ⟨rfl, hm4⟩
          have hB4 := hm4.at hB3 (by simp)
          have fz4 := HEND.out w4 hm4
          have hm4' := hm3'.trans hm4 (by simp)
          obtain ⟨q0, q1, q2, q3, q4, q5, q6⟩ := tok_cells hB4
          clear hm4
          go_wp2_with fail
          exact bodyPost_ret (res_tok rfl _ _ _ _ _ _ _ rfl rfl (store_tok hB4 _ _ _ _ _ _ _) rfl) rfl ⟨by rw [e.out]; rfl, mod_tok hm4' (.inr (Nat.le_refl _)) _ _ _ _ _ _ _⟩
        · have e : Hid (numR (Cod.str s) = .ok ⟨3, n, 1, v, []⟩) := Lib.hid (by rw [HR.out, if_neg (by rintro (h | h | h); exact hn1 h.1; exact hmax h; exact hmn h)])
          have hmnI : (m : Int) ≤ (n : Int) := by omega
          have hnI : (n : Int) ≤ (s.size : Int) := by omega
          clear hmn hmax
          go_wp2_with fail
          refine (HRS.out _).mono ?_
          rintro e4 w4 ⟨rfl, hm4⟩
          have hB4 := hm4.at hB3 (by simp)
          have fz4 := HEND.out w4 hm4
          have hm4' := hm3'.trans hm4 (by simp)
          obtain ⟨q0, q1, q2, q3, q4, q5, q6⟩ := tok_cells hB4
          clear hm4
          go_wp2_with fail
          rw [HEX.out]
          exact bodyPost_ret (res_tok rfl _ _ _ _ _ _ _ rfl rfl (store_tok hB4 _ _ _ _ _ _ _) rfl) rfl ⟨by rw [e.out, hF.out]; rfl, mod_tok hm4' (.inr (Nat.le_refl _)) _ _ _ _ _ _ _⟩
  · have e : Hid (numR (Cod.str s) = .bad 31) := Lib.hid (by rw [HR.out, if_pos (.inr (.inl (by omega)))])
    clear hv
    go_wp2_with fail
    exact bodyPost_ret (res_tok rfl _ _ _ _ _ _ _ rfl rfl (store_tok hB3 _ _ _ _ _ _ _) rfl) rfl ⟨by rw [e.out]; rfl, mod_tok hm3' (.inr (Nat.le_refl _)) _ _ _ _ _ _ _⟩
end Go.Proofs.YtppigckioalhhaaGreatDoorR
/- A WORD: the program's. -/
namespace Go.Proofs.YtppigckioalhhaaGreatDoorR
open Go.RowKit
set_option linter.unusedVariables false
set_option linter.unusedSimpArgs false
set_option maxRecDepth 100000

theorem find_ones (a : Nat) (t : List Nat) : ∀ xs : List Nat, (xs.map fun x => [x]).find? (fun m => m.isPrefixOf (a :: t)) = if xs.contains a then some [a] else none
  | [] => by simp
  | x :: r => by
    rw [List.map_cons, List.find?_cons]
    by_cases h : x = a
    · subst h; simp [List.isPrefixOf]
    · have : ([x] : List Nat).isPrefixOf (a :: t) = false := by simp [List.isPrefixOf, h]
      rw [this, find_ones a t r]
      have h2 : (x :: r).contains a = r.contains a := by
        rw [List.contains_cons]
        simp [Ne.symm h]
      rw [h2]
theorem mark_split : markL = [[58, 45], [33, 61], [60, 61], [62, 61]] ++ Lx.ones.map fun x => [x] := rfl
theorem find_mark (l : List Nat) : markL.find? (fun m => m.isPrefixOf l) = if Lx.mark l = 0 then none else some (l.take (Lx.mark l)) := by
  rw [mark_split, List.find?_append]
  match l with
  | [] => simp [List.isPrefixOf, Lx.mark, Lx.ones]
  | [a] =>
    rw [find_ones]
    have hm : Lx.mark [a] = if Lx.ones.contains a then 1 else 0 := rfl
    have : [[58, 45], [33, 61], [60, 61], [62, 61]].find? (fun m => m.isPrefixOf [a]) = none := by simp [List.isPrefixOf]
    rw [this]
    by_cases h : Lx.ones.contains a = true
    · rw [if_pos h] at hm ⊢; rw [hm]; simp
    · rw [if_neg h] at hm ⊢; rw [hm]; simp
  | a :: b :: r =>
    rw [find_ones]
    have hm : Lx.mark (a :: b :: r) = if Lx.two a b then 2 else if Lx.ones.contains a then 1 else 0 := rfl
    have : [[58, 45], [33, 61], [60, 61], [62, 61]].find? (fun m => m.isPrefixOf (a :: b :: r)) = if Lx.two a b then some [a, b] else none := by
      simp only [List.find?_cons, List.isPrefixOf, List.find?_nil, Bool.and_true, Lx.two]
      by_cases h1 : a = 58
      · subst h1; by_cases h5 : b = 45
        · subst h5; rfl
        · have g : (45 == b) = false := beq_eq_false_iff_ne.2 (Ne.symm h5)
          simp [g, h5]
      · by_cases h2 : a = 33
        · subst h2; by_cases h5 : b = 61
          · subst h5; rfl
          · have g : (61 == b) = false := beq_eq_false_iff_ne.2 (Ne.symm h5)
            simp [g, h5]
        · by_cases h3 : a = 60
          · subst h3; by_cases h5 : b = 61
            · subst h5; rfl
            · have g : (61 == b) = false := beq_eq_false_iff_ne.2 (Ne.symm h5)
              simp [g, h5]
          · by_cases h4 : a = 62
            · subst h4; by_cases h5 : b = 61
              · subst h5; rfl
              · have g : (61 == b) = false := beq_eq_false_iff_ne.2 (Ne.symm h5)
                simp [g, h5]
            · have g1 : (58 == a) = false := beq_eq_false_iff_ne.2 (Ne.symm h1)
              have g2 : (33 == a) = false := beq_eq_false_iff_ne.2 (Ne.symm h2)
              have g3 : (60 == a) = false := beq_eq_false_iff_ne.2 (Ne.symm h3)
              have g4 : (62 == a) = false := beq_eq_false_iff_ne.2 (Ne.symm h4)
              simp [g1, g2, g3, g4, h1, h2, h3, h4]
    rw [this]
    by_cases h : Lx.two a b = true
    · rw [if_pos h] at hm ⊢; rw [hm]; simp
    · rw [if_neg h] at hm ⊢
      by_cases h : Lx.ones.contains a = true
      · rw [if_pos h] at hm ⊢; rw [hm]; simp
      · rw [if_neg h] at hm ⊢; rw [hm]; simp

theorem prefix_str (s p : ByteArray) : Lib.hasPrefix s.data.toList p.data.toList = (Cod.str p).isPrefixOf (Cod.str s) := by
  unfold Lib.hasPrefix Cod.str
  generalize s.data.toList = a
  generalize p.data.toList = b
  induction b generalizing a with
  | nil => simp [List.isPrefixOf]
  | cons x r ih =>
    cases a with
    | nil => simp [List.isPrefixOf]
    | cons y t =>
      simp only [List.isPrefixOf, List.map_cons, ih]
      congr 1
      rw [Bool.eq_iff_iff, beq_iff_eq, beq_iff_eq]
      exact ⟨fun h => by rw [h], fun h => UInt8.toNat_inj.1 h⟩

def markCells : Array Value := (markL.map fun l => Value.string (Lx.ofS l)).toArray
theorem mark_index (k : Nat) (hk : k < 19) (w : World) : (Instr.index 187 (.agg (markL.map fun l => Value.string (Lx.ofS l)).toArray) (.int .i64 (k : Int))).run Tryz.prog w = .ok (.string (Lx.ofS (markL.getD k []))) w := by
  have h : k = 0 ∨ k = 1 ∨ k = 2 ∨ k = 3 ∨ k = 4 ∨ k = 5 ∨ k = 6 ∨ k = 7 ∨ k = 8 ∨ k = 9 ∨ k = 10 ∨ k = 11 ∨ k = 12 ∨ k = 13 ∨ k = 14 ∨ k = 15 ∨ k = 16 ∨ k = 17 ∨ k = 18 := by omega
  rcases h with rfl | rfl | rfl | rfl | rfl | rfl | rfl | rfl | rfl | rfl | rfl | rfl | rfl | rfl | rfl | rfl | rfl | rfl | rfl <;> rfl
theorem mark_lt (k : Nat) : ∀ c ∈ markL.getD k [], c < 256 := by
  rcases Nat.lt_or_ge k 19 with h | h
  · have : ∀ k : Fin 19, ∀ c ∈ markL.getD k.1 [], c < 256 := by decide
    exact this ⟨k, h⟩
  · have : markL.getD k [] = [] := by rw [List.getD_eq_getElem?_getD, List.getElem?_eq_none (by simpa [markL] using h)]; rfl
    rw [this]; simp

theorem small_nat (c : Nat) : smallI (c : Int) = Lx.small c := by unfold smallI Lx.small; rw [Bool.eq_iff_iff]; simp; omega
theorem capital_nat (c : Nat) : capitalI (c : Int) = Lx.capital c := by unfold capitalI Lx.capital; rw [Bool.eq_iff_iff]; simp; omega
theorem digit_nat (c : Nat) : digitI (c : Int) = Lx.digit c := by unfold digitI Lx.digit; rw [Bool.eq_iff_iff]; simp; omega

def markR (l : List Nat) : Lx.Rw := if Lx.mark l = 0 then .bad 30 else .ok ⟨5, Lx.mark l, 0, 0, []⟩
theorem word_name {l : List Nat} (h : (Lx.small (l.headD 0) || Lx.capital (l.headD 0)) = true) : Lx.word l = if 32 < Lx.run Lx.goes l then .bad 33 else .ok ⟨if Lx.capital (l.headD 0) then 2 else 1, Lx.run Lx.goes l, 0, 0, []⟩ := by
  unfold Lx.word; rw [if_pos h]
theorem word_num {l : List Nat} (h : (Lx.small (l.headD 0) || Lx.capital (l.headD 0)) = false) (hd : Lx.digit (l.headD 0) = true) : Lx.word l = numR l := by
  unfold Lx.word numR; rw [if_neg (by rw [h]; decide), if_pos hd]
theorem word_quo {l : List Nat} (h : (Lx.small (l.headD 0) || Lx.capital (l.headD 0)) = false) (hd : Lx.digit (l.headD 0) = false) (hq : l.headD 0 = 34) : Lx.word l = quoR l := by
  unfold Lx.word quoR; rw [if_neg (by rw [h]; decide), if_neg (by rw [hd]; decide), if_pos hq]; cases Lx.quo l <;> rfl
theorem word_mark {l : List Nat} (h : (Lx.small (l.headD 0) || Lx.capital (l.headD 0)) = false) (hd : Lx.digit (l.headD 0) = false) (hq : l.headD 0 ≠ 34) : Lx.word l = markR l := by
  unfold Lx.word markR; rw [if_neg (by rw [h]; decide), if_neg (by rw [hd]; decide), if_neg hq]

set_option maxHeartbeats 4000000 in
theorem word_any (s : ByteArray) (hs : s.size ≤ 65536) (h0 : 0 < s.size) (w : World) (hG : Glob w) :
    Calls Tryz.prog 95 #[.string s] w fun e w' => e = .returned (rwV (Cod.str s) (Lx.word (Cod.str s))) ∧ Mod [] w w' := by
  have hsz := Cod.str_len s
  have hc0 : s[0].toNat = (Cod.str s).headD 0 := by
    rw [← Lx.get_str s 0 h0]
    cases Cod.str s <;> rfl
  have hn0 : Cod.str s ≠ [] := by intro h; rw [h] at hsz; simp at hsz; omega
  have hB0 : (w.alloc (Obj.cells (tokC zeroT) 74)).heap[w.heap.size]? = some (.cells (tokC zeroT) 74 (0, 0)) := heap_alloc_new w _
  have hm0 : Mod [] w (w.alloc (Obj.cells (tokC zeroT) 74)) := (Mod.refl [] w).alloc _
  have hz : (w.alloc (Obj.cells (tokC zeroT) 74)) = w.alloc (Obj.cells #[Value.int IntKind.i64 0, Value.string { data := #[] }, Value.int IntKind.i64 0, Value.int IntKind.i64 0, Value.string { data := #[] }, Value.int IntKind.i64 0, Value.int IntKind.i64 0] 74) := rfl
  rw [hz] at hB0 hm0
  have HB := Lib.hid hB0; have HM := Lib.hid hm0
  clear hz hB0 hm0
  have hc256 := s[0].toNat_lt
  have hsm : ∀ b, Lx.small ((Cod.str s).headD 0) = b → ∀ w, Calls Tryz.prog 116 #[.int .i32 (s[0].toNat : Int)] w fun e w' => e = .returned (.bool b) ∧ w = w' :=
    fun b hb w => isSmall_any _ b (by rw [small_nat, hc0]; exact hb) w
  have hcp : ∀ b, Lx.capital ((Cod.str s).headD 0) = b → ∀ w, Calls Tryz.prog 117 #[.int .i32 (s[0].toNat : Int)] w fun e w' => e = .returned (.bool b) ∧ w = w' :=
    fun b hb w => isCapital_any _ b (by rw [capital_nat, hc0]; exact hb) w
  have hdg : ∀ b, Lx.digit ((Cod.str s).headD 0) = b → ∀ w, Calls Tryz.prog 119 #[.int .i32 (s[0].toNat : Int)] w fun e w' => e = .returned (.bool b) ∧ w = w' :=
    fun b hb w => isDigit_any _ b (by rw [digit_nat, hc0]; exact hb) w
  have hrs := len_rest s (by omega)
  have hgl := Lx.run_le Lx.goes (Cod.str s)
  rw [hsz] at hgl
  have hex := extract_take s (Lx.run Lx.goes (Cod.str s))
  cases b1 : Lx.small ((Cod.str s).headD 0)
  · cases b2 : Lx.capital ((Cod.str s).headD 0)
    · have hb12 : (Lx.small ((Cod.str s).headD 0) || Lx.capital ((Cod.str s).headD 0)) = false := by rw [b1, b2]; rfl
      have H1 := Lib.hid (hsm _ b1); have H2 := Lib.hid (hcp _ b2)
      cases b3 : Lx.digit ((Cod.str s).headD 0)
      · have H3 := Lib.hid (hdg _ b3)
        by_cases h34 : (Cod.str s).headD 0 = 34
        · have hWd := word_quo hb12 b3 h34
          have hcal := fun w hG => quoted_any s hs w hG
          have p34 : ((s[0].toNat : Int) == 34) = true := by rw [hc0, h34]; rfl
          clear hsm hcp hdg hrs hex b1 b2 b3 hb12 hn0 hsz hc0 h34
          cases hnr : quoR (Cod.str s) with
          | bad x =>
            rw [hnr] at hcal hWd
            have HC := Lib.hid hcal; have HW := Lib.hid hWd
            clear hcal hWd hnr
            go_enter Tryz.func95, Tryz.ntmps95
            go_wp2_with fail
            refine (H1.out _).mono ?_
            rintro e2 w2 ⟨rfl, rfl⟩
            go_wp2_with fail
            refine (H2.out _).mono ?_
            rintro e2 w2 ⟨rfl, rfl⟩
            go_wp2_with fail
            refine (H3.out _).mono ?_
            rintro e2 w2 ⟨rfl, rfl⟩
            go_wp2_with fail
            refine (HC.out _ (hG.past HM.out (by simp))).mono ?_
            rintro e2 w2 ⟨rfl, hm2⟩
            have hB2 := hm2.at HB.out (by simp)
            have hm2' := HM.out.trans hm2 (by simp)
            obtain ⟨q0, q1, q2, q3, q4, q5, q6⟩ := tok_cells hB2
            have fz : ∀ j, w2.frozen? ⟨w.heap.size, j, none⟩ = false := fun j => by simp [World.frozen?, hB2]
            rw [rwV, tokC]
            go_wp2_with fail
            exact bodyPost_ret (res_tok rfl _ _ _ _ _ _ _ rfl rfl (store_tok hB2 _ _ _ _ _ _ _) rfl) rfl ⟨by rw [HW.out]; rfl, mod_tok hm2' (.inr (Nat.le_refl _)) _ _ _ _ _ _ _⟩
          | ok x =>
            rw [hnr] at hcal hWd
            have HC := Lib.hid hcal; have HW := Lib.hid hWd
            clear hcal hWd hnr
            go_enter Tryz.func95, Tryz.ntmps95
            go_wp2_with fail
            refine (H1.out _).mono ?_
            rintro e2 w2 ⟨rfl, rfl⟩
            go_wp2_with fail
            refine (H2.out _).mono ?_
            rintro e2 w2 ⟨rfl, rfl⟩
            go_wp2_with fail
            refine (H3.out _).mono ?_
            rintro e2 w2 ⟨rfl, rfl⟩
            go_wp2_with fail
            refine (HC.out _ (hG.past HM.out (by simp))).mono ?_
            rintro e2 w2 ⟨rfl, hm2⟩
            have hB2 := hm2.at HB.out (by simp)
            have hm2' := HM.out.trans hm2 (by simp)
            obtain ⟨q0, q1, q2, q3, q4, q5, q6⟩ := tok_cells hB2
            have fz : ∀ j, w2.frozen? ⟨w.heap.size, j, none⟩ = false := fun j => by simp [World.frozen?, hB2]
            rw [rwV, tokC]
            go_wp2_with fail
            exact bodyPost_ret (res_tok rfl _ _ _ _ _ _ _ rfl rfl (store_tok hB2 _ _ _ _ _ _ _) rfl) rfl ⟨by rw [HW.out]; rfl, mod_tok hm2' (.inr (Nat.le_refl _)) _ _ _ _ _ _ _⟩
        · have hWd := word_mark hb12 b3 h34
          have p34 : ((s[0].toNat : Int) == 34) = false := by rw [hc0, beq_eq_false_iff_ne]; omega
          have HW := Lib.hid hWd
          obtain ⟨T, fr, hmk⟩ := hG.marks
          have hpf := fun p w => Tryz.strings_HasPrefix s p w
          have HP := Lib.hid hpf
          have HI := Lib.hid mark_index
          have hmk1 := HM.out.at hmk (by simp)
          have hm1 := HM.out
          have hB1 := HB.out
          clear hsm hcp hdg hrs hex b1 b2 b3 hb12 hn0 hsz hc0 h34 hWd hpf hmk
          go_enter Tryz.func95, Tryz.ntmps95
          go_wp2_with fail
          refine (H1.out _).mono ?_
          rintro e2 w2 ⟨rfl, rfl⟩
          go_wp2_with fail
          refine (H2.out _).mono ?_
          rintro e2 w2 ⟨rfl, rfl⟩
          go_wp2_with fail
          refine (H3.out _).mono ?_
          rintro e2 w2 ⟨rfl, rfl⟩
          generalize (w.alloc (Obj.cells #[Value.int IntKind.i64 0, Value.string { data := #[] }, Value.int IntKind.i64 0, Value.int IntKind.i64 0, Value.string { data := #[] }, Value.int IntKind.i64 0, Value.int IntKind.i64 0] 74)) = w1 at *
          go_wp2_with (refine wpList_load_row rfl 187 _ rfl 0 rfl T _ fr _ hmk1 Tryz.underlying187 rfl (by kernel_rfl) ?_)
          have q := tok_cells hB1
          have fz : ∀ j, w1.frozen? ⟨w.heap.size, j, none⟩ = false := fun j => by simp [World.frozen?, hB1]
          obtain ⟨A, hA⟩ : ∃ A, A = (markL.map fun l => Value.string (Lx.ofS l)).toArray := ⟨_, rfl⟩
          have HI2 : Hid (∀ (k : Nat), k < 19 → ∀ w, (Instr.index 187 (.agg A) (.int .i64 (k : Int))).run Tryz.prog w = .ok (.string (Lx.ofS (markL.getD k []))) w) := Lib.hid (by rw [hA]; exact HI.out)
          rw [← hA]
          clear hA HI hmk1
          go_loopw [46] (fun i wr => ∃ (k : Nat), k ≤ 19 ∧ i = .int .i64 (k : Int) ∧ (markL.drop k).find? (fun m => m.isPrefixOf (Cod.str s)) = markL.find? (fun m => m.isPrefixOf (Cod.str s)) ∧ wr = w1) (fun i _ => 19 - (intOf i).toNat)
          case atStart => exact ⟨0, by omega, rfl, rfl, rfl⟩
          case round =>
            obtain ⟨k, hk, rfl, hfind, rfl⟩ := hrel
            obtain ⟨q0, q1, q2, q3, q4, q5, q6⟩ := q
            by_cases hlt : k < 19
            · have hix := HI2.out k hlt wr
              have hd : markL.drop k = markL.getD k [] :: markL.drop (k + 1) := by
                rw [List.drop_eq_getElem_cons (by simpa [markL] using hlt), List.getD_eq_getElem?_getD, List.getElem?_eq_getElem (by simpa [markL] using hlt)]; rfl
              have hml := mark_lt k
              have hpx := HP.out (Lx.ofS (markL.getD k [])) wr
              rw [prefix_str, Lx.str_ofS hml] at hpx
              rw [hd, List.find?_cons, find_mark] at hfind
              generalize markL.getD k [] = m at *
              cases hb : m.isPrefixOf (Cod.str s)
              · rw [hb] at hpx hfind
                simp only at hfind
                rw [← find_mark] at hfind
                have HF := Lib.hid hfind
                have HPX := Lib.hid hpx
                clear hfind hpx hb hd hml
                go_wp2_with fail
                refine HPX.out.mono ?_
                rintro e2 w2 ⟨rfl, rfl⟩
                go_wp2_with fail
                go_roundw
                case rel => exact ⟨k + 1, by omega, by go_num, HF.out, trivial⟩
                case measure => simp [intOf]; omega
              · rw [hb] at hpx hfind
                simp only at hfind
                have e : Hid (markR (Cod.str s) = .ok ⟨5, Lx.mark (Cod.str s), 0, 0, []⟩ ∧ m = (Cod.str s).take (Lx.mark (Cod.str s))) := Lib.hid (by
                  unfold markR
                  by_cases h0 : Lx.mark (Cod.str s) = 0
                  · rw [if_pos h0] at hfind; cases hfind
                  · rw [if_neg h0] at hfind ⊢
                    exact ⟨rfl, by simpa using hfind⟩)
                have HPX := Lib.hid hpx
                clear hfind hpx hb hd hml
                go_wp2_with fail
                refine HPX.out.mono ?_
                rintro e2 w2 ⟨rfl, rfl⟩
                go_wp2_with fail
                rw [e.out.2]
                exact bodyPost_ret (res_tok rfl _ _ _ _ _ _ _ rfl rfl (store_tok hB1 _ _ _ _ _ _ _) rfl) rfl ⟨by rw [HW.out, e.out.1]; rfl, mod_tok hm1 (.inr (Nat.le_refl _)) _ _ _ _ _ _ _⟩
            · obtain rfl : k = 19 := by omega
              have e : Hid (markR (Cod.str s) = .bad 30) := Lib.hid (by
                rw [find_mark] at hfind
                unfold markR
                by_cases h0 : Lx.mark (Cod.str s) = 0
                · rw [if_pos h0]
                · rw [if_neg h0] at hfind
                  rw [show markL.drop 19 = [] from rfl] at hfind
                  cases hfind)
              clear hfind
              go_wp2_with fail
              exact bodyPost_ret (res_tok rfl _ _ _ _ _ _ _ rfl rfl (store_tok hB1 _ _ _ _ _ _ _) rfl) rfl ⟨by rw [HW.out, e.out]; rfl, mod_tok hm1 (.inr (Nat.le_refl _)) _ _ _ _ _ _ _⟩
      · have H3 := Lib.hid (hdg _ b3)
        have hWd := word_num hb12 b3
        have hcal := fun w hG => number_any s hs h0 b3 w hG
        clear hsm hcp hdg hrs hex b1 b2 b3 hb12 hn0 hsz hc0
        cases hnr : numR (Cod.str s) with
        | bad x =>
          rw [hnr] at hcal hWd
          have HC := Lib.hid hcal; have HW := Lib.hid hWd
          clear hcal hWd hnr
          go_enter Tryz.func95, Tryz.ntmps95
          go_wp2_with fail
          refine (H1.out _).mono ?_
          rintro e2 w2 ⟨rfl, rfl⟩
          go_wp2_with fail
          refine (H2.out _).mono ?_
          rintro e2 w2 ⟨rfl, rfl⟩
          go_wp2_with fail
          refine (H3.out _).mono ?_
          rintro e2 w2 ⟨rfl, rfl⟩
          go_wp2_with fail
          refine (HC.out _ (hG.past HM.out (by simp))).mono ?_
          rintro e2 w2 ⟨rfl, hm2⟩
          have hB2 := hm2.at HB.out (by simp)
          have hm2' := HM.out.trans hm2 (by simp)
          obtain ⟨q0, q1, q2, q3, q4, q5, q6⟩ := tok_cells hB2
          have fz : ∀ j, w2.frozen? ⟨w.heap.size, j, none⟩ = false := fun j => by simp [World.frozen?, hB2]
          rw [rwV, tokC]
          go_wp2_with fail
          exact bodyPost_ret (res_tok rfl _ _ _ _ _ _ _ rfl rfl (store_tok hB2 _ _ _ _ _ _ _) rfl) rfl ⟨by rw [HW.out]; rfl, mod_tok hm2' (.inr (Nat.le_refl _)) _ _ _ _ _ _ _⟩
        | ok x =>
          rw [hnr] at hcal hWd
          have HC := Lib.hid hcal; have HW := Lib.hid hWd
          clear hcal hWd hnr
          go_enter Tryz.func95, Tryz.ntmps95
          go_wp2_with fail
          refine (H1.out _).mono ?_
          rintro e2 w2 ⟨rfl, rfl⟩
          go_wp2_with fail
          refine (H2.out _).mono ?_
          rintro e2 w2 ⟨rfl, rfl⟩
          go_wp2_with fail
          refine (H3.out _).mono ?_
          rintro e2 w2 ⟨rfl, rfl⟩
          go_wp2_with fail
          refine (HC.out _ (hG.past HM.out (by simp))).mono ?_
          rintro e2 w2 ⟨rfl, hm2⟩
          have hB2 := hm2.at HB.out (by simp)
          have hm2' := HM.out.trans hm2 (by simp)
          obtain ⟨q0, q1, q2, q3, q4, q5, q6⟩ := tok_cells hB2
          have fz : ∀ j, w2.frozen? ⟨w.heap.size, j, none⟩ = false := fun j => by simp [World.frozen?, hB2]
          rw [rwV, tokC]
          go_wp2_with fail
          exact bodyPost_ret (res_tok rfl _ _ _ _ _ _ _ rfl rfl (store_tok hB2 _ _ _ _ _ _ _) rfl) rfl ⟨by rw [HW.out]; rfl, mod_tok hm2' (.inr (Nat.le_refl _)) _ _ _ _ _ _ _⟩
    · have hW := word_name (l := Cod.str s) (by rw [b2]; simp)
      rw [b2] at hW
      have H1 := Lib.hid (hsm _ b1); have H2 := Lib.hid (hcp _ b2)
      generalize Lx.run Lx.goes (Cod.str s) = n at *
      have HW := Lib.hid hW; have HR := Lib.hid hrs; have HEX := Lib.hid hex
      clear hsm hcp hdg hrs hex b1 b2 hW hn0 hsz hc0
      by_cases hn : 32 < n
      · have hnI : (32 : Int) < (n : Int) := by omega
        have e : Hid (Lx.word (Cod.str s) = .bad 33) := Lib.hid (by rw [HW.out, if_pos hn])
        clear hn
        go_enter Tryz.func95, Tryz.ntmps95
        go_wp2_with fail
        refine (H1.out _).mono ?_
        rintro e2 w2 ⟨rfl, rfl⟩
        go_wp2_with fail
        refine (H2.out _).mono ?_
        rintro e2 w2 ⟨rfl, rfl⟩
        go_wp2_with fail
        refine (HR.out _).mono ?_
        rintro e2 w2 ⟨rfl, hm2⟩
        have hB2 := hm2.at HB.out (by simp)
        have hm2' := HM.out.trans hm2 (by simp)
        obtain ⟨q0, q1, q2, q3, q4, q5, q6⟩ := tok_cells hB2
        have fz : ∀ j, w2.frozen? ⟨w.heap.size, j, none⟩ = false := fun j => by simp [World.frozen?, hB2]
        go_wp2_with fail
        exact bodyPost_ret (res_tok rfl _ _ _ _ _ _ _ rfl rfl (store_tok hB2 _ _ _ _ _ _ _) rfl) rfl ⟨by rw [e.out]; rfl, mod_tok hm2' (.inr (Nat.le_refl _)) _ _ _ _ _ _ _⟩
      · have hnI : (n : Int) ≤ 32 := by omega
        have hnS : (n : Int) ≤ (s.size : Int) := by omega
        have e : Hid (Lx.word (Cod.str s) = .ok ⟨2, n, 0, 0, []⟩) := Lib.hid (by rw [HW.out, if_neg hn]; rfl)
        clear hn
        go_enter Tryz.func95, Tryz.ntmps95
        go_wp2_with fail
        refine (H1.out _).mono ?_
        rintro e2 w2 ⟨rfl, rfl⟩
        go_wp2_with fail
        refine (H2.out _).mono ?_
        rintro e2 w2 ⟨rfl, rfl⟩
        go_wp2_with fail
        refine (HR.out _).mono ?_
        rintro e2 w2 ⟨rfl, hm2⟩
        have hB2 := hm2.at HB.out (by simp)
        have hm2' := HM.out.trans hm2 (by simp)
        obtain ⟨q0, q1, q2, q3, q4, q5, q6⟩ := tok_cells hB2
        have fz : ∀ j, w2.frozen? ⟨w.heap.size, j, none⟩ = false := fun j => by simp [World.frozen?, hB2]
        go_wp2_with fail
        refine (H2.out _).mono ?_
        rintro e2 w3 ⟨rfl, rfl⟩
        go_wp2_with fail
        rw [HEX.out]
        exact bodyPost_ret (res_tok rfl _ _ _ _ _ _ _ rfl rfl (store_tok hB2 _ _ _ _ _ _ _) rfl) rfl ⟨by rw [e.out]; rfl, mod_tok hm2' (.inr (Nat.le_refl _)) _ _ _ _ _ _ _⟩
  · have b2 : Lx.capital ((Cod.str s).headD 0) = false := by
      unfold Lx.small at b1; unfold Lx.capital
      rw [← Bool.not_eq_true]
      simp at b1 ⊢; omega
    have hW := word_name (l := Cod.str s) (by rw [b1]; simp)
    rw [b2] at hW
    have H1 := Lib.hid (hsm _ b1); have H2 := Lib.hid (hcp _ b2)
    generalize Lx.run Lx.goes (Cod.str s) = n at *
    have HW := Lib.hid hW; have HR := Lib.hid hrs; have HEX := Lib.hid hex
    clear hsm hcp hdg hrs hex b1 b2 hW hn0 hsz hc0
    by_cases hn : 32 < n
    · have hnI : (32 : Int) < (n : Int) := by omega
      have e : Hid (Lx.word (Cod.str s) = .bad 33) := Lib.hid (by rw [HW.out, if_pos hn])
      clear hn
      go_enter Tryz.func95, Tryz.ntmps95
      go_wp2_with fail
      refine (H1.out _).mono ?_
      rintro e2 w2 ⟨rfl, rfl⟩
      go_wp2_with fail
      refine (HR.out _).mono ?_
      rintro e2 w2 ⟨rfl, hm2⟩
      have hB2 := hm2.at HB.out (by simp)
      have hm2' := HM.out.trans hm2 (by simp)
      obtain ⟨q0, q1, q2, q3, q4, q5, q6⟩ := tok_cells hB2
      have fz : ∀ j, w2.frozen? ⟨w.heap.size, j, none⟩ = false := fun j => by simp [World.frozen?, hB2]
      go_wp2_with fail
      exact bodyPost_ret (res_tok rfl _ _ _ _ _ _ _ rfl rfl (store_tok hB2 _ _ _ _ _ _ _) rfl) rfl ⟨by rw [e.out]; rfl, mod_tok hm2' (.inr (Nat.le_refl _)) _ _ _ _ _ _ _⟩
    · have hnI : (n : Int) ≤ 32 := by omega
      have hnS : (n : Int) ≤ (s.size : Int) := by omega
      have e : Hid (Lx.word (Cod.str s) = .ok ⟨1, n, 0, 0, []⟩) := Lib.hid (by rw [HW.out, if_neg hn]; rfl)
      clear hn
      go_enter Tryz.func95, Tryz.ntmps95
      go_wp2_with fail
      refine (H1.out _).mono ?_
      rintro e2 w2 ⟨rfl, rfl⟩
      go_wp2_with fail
      refine (HR.out _).mono ?_
      rintro e2 w2 ⟨rfl, hm2⟩
      have hB2 := hm2.at HB.out (by simp)
      have hm2' := HM.out.trans hm2 (by simp)
      obtain ⟨q0, q1, q2, q3, q4, q5, q6⟩ := tok_cells hB2
      have fz : ∀ j, w2.frozen? ⟨w.heap.size, j, none⟩ = false := fun j => by simp [World.frozen?, hB2]
      go_wp2_with fail
      refine (H2.out _).mono ?_
      rintro e2 w3 ⟨rfl, rfl⟩
      go_wp2_with fail
      rw [HEX.out]
      exact bodyPost_ret (res_tok rfl _ _ _ _ _ _ _ rfl rfl (store_tok hB2 _ _ _ _ _ _ _) rfl) rfl ⟨by rw [e.out]; rfl, mod_tok hm2' (.inr (Nat.le_refl _)) _ _ _ _ _ _ _⟩
end Go.Proofs.YtppigckioalhhaaGreatDoorR
/- THE SCANNER's NEXT WORD: the program's. -/
namespace Go.Proofs.YtppigckioalhhaaGreatDoorR
open Go.RowKit
set_option linter.unusedVariables false
set_option linter.unusedSimpArgs false
set_option maxRecDepth 100000

def nextV : Option Lx.Tok → Value
  | none => .tuple #[.agg (tokC zeroT), .bool false]
  | some t => .tuple #[.agg (tokC t), .bool true]
/-- what Next does -/
def Nx (b : Nat) (r : Lx.St × Option Lx.Tok) (w : World) (e : Ending) (w' : World) : Prop :=
  e = .returned (nextV r.2) ∧ ∃ s', ScIs w' b s' r.1 ∧ Mod [b] w w'

theorem word_bad {l : List Nat} {e : Nat} (h : Lx.word l = .bad e) : 30 ≤ e ∧ e ≤ 33 := by
  unfold Lx.word at h
  split at h
  · split at h <;> simp at h; omega
  · split at h
    · split at h <;> simp at h; omega
    · split at h
      · split at h <;> simp at h; omega
      · split at h <;> simp at h; omega

theorem sc_cells {w : World} {b : Nat} {s : ByteArray} {x : Lx.St} (h : ScIs w b s x) :
    w.cell? ⟨b, 0, none⟩ = some (.string s) ∧ w.cell? ⟨b, 1, none⟩ = some (.int .i64 (x.pos.1 : Nat)) ∧ w.cell? ⟨b, 2, none⟩ = some (.int .i64 (x.pos.2 : Nat)) ∧ w.cell? ⟨b, 3, none⟩ = some (.int .i64 (x.fin.1 : Nat)) ∧ w.cell? ⟨b, 4, none⟩ = some (.int .i64 (x.fin.2 : Nat)) ∧
    w.cell? ⟨b, 5, none⟩ = some (.int .i64 (x.code : Nat)) ∧ w.cell? ⟨b, 6, none⟩ = some (.int .i64 (x.fp.1 : Nat)) ∧ w.cell? ⟨b, 7, none⟩ = some (.int .i64 (x.fp.2 : Nat)) ∧ w.cell? ⟨b, 8, none⟩ = some (.bool x.long) := by
  simp [World.cell?, h.at_, scCells]

theorem alloc_at {w0 : World} {n : Nat} (o : Obj) (h : w0.heap.size = n) : (w0.alloc o).heap[n]? = some o := by subst h; exact heap_alloc_new w0 o
theorem size_setCell (w : World) (p : Addr) (v : Value) : (w.setCell p v).heap.size = w.heap.size := by simp [World.setCell]
theorem ofS_size (l : List Nat) : (Lx.ofS l).size = l.length := by simp [Lx.ofS, ByteArray.size]

theorem fault_sc {w : World} {b : Nat} {s : ByteArray} {x : Lx.St} (h : ScIs w b s x) (er : Nat) :
    ScIs (((w.setCell ⟨b, 5, none⟩ (.int .i64 (er : Nat))).setCell ⟨b, 6, none⟩ (.int .i64 (x.pos.1 : Nat))).setCell ⟨b, 7, none⟩ (.int .i64 (x.pos.2 : Nat))) b s { x with code := er, fp := x.pos } ∧
    Mod [b] w (((w.setCell ⟨b, 5, none⟩ (.int .i64 (er : Nat))).setCell ⟨b, 6, none⟩ (.int .i64 (x.pos.1 : Nat))).setCell ⟨b, 7, none⟩ (.int .i64 (x.pos.2 : Nat))) := by
  have h1 := setCell_at h.at_ 5 (.int .i64 (er : Nat))
  have h2 := setCell_at h1 6 (.int .i64 (x.pos.1 : Nat))
  have h3 := setCell_at h2 7 (.int .i64 (x.pos.2 : Nat))
  refine ⟨⟨h3.trans (by simp [scCells]), h.str, h.size, h.lim⟩, ?_⟩
  exact (((Mod.refl [b] w).setCell (p := ⟨b, 5, none⟩) (by simp) _).setCell (p := ⟨b, 6, none⟩) (by simp) _).setCell (p := ⟨b, 7, none⟩) (by simp) _
theorem fin_sc {w : World} {b : Nat} {s : ByteArray} {x : Lx.St} (h : ScIs w b s x) :
    ScIs ((w.setCell ⟨b, 3, none⟩ (.int .i64 (x.pos.1 : Nat))).setCell ⟨b, 4, none⟩ (.int .i64 (x.pos.2 : Nat))) b s { x with fin := x.pos } ∧
    Mod [b] w ((w.setCell ⟨b, 3, none⟩ (.int .i64 (x.pos.1 : Nat))).setCell ⟨b, 4, none⟩ (.int .i64 (x.pos.2 : Nat))) := by
  have h1 := setCell_at h.at_ 3 (.int .i64 (x.pos.1 : Nat))
  have h2 := setCell_at h1 4 (.int .i64 (x.pos.2 : Nat))
  refine ⟨⟨h2.trans (by simp [scCells]), h.str, h.size, h.lim⟩, ?_⟩
  exact ((Mod.refl [b] w).setCell (p := ⟨b, 3, none⟩) (by simp) _).setCell (p := ⟨b, 4, none⟩) (by simp) _

set_option maxHeartbeats 4000000 in
theorem next_any (b : Nat) (s : ByteArray) (x : Lx.St) (w : World) (h : ScIs w b s x) (hG : Glob w) (hb3 : 4 ≤ b) :
    Calls Tryz.prog 52 #[.pointer (some ⟨b, 0, none⟩)] w (Nx b (Lx.next x) w) := by
  have hB0 : (w.alloc (Obj.cells (tokC zeroT) 74)).heap[w.heap.size]? = some (.cells (tokC zeroT) 74 (0, 0)) := heap_alloc_new w _
  have hm0 : Mod [] w (w.alloc (Obj.cells (tokC zeroT) 74)) := (Mod.refl [] w).alloc _
  have hz : (w.alloc (Obj.cells (tokC zeroT) 74)) = w.alloc (Obj.cells #[Value.int IntKind.i64 0, Value.string { data := #[] }, Value.int IntKind.i64 0, Value.int IntKind.i64 0, Value.string { data := #[] }, Value.int IntKind.i64 0, Value.int IntKind.i64 0] 74) := rfl
  rw [hz] at hB0 hm0
  clear hz
  have hlt := h.lt
  have h1 := h.past hm0 (by simp)
  obtain ⟨c0, c1, c2, c3, c4, c5, c6, c7, c8⟩ := sc_cells h
  by_cases hcode : x.code = 0
  · have hcI : ((x.code : Int) != 0) = false := by rw [hcode]; rfl
    cases hlong : x.long
    · have HC := Lib.hid hcode
      have hne : b ≠ w.heap.size := by omega
      have hlim := (h.lim hlong).1
      have HB := Lib.hid hB0; have HM := Lib.hid hm0; have H1 := Lib.hid h1; have HL := Lib.hid hlong
      have hN := Lib.hid (show Lx.next x = _ by unfold Lx.next; rw [if_neg (by omega), if_neg (by rw [hlong]; decide)])
      clear hcode hB0 hm0 h1
      rw [hlong] at c8
      clear hlong
      go_enter Tryz.func52, Tryz.ntmps52
      go_wp2_with fail
      refine (skip_any b s x _ H1.out HL.out).mono ?_
      rintro e w2 ⟨rfl, s2, h2, hm2⟩
      have hB2 := hm2.at HB.out (by simp; omega)
      have hm2' : Mod [b] w w2 := (HM.out.mono (by simp)).trans hm2 (fun t ht => .inl ht)
      clear hm2 c0 c1 c2 c3 c4 c5 c6 c7 c8
      obtain ⟨c0, c1, c2, c3, c4, c5, c6, c7, c8⟩ := sc_cells h2
      obtain ⟨q0, q1, q2, q3, q4, q5, q6⟩ := tok_cells hB2
      have fz : ∀ j, w2.frozen? ⟨w.heap.size, j, none⟩ = false := fun j => by simp [World.frozen?, hB2]
      have fb : ∀ j, w2.frozen? ⟨b, j, none⟩ = false := fun j => h2.free j
      have hs2 := hm2'.size
      have hstr2 := h2.str
      by_cases hemp : x.skip.s = []
      · have hem : s2.toList.isEmpty = true := by rw [toList_isEmpty, ← Cod.str_len, hstr2, hemp]; rfl
        have e : Hid (Lx.next x = (x.skip, none)) := Lib.hid (by rw [hN.out, if_pos hemp])
        have H2 := Lib.hid h2
        clear hemp hstr2 h2
        go_wp2_with fail
        refine bodyPost_ret (res_tok rfl _ _ _ _ _ _ _ rfl rfl (store_tok hB2 _ _ _ _ _ _ _) rfl) rfl ?_
        rw [e.out]
        refine ⟨rfl, s2, H2.out.keep (S := [w.heap.size]) ?_ (by simp; omega), mod_tok hm2' (.inr (Nat.le_refl _)) _ _ _ _ _ _ _⟩
        exact mod_tok (Mod.refl _ _) (by simp) _ _ _ _ _ _ _
      · have hpos : 0 < x.skip.s.length := List.length_pos_iff.2 hemp
        have hz2 : s2.size = x.skip.s.length := by rw [← Cod.str_len, hstr2]
        have hem : s2.toList.isEmpty = false := by rw [toList_isEmpty, hz2]; simp; omega
        have hlim2 := (h2.lim HL.out).1
        have hwd := word_any s2 hlim2 (by omega)
        rw [hstr2] at hwd
        have hG2 := hG.keep hm2' (by simpa using hb3)
        cases hw : Lx.word x.skip.s with
        | bad er =>
          rw [hw] at hwd
          obtain ⟨he1, he2⟩ := word_bad hw
          have hez : ((er : Int) != 0) = true := by rw [bne_iff_ne]; omega
          have e : Hid (Lx.next x = ({ x.skip with code := er, fp := x.skip.pos }, none)) := Lib.hid (by rw [hN.out, if_neg hemp, hw])
          have HW := Lib.hid hwd; have HST := Lib.hid hstr2; have HZ := Lib.hid hz2
          clear hwd hw hemp hstr2 hz2
          go_wp2_with fail
          refine (HW.out _ hG2).mono ?_
          rintro e2 w3 ⟨rfl, hm3⟩
          have h3 := h2.past hm3 (by simp)
          have hB3 := hm3.at hB2 (by simp)
          have hm3' := hm2'.trans hm3 (by simp)
          clear c0 c1 c2 c3 c4 c5 c6 c7 c8 q0 q1 q2 q3 q4 q5 q6 fz fb h2 hG2
          obtain ⟨c0, c1, c2, c3, c4, c5, c6, c7, c8⟩ := sc_cells h3
          obtain ⟨q0, q1, q2, q3, q4, q5, q6⟩ := tok_cells hB3
          have fz : ∀ j, w3.frozen? ⟨w.heap.size, j, none⟩ = false := fun j => by simp [World.frozen?, hB3]
          have fb : ∀ j, w3.frozen? ⟨b, j, none⟩ = false := fun j => h3.free j
          have hlt3 := lt_of_block hB3
          have hlb3 := h3.lt
          have hne3 : b ≠ w3.heap.size := by omega
          have H3 := Lib.hid h3; have HM3 := Lib.hid hm3'
          clear h3 hm3 hm3' hm2'
          rw [rwV, tokC]
          go_wp2_with fail
          obtain ⟨h4, hm4⟩ := fault_sc H3.out er
          have hB4 := hm4.at hB3 (by simp; omega)
          have hm4' := HM3.out.trans hm4 (fun t ht => .inl ht)
          clear c0 c1 c2 c3 c4 c5 c6 c7 c8 q0 q1 q2 q3 q4 q5 q6 fz fb
          generalize (((w3.setCell ⟨b, 5, none⟩ (.int .i64 (er : Nat))).setCell ⟨b, 6, none⟩ (.int .i64 (x.skip.pos.1 : Nat))).setCell ⟨b, 7, none⟩ (.int .i64 (x.skip.pos.2 : Nat))) = w4 at *
          refine bodyPost_ret (res_tok rfl _ _ _ _ _ _ _ rfl rfl (((Mod.refl [] _).alloc _).at (store_tok hB4 _ _ _ _ _ _ _) (by simp)) rfl) rfl ?_
          rw [e.out]
          refine ⟨rfl, s2, ?_, (mod_tok hm4' (.inr (Nat.le_refl _)) _ _ _ _ _ _ _).alloc _⟩
          exact h4.keep (S := [w.heap.size]) ((mod_tok (Mod.refl _ _) (by simp) _ _ _ _ _ _ _).alloc _) (by simp; omega)
        | ok wd =>
          rw [hw] at hwd
          have hbx : ∀ c ∈ x.skip.s, c < 256 := by rw [← hstr2]; exact Cod.str_lt s2
          obtain ⟨hw1, hw2, -⟩ := Lx.word_len hbx hemp hw
          have e : Hid (Lx.next x = ({ x.skip with s := x.skip.s.drop wd.n, pos := Lx.adv x.skip.pos (x.skip.s.take wd.n), fin := Lx.adv x.skip.pos (x.skip.s.take wd.n) },
              some ⟨wd.kind, x.skip.s.take wd.n, wd.vk, wd.num, wd.sym, x.skip.pos.1, x.skip.pos.2⟩)) := Lib.hid (by rw [hN.out, if_neg hemp, hw])
          have hsize : Hid ((Lx.ofS (wdT x.skip.s wd).text).size = wd.n) := Lib.hid (by rw [ofS_size]; simp only [wdT]; rw [List.length_take]; omega)
          have hln : wd.n ≤ s2.size := by omega
          have HW := Lib.hid hwd; have HST := Lib.hid hstr2; have HZ := Lib.hid hz2
          clear hwd hw hemp hstr2 hz2 hbx
          go_wp2_with fail
          refine (HW.out _ hG2).mono ?_
          rintro e2 w3 ⟨rfl, hm3⟩
          have h3 := h2.past hm3 (by simp)
          have hB3 := hm3.at hB2 (by simp)
          have hm3' := hm2'.trans hm3 (by simp)
          clear c0 c1 c2 c3 c4 c5 c6 c7 c8 q0 q1 q2 q3 q4 q5 q6 fz fb h2 hG2
          obtain ⟨c0, c1, c2, c3, c4, c5, c6, c7, c8⟩ := sc_cells h3
          have fb : ∀ j, w3.frozen? ⟨b, j, none⟩ = false := fun j => h3.free j
          have hlt3 := lt_of_block hB3
          have hlb3 := h3.lt
          have hne3 : b ≠ w3.heap.size := by omega
          have H3 := Lib.hid h3; have HM3 := Lib.hid hm3'
          clear h3 hm3 hm3' hm2'
          rw [rwV, tokC]
          go_wp2_with fail
          rw [hsize.out]
          obtain ⟨t, ht⟩ : ∃ t : Lx.Tok, t = ⟨wd.kind, x.skip.s.take wd.n, wd.vk, wd.num, wd.sym, x.skip.pos.1, x.skip.pos.2⟩ := ⟨_, rfl⟩
          have hcells : #[Value.int IntKind.i64 ((wdT x.skip.s wd).kind : Nat), .string (Lx.ofS (wdT x.skip.s wd).text), .int .i64 ((wdT x.skip.s wd).vk : Nat), .int .i64 ((wdT x.skip.s wd).num : Nat), .string (Lx.ofS (wdT x.skip.s wd).sym), .int .i64 (x.skip.pos.1 : Nat), .int .i64 (x.skip.pos.2 : Nat)] = tokC t := by rw [ht]; rfl
          rw [hcells]
          clear hcells
          have ha := (Mod.refl [] w3).alloc (Obj.cells (tokC t) 74)
          have hT4 := heap_alloc_new w3 (Obj.cells (tokC t) 74)
          have h4 := H3.out.past ha (by simp)
          have hB4 := ha.at hB3 (by simp)
          have hm4 := HM3.out.trans ha (by simp)
          have HT := Lib.hid ht
          clear ht c0 c1 c2 c3 c4 c5 c6 c7 c8 fb
          refine (pass_any b s2 x.skip wd.n _ h4 hln HL.out).mono ?_
          rintro e2 w5 ⟨rfl, s5, h5, hm5⟩
          have hT5 := hm5.at hT4 (by simp; omega)
          have hB5 := hm5.at hB4 (by simp; omega)
          have hm5' := hm4.trans hm5 (fun t ht => .inl ht)
          clear hm5 hm4 hT4 hB4 h4 ha
          obtain ⟨c0, c1, c2, c3, c4, c5, c6, c7, c8⟩ := sc_cells h5
          have fb : ∀ j, w5.frozen? ⟨b, j, none⟩ = false := fun j => h5.free j
          obtain ⟨q0, q1, q2, q3, q4, q5, q6⟩ := tok_cells hB5
          obtain ⟨t0, t1, t2, t3, t4, t5, t6⟩ := tok_cells hT5
          have fz : ∀ j, w5.frozen? ⟨w.heap.size, j, none⟩ = false := fun j => by simp [World.frozen?, hB5]
          have hneT : w.heap.size ≠ w3.heap.size := by omega
          have H5 := Lib.hid h5
          clear h5
          go_wp2_with fail
          obtain ⟨h6, hm6⟩ := fin_sc H5.out
          have hB6 := hm6.at hB5 (by simp; omega)
          have hm6' := hm5'.trans hm6 (fun t ht => .inl ht)
          clear c0 c1 c2 c3 c4 c5 c6 c7 c8 q0 q1 q2 q3 q4 q5 q6 fz fb t0 t1 t2 t3 t4 t5 t6
          rw [e.out]
          simp only at h6 hm6 hB6 hm6'
          generalize ((w5.setCell ⟨b, 3, none⟩ (.int .i64 ((Lx.adv x.skip.pos (x.skip.s.take wd.n)).1 : Nat))).setCell ⟨b, 4, none⟩ (.int .i64 ((Lx.adv x.skip.pos (x.skip.s.take wd.n)).2 : Nat))) = w6 at *
          refine bodyPost_ret (res_tok rfl _ _ _ _ _ _ _ rfl rfl (store_tok hB6 _ _ _ _ _ _ _) rfl) rfl ?_
          rw [← HT.out]
          refine ⟨rfl, s5, ?_, mod_tok hm6' (.inr (Nat.le_refl _)) _ _ _ _ _ _ _⟩
          exact h6.keep (S := [w.heap.size]) (mod_tok (Mod.refl _ _) (by simp) _ _ _ _ _ _ _) (by simp; omega)
    · have hN : Hid (Lx.next x = ({ x with code := 2 }, none)) := Lib.hid (by unfold Lx.next; rw [if_neg (by omega), if_pos hlong])
      rw [hlong] at c8
      have hset := setCell_at h.at_ 5 (.int .i64 2)
      have f5 := h.free 5
      have HB := Lib.hid hB0; have HM := Lib.hid hm0; have HS := Lib.hid hset; have HL := Lib.hid hlong; have HC := Lib.hid hcode
      clear hset hlong hcode hB0 hm0 h1
      go_enter Tryz.func52, Tryz.ntmps52
      go_wp2_with fail
      refine bodyPost_ret (res_tok rfl _ _ _ (tokC zeroT) _ _ _ rfl rfl (alloc_at _ (size_setCell _ _ _)) rfl) rfl ?_
      rw [hN.out]
      refine ⟨rfl, s, ⟨?_, h.str, h.size, fun hl => ?_⟩, ((Mod.refl [b] w).setCell (p := ⟨b, 5, none⟩) (by simp) _).alloc _⟩
      · exact ((Mod.refl [] _).alloc _).at (HS.out.trans (by simp [scCells])) (by simp)
      · rw [show x.long = true from HL.out] at hl; cases hl
  · have hN : Hid (Lx.next x = (x, none)) := Lib.hid (by unfold Lx.next; rw [if_pos hcode])
    have hcI : ((x.code : Int) != 0) = true := by rw [bne_iff_ne]; omega
    have HB := Lib.hid hB0; have HM := Lib.hid hm0
    have q := Lib.hid h1
    clear hcode hB0 hm0 h1
    go_enter Tryz.func52, Tryz.ntmps52
    go_wp2_with fail
    refine bodyPost_ret (res_tok rfl _ _ _ _ _ _ _ rfl rfl HB.out rfl) rfl ?_
    rw [hN.out]
    exact ⟨rfl, s, q.out, HM.out.mono (by simp)⟩
end Go.Proofs.YtppigckioalhhaaGreatDoorR
/- A SCANNER MADE AND ASKED; ALL WORDS OF A TEXT: the program's. -/
namespace Go.Proofs.YtppigckioalhhaaGreatDoorR
open Go.RowKit
set_option linter.unusedVariables false
set_option linter.unusedSimpArgs false
set_option maxRecDepth 100000

theorem Scan_any (s : ByteArray) (hs : s.size ≤ 140737488355328) (w : World) :
    Calls Tryz.prog 51 #[.string s] w fun e w' => ∃ b, e = .returned (.pointer (some ⟨b, 0, none⟩)) ∧ ScIs w' b s (Lx.start (Cod.str s)) ∧ w.heap.size ≤ b ∧ Mod [] w w' := by
  go_enter Tryz.func51, Tryz.ntmps51
  go_wp2
  go_ret
  refine ⟨_, rfl, ⟨?_, rfl, hs, fun hl => ?_⟩, ?_, ((Mod.refl [] w).alloc _).alloc _⟩
  · refine (alloc_at _ (by simp)).trans ?_
    simp [scCells, Lx.start, Cod.str_len]
    omega
  · simp only [Lx.start, decide_eq_false_iff_not, Cod.str_len] at hl ⊢
    omega
  · simp

def faultV (x : Lx.St) : Array Value := #[.int .i64 (x.code : Nat), .int .i64 (x.fp.1 : Nat), .int .i64 (x.fp.2 : Nat)]
theorem Fault_any (b : Nat) (s : ByteArray) (x : Lx.St) (w : World) (h : ScIs w b s x) :
    Calls Tryz.prog 99 #[.pointer (some ⟨b, 0, none⟩)] w fun e w' => e = .returned (.agg (faultV x)) ∧ Mod [] w w' := by
  have hlt := h.lt
  have hne : b ≠ w.heap.size := by omega
  obtain ⟨c0, c1, c2, c3, c4, c5, c6, c7, c8⟩ := sc_cells h
  go_enter Tryz.func99, Tryz.ntmps99
  go_wp2
  refine bodyPost_ret (results_cell_row rfl _ _ _ _ (faultV x) _ _ rfl (heap_alloc_new w _) Tryz.underlying31 rfl (by kernel_rfl)) rfl ⟨rfl, (Mod.refl [] w).alloc _⟩
def endV (x : Lx.St) : Array Value := #[.int .i64 (x.fin.1 : Nat), .int .i64 (x.fin.2 : Nat)]

/-- words as cells -/
def tokCells (l : List Lx.Tok) : List Value := l.flatMap fun t => (tokC t).toList
theorem tokCells_len (l : List Lx.Tok) : (tokCells l).length = l.length * 7 := by
  induction l with
  | nil => rfl
  | cons t r ih => simp only [tokCells, List.flatMap_cons, List.length_append, List.length_cons] at ih ⊢; rw [ih]; simp [tokC]; omega
theorem tokCells_append (a b : List Lx.Tok) : tokCells (a ++ b) = tokCells a ++ tokCells b := by simp [tokCells]
theorem Tryz.infoTok : (Tryz.prog.info? 74).map (fun i => (i.zero, i.size, i.bytes)) = some (some (.agg (tokC zeroT)), 7, 72) := by kernel_rfl
/-- the slice v, newer than base, owns these words -/
structure TokRow (w : World) (base : Nat) (v : Value) (l : List Lx.Tok) : Prop where
  row : w.ownsRow 0 74 7 v l.length (tokCells l)
  new : ∀ k ∈ fp v, base ≤ k

theorem TokRow.nil (w : World) (base : Nat) : TokRow w base (.slice none 0 0) [] := ⟨World.ownsRow_nil _ _ _ _, by simp [fp]⟩
theorem TokRow.keep {S : List Nat} {w w' : World} {base : Nat} {v : Value} {l : List Lx.Tok} (h : TokRow w base v l) (hm : Mod S w w') (hS : ∀ k ∈ fp v, k ∉ S) : TokRow w' base v l :=
  ⟨hm.owns h.row hS, h.new⟩
theorem TokRow.past {S : List Nat} {w w' : World} {base : Nat} {v : Value} {l : List Lx.Tok} (h : TokRow w base v l) (hm : Mod S w w') (hS : ∀ t ∈ S, w.heap.size ≤ t) : TokRow w' base v l :=
  h.keep hm (fun k hk hs => by have := hS k hs; have := fp_lt h.row k hk; omega)
theorem TokRow.lit {w : World} {base : Nat} {v : Value} {l : List Lx.Tok} (h : TokRow w base v l) : ∃ a c, v = .slice a l.length c := by
  rcases h.row.2 with ⟨rfl, h0⟩ | ⟨g, cap, cur, rfl, -⟩
  · exact ⟨_, _, by rw [h0]⟩
  · exact ⟨_, _, rfl⟩

theorem tokC_one (t : Lx.Tok) : ∀ u ∈ (tokC t).toList, u.oneCell' = true := by
  intro u hu
  simp [tokC] at hu
  rcases hu with rfl | rfl | rfl | rfl | rfl | rfl | rfl <;> rfl
/-- one word, as what is appended -/
theorem src_tok {w : World} {b : Nat} {t : Lx.Tok} {T : TypeId} {fr : Nat × Nat} (h : w.heap[b]? = some (.cells (tokC t) T fr)) :
    Src Tryz.prog 7 69 (.slice (some ⟨b, 0, none⟩) 1 1) 1 (tokC t).toList w := by
  refine Src.ofSlice w Tryz.underlying69 ⟨b, 0, none⟩ 1 1 _ (by simp [tokC]) (fun j u hu => ?_) (tokC_one t)
  rw [addr_add, Nat.zero_add]
  simp [World.cell?, h]
  rw [← Array.getElem?_toList]; exact hu

def St.len (x : Lx.St) : Nat := x.s.length
theorem next_len {x y : Lx.St} {t : Lx.Tok} (hb : ∀ c ∈ x.s, c < 256) (h : Lx.next x = (y, some t)) : y.s.length < x.s.length ∧ (∀ c ∈ y.s, c < 256) ∧ x.long = false ∧ y.long = false := by
  unfold Lx.next at h
  split at h
  · simp at h
  · split at h
    · simp at h
    · rename_i hl
      have hl' : x.long = false := by simpa using hl
      split at h
      · simp at h
      · rename_i he
        split at h
        · simp at h
        · rename_i wd hw
          have hbs : ∀ c ∈ x.skip.s, c < 256 := fun c hc => hb c (List.mem_of_mem_drop hc)
          obtain ⟨h1, h2, -⟩ := Lx.word_len hbs he hw
          simp only [Prod.mk.injEq] at h
          obtain ⟨rfl, -⟩ := h
          have hsk : x.skip.s.length ≤ x.s.length := by unfold Lx.St.skip; simp
          refine ⟨?_, fun c hc => hbs c (List.mem_of_mem_drop hc), hl', hl'⟩
          simp only [List.length_drop]; omega
theorem next_bytes {x : Lx.St} (hb : ∀ c ∈ x.s, c < 256) : ∀ c ∈ (Lx.next x).1.s, c < 256 := by
  have hbs : ∀ c ∈ x.skip.s, c < 256 := fun c hc => hb c (List.mem_of_mem_drop hc)
  unfold Lx.next
  split
  · exact hb
  · split
    · exact hb
    · split
      · exact hbs
      · split
        · exact hbs
        · exact fun c hc => hbs c (List.mem_of_mem_drop hc)
/-- what is still to come, one call of Next done -/
def rest (k : Nat) (r : Lx.St × Option Lx.Tok) : List Lx.Tok × Lx.St :=
  match r with
  | (y, none) => ([], y)
  | (y, some t) => (t :: (Lx.allF k y).1, (Lx.allF k y).2)
theorem allF_succ (k : Nat) (x : Lx.St) : Lx.allF (k + 1) x = rest k (Lx.next x) := by
  rw [Lx.allF]
  unfold rest
  cases Lx.next x with
  | mk y o => cases o <;> rfl

def fltV (f : Nat × Nat × Nat) : Array Value := #[.int .i64 (f.1 : Nat), .int .i64 (f.2.1 : Nat), .int .i64 (f.2.2 : Nat)]
/-- what Tokens answers -/
def Toks (l : List Nat) (w : World) (e : Ending) (w' : World) : Prop :=
  ∃ v, e = .returned (.tuple #[v, .agg (fltV (Lx.fault l))]) ∧ TokRow w' w.heap.size v (Lx.tokens l) ∧ Mod [] w w'
theorem nextV_eq (o : Option Lx.Tok) : nextV o = .tuple #[.agg (tokC (o.getD zeroT)), .bool o.isSome] := by cases o <;> rfl

/-- the loop over all words: what it holds -/
structure TLoop (l : List Nat) (w wr : World) (b : Nat) (va : Option Addr) (vc : Nat) (acc : List Lx.Tok) (p : Nat) (x : Lx.St) (o : Option Lx.Tok) (k gk : Nat) (s' : ByteArray) : Prop where
  box : wr.heap[p]? = some (.cells (tokC (o.getD zeroT)) 74 (0, 0))
  pnew : w.heap.size < p
  row : TokRow wr (w.heap.size + 1) (.slice va acc.length vc) acc
  sc : ScIs wr b s' x
  pb : p ≠ b
  pv : p ∉ fp (.slice va acc.length vc)
  bv : b ∉ fp (.slice va acc.length vc)
  all : Lx.given l = (acc ++ (rest k (x, o)).1, (rest k (x, o)).2)
  lim : o.isSome = true → acc.length + 1 + x.s.length ≤ 65536 ∧ x.s.length + 1 ≤ k ∧ x.s.length + 1 ≤ gk
  byte : ∀ c ∈ x.s, c < 256
  mod : Mod [] w wr

theorem res_toks {fn : Func} {p u : Tmp} (h : fn.results = #[.tmp u, .cell p 31]) (tmps : Array Value) (w : World) (b : Nat) (cs : Array Value) (T : TypeId) (fr : Nat × Nat) (x : Value)
    (hp : tmps.getD p undef = .pointer (some ⟨b, 0, none⟩)) (hx : tmps.getD u undef = x) (hg : w.heap[b]? = some (.cells cs T fr)) (hc : cs.size = 3) :
    (results fn tmps).run Tryz.prog w = .ok (.tuple #[x, .agg cs]) w := by
  have hl := run_loadVar_row (P := Tryz.prog) w b T 31 cs fr _ hg Tryz.underlying31 rfl (by rw [show (Tryz.prog.info? 31).map (·.size) = some 3 by kernel_rfl, hc])
  have hp' : tmps[p]?.getD undef = .pointer (some ⟨b, 0, none⟩) := by simpa using hp
  have hx' : tmps[u]?.getD undef = x := by simpa using hx
  simp [results, h, hp', hx', asAddr, hl]

theorem store3 {w : World} {b : Nat} {a0 a1 a2 : Value} {T : TypeId} {fr : Nat × Nat} (h : w.heap[b]? = some (.cells #[a0, a1, a2] T fr)) (v0 v1 v2 : Value) :
    (((w.setCell ⟨b, 0, none⟩ v0).setCell ⟨b, 1, none⟩ v1).setCell ⟨b, 2, none⟩ v2).heap[b]? = some (.cells #[v0, v1, v2] T fr) := by
  have h1 := setCell_at h 0 v0
  generalize w.setCell ⟨b, 0, none⟩ v0 = w1 at *
  have h2 := setCell_at h1 1 v1
  generalize w1.setCell ⟨b, 1, none⟩ v1 = w2 at *
  have h3 := setCell_at h2 2 v2
  rw [h3]; simp
theorem mod3 {S : List Nat} {w0 w : World} {b : Nat} (h : Mod S w0 w) (hb : b ∈ S ∨ w0.heap.size ≤ b) (v0 v1 v2 : Value) :
    Mod S w0 (((w.setCell ⟨b, 0, none⟩ v0).setCell ⟨b, 1, none⟩ v1).setCell ⟨b, 2, none⟩ v2) :=
  ((h.setCell hb _).setCell hb _).setCell hb _
theorem TokRow.base {w : World} {b b' : Nat} {v : Value} {l : List Lx.Tok} (h : TokRow w b v l) (hb : b' ≤ b) : TokRow w b' v l :=
  ⟨h.row, fun k hk => Nat.le_trans hb (h.new k hk)⟩

set_option maxHeartbeats 4000000 in
theorem Tokens_any (s : ByteArray) (hs : s.size ≤ 140737488355328) (w : World) (hG : Glob w) :
    Calls Tryz.prog 26 #[.string s] w (Toks (Cod.str s) w) := by
  obtain ⟨i0, hinf, hz0, hz1, hz2⟩ := info_parts Tryz.infoTok
  obtain ⟨l, hl⟩ : ∃ l, l = Cod.str s := ⟨_, rfl⟩
  have hlb : ∀ c ∈ l, c < 256 := by rw [hl]; exact Cod.str_lt s
  rw [← hl]
  have HL := Lib.hid hl; have HB := Lib.hid hlb
  clear hl hlb
  go_enter Tryz.func26, Tryz.ntmps26
  go_wp2_with fail
  refine (Scan_any s hs _).mono ?_
  rintro e w1 ⟨b, rfl, h1, hb1, hm1⟩
  rw [← HL.out] at h1
  have hm0 := (Mod.refl [] w).alloc (Obj.cells #[Value.int IntKind.i64 0, Value.int IntKind.i64 0, Value.int IntKind.i64 0] 31)
  have hF0 := heap_alloc_new w (Obj.cells #[Value.int IntKind.i64 0, Value.int IntKind.i64 0, Value.int IntKind.i64 0] 31)
  have hm1' := hm0.trans hm1 (by simp)
  have hF1 := hm1.at hF0 (by simp)
  have hG1 := hG.past hm1' (by simp)
  have hbw : w.heap.size < b := by simp at hb1; omega
  have hw3 := hG.size
  have hb3 : 4 ≤ b := by omega
  have hsz1 := hm1'.size
  go_wp2_with fail
  refine (next_any b s _ w1 h1 hG1 hb3).mono ?_
  rintro e w2 ⟨rfl, s2, h2, hm2⟩
  have hF2 := hm2.at hF1 (by simp; omega)
  have hm2' : Mod [] w w2 := hm1'.trans hm2 (fun t ht => .inr (by simp at ht; omega))
  rw [nextV_eq]
  have hT0 : TLoop l w (w2.alloc (Obj.cells (tokC ((Lx.next (Lx.start l)).2.getD zeroT)) 74)) b none 0 [] w2.heap.size (Lx.next (Lx.start l)).1 (Lx.next (Lx.start l)).2 l.length ((Lx.next (Lx.start l)).1.s.length + 1) s2 := by
    have hlt2 := h2.lt
    refine ⟨heap_alloc_new _ _, by have := hm2'.size; omega, TokRow.nil _ _, h2.past ((Mod.refl [] w2).alloc _) (by simp), by omega, by simp [fp], by simp [fp], ?_, fun hi => ?_, next_bytes (x := Lx.start l) HB.out, hm2'.alloc _⟩
    · rw [show ((Lx.next (Lx.start l)).1, (Lx.next (Lx.start l)).2) = Lx.next (Lx.start l) from rfl, ← allF_succ]
      simp [Lx.given]
    · cases ho : (Lx.next (Lx.start l)).2 with
      | none => rw [ho] at hi; cases hi
      | some t =>
        have hn : Lx.next (Lx.start l) = ((Lx.next (Lx.start l)).1, some t) := by rw [← ho]
        have := next_len (x := Lx.start l) HB.out hn
        have h3 : l.length ≤ 65536 := by
          have := this.2.2.1
          simp [Lx.start] at this
          exact this
        have h4 : (Lx.start l).s.length = l.length := rfl
        have h5 := this.1
        refine ⟨?_, ?_, Nat.le_refl _⟩
        · simp only [List.length_nil]; omega
        · omega
  have HF2 := Lib.hid hF2; have HT0 := Lib.hid hT0
  clear hT0 hF0 hF1 hF2 h1 h2 hm1 hm2 hm0 hm1' hG1
  generalize Lx.next (Lx.start l) = r at *
  obtain ⟨x0, o0⟩ := r
  simp only at HT0
  have hO : ∀ o : Option Lx.Tok, o.isSome = true ∨ o.isSome = false := fun o => by cases o <;> simp
  generalize ht0 : o0.getD zeroT = t0 at *
  generalize ho0 : o0.isSome = ok0 at *
  rw [tokC]
  have HT1 := Lib.hid ht0; have HO1 := Lib.hid ho0
  clear ht0 ho0
  go_wp2_with fail
  go_loopg [5, 6, 7] (x0.s.length + 1) (fun gk bv tv kv wr => ∃ (va : Option Addr) (vc p k : Nat) (acc : List Lx.Tok) (x : Lx.St) (o : Option Lx.Tok) (s' : ByteArray),
      bv = .slice va acc.length vc ∧ tv = .pointer (some ⟨p, 0, none⟩) ∧ kv = .bool o.isSome ∧ TLoop l w wr b va vc acc p x o k gk s' ∧ wr.heap[w.heap.size]? = some (.cells #[Value.int IntKind.i64 0, Value.int IntKind.i64 0, Value.int IntKind.i64 0] 31 (0, 0)))
  case atStart =>
    refine ⟨none, 0, _, l.length, [], x0, o0, s2, rfl, rfl, by rw [HO1.out], ?_, ?_⟩
    · have := HT0.out
      rw [tokC] at this
      exact this
    · exact ((Mod.refl [] w2).alloc _).at HF2.out (by simp)
  case round =>
    obtain ⟨va, vc, p, k, acc, x, o, s', rfl, rfl, rfl, hT, hF⟩ := hrel
    cases o with
    | none =>
      have hall := hT.all
      simp only [rest, List.append_nil] at hall
      have hrow := hT.row
      have hm := hT.mod
      obtain ⟨c0, c1, c2, c3, c4, c5, c6, c7, c8⟩ := sc_cells hT.sc
      have fz : ∀ j, wr.frozen? ⟨w.heap.size, j, none⟩ = false := fun j => by simp [World.frozen?, hF]
      have f0 : wr.cell? ⟨w.heap.size, 0, none⟩ = some (.int .i64 0) := by simp [World.cell?, hF]
      have f1 : wr.cell? ⟨w.heap.size, 1, none⟩ = some (.int .i64 0) := by simp [World.cell?, hF]
      have f2 : wr.cell? ⟨w.heap.size, 2, none⟩ = some (.int .i64 0) := by simp [World.cell?, hF]
      by_cases hc : x.code = 0
      · have hcB : ((x.code : Int) != 0) = false := by rw [hc]; rfl
        have e : Hid (Lx.fault l = (0, 0, 0) ∧ Lx.tokens l = acc) := Lib.hid (by
          unfold Lx.fault Lx.tokens; rw [hall]; simp [hc])
        have hall' := Lib.hid hall
        have HR := Lib.hid hrow
        simp only [Option.isSome]
        clear hT HT0 hall hc hrow
        go_wp2_with fail
        refine bodyPost_ret (res_toks rfl _ _ _ _ _ _ _ rfl rfl (store3 hF _ _ _) rfl) rfl ?_
        refine ⟨_, by rw [e.out.1]; rfl, ?_, mod3 hm (.inr (Nat.le_refl _)) _ _ _⟩
        rw [e.out.2]
        exact (HR.out.keep (S := [w.heap.size]) (mod3 (Mod.refl _ _) (by simp) _ _ _) (fun k hk => by have := HR.out.new k hk; simp; omega)).base (by omega)
      · have hcB : ((x.code : Int) != 0) = true := by rw [bne_iff_ne]; omega
        have e : Hid (Lx.fault l = (x.code, x.fp.1, x.fp.2) ∧ Lx.tokens l = []) := Lib.hid (by
          unfold Lx.fault Lx.tokens; rw [hall]; simp [hc])
        have HR := Lib.hid hrow
        simp only [Option.isSome]
        clear hT HT0 hall hc hrow
        go_wp2_with fail
        go_region
        go_wp2_with fail
        refine bodyPost_ret (res_toks rfl _ _ _ _ _ _ _ rfl rfl (drew_at (store3 hF _ _ _)) rfl) rfl ?_
        refine ⟨_, by rw [e.out.1]; rfl, ?_, (mod3 hm (.inr (Nat.le_refl _)) _ _ _).drew⟩
        rw [e.out.2]
        exact TokRow.nil _ _
    | some t =>
      obtain ⟨hl1, hl2, hl3⟩ := hT.lim rfl
      obtain ⟨k', rfl⟩ : ∃ k', k = k' + 1 := ⟨k - 1, by omega⟩
      have hall := hT.all
      have hbox := hT.box
      simp only [Option.getD] at hbox
      obtain ⟨t0', t1, t2, t3, t4, t5, t6⟩ := tok_cells hbox
      have hown := hT.row.row
      have hfn := hT.row.new
      have hpv := hT.pv
      have hbv := hT.bv
      have hpb := hT.pb
      have hpn := hT.pnew
      have hmr := hT.mod
      have hsc := hT.sc
      have hby := hT.byte
      simp only [rest] at hall
      rw [allF_succ] at hall
      have hnl := fun (y : Lx.St) (u : Lx.Tok) (hy : Lx.next x = (y, some u)) => next_len hby hy
      have hnb := next_bytes hby
      have HALL := Lib.hid hall; have HNL := Lib.hid hnl; have HNB := Lib.hid hnb
      have hbox' := heap_alloc_new wr (Obj.cells (tokC t) 74)
      have hsrc := src_tok hbox'
      have hFb := Lib.hid hF
      simp only [Option.isSome]
      clear hT HT0 hall hnl hnb hby hF
      go_wp2_with (at_builtin; refine wpList_append_src _ rfl _ _ 69 69 rfl 74 i0 (.agg (tokC zeroT)) 7 72 Tryz.underlying69 hinf hz0 hz1 hz2 rfl (.slice va acc.length vc) acc.length (tokCells acc) rfl (hown.alloc _) _ 1 (tokC t).toList rfl hsrc (by unfold maxLen; omega) (by omega) ?_)
      intro v' w3 hown3 hm3 hf3 hn3
      obtain ⟨va3, vc3, rfl⟩ := owns_slice hown3
      have hma : Mod [] wr (wr.alloc (Obj.cells (tokC t) 74)) := (Mod.refl [] wr).alloc _
      have hm3r : Mod (fp (.slice va acc.length vc)) wr w3 := (hma.mono (by simp)).trans hm3 (fun t ht => .inl ht)
      have hlen : acc.length + 1 = (acc ++ [t]).length := by simp
      have hcl : tokCells acc ++ (tokC t).toList = tokCells (acc ++ [t]) := by rw [tokCells_append]; simp [tokCells]
      rw [hcl, hlen] at hown3
      have hsz3 := hm3r.size
      have hf3' : ∀ k ∈ fp (.slice va3 (acc.length + 1) vc3), w.heap.size + 1 ≤ k ∧ (k ∈ fp (.slice va acc.length vc) ∨ wr.heap.size ≤ k) := fun k hk => by
        have := hmr.size
        rcases hf3 k hk with h | h
        · exact ⟨hfn k h, .inl h⟩
        · have hlb := lt_of_block hbox
          first | exact ⟨by omega, .inr (by omega)⟩ | (simp at h; exact ⟨by omega, .inr (by omega)⟩)
      have hbox3 := hm3r.at hbox hpv
      have hsc3 := hsc.keep hm3r hbv
      have hF3 := hm3r.at hFb.out (fun h => by have := hfn _ h; omega)
      have hm3w : Mod [] w w3 := hmr.trans hm3r (fun t ht => .inr (by have := hfn t ht; omega))
      have hpl := lt_of_block hbox
      have hbl := hsc.lt
      have hG3 := hG.past hm3w (by simp)
      clear t0' t1 t2 t3 t4 t5 t6 hm3 hn3 hf3 hown hsrc hbox' hma hm3r hbox hsc
      obtain ⟨t0', t1, t2, t3, t4, t5, t6⟩ := tok_cells hbox3
      rw [hlen] at hf3'
      have HO3 := Lib.hid hown3; have HF3 := Lib.hid hf3'
      clear hown3 hf3' hcl
      go_wp2_with fail
      have hmb : Mod [] w3 (w3.alloc (Obj.cells (tokC t) 74)) := (Mod.refl [] w3).alloc _
      refine (next_any b s' x (w3.alloc (Obj.cells (tokC t) 74)) (hsc3.past hmb (by simp)) (hG3.past hmb (by simp)) hb3).mono ?_
      rintro e w4 ⟨rfl, s4, h4, hm4⟩
      rw [nextV_eq]
      have hsz4 := hm4.size
      have hp4 := hm4.at (heap_alloc_new w3 (Obj.cells (tokC t) 74)) (by simp; omega)
      have hF4 := hm4.at (hmb.at hF3 (by simp)) (by simp; omega)
      have hm4w : Mod [] w w4 := (hm3w.trans hmb (by simp)).trans hm4 (fun t ht => .inr (by simp at ht; omega))
      have hm34 : Mod [b] w3 w4 := (hmb.mono (by simp)).trans hm4 (fun t ht => .inl ht)
      have hrow4 : TokRow w4 (w.heap.size + 1) (.slice va3 (acc ++ [t]).length vc3) (acc ++ [t]) := (TokRow.mk HO3.out (fun k hk => (HF3.out k hk).1)).keep hm34 (fun k hk => by
        simp
        rintro rfl
        rcases (HF3.out k hk).2 with h | h
        · exact hbv h
        · omega)
      have hp3 : w3.heap.size ∉ fp (.slice va3 (acc ++ [t]).length vc3) := fun h => by have := fp_lt HO3.out _ h; omega
      have hb3v : b ∉ fp (.slice va3 (acc ++ [t]).length vc3) := fun h => by
        rcases (HF3.out b h).2 with h | h
        · exact hbv h
        · omega
      have hne3 : w3.heap.size ≠ b := by omega
      have hwn3 : w.heap.size < w3.heap.size := by omega
      have HR4 := Lib.hid hrow4
      clear t0' t1 t2 t3 t4 t5 t6 hrow4 hm34 hm4 hmb hsc3 hG3 hbox3 hF3
      obtain ⟨t0', t1, t2, t3, t4, t5, t6⟩ := tok_cells hp4
      have fz4 : ∀ j, w4.frozen? ⟨w3.heap.size, j, none⟩ = false := fun j => by simp [World.frozen?, hp4]
      have hpn4 : w3.heap.size < w4.heap.size := lt_of_block hp4
      have HH := Lib.hid h4
      clear h4
      generalize hr : Lx.next x = r at *
      obtain ⟨x', o'⟩ := r
      simp only at HH ⊢
      have hst := fun v0 v1 v2 v3 v4 v5 v6 => store_tok hp4 v0 v1 v2 v3 v4 v5 v6
      have HST := Lib.hid hst
      generalize hot : o'.getD zeroT = u at *
      generalize hos : o'.isSome = ok at *
      have HU := Lib.hid hot; have HK := Lib.hid hos; have HR := Lib.hid hr
      clear hst hot hos hr
      rw [tokC]
      go_wp2_with fail
      go_roundg (x.s.length)
      case measure => omega
      case rel =>
        refine ⟨va3, vc3, w3.heap.size, k', acc ++ [t], x', o', s4, by rw [← hlen], rfl, by rw [HK.out], ?_, ?_⟩
        · refine ⟨?_, hwn3, HR4.out.keep (S := [w3.heap.size]) (mod_tok (Mod.refl _ _) (by simp) _ _ _ _ _ _ _) (fun k hk => by simp; rintro rfl; exact hp3 hk), HH.out.keep (S := [w3.heap.size]) (mod_tok (Mod.refl _ _) (by simp) _ _ _ _ _ _ _) (by simp; omega), hne3, hp3, hb3v, ?_, ?_, HNB.out, mod_tok hm4w (.inr (by omega)) _ _ _ _ _ _ _⟩
          · rw [HU.out]; exact HST.out _ _ _ _ _ _ _
          · have := HALL.out
            rw [this]; simp
          · intro hi
            cases o' with
            | none => cases hi
            | some u' =>
              have := (HNL.out x' u' rfl).1
              rw [List.length_append]
              simp only [List.length_cons, List.length_nil]
              omega
        · exact ((mod_tok (Mod.refl [w3.heap.size] w4) (by simp) _ _ _ _ _ _ _)).at hF4 (by simp; omega)
end Go.Proofs.YtppigckioalhhaaGreatDoorR
/- the cells of a list's word -/
namespace Go.Proofs.YtppigckioalhhaaGreatDoorR
open Go.RowKit
set_option linter.unusedVariables false
set_option linter.unusedSimpArgs false
set_option maxRecDepth 100000

theorem tokCells_get : ∀ (l : List Lx.Tok) (i : Nat) (t : Lx.Tok), l[i]? = some t → ∀ j, j < 7 → (tokCells l)[i * 7 + j]? = (tokC t).toList[j]?
  | [], i, t, h => by simp at h
  | u :: r, 0, t, h => fun j hj => by
    simp at h; subst h
    rw [tokCells, List.flatMap_cons, List.getElem?_append_left (by simp [tokC]; omega)]
    simp
  | u :: r, i + 1, t, h => fun j hj => by
    rw [tokCells, List.flatMap_cons, List.getElem?_append_right (by simp [tokC]; omega)]
    have := tokCells_get r i t (by simpa using h) j hj
    rw [tokCells] at this
    rw [← this]
    congr 1
    simp [tokC]; omega

/-- the cells of a list's word -/
theorem TokRow.at {w : World} {base : Nat} {v : Value} {l : List Lx.Tok} (h : TokRow w base v l) (i : Nat) (t : Lx.Tok) (hi : l[i]? = some t) :
    ∃ g c, v = .slice (some ⟨g, 0, none⟩) l.length c ∧ w.cell? ⟨g, i * 7, none⟩ = some (.int .i64 (t.kind : Nat)) ∧ w.cell? ⟨g, i * 7 + 1, none⟩ = some (.string (Lx.ofS t.text)) ∧ w.cell? ⟨g, i * 7 + 2, none⟩ = some (.int .i64 (t.vk : Nat)) ∧
      w.cell? ⟨g, i * 7 + 3, none⟩ = some (.int .i64 (t.num : Nat)) ∧ w.cell? ⟨g, i * 7 + 4, none⟩ = some (.string (Lx.ofS t.sym)) ∧ w.cell? ⟨g, i * 7 + 5, none⟩ = some (.int .i64 (t.line : Nat)) ∧ w.cell? ⟨g, i * 7 + 6, none⟩ = some (.int .i64 (t.col : Nat)) := by
  have hlt : i < l.length := (List.getElem?_eq_some_iff.1 hi).1
  rcases h.row.2 with ⟨rfl, h0⟩ | ⟨g, cap, cur, rfl, hb, hg, hn, hc, hs, ht⟩
  · omega
  · have key : ∀ j, j < 7 → w.cell? ⟨g, i * 7 + j, none⟩ = (tokC t).toList[j]? := by
      intro j hj
      rw [← tokCells_get l i t hi j hj, ← ht]
      simp only [World.cell?, hg]
      have hlt2 : i * 7 + j < l.length * 7 := by omega
      rw [List.getElem?_take, if_pos hlt2]
      simp
    refine ⟨g, cap, rfl, ?_, ?_, ?_, ?_, ?_, ?_, ?_⟩
    · exact key 0 (by omega)
    · exact key 1 (by omega)
    · exact key 2 (by omega)
    · exact key 3 (by omega)
    · exact key 4 (by omega)
    · exact key 5 (by omega)
    · exact key 6 (by omega)
end Go.Proofs.YtppigckioalhhaaGreatDoorR
/- PLAIN: values, their texts and back. No program in sight. -/
namespace Go.Proofs.YtppigckioalhhaaGreatDoorR.Va
open Cod (str)
set_option linter.unusedSimpArgs false
set_option linter.unusedVariables false

structure Val where
  k : Int
  n : Int
  s : List Nat
deriving DecidableEq
def zero : Val := ⟨0, 0, []⟩
def may (v : Val) : Bool := (v.k == 1 && (v.s == [] && (decide (-2147483647 ≤ v.n) && decide (v.n ≤ 2147483647)))) || (v.k == 2 && (v.n == 0 && decide (v.s.length ≤ 64)))

def resW : List (List Nat) := [[114, 101, 108, 97, 116, 105, 111, 110], [110, 111, 116], [110, 117, 109], [115, 121, 109], [109, 111, 100], [99, 111, 117, 110, 116], [115, 117, 109], [109, 105, 110], [109, 97, 120]]
def wordB (p : Nat → Bool) (l : List Nat) : Bool := decide (l ≠ []) && (decide (l.length ≤ 32) && (p (l.headD 0) && decide (Lx.run Lx.goes l = l.length)))
def name (l : List Nat) : Bool := !resW.contains l && wordB Lx.small l
def variable_ (l : List Nat) : Bool := wordB Lx.capital l

def hexd (n : Nat) : Nat := if n < 10 then 48 + n else 55 + n
def qb (c : Nat) : List Nat := if c = 34 ∨ c = 92 then [92, c] else if c = 10 then [92, 110] else if c < 32 ∨ 126 < c then [92, 120, hexd (c / 16), hexd (c % 16)] else [c]
def quoted (l : List Nat) : List Nat := 34 :: (l.flatMap qb ++ [34])
def itoa (n : Int) : List Nat := (Lib.itoa n).map UInt8.toNat
def text (v : Val) : List Nat := if v.k = 1 then itoa v.n else if name v.s then v.s else quoted v.s

/-- what stands between the quotes, read loosely -/
def uqF : Nat → List Nat → Option (List Nat)
  | 0, _ => none
  | _ + 1, [] => some []
  | k + 1, c :: r =>
    if c ≠ 92 then (uqF k r).map (c :: ·)
    else match r with
      | [] => none
      | x :: t =>
        if x = 120 ∧ 2 ≤ t.length then
          match Lx.hexv (t.headD 0), Lx.hexv ((t.drop 1).headD 0) with
          | some a, some b => (uqF k (t.drop 2)).map ((16 * a + b) :: ·)
          | _, _ => none
        else if x = 110 then (uqF k t).map (10 :: ·)
        else (uqF k t).map (x :: ·)
def uq (l : List Nat) : Option (List Nat) := uqF (l.length + 1) l

def atoiV (l : List Nat) : Option Int := match Lib.atoiAll (l.map UInt8.ofNat) with | .ok v => some v | _ => none
/-- what a text is read as, before it is looked at -/
def guess (l : List Nat) : Option Val :=
  match atoiV l with
  | some n => some ⟨1, n, []⟩
  | none => if 1 < l.length ∧ l.headD 0 = 34 then (uq ((l.take (l.length - 1)).drop 1)).map fun t => ⟨2, 0, t⟩ else some ⟨2, 0, l⟩
def parse (l : List Nat) : Option Val :=
  match guess l with
  | none => none
  | some v => if may v ∧ text v = l then some v else none

theorem hexd_hexv {n : Nat} (h : n < 16) : Lx.hexv (hexd n) = some n := by
  have : ∀ m : Fin 16, Lx.hexv (hexd m.val) = some m.val := by decide
  exact this ⟨n, h⟩
theorem uqF_esc (k x : Nat) (t : List Nat) : uqF (k + 1) (92 :: x :: t) = if x = 120 ∧ 2 ≤ t.length then (match Lx.hexv (t.headD 0), Lx.hexv ((t.drop 1).headD 0) with | some a, some b => (uqF k (t.drop 2)).map ((16 * a + b) :: ·) | _, _ => none) else if x = 110 then (uqF k t).map (10 :: ·) else (uqF k t).map (x :: ·) := by
  conv => lhs; unfold uqF
  simp only [ne_eq, not_true_eq_false, if_false]
theorem uqF_one (k c : Nat) (r : List Nat) (h : c ≠ 92) : uqF (k + 1) (c :: r) = (uqF k r).map (c :: ·) := by
  conv => lhs; unfold uqF
  rw [if_pos h]
theorem uqF_q : ∀ (l : List Nat) (k : Nat), (∀ c ∈ l, c < 256) → (l.flatMap qb).length < k → uqF k (l.flatMap qb) = some l
  | [], k, _, h => by
    obtain ⟨j, rfl⟩ : ∃ j, k = j + 1 := ⟨k - 1, by omega⟩
    rfl
  | c :: r, k, hb, h => by
    obtain ⟨j, rfl⟩ : ∃ j, k = j + 1 := ⟨k - 1, by omega⟩
    have hc := hb c (by simp)
    have ih := fun j hj => uqF_q r j (fun x hx => hb x (by simp [hx])) hj
    rw [List.flatMap_cons] at h ⊢
    generalize List.flatMap qb r = u at *
    by_cases h1 : c = 34 ∨ c = 92
    · have hq : qb c = [92, c] := by unfold qb; rw [if_pos h1]
      rw [hq] at h ⊢
      simp only [List.cons_append, List.nil_append, List.length_cons] at h ⊢
      rw [uqF_esc, if_neg (by omega), if_neg (by omega), ih j (by omega)]; rfl
    · by_cases h2 : c = 10
      · have hq : qb c = [92, 110] := by unfold qb; rw [if_neg h1, if_pos h2]
        rw [hq] at h ⊢
        simp only [List.cons_append, List.nil_append, List.length_cons] at h ⊢
        rw [uqF_esc, if_neg (by omega), if_pos rfl, ih j (by omega), h2]; rfl
      · by_cases h3 : c < 32 ∨ 126 < c
        · have hq : qb c = [92, 120, hexd (c / 16), hexd (c % 16)] := by unfold qb; rw [if_neg h1, if_neg h2, if_pos h3]
          rw [hq] at h ⊢
          simp only [List.cons_append, List.nil_append, List.length_cons] at h ⊢
          rw [uqF_esc, if_pos ⟨rfl, by simp⟩]
          simp only [List.headD_cons, List.drop_succ_cons, List.drop_zero]
          rw [hexd_hexv (by omega), hexd_hexv (by omega)]
          simp only
          rw [ih j (by omega), show 16 * (c / 16) + c % 16 = c by omega]; rfl
        · have hq : qb c = [c] := by unfold qb; rw [if_neg h1, if_neg h2, if_neg h3]
          rw [hq] at h ⊢
          simp only [List.cons_append, List.nil_append, List.length_cons] at h ⊢
          rw [uqF_one _ _ _ (by omega), ih j (by omega)]; rfl
theorem uq_q (l : List Nat) (hb : ∀ c ∈ l, c < 256) : uq (l.flatMap qb) = some l := uqF_q l _ hb (by omega)

/-! numerals -/
theorem decFrom_snoc : ∀ (l : List UInt8) (acc n : Nat) (b : UInt8) (d : Nat), Lib.decFrom acc l = some n → Lib.digitVal b = some d → Lib.decFrom acc (l ++ [b]) = some (n * 10 + d)
  | [], acc, n, b, d, h, hd => by
    simp only [Lib.decFrom, Option.some.injEq] at h
    subst h
    simp [Lib.decFrom, hd]
  | c :: r, acc, n, b, d, h, hd => by
    simp only [List.cons_append, Lib.decFrom] at h ⊢
    cases hc : Lib.digitVal c with
    | none => rw [hc] at h; simp at h
    | some e =>
      rw [hc] at h
      simp only at h ⊢
      exact decFrom_snoc r _ n b d h hd
theorem digitVal_of {d : Nat} (h : d < 10) : Lib.digitVal (UInt8.ofNat (48 + d)) = some d := by
  unfold Lib.digitVal
  have : (UInt8.ofNat (48 + d)).toNat = 48 + d := by simp; omega
  rw [this, if_pos (by omega)]
  simp
theorem decDigits_val (u : Nat) : Lib.decFrom 0 (Lib.decDigits u) = some u := by
  induction u using Nat.strongRecOn with
  | _ u ih =>
    rw [Lib.decDigits]
    by_cases h : u < 10
    · rw [dif_pos h]
      simp only [Lib.decFrom, digitVal_of h]
      congr 1; omega
    · rw [dif_neg h]
      have := decFrom_snoc _ 0 (u / 10) (UInt8.ofNat (48 + u % 10)) (u % 10) (ih (u / 10) (by omega)) (digitVal_of (by omega))
      rw [this]
      congr 1; omega
theorem decFrom_ge : ∀ (l : List UInt8) (acc n : Nat), Lib.decFrom acc l = some n → acc ≤ n
  | [], acc, n, h => by simp only [Lib.decFrom, Option.some.injEq] at h; omega
  | c :: r, acc, n, h => by
    simp only [Lib.decFrom] at h
    cases hc : Lib.digitVal c with
    | none => rw [hc] at h; simp at h
    | some e =>
      rw [hc] at h
      have := decFrom_ge r _ n h
      omega
theorem parse_dec : ∀ (l : List UInt8) (acc n : Nat), Lib.decFrom acc l = some n → n < 9223372036854775808 → Lib.parseUint10 acc l = .ok n
  | [], acc, n, h, _ => by simp only [Lib.decFrom, Option.some.injEq] at h; subst h; rfl
  | c :: r, acc, n, h, hn => by
    simp only [Lib.decFrom] at h
    unfold Lib.digitVal at h
    by_cases hc : 48 ≤ c.toNat ∧ c.toNat ≤ 57
    · rw [if_pos hc] at h
      simp only at h
      have := decFrom_ge r _ n h
      unfold Lib.parseUint10
      rw [if_pos hc, if_neg (by omega), if_neg (by omega)]
      exact parse_dec r _ n h hn
    · rw [if_neg hc] at h; simp at h
theorem decDigits_head (u : Nat) : ∃ c r, Lib.decDigits u = c :: r ∧ 48 ≤ c.toNat ∧ c.toNat ≤ 57 := by
  have h1 := decDigits_val u
  cases hl : Lib.decDigits u with
  | nil =>
    have := Lib.decDigits_length u
    rw [hl] at this
    have := Lib.nDigits_pos u
    simp at *
    omega
  | cons c r =>
    refine ⟨c, r, rfl, ?_⟩
    rw [hl] at h1
    simp only [Lib.decFrom] at h1
    unfold Lib.digitVal at h1
    by_cases hc : 48 ≤ c.toNat ∧ c.toNat ≤ 57
    · exact hc
    · rw [if_neg hc] at h1; simp at h1
theorem mag_dec {u : Nat} (h : u < 9223372036854775808) : Lib.parseMag (Lib.decDigits u) = .ok u := by
  obtain ⟨c, r, hl, -⟩ := decDigits_head u
  unfold Lib.parseMag
  rw [if_neg (by rw [hl]; simp)]
  exact parse_dec _ _ _ (decDigits_val u) h
theorem atoi_itoa {n : Int} (h1 : -2147483648 ≤ n) (h2 : n ≤ 2147483648) : Lib.atoiAll (Lib.itoa n) = .ok n := by
  unfold Lib.itoa
  by_cases hn : n < 0
  · rw [if_pos hn]
    unfold Lib.atoiAll
    simp only
    rw [if_pos (by decide), mag_dec (by omega)]
    simp only
    rw [if_neg (by simp), if_neg (by omega), if_pos (by decide)]
    congr 1; omega
  · rw [if_neg hn]
    obtain ⟨c, r, hl, hc1, hc2⟩ := decDigits_head n.toNat
    have hm := mag_dec (u := n.toNat) (by omega)
    rw [hl] at hm ⊢
    unfold Lib.atoiAll
    simp only
    rw [if_neg (by omega), hm]
    simp only
    rw [if_neg (by omega), if_neg (by omega), if_neg (by omega)]
    congr 1; omega
theorem itoa_lt (n : Int) : ∀ c ∈ itoa n, c < 256 := by
  intro c hc
  unfold itoa at hc
  obtain ⟨b, _, rfl⟩ := List.mem_map.1 hc
  exact b.toNat_lt
theorem map_back (l : List UInt8) : (l.map UInt8.toNat).map UInt8.ofNat = l := by
  rw [List.map_map]
  conv => rhs; rw [← List.map_id l]
  exact List.map_congr_left (fun c _ => by simp)
theorem atoiV_itoa {n : Int} (h1 : -2147483648 ≤ n) (h2 : n ≤ 2147483648) : atoiV (itoa n) = some n := by
  unfold atoiV itoa
  rw [map_back, atoi_itoa h1 h2]
theorem atoiV_other {c : Nat} {r : List Nat} (hc : c < 256) (h : ¬ (48 ≤ c ∧ c ≤ 57)) (h3 : c ≠ 43) (h5 : c ≠ 45) : atoiV (c :: r) = none := by
  have hcc : (UInt8.ofNat c).toNat = c := by simp; omega
  unfold atoiV
  rw [List.map_cons]
  unfold Lib.atoiAll
  simp only [hcc]
  rw [if_neg (by omega)]
  unfold Lib.parseMag
  rw [if_neg (by simp)]
  unfold Lib.parseUint10
  rw [hcc, if_neg h]

/-- THE LAW: what is written is read as it was -/
theorem parse_text {v : Val} (hb : ∀ c ∈ v.s, c < 256) (h : may v = true) : parse (text v) = some v := by
  obtain ⟨k, n, s⟩ := v
  simp only at hb
  have hm := h
  unfold may at h
  simp only [Bool.or_eq_true, Bool.and_eq_true, beq_iff_eq, decide_eq_true_eq] at h
  have key : guess (text ⟨k, n, s⟩) = some ⟨k, n, s⟩ := by
    rcases h with ⟨rfl, rfl, h1, h2⟩ | ⟨rfl, rfl, h1⟩
    · unfold text guess
      rw [if_pos rfl, atoiV_itoa (by simp only; omega) (by simp only; omega)]
    · unfold text
      rw [if_neg (show ¬ (2 : Int) = 1 by decide)]
      simp only
      by_cases hn : name s = true
      · rw [if_pos hn]
        unfold name wordB at hn
        simp only [Bool.and_eq_true, decide_eq_true_eq] at hn
        obtain ⟨-, h3, h4, h5, h6⟩ := hn
        cases s with
        | nil => simp at h3
        | cons c r =>
          unfold Lx.small at h5
          simp only [List.headD_cons, Bool.and_eq_true] at h5
          have h51 : 97 ≤ c := of_decide_eq_true h5.1
          have h52 : c ≤ 122 := of_decide_eq_true h5.2
          unfold guess
          rw [atoiV_other (by omega) (by omega) (by omega) (by omega)]
          have hne : ¬ (1 < (c :: r).length ∧ (c :: r).headD 0 = 34) := by simp only [List.headD_cons]; omega
          simp only [if_neg hne]
      · rw [if_neg hn]
        unfold quoted guess
        rw [atoiV_other (by omega) (by omega) (by omega) (by omega)]
        simp only
        rw [if_pos ⟨by simp, rfl⟩]
        have : (List.drop 1 (List.take ((34 :: (List.flatMap qb s ++ [34])).length - 1) (34 :: (List.flatMap qb s ++ [34])))) = List.flatMap qb s := by
          simp
        rw [this, uq_q s hb]
        rfl
  unfold parse
  rw [key]
  exact if_pos ⟨hm, rfl⟩
theorem parse_back {l : List Nat} {v : Val} (h : parse l = some v) : may v = true ∧ text v = l := by
  unfold parse at h
  split at h
  · simp at h
  · split at h
    · rename_i hh
      simp only [Option.some.injEq] at h
      subst h
      exact hh
    · simp at h
end Go.Proofs.YtppigckioalhhaaGreatDoorR.Va
namespace Go.Proofs.YtppigckioalhhaaGreatDoorR.Va
open Cod (str)
set_option linter.unusedSimpArgs false
set_option linter.unusedVariables false

def hf (c : Nat) : Option Nat := if 48 ≤ c ∧ c ≤ 57 then some (c - 48) else if 65 ≤ c ∧ c ≤ 70 then some (c - 55) else none
def dcF : Nat → Nat → List Nat → Option Nat
  | _, n, [] => some n
  | i, n, c :: r => if Lx.digit c = true ∧ i ≤ 11 then dcF (i + 1) (n * 10 + (c - 48)) r else none
def dec (l : List Nat) : Option Int := if l.headD 0 = 45 then (dcF 0 0 (l.drop 1)).map (fun (n : Nat) => -(n : Int)) else (dcF 0 0 l).map (fun (n : Nat) => (n : Int))
def hx2 (r : List Nat) : Option Nat := match hf (r.headD 0), hf ((r.drop 1).headD 0) with | some a, some b => some (a * 16 + b) | _, _ => none
def ruqF : Nat → List Nat → List Nat
  | k + 1, c :: x :: r =>
    if c ≠ 92 then c :: ruqF k (x :: r)
    else if x = 110 then 10 :: ruqF k r
    else match (if x = 120 ∧ 3 ≤ r.length then hx2 r else none) with
      | some b => b :: ruqF k (r.drop 2)
      | none => x :: ruqF k r
  | _, _ => []
def ruq (l : List Nat) : List Nat := ruqF (l.length + 1) (l.drop 1)
def rguess (l : List Nat) : Option Val :=
  if l.headD 0 = 45 ∨ Lx.digit (l.headD 0) = true then (dec l).map (fun n => ⟨1, n, []⟩)
  else if l.headD 0 = 34 then some ⟨2, 0, ruq l⟩ else some ⟨2, 0, l⟩
def rparse (l : List Nat) : Option Val :=
  if 258 < l.length ∨ l = [] then none else
  match rguess l with
  | none => none
  | some v => if may v = true ∧ text v = l then some v else none

theorem hf_hexd {n : Nat} (h : n < 16) : hf (hexd n) = some n := by
  have : ∀ m : Fin 16, hf (hexd m.val) = some m.val := by decide
  exact this ⟨n, h⟩
theorem ruqF_one (k c x : Nat) (r : List Nat) (h : c ≠ 92) : ruqF (k + 1) (c :: x :: r) = c :: ruqF k (x :: r) := by
  simp only [ruqF]; rw [if_pos h]
theorem ruqF_esc (k x : Nat) (r : List Nat) : ruqF (k + 1) (92 :: x :: r) = if x = 110 then 10 :: ruqF k r else match (if x = 120 ∧ 3 ≤ r.length then hx2 r else none) with | some b => b :: ruqF k (r.drop 2) | none => x :: ruqF k r := by
  simp only [ruqF]; rw [if_neg (by simp)]
theorem ruqF_end (k : Nat) (l : List Nat) (h : l.length < 2) : ruqF k l = [] := by
  match k, l, h with
  | 0, _, _ => unfold ruqF; rfl
  | k + 1, [], _ => unfold ruqF; rfl
  | k + 1, [_], _ => unfold ruqF; rfl
theorem ruqF_q : ∀ (l : List Nat) (k : Nat), (∀ c ∈ l, c < 256) → (l.flatMap qb).length < k → ruqF k (l.flatMap qb ++ [34]) = l
  | [], k, _, h => ruqF_end _ _ (by simp)
  | c :: r, k, hb, h => by
    obtain ⟨j, rfl⟩ : ∃ j, k = j + 1 := ⟨k - 1, by omega⟩
    have hc := hb c (by simp)
    have ih := fun j hj => ruqF_q r j (fun x hx => hb x (by simp [hx])) hj
    rw [List.flatMap_cons] at h ⊢
    generalize List.flatMap qb r = u at *
    by_cases h1 : c = 34 ∨ c = 92
    · have hq : qb c = [92, c] := by unfold qb; rw [if_pos h1]
      rw [hq] at h ⊢
      simp only [List.cons_append, List.nil_append, List.length_cons] at h ⊢
      rw [ruqF_esc, if_neg (by omega), if_neg (by omega)]
      simp only
      rw [ih j (by omega)]
    · by_cases h2 : c = 10
      · have hq : qb c = [92, 110] := by unfold qb; rw [if_neg h1, if_pos h2]
        rw [hq] at h ⊢
        simp only [List.cons_append, List.nil_append, List.length_cons] at h ⊢
        rw [ruqF_esc, if_pos rfl, ih j (by omega), h2]
      · by_cases h3 : c < 32 ∨ 126 < c
        · have hq : qb c = [92, 120, hexd (c / 16), hexd (c % 16)] := by unfold qb; rw [if_neg h1, if_neg h2, if_pos h3]
          rw [hq] at h ⊢
          simp only [List.cons_append, List.nil_append, List.length_cons] at h ⊢
          have hx : hx2 (hexd (c / 16) :: hexd (c % 16) :: (u ++ [34])) = some c := by
            unfold hx2
            simp only [List.headD_cons, List.drop_succ_cons, List.drop_zero]
            rw [hf_hexd (by omega), hf_hexd (by omega)]
            simp only
            congr 1; omega
          rw [ruqF_esc, if_neg (by omega), if_pos ⟨rfl, by simp⟩, hx]
          simp only [List.drop_succ_cons, List.drop_zero]
          rw [ih j (by omega)]
        · have hq : qb c = [c] := by unfold qb; rw [if_neg h1, if_neg h2, if_neg h3]
          rw [hq] at h ⊢
          simp only [List.cons_append, List.nil_append, List.length_cons] at h ⊢
          have hu := ih j (by omega)
          cases hu2 : u ++ [34] with
          | nil => simp at hu2
          | cons x t =>
            rw [hu2] at hu
            rw [ruqF_one _ _ _ _ (by omega), hu]
theorem ruq_q (l : List Nat) (hb : ∀ c ∈ l, c < 256) : ruq (quoted l) = l := by
  unfold ruq quoted
  rw [List.drop_succ_cons, List.drop_zero]
  exact ruqF_q l _ hb (by simp; omega)
theorem digit_iff (c : Nat) : Lx.digit c = true ↔ 48 ≤ c ∧ c ≤ 57 := by
  unfold Lx.digit
  simp
theorem dcF_dec : ∀ (l : List UInt8) (i acc n : Nat), Lib.decFrom acc l = some n → i + l.length ≤ 12 → dcF i acc (l.map UInt8.toNat) = some n
  | [], i, acc, n, h, _ => by simp only [Lib.decFrom, Option.some.injEq] at h; subst h; rfl
  | c :: r, i, acc, n, h, hl => by
    simp only [Lib.decFrom] at h
    unfold Lib.digitVal at h
    by_cases hc : 48 ≤ c.toNat ∧ c.toNat ≤ 57
    · rw [if_pos hc] at h
      simp only at h
      simp only [List.length_cons] at hl
      rw [List.map_cons]
      unfold dcF
      rw [if_pos ⟨(digit_iff _).2 hc, by omega⟩]
      have e : acc * 10 + (c.toNat - 48) = acc * 10 + (c.toNat - 48) := rfl
      exact dcF_dec r _ _ n h (by omega)
    · rw [if_neg hc] at h; simp at h
theorem nDg : ∀ (k u : Nat), u < 10 ^ (k + 1) → Lib.nDigits u ≤ k + 1
  | 0, u, h => by rw [Lib.nDigits_small (by simpa using h)]; omega
  | k + 1, u, h => by
    by_cases h0 : u < 10
    · rw [Lib.nDigits_small h0]; omega
    · rw [Lib.nDigits_big h0]
      have := nDg k (u / 10) (by rw [Nat.pow_succ] at h; omega)
      omega
theorem nDig (u : Nat) (h : u ≤ 2147483647) : (Lib.decDigits u).length ≤ 11 := by
  rw [Lib.decDigits_length]
  exact nDg 10 u (by omega)
theorem dec_itoa {n : Int} (h1 : -2147483647 ≤ n) (h2 : n ≤ 2147483647) : dec (itoa n) = some n ∧ ((itoa n).headD 0 = 45 ∨ Lx.digit ((itoa n).headD 0) = true) ∧ (itoa n).length ≤ 258 ∧ itoa n ≠ [] := by
  unfold itoa Lib.itoa
  by_cases hn : n < 0
  · rw [if_pos hn, List.map_cons]
    have hd := dcF_dec _ 0 0 _ (decDigits_val n.natAbs) (by have := nDig n.natAbs (by omega); omega)
    have hl := nDig n.natAbs (by omega)
    refine ⟨?_, .inl rfl, by simp; omega, by simp⟩
    unfold dec
    rw [if_pos (by rfl), List.drop_succ_cons, List.drop_zero, hd]
    simp only [Option.map_some]
    congr 1; omega
  · rw [if_neg hn]
    obtain ⟨c, r, hl, hc1, hc2⟩ := decDigits_head n.toNat
    have hd := dcF_dec _ 0 0 _ (decDigits_val n.toNat) (by have := nDig n.toNat (by omega); omega)
    have hll := nDig n.toNat (by omega)
    rw [hl] at hd hll ⊢
    rw [List.map_cons] at hd ⊢
    refine ⟨?_, .inr ((digit_iff _).2 ⟨hc1, hc2⟩), by simp at hll ⊢; omega, by simp⟩
    unfold dec
    rw [if_neg (by simp only [List.headD_cons]; omega), hd]
    simp only [Option.map_some]
    congr 1; omega
theorem flatq_len : ∀ l : List Nat, (l.flatMap qb).length ≤ 4 * l.length
  | [] => by simp
  | c :: r => by
    have ih := flatq_len r
    have : (qb c).length ≤ 4 := by
      unfold qb
      split
      · simp
      · split
        · simp
        · split <;> simp
    rw [List.flatMap_cons, List.length_append, List.length_cons]
    omega
/-- the reference reads a text that is one as the value whose text it is -/
theorem rguess_text {v : Val} (hb : ∀ c ∈ v.s, c < 256) (h : may v = true) : rguess (text v) = some v ∧ (text v).length ≤ 258 ∧ text v ≠ [] := by
  obtain ⟨k, n, s⟩ := v
  simp only at hb
  unfold may at h
  simp only [Bool.or_eq_true, Bool.and_eq_true, beq_iff_eq, decide_eq_true_eq] at h
  rcases h with ⟨rfl, rfl, h1, h2⟩ | ⟨rfl, rfl, h1⟩
  · obtain ⟨e1, e2, e3, e4⟩ := dec_itoa h1 h2
    unfold text
    rw [if_pos rfl]
    refine ⟨?_, e3, e4⟩
    unfold rguess
    rw [if_pos e2, e1]; rfl
  · unfold text
    rw [if_neg (show ¬ (2 : Int) = 1 by decide)]
    simp only
    by_cases hn : name s = true
    · rw [if_pos hn]
      unfold name wordB at hn
      simp only [Bool.and_eq_true, decide_eq_true_eq] at hn
      obtain ⟨-, h3, h4, h5, h6⟩ := hn
      unfold Lx.small at h5
      simp only [Bool.and_eq_true] at h5
      have h51 : 97 ≤ s.headD 0 := of_decide_eq_true h5.1
      refine ⟨?_, by omega, h3⟩
      unfold rguess
      rw [if_neg (by rw [digit_iff]; omega), if_neg (by omega)]
    · rw [if_neg hn]
      refine ⟨?_, ?_, by unfold quoted; simp⟩
      · unfold rguess
        have hh : (quoted s).headD 0 = 34 := rfl
        rw [hh, if_neg (by rw [digit_iff]; omega), if_pos rfl, ruq_q s hb]
      · have := flatq_len s
        unfold quoted
        rw [List.length_cons, List.length_append, List.length_singleton]
        omega
/-- THE LAW: both read alike -/
theorem rparse_eq {l : List Nat} (hp : ∀ v, parse l = some v → ∀ c ∈ v.s, c < 256) (hr : ∀ v, rguess l = some v → ∀ c ∈ v.s, c < 256) : rparse l = parse l := by
  cases h : parse l with
  | some v =>
    obtain ⟨hm, ht⟩ := parse_back h
    obtain ⟨e1, e2, e3⟩ := rguess_text (hp v h) hm
    rw [ht] at e1 e2 e3
    unfold rparse
    rw [if_neg (by rintro (h | h); omega; exact e3 h), e1]
    simp only
    rw [if_pos ⟨hm, ht⟩]
  | none =>
    unfold rparse
    split
    · rfl
    · cases hg : rguess l with
      | none => rfl
      | some v =>
        simp only
        split
        · rename_i hh
          have := parse_text (hr v hg) hh.1
          rw [hh.2, h] at this
          cases this
        · rfl
theorem hx2_lt {r : List Nat} {b : Nat} (h : hx2 r = some b) : b < 256 := by
  unfold hx2 at h
  have hlt : ∀ c d, hf c = some d → d < 16 := fun c d hd => by
    unfold hf at hd
    split at hd
    · simp at hd; omega
    · split at hd
      · simp at hd; omega
      · simp at hd
  split at h
  · rename_i a c ha hc
    have := hlt _ _ ha
    have := hlt _ _ hc
    simp at h; omega
  · simp at h
theorem ruqF_lt : ∀ (k : Nat) (l : List Nat), (∀ c ∈ l, c < 256) → ∀ c ∈ ruqF k l, c < 256
  | 0, l, _ => by intro c hc; unfold ruqF at hc; simp at hc
  | k + 1, [], _ => by intro c hc; unfold ruqF at hc; simp at hc
  | k + 1, [x], _ => by intro c hc; unfold ruqF at hc; simp at hc
  | k + 1, c :: x :: r, hb => by
    have hx := hb x (by simp)
    have ih1 := ruqF_lt k (x :: r) (fun d hd => hb d (List.mem_cons_of_mem _ hd))
    have ih2 := ruqF_lt k r (fun d hd => hb d (by simp [hd]))
    have ih3 := ruqF_lt k (r.drop 2) (fun d hd => hb d (by simp [List.mem_of_mem_drop hd]))
    have hc := hb c (by simp)
    intro d hd
    by_cases e : c = 92
    · subst e
      rw [ruqF_esc] at hd
      split at hd
      · rcases List.mem_cons.1 hd with rfl | h
        · decide
        · exact ih2 d h
      · split at hd
        · rename_i b hb2
          have : b < 256 := by
            split at hb2
            · exact hx2_lt hb2
            · simp at hb2
          rcases List.mem_cons.1 hd with rfl | h
          · exact this
          · exact ih3 d h
        · rcases List.mem_cons.1 hd with rfl | h
          · exact hx
          · exact ih2 d h
    · rw [ruqF_one _ _ _ _ e] at hd
      rcases List.mem_cons.1 hd with rfl | h
      · exact hc
      · exact ih1 d h
end Go.Proofs.YtppigckioalhhaaGreatDoorR.Va
