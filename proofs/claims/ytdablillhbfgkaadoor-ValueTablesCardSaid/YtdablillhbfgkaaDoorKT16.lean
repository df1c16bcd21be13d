/- THE TEXTS MERGED: VtPlay9 VtPlayA VtStr VtNo. -/
import Derived.Test.YtdablillhbfgkaaDoorKT13
import Derived.Test.YtdablillhbfgkaaDoorKT14
import Derived.Test.YtdablillhbfgkaaDoorKT15
import Derived.StringKeys
namespace Go.Proofs.YtdablillhbfgkaaDoor
open Go.RowKit Go.Maps Go.Shelf
set_option linter.unusedVariables false
set_option linter.unusedSimpArgs false
set_option maxRecDepth 100000
set_option maxHeartbeats 8000000 in
theorem play9_0 (w0:World) (wb M:Nat) (cs:Array Value) (sv:Nat->SV) (hd:Value) (of:Nat) (n:Int) (v:Va.Val) (hv:VIn v) (hM:∀ k,k<2->(sv k).l.length<=M) (hM2:M<=4398046511102) (w:World) (hW:Wo w0 w wb cs sv hd of) :
  Calls Tryd.prog 8 #[.pointer (some ⟨wb,0,none⟩),.agg #[.bool false,.int .i64 9,.int .i64 n,.int .i64 v.k,.int .i64 v.n,.string (Lx.ofS v.s)]] w (PlayR w0 wb M):=by
 have mA:=(Mod.refl [] w).alloc (Obj.cells #[.bool false,.int .i64 9,.int .i64 n,.int .i64 v.k,.int .i64 v.n,.string (Lx.ofS v.s)] 38)
 have eA:=heap_alloc_new w (Obj.cells #[.bool false,.int .i64 9,.int .i64 n,.int .i64 v.k,.int .i64 v.n,.string (Lx.ofS v.s)] 38)
 obtain ⟨R,hR⟩:∃ R,R=PlayR w0 wb M:=⟨_,rfl⟩
 rw [<-hR]
 have HR:=Lib.hid hR;have HW:=Lib.hid hW
 have hnil:=seq2_nil
 clear hR hW
 go_enter Tryd.func8,Tryd.ntmps8
 go_upto_region 2 with fail
 generalize w.alloc (Obj.cells _ 38)=x0 at *
 generalize hb3:w.heap.size=b3 at *
 have W0:=Hxq (HW.out.past mA);have MA:=Lib.hid mA;have EA:=Lib.hid eA
 clear mA
 have d:=fun j=>cell_at eA j
 have d0:=d 0;have d1:=d 1;have d2:=d 2;have d3:=d 3;have d4:=d 4;have d5:=d 5
 simp only [List.getElem?_toArray,List.getElem?_cons_zero,List.getElem?_cons_succ] at d0 d1 d2 d3 d4 d5
 clear d eA
 have P:=Hxq (W0.out.pl 0 (by omega))
 have cP:x0.cell? ⟨wb,0,none⟩=some (.pointer (some ⟨(sv 0).p,0,none⟩)):=(cell_at P.out.blk 0).trans P.out.c0
 have cX:x0.cell? ⟨wb,2,none⟩=some (sv 0).x:=(cell_at P.out.blk 2).trans P.out.c2
 have cH:x0.cell? ⟨wb,4,none⟩=some hd:=(cell_at P.out.blk 4).trans W0.out.c4
 have cO:x0.cell? ⟨wb,5,none⟩=some (.int .i64 (of:Nat)):=(cell_at P.out.blk 5).trans W0.out.c5
 have hlM:=hM 0 (by omega)
 rcases W0.out.held with rfl | ⟨q,rfl,hbox,hqw,hqF⟩
 ·have hnn:=seq2_neq_nil
  go_wp2_with fail
  rw [HR.out]
  exact PlayR.same W0.out hM (Mod.refl [] _)
 ·have hnn:=seq2_neq
  have W0':=Lib.hid W0.out
  have HBX:=Lib.hid hbox;have HQF:=Lib.hid hqF
  have hl2:=hM of W0.out.of2
  unfold tabF at cH
  clear hbox hqF
  go_upto_region 35 with fail
  refine tl_region (fun wS=>Mod [] x0 wS) [0,1,2,3,5,6,7,9,11,13,15,16] (by kernel_rfl) ?_
  have hHeld:Mod [] x0 x0.drew:=(Mod.refl [] x0).drew
  try simp only [Act.put,Lq1,Lq2,Lq3]
  generalize x0.drew=wd2 at *
  refine TlAny.pure 0 (v:=?_) ?_ ?_ ?_
  rotate_left 1
  ·refine Or.inl ⟨by rfl,?_⟩
   intro wS _
   go_simp
   all_goals with_reducible rfl
  ·exact fun _ _ _ h=>h
  try simp only [Act.put,Lq1,Lq2,Lq3]
  refine TlAny.pure 1 (v:=?_) ?_ ?_ ?_
  rotate_left 1
  ·refine Or.inl ⟨by rfl,?_⟩
   intro wS _
   go_simp
   all_goals with_reducible rfl
  ·exact fun _ _ _ h=>h
  try simp only [Act.put,Lq1,Lq2,Lq3]
  refine TlAny.pure 2 (v:=?_) ?_ ?_ ?_
  rotate_left 1
  ·refine Or.inl ⟨by rfl,?_⟩
   intro wS _
   go_simp
   all_goals with_reducible rfl
  ·exact fun _ _ _ h=>h
  try simp only [Act.put,Lq1,Lq2,Lq3]
  refine TlAny.pure 3 (v:=?_) ?_ ?_ ?_
  rotate_left 1
  ·refine Or.inl ⟨by rfl,?_⟩
   intro wS _
   go_simp
   all_goals with_reducible rfl
  ·exact fun _ _ _ h=>h
  try simp only [Act.put,Lq1,Lq2,Lq3]
  refine TlAny.pure 5 (v:=?_) ?_ ?_ ?_
  rotate_left 1
  ·refine Or.inl ⟨by rfl,?_⟩
   intro wS _
   go_simp
   all_goals with_reducible rfl
  ·exact fun _ _ _ h=>h
  try simp only [Act.put,Lq1,Lq2,Lq3]
  refine TlAny.pure 6 (v:=?_) ?_ ?_ ?_
  rotate_left 1
  ·refine Or.inl ⟨by rfl,?_⟩
   intro wS _
   go_simp
   all_goals with_reducible rfl
  ·exact fun _ _ _ h=>h
  try simp only [Act.put,Lq1,Lq2,Lq3]
  refine TlAny.pure 7 (v:=?_) ?_ ?_ ?_
  rotate_left 1
  ·refine Or.inl ⟨by rfl,?_⟩
   intro wS _
   go_simp
   all_goals with_reducible rfl
  ·exact fun _ _ _ h=>h
  try simp only [Act.put,Lq1,Lq2,Lq3]
  refine TlAny.pure 9 (v:=?_) ?_ ?_ ?_
  rotate_left 1
  ·refine Or.inl ⟨by rfl,?_⟩
   intro wS _
   go_simp
   all_goals with_reducible rfl
  ·exact fun _ _ _ h=>h
  try simp only [Act.put,Lq1,Lq2,Lq3]
  refine TlAny.pure 11 (v:=?_) ?_ ?_ ?_
  rotate_left 1
  ·refine Or.inl ⟨by rfl,?_⟩
   intro wS _
   go_simp
   all_goals with_reducible rfl
  ·exact fun _ _ _ h=>h
  try simp only [Act.put,Lq1,Lq2,Lq3]
  refine TlAny.pure 13 (v:=?_) ?_ ?_ ?_
  rotate_left 1
  ·refine Or.inl ⟨by rfl,?_⟩
   intro wS _
   go_simp
   all_goals with_reducible rfl
  ·exact fun _ _ _ h=>h
  try simp only [Act.put,Lq1,Lq2,Lq3]
  refine TlAny.take 4 (v:=?_) hHeld ?_ ?_ ?_
  rotate_left 1
  ·refine Or.inl ⟨by rfl,?_⟩
   intro wS hSw
   replace hSw:Mod [] x0 wS:=hSw
   have p:=hSw.cell cH (by simp)
   clear hSw
   go_simp
   all_goals with_reducible rfl
  ·exact fun _ _ _ h=>h
  try simp only [Act.put,Lq1,Lq2,Lq3]
  refine TlAny.take 8 (v:=?_) hHeld ?_ ?_ ?_
  rotate_left 1
  ·refine Or.inl ⟨by rfl,?_⟩
   intro wS hSw
   replace hSw:Mod [] x0 wS:=hSw
   have p:=hSw.cell cO (by simp)
   clear hSw
   go_simp
   all_goals with_reducible rfl
  ·exact fun _ _ _ h=>h
  try simp only [Act.put,Lq1,Lq2,Lq3]
  refine TlAny.take 10 (v:=?_) hHeld ?_ ?_ ?_
  rotate_left 1
  ·refine Or.inl ⟨by rfl,?_⟩
   intro wS hSw
   replace hSw:Mod [] x0 wS:=hSw
   have p:=hSw.cell d2 (by simp)
   clear hSw
   go_simp
   all_goals with_reducible rfl
  ·exact fun _ _ _ h=>h
  try simp only [Act.put,Lq1,Lq2,Lq3]
  refine TlAny.take 12 (v:=?_) hHeld ?_ ?_ ?_
  rotate_left 1
  ·refine Or.inl ⟨by rfl,?_⟩
   intro wS hSw
   replace hSw:Mod [] x0 wS:=hSw
   have p:=hSw.cell d0 (by simp)
   clear hSw
   go_simp
   all_goals with_reducible rfl
  ·exact fun _ _ _ h=>h
  try simp only [Act.put,Lq1,Lq2,Lq3]
  refine TlAny.take 14 (v:=?_) hHeld ?_ ?_ ?_
  rotate_left 1
  ·refine Or.inl ⟨by rfl,?_⟩
   intro wS hSw
   replace hSw:Mod [] x0 wS:=hSw
   have p0:=hSw.cell d3 (by simp);have p1:=hSw.cell d4 (by simp);have p2:=hSw.cell d5 (by simp)
   clear hSw
   go_simp
   all_goals with_reducible rfl
  ·exact fun _ _ _ h=>h
  try simp only [Act.put,Lq1,Lq2,Lq3]
  have W2:=W0'.out.past hHeld
  refine TlAny.one 15 ?_
  intro K hK
  go_simp
  refine Calls.mono (walks_any wb of q cs (sv of) v n false hv (by omega) wd2 (W2.pl of W2.of2) (hHeld.at HBX.out (by simp)) hqw (HQF.out of W2.of2)) ?_
  rintro e3 w3 hr
  have HR2:=Hxq (PlayR.walk W2 hM W2.of2 (Mod.refl [] wd2) hr)
  obtain ⟨rfl,-⟩:=hr
  refine hK.out _ _ (fun hN=>absurd hN (by decide)) ?_
  clear hK K
  try simp only [Act.put,Lq1,Lq2,Lq3]
  refine TlAny.pure 16 (v:=?_) ?_ ?_ ?_
  rotate_left 1
  ·refine Or.inl ⟨by rfl,?_⟩
   intro wS _
   go_simp
   all_goals with_reducible rfl
  ·exact fun _ _ _ h=>h
  try simp only [Act.put,Lq1,Lq2,Lq3]
  refine TlAny.fin ?_
  clear hHeld W2
  go_wp2_with fail
  rw [HR.out]
  exact HR2.out
set_option maxHeartbeats 8000000 in
theorem play9_1 (w0:World) (wb M:Nat) (cs:Array Value) (sv:Nat->SV) (hd:Value) (of:Nat) (n:Int) (v:Va.Val) (hv:VIn v) (hM:∀ k,k<2->(sv k).l.length<=M) (hM2:M<=4398046511102) (w:World) (hW:Wo w0 w wb cs sv hd of) :
  Calls Tryd.prog 8 #[.pointer (some ⟨wb,0,none⟩),.agg #[.bool true,.int .i64 9,.int .i64 n,.int .i64 v.k,.int .i64 v.n,.string (Lx.ofS v.s)]] w (PlayR w0 wb M):=by
 have mA:=(Mod.refl [] w).alloc (Obj.cells #[.bool true,.int .i64 9,.int .i64 n,.int .i64 v.k,.int .i64 v.n,.string (Lx.ofS v.s)] 38)
 have eA:=heap_alloc_new w (Obj.cells #[.bool true,.int .i64 9,.int .i64 n,.int .i64 v.k,.int .i64 v.n,.string (Lx.ofS v.s)] 38)
 obtain ⟨R,hR⟩:∃ R,R=PlayR w0 wb M:=⟨_,rfl⟩
 rw [<-hR]
 have HR:=Lib.hid hR;have HW:=Lib.hid hW
 have hnil:=seq2_nil
 clear hR hW
 go_enter Tryd.func8,Tryd.ntmps8
 go_upto_region 2 with fail
 generalize w.alloc (Obj.cells _ 38)=x0 at *
 generalize hb3:w.heap.size=b3 at *
 have W0:=Hxq (HW.out.past mA);have MA:=Lib.hid mA;have EA:=Lib.hid eA
 clear mA
 have d:=fun j=>cell_at eA j
 have d0:=d 0;have d1:=d 1;have d2:=d 2;have d3:=d 3;have d4:=d 4;have d5:=d 5
 simp only [List.getElem?_toArray,List.getElem?_cons_zero,List.getElem?_cons_succ] at d0 d1 d2 d3 d4 d5
 clear d eA
 have P:=Hxq (W0.out.pl 1 (by omega))
 have cP:x0.cell? ⟨wb,1,none⟩=some (.pointer (some ⟨(sv 1).p,0,none⟩)):=(cell_at P.out.blk 1).trans P.out.c0
 have cX:x0.cell? ⟨wb,3,none⟩=some (sv 1).x:=(cell_at P.out.blk 3).trans P.out.c2
 have cH:x0.cell? ⟨wb,4,none⟩=some hd:=(cell_at P.out.blk 4).trans W0.out.c4
 have cO:x0.cell? ⟨wb,5,none⟩=some (.int .i64 (of:Nat)):=(cell_at P.out.blk 5).trans W0.out.c5
 have hlM:=hM 1 (by omega)
 rcases W0.out.held with rfl | ⟨q,rfl,hbox,hqw,hqF⟩
 ·have hnn:=seq2_neq_nil
  go_wp2_with fail
  rw [HR.out]
  exact PlayR.same W0.out hM (Mod.refl [] _)
 ·have hnn:=seq2_neq
  have W0':=Lib.hid W0.out
  have HBX:=Lib.hid hbox;have HQF:=Lib.hid hqF
  have hl2:=hM of W0.out.of2
  unfold tabF at cH
  clear hbox hqF
  go_upto_region 35 with fail
  refine tl_region (fun wS=>Mod [] x0 wS) [0,1,2,3,5,6,7,9,11,13,15,16] (by kernel_rfl) ?_
  have hHeld:Mod [] x0 x0.drew:=(Mod.refl [] x0).drew
  try simp only [Act.put,Lq1,Lq2,Lq3]
  generalize x0.drew=wd2 at *
  refine TlAny.pure 0 (v:=?_) ?_ ?_ ?_
  rotate_left 1
  ·refine Or.inl ⟨by rfl,?_⟩
   intro wS _
   go_simp
   all_goals with_reducible rfl
  ·exact fun _ _ _ h=>h
  try simp only [Act.put,Lq1,Lq2,Lq3]
  refine TlAny.pure 1 (v:=?_) ?_ ?_ ?_
  rotate_left 1
  ·refine Or.inl ⟨by rfl,?_⟩
   intro wS _
   go_simp
   all_goals with_reducible rfl
  ·exact fun _ _ _ h=>h
  try simp only [Act.put,Lq1,Lq2,Lq3]
  refine TlAny.pure 2 (v:=?_) ?_ ?_ ?_
  rotate_left 1
  ·refine Or.inl ⟨by rfl,?_⟩
   intro wS _
   go_simp
   all_goals with_reducible rfl
  ·exact fun _ _ _ h=>h
  try simp only [Act.put,Lq1,Lq2,Lq3]
  refine TlAny.pure 3 (v:=?_) ?_ ?_ ?_
  rotate_left 1
  ·refine Or.inl ⟨by rfl,?_⟩
   intro wS _
   go_simp
   all_goals with_reducible rfl
  ·exact fun _ _ _ h=>h
  try simp only [Act.put,Lq1,Lq2,Lq3]
  refine TlAny.pure 5 (v:=?_) ?_ ?_ ?_
  rotate_left 1
  ·refine Or.inl ⟨by rfl,?_⟩
   intro wS _
   go_simp
   all_goals with_reducible rfl
  ·exact fun _ _ _ h=>h
  try simp only [Act.put,Lq1,Lq2,Lq3]
  refine TlAny.pure 6 (v:=?_) ?_ ?_ ?_
  rotate_left 1
  ·refine Or.inl ⟨by rfl,?_⟩
   intro wS _
   go_simp
   all_goals with_reducible rfl
  ·exact fun _ _ _ h=>h
  try simp only [Act.put,Lq1,Lq2,Lq3]
  refine TlAny.pure 7 (v:=?_) ?_ ?_ ?_
  rotate_left 1
  ·refine Or.inl ⟨by rfl,?_⟩
   intro wS _
   go_simp
   all_goals with_reducible rfl
  ·exact fun _ _ _ h=>h
  try simp only [Act.put,Lq1,Lq2,Lq3]
  refine TlAny.pure 9 (v:=?_) ?_ ?_ ?_
  rotate_left 1
  ·refine Or.inl ⟨by rfl,?_⟩
   intro wS _
   go_simp
   all_goals with_reducible rfl
  ·exact fun _ _ _ h=>h
  try simp only [Act.put,Lq1,Lq2,Lq3]
  refine TlAny.pure 11 (v:=?_) ?_ ?_ ?_
  rotate_left 1
  ·refine Or.inl ⟨by rfl,?_⟩
   intro wS _
   go_simp
   all_goals with_reducible rfl
  ·exact fun _ _ _ h=>h
  try simp only [Act.put,Lq1,Lq2,Lq3]
  refine TlAny.pure 13 (v:=?_) ?_ ?_ ?_
  rotate_left 1
  ·refine Or.inl ⟨by rfl,?_⟩
   intro wS _
   go_simp
   all_goals with_reducible rfl
  ·exact fun _ _ _ h=>h
  try simp only [Act.put,Lq1,Lq2,Lq3]
  refine TlAny.take 4 (v:=?_) hHeld ?_ ?_ ?_
  rotate_left 1
  ·refine Or.inl ⟨by rfl,?_⟩
   intro wS hSw
   replace hSw:Mod [] x0 wS:=hSw
   have p:=hSw.cell cH (by simp)
   clear hSw
   go_simp
   all_goals with_reducible rfl
  ·exact fun _ _ _ h=>h
  try simp only [Act.put,Lq1,Lq2,Lq3]
  refine TlAny.take 8 (v:=?_) hHeld ?_ ?_ ?_
  rotate_left 1
  ·refine Or.inl ⟨by rfl,?_⟩
   intro wS hSw
   replace hSw:Mod [] x0 wS:=hSw
   have p:=hSw.cell cO (by simp)
   clear hSw
   go_simp
   all_goals with_reducible rfl
  ·exact fun _ _ _ h=>h
  try simp only [Act.put,Lq1,Lq2,Lq3]
  refine TlAny.take 10 (v:=?_) hHeld ?_ ?_ ?_
  rotate_left 1
  ·refine Or.inl ⟨by rfl,?_⟩
   intro wS hSw
   replace hSw:Mod [] x0 wS:=hSw
   have p:=hSw.cell d2 (by simp)
   clear hSw
   go_simp
   all_goals with_reducible rfl
  ·exact fun _ _ _ h=>h
  try simp only [Act.put,Lq1,Lq2,Lq3]
  refine TlAny.take 12 (v:=?_) hHeld ?_ ?_ ?_
  rotate_left 1
  ·refine Or.inl ⟨by rfl,?_⟩
   intro wS hSw
   replace hSw:Mod [] x0 wS:=hSw
   have p:=hSw.cell d0 (by simp)
   clear hSw
   go_simp
   all_goals with_reducible rfl
  ·exact fun _ _ _ h=>h
  try simp only [Act.put,Lq1,Lq2,Lq3]
  refine TlAny.take 14 (v:=?_) hHeld ?_ ?_ ?_
  rotate_left 1
  ·refine Or.inl ⟨by rfl,?_⟩
   intro wS hSw
   replace hSw:Mod [] x0 wS:=hSw
   have p0:=hSw.cell d3 (by simp);have p1:=hSw.cell d4 (by simp);have p2:=hSw.cell d5 (by simp)
   clear hSw
   go_simp
   all_goals with_reducible rfl
  ·exact fun _ _ _ h=>h
  try simp only [Act.put,Lq1,Lq2,Lq3]
  have W2:=W0'.out.past hHeld
  refine TlAny.one 15 ?_
  intro K hK
  go_simp
  refine Calls.mono (walks_any wb of q cs (sv of) v n true hv (by omega) wd2 (W2.pl of W2.of2) (hHeld.at HBX.out (by simp)) hqw (HQF.out of W2.of2)) ?_
  rintro e3 w3 hr
  have HR2:=Hxq (PlayR.walk W2 hM W2.of2 (Mod.refl [] wd2) hr)
  obtain ⟨rfl,-⟩:=hr
  refine hK.out _ _ (fun hN=>absurd hN (by decide)) ?_
  clear hK K
  try simp only [Act.put,Lq1,Lq2,Lq3]
  refine TlAny.pure 16 (v:=?_) ?_ ?_ ?_
  rotate_left 1
  ·refine Or.inl ⟨by rfl,?_⟩
   intro wS _
   go_simp
   all_goals with_reducible rfl
  ·exact fun _ _ _ h=>h
  try simp only [Act.put,Lq1,Lq2,Lq3]
  refine TlAny.fin ?_
  clear hHeld W2
  go_wp2_with fail
  rw [HR.out]
  exact HR2.out
open Go.RowKit Go.Maps
theorem play_any (w0:World) (wb M:Nat) (cs:Array Value) (sv:Nat->SV) (hd:Value) (of:Nat) (other:Bool) (kind n:Int) (v:Va.Val) (hv:VIn v) (hM:∀ k,k<2->(sv k).l.length<=M) (hM2:M<=4398046511102) (w:World) (hW:Wo w0 w wb cs sv hd of) :
  Calls Tryd.prog 8 #[.pointer (some ⟨wb,0,none⟩),.agg #[.bool other,.int .i64 kind,.int .i64 n,.int .i64 v.k,.int .i64 v.n,.string (Lx.ofS v.s)]] w (PlayR w0 wb M):=by
 cases other
 ·by_cases h1:kind=1
  ·subst h1;exact play1_0 w0 wb M cs sv hd of n v hv hM hM2 w hW
  by_cases h2:kind=2
  ·subst h2;exact play2_0 w0 wb M cs sv hd of n v hv hM hM2 w hW
  by_cases h3:kind=3
  ·subst h3;exact play3_0 w0 wb M cs sv hd of n v hv hM hM2 w hW
  by_cases h4:kind=4
  ·subst h4;exact play4_0 w0 wb M cs sv hd of n v hv hM hM2 w hW
  by_cases h5:kind=5
  ·subst h5;exact play5_0 w0 wb M cs sv hd of n v hv hM hM2 w hW
  by_cases h6:kind=6
  ·subst h6;exact play6_0 w0 wb M cs sv hd of n v hv hM hM2 w hW
  by_cases h7:kind=7
  ·subst h7;exact play7_0 w0 wb M cs sv hd of n v hv hM hM2 w hW
  by_cases h8:kind=8
  ·subst h8;exact play8_0 w0 wb M cs sv hd of n v hv hM hM2 w hW
  by_cases h9:kind=9
  ·subst h9;exact play9_0 w0 wb M cs sv hd of n v hv hM hM2 w hW
  exact play0_0 w0 wb M cs sv hd of kind n v hv hM hM2 w hW h1 h2 h3 h4 h5 h6 h7 h8 h9
 ·by_cases h1:kind=1
  ·subst h1;exact play1_1 w0 wb M cs sv hd of n v hv hM hM2 w hW
  by_cases h2:kind=2
  ·subst h2;exact play2_1 w0 wb M cs sv hd of n v hv hM hM2 w hW
  by_cases h3:kind=3
  ·subst h3;exact play3_1 w0 wb M cs sv hd of n v hv hM hM2 w hW
  by_cases h4:kind=4
  ·subst h4;exact play4_1 w0 wb M cs sv hd of n v hv hM hM2 w hW
  by_cases h5:kind=5
  ·subst h5;exact play5_1 w0 wb M cs sv hd of n v hv hM hM2 w hW
  by_cases h6:kind=6
  ·subst h6;exact play6_1 w0 wb M cs sv hd of n v hv hM hM2 w hW
  by_cases h7:kind=7
  ·subst h7;exact play7_1 w0 wb M cs sv hd of n v hv hM hM2 w hW
  by_cases h8:kind=8
  ·subst h8;exact play8_1 w0 wb M cs sv hd of n v hv hM hM2 w hW
  by_cases h9:kind=9
  ·subst h9;exact play9_1 w0 wb M cs sv hd of n v hv hM hM2 w hW
  exact play0_1 w0 wb M cs sv hd of kind n v hv hM hM2 w hW h1 h2 h3 h4 h5 h6 h7 h8 h9
theorem lawStr:Keyed Tryd.prog 9:=string_keyed Tryd.underlying9
def skey (s:ByteArray):Lit:=.string s.data.toList
theorem skey_ne {a b:ByteArray} (h:a≠b):skey a≠skey b:=fun e=>h (by
 have e2:a.data.toList=b.data.toList:=by simpa [skey] using e
 exact ByteArray.ext (Array.toList_inj.1 e2))
theorem key_str (s:ByteArray) (h:s.size<=maxLen):keyOf Tryd.prog 9 (.string s)=some (skey s):=WideMaps.keyOf_string_mk Tryd.underlying9 h
theorem skey_is (s:ByteArray):WideAt.IsKeyLit (skey s):=trivial
/-- a table of texts -/
structure TabS (w:World) (p bm:Nat) (D:DataW Value) (va:Option Addr) (vc:Nat) (l:List ByteArray):Prop where
 at_:w.heap[p]?=some (.cells #[.map (some bm),.slice va l.length vc] 119 (0,0))
 map:w.ownsMap Tryd.prog 9 (plainElem Tryd.prog 3) bm l.length D
 row:w.ownsRow 0 9 1 (.slice va l.length vc) l.length (l.map Value.string)
 ne:p≠bm
 rp:p∉fp (.slice va l.length vc)
 rm:bm∉fp (.slice va l.length vc)
 has:∀ s,Maps.has D (skey s)=true ↔ s∈l
 num:∀ (s:ByteArray) (i:Nat),l[i]?=some s->∀ z,D.atKey (skey s) z=.lit (.int .i64 (i:Nat))
theorem TabS.keep {S:List Nat} {w w':World} {p bm:Nat} {D:DataW Value} {va:Option Addr} {vc:Nat} {l:List ByteArray} (h:TabS w p bm D va vc l) (hm:Mod S w w') (h1:p∉S) (h2:bm∉S) (h3:∀ k∈fp (.slice va l.length vc),k∉S):TabS w' p bm D va vc l :=
 ⟨hm.at h.at_ h1,ownsMap_modT h.map hm h2,hm.owns h.row h3,h.ne,h.rp,h.rm,h.has,h.num⟩
theorem TabS.past {w w':World} {p bm:Nat} {D:DataW Value} {va:Option Addr} {vc:Nat} {l:List ByteArray} (h:TabS w p bm D va vc l) (hm:Mod [] w w'):TabS w' p bm D va vc l:=h.keep hm (by simp) (by simp) (by simp)
theorem TabS.look {w:World} {p bm:Nat} {D:DataW Value} {va:Option Addr} {vc:Nat} {l:List ByteArray} (h:TabS w p bm D va vc l) (s:ByteArray) (hs:s.size<=maxLen) (n:Nat) (b:Bool) (hb:(b=true/\l[n]?=some s)\/(b=false/\n=0/\s∉l)) :
  (Instr.lookup 116 (.map (some bm)) (.string s) true).run Tryd.prog w=.ok (.tuple #[.int .i64 (n:Nat),.bool b]) w:=by
 obtain ⟨x,ps,hrun,hx⟩:=h.map.look_ok lawStr Tryd.underlying116 (z:=.int .i64 0) (by kernel_rfl) (zd:=.lit (.int .i64 0)) (zp:=[]) (plainElem_int Tryd.underlying3 (by decide)) (key_str s hs)
 rw [hrun]
 have hh:=h.has s
 rcases hb with ⟨rfl,hi⟩ | ⟨rfl,rfl,hn⟩
 ·rw [h.num s n hi] at hx
  obtain ⟨a,rfl,hz,-⟩:=plainElem_int_inv Tryd.underlying3 hx
  simp only [Prod.mk.injEq,DataW.lit.injEq,Lit.int.injEq,true_and] at hz
  rw [hh.2 (List.mem_of_getElem? hi),hz.1]
 ·have hf:Maps.has D (skey s)=false:=by
   cases e:Maps.has D (skey s) with
   | false=>rfl
   | true=>exact absurd (hh.1 e) hn
  rw [atKey_of_not_has hf] at hx
  obtain ⟨a,rfl,hz,-⟩:=plainElem_int_inv Tryd.underlying3 hx
  simp only [Prod.mk.injEq,DataW.lit.injEq,Lit.int.injEq,true_and] at hz
  rw [hf,<-hz.1]
  rfl
theorem snew_any (w:World):Calls Tryd.prog 32 #[] w fun e w'=>∃ p bm,e=.returned (.pointer (some ⟨p,0,none⟩))/\TabS w' p bm (.map []) none 0 []/\w.heap.size<=p/\w.heap.size<=bm/\Mod [] w w':=by
 have hmm:=@run_makeMap Tryd.prog
 have mA:=(Mod.refl [] w).alloc (Obj.map #[] 0)
 have eA:=heap_alloc_new w (Obj.map #[] 0)
 have zA:(w.alloc (Obj.map #[] 0)).heap.size=w.heap.size+1:=by simp
 have mB:=(Mod.refl [] (w.alloc (Obj.map #[] 0))).alloc (Obj.cells #[.map (some w.heap.size),.slice none 0 0] 119)
 have eB:=heap_alloc_new (w.alloc (Obj.map #[] 0)) (Obj.cells #[.map (some w.heap.size),.slice none 0 0] 119)
 have hT:TabS ((w.alloc (Obj.map #[] 0)).alloc (Obj.cells #[.map (some w.heap.size),.slice none 0 0] 119)) (w.alloc (Obj.map #[] 0)).heap.size w.heap.size (.map []) none 0 []:=by
  have hb:=mB.at eA (by simp)
  exact ⟨eB,⟨#[],0,hb,⟨by simp,MapKept.stamped_empty 0,by simp⟩,Nat.le_refl _,rfl⟩,World.ownsRow_nil _ _ _ _,by omega,by simp [fp],by simp [fp],fun v=>by simp [Maps.has],by simp⟩
 rw [zA] at hT
 have HT:=Lib.hid hT;have HM:=Hxq (mA.trans mB (by simp));have HZ:=Lib.hid zA
 clear hT mA mB eA eB zA
 go_enter Tryd.func32,Tryd.ntmps32
 go_wp2_with fail
 go_ret
 exact ⟨_,_,rfl,HT.out,by omega,Nat.le_refl _,HM.out⟩
theorem sfind_any (p bm:Nat) (D:DataW Value) (va:Option Addr) (vc:Nat) (l:List ByteArray) (s:ByteArray) (hs:s.size<=maxLen) (n:Nat) (b:Bool) (hb:(b=true/\l[n]?=some s)\/(b=false/\n=0/\s∉l)) (w:World) (h:TabS w p bm D va vc l) :
  Calls Tryd.prog 34 #[.pointer (some ⟨p,0,none⟩),.string s] w fun e w'=>e=.returned (.tuple #[.int .i64 (n:Nat),.bool b])/\w'=w:=by
 have hrun:=h.look s hs n b hb
 have c0:=cell_at h.at_ 0
 simp only [List.getElem?_toArray,List.getElem?_cons_zero] at c0
 clear h hb
 go_enter Tryd.func34,Tryd.ntmps34
 go_wp2_with fail
 go_ret2
 exact ⟨rfl,rfl⟩
theorem sput_old (p bm:Nat) (D:DataW Value) (va:Option Addr) (vc:Nat) (l:List ByteArray) (s:ByteArray) (hs:s.size<=maxLen) (n:Nat) (hb:l[n]?=some s) (w:World) (h:TabS w p bm D va vc l) :
  Calls Tryd.prog 33 #[.pointer (some ⟨p,0,none⟩),.string s] w fun e w'=>e=.returned (.int .i64 (n:Nat))/\w'=w:=by
 have hrun:=h.look s hs n true (.inl ⟨rfl,hb⟩)
 have c0:=cell_at h.at_ 0
 simp only [List.getElem?_toArray,List.getElem?_cons_zero] at c0
 clear h hb
 go_enter Tryd.func33,Tryd.ntmps33
 go_wp2_with fail
 go_ret
 exact ⟨rfl,rfl⟩
set_option maxHeartbeats 4000000 in
theorem sput_new (p bm:Nat) (D:DataW Value) (va:Option Addr) (vc:Nat) (l:List ByteArray) (s:ByteArray) (hs:s.size<=maxLen) (hn:s∉l) (hl:l.length<=10) (w:World) (h:TabS w p bm D va vc l) :
  Calls Tryd.prog 33 #[.pointer (some ⟨p,0,none⟩),.string s] w fun e w'=>e=.returned (.int .i64 (l.length:Nat))/\(∃ D' va' vc',TabS w' p bm D' va' vc' (l++[s])/\∀ k∈fp (.slice va' (l++[s]).length vc'),k∈fp (.slice va l.length vc)\/w.heap.size<=k)/\Mod (p :: bm :: fp (.slice va l.length vc)) w w':=by
 have hrun:=h.look s hs 0 false (.inr ⟨rfl,rfl,hn⟩)
 have c0:=cell_at h.at_ 0;have c1:=cell_at h.at_ 1
 simp only [List.getElem?_toArray,List.getElem?_cons_zero,List.getElem?_cons_succ] at c0 c1
 have H0:=Lib.hid h
 clear h
 have hmx:l.length<maxLen:=by unfold maxLen;omega
 have hwf:=wf_nat l.length (by omega)
 obtain ⟨wi,hrun2,hown,hgrow⟩:=H0.out.map.update (val:=.int .i64 (l.length:Nat)) (d:=.lit (.int .i64 (l.length:Nat))) (ps:=[]) lawStr Tryd.underlying116 hmx (key_str s hs) (plainElem_int Tryd.underlying3 hwf)
 have hg:=mod_grown hgrow
 have hpm:=H0.out.ne
 have P1:=Hxq (hg.at H0.out.at_ (by rw [Msq];exact hpm))
 have R1:=Hxq (hg.owns H0.out.row (fun k hk hs=>H0.out.rm (by rw [Msq] at hs;subst hs;exact hk)))
 have B1:=Lib.hid hown;have G1:=Lib.hid hg
 have p1:=cell_at P1.out 1
 simp only [List.getElem?_toArray,List.getElem?_cons_zero,List.getElem?_cons_succ] at p1
 have hbm:=H0.out.map.lt
 have hpl:=lt_of_block H0.out.at_
 have mb:=(Mod.refl [] wi).alloc (Obj.cells #[.string s] 9)
 have xb:=heap_alloc_new wi (Obj.cells #[.string s] 9)
 have SRC:Hid (Src Tryd.prog 1 117 (.slice (some ⟨wi.heap.size,0,none⟩) 1 1) 1 [.string s] (wi.alloc (Obj.cells #[.string s] 9))):=Hxq (Src.ofSlice _ Tryd.underlying117 ⟨wi.heap.size,0,none⟩ 1 1 _ rfl (fun j u hu=>by
  rw [addr_add,Nat.zero_add]
  cases j with
  | zero=>simp at hu;subst hu;exact cell_at xb 0
  | succ j=>simp at hu) (by simp [Value.oneCell']))
 have RK:=Hxq (mb.owns R1.out (by simp));have PK:=Hxq (mb.at P1.out (by simp));have BK:=Hxq (ownsMap_modT B1.out mb (by simp));have MK:=Lib.hid mb
 obtain ⟨iS,hS0,hS1,hS2,hS3⟩:∃ i,Tryd.prog.info? 9=some i/\i.zero=some (.string ⟨#[]⟩)/\i.size=1/\i.bytes=16:=⟨_,rfl,by kernel_rfl,by kernel_rfl,by kernel_rfl⟩
 clear hown hgrow hg mb xb
 go_enter Tryd.func33,Tryd.ntmps33
 go_wp2_with (at_builtin;refine wpList_append_src _ rfl _ _ 117 117 rfl 9 iS (.string ⟨#[]⟩) 1 16 Tryd.underlying117 hS0 hS1 hS2 hS3 rfl (.slice va l.length vc) l.length (l.map Value.string) rfl RK.out _ 1 [.string s] rfl SRC.out (by unfold maxLen;omega) (by omega) ?_)
 intro v5 w5 hown5 hm5 hf5 _
 obtain ⟨ua5,uc5,rfl⟩:=owns_slice hown5
 have hpT:=H0.out.rp;have hmT:=H0.out.rm
 have P5:=Hxq (hm5.at PK.out hpT)
 have MP5:=Hxq (ownsMap_modT BK.out hm5 hmT)
 have q5:w5.cell? ⟨p,1,none⟩=some (.slice va l.length vc):=cell_at P5.out 1
 have f5:w5.frozen? ⟨p,1,none⟩=false:=free_at P5.out 1
 have hm9:=(Mod.refl [p] w5).setCell (p:=⟨p,1,none⟩) (.inl (by simp)) (.slice ua5 (l.length+1) uc5)
 have h9:=setCell_at P5.out 1 (.slice ua5 (l.length+1) uc5)
 have hzk:=MK.out.size
 have hzg:=G1.out.size
 have hpz:p∉fp (.slice ua5 (l.length+1) uc5):=fun hk=>by rcases hf5 p hk with h | h;exact hpT h;omega
 have hbz:bm∉fp (.slice ua5 (l.length+1) uc5):=fun hk=>by rcases hf5 bm hk with h | h;exact hmT h;omega
 have hD:IsMap D:=H0.out.map.isMap
 have HFI:Hid (TabS (w5.setCell ⟨p,1,none⟩ (.slice ua5 (l.length+1) uc5)) p bm (D.put (skey s) (.lit (.int .i64 (l.length:Nat)))) ua5 uc5 (l++[s])):=Hxq (by
  refine ⟨by simpa using h9,by simpa using ownsMap_modT MP5.out hm9 (by rw [Msq];exact fun e=>hpm e.symm),by simpa using hm9.owns hown5 (fun k hk hs=>hpz (by rw [Msq] at hs;subst hs;exact hk)),hpm,by simpa using hpz,by simpa using hbz,fun x=>?_,fun x i hi z=>?_⟩
  ·by_cases e:x=s
   ·subst e;rw [has_put_same hD (skey_is x)];simp
   ·rw [has_put_other (skey_ne e),H0.out.has x];simp [e]
  ·by_cases hlt:i<l.length
   ·rw [List.getElem?_append_left hlt] at hi
    have hx:x∈l:=List.mem_of_getElem? hi
    have e:x≠s:=fun e=>hn (e ▸ hx)
    rw [atKey_put_other (skey_ne e)]
    exact H0.out.num x i hi z
   ·have hi2:=(List.getElem?_eq_some_iff.1 hi).1
    rw [List.length_append,List.length_singleton] at hi2
    obtain rfl:i=l.length:=by omega
    rw [List.getElem?_append_right (Nat.le_refl _),Nat.sub_self,List.getElem?_cons_zero,Option.some.injEq] at hi
    subst hi
    exact atKey_put_same hD (skey_is _) _ _)
 have HMM:Hid (Mod (p :: bm :: fp (.slice va l.length vc)) w (w5.setCell ⟨p,1,none⟩ (.slice ua5 (l.length+1) uc5))):=Lib.hid
  ((((G1.out.mono (T:=p :: bm :: fp (.slice va l.length vc)) (by simp)).trans MK.out (by simp)).trans hm5 (fun t ht=>.inl (by simp [ht]))).trans hm9 (fun t ht=>.inl (by rw [Msq] at ht;simp [ht])))
 have HF:=Lib.hid hf5
 clear hown5 hm5 hf5 hm9 h9
 go_wp2_with fail
 go_ret
 refine ⟨rfl,⟨_,_,_,HFI.out,fun k hk=>?_⟩,HMM.out⟩
 rcases HF.out k (by simpa using hk) with h | h
 ·exact .inl h
 ·exact .inr (by omega)
attribute [local go_sem] Oper.semAt_some
theorem find_nil0 (w:World):Calls Tryd.prog 27 #[.pointer none,.agg #[.int .i64 0,.int .i64 0,.string ⟨#[]⟩]] w fun e w'=>e=.returned (.tuple #[.int .i64 0,.bool false])/\Mod [] w w':=find_nil Va.zero w
theorem put_nil0 (w:World):Calls Tryd.prog 35 #[.pointer none,.agg #[.int .i64 0,.int .i64 0,.string ⟨#[]⟩]] w fun e w'=>e=.returned (.int .i64 0)/\Mod [] w w':=put_nil Va.zero w
set_option maxHeartbeats 8000000 in
theorem nothing_any (w:World):Calls Tryd.prog 12 #[] w fun e w'=>e=.returned (.bool true)/\Mod [] w w':=by
 have hnil:=seq2_nil
 obtain ⟨R,hR⟩:∃ R,R=fun (e:Ending) (w':World)=>e=.returned (.bool true)/\Mod [] w w':=⟨_,rfl⟩
 rw [<-hR]
 have HR:=Lib.hid hR
 clear hR
 refine (callsIn_wide (n:=5)).1 ?_
 refine callsIn_of_wp_marks Tryd.func12 rfl trivial ?_
 refine wpIn_wide.2 ?_
 simp only [Tryd.ntmps12,List.size_toArray,List.length_cons,List.length_nil,Nat.reduceAdd,Nat.reduceSub,Array.replicate_succ,Array.replicate_zero,List.push_toArray,List.append_toArray,List.nil_append,List.cons_append]
 go_wp2_with fail
 refine Calls.mono (find_nil0 w) ?_
 rintro e1 w1 ⟨rfl,m1⟩
 go_wp2_with fail
 refine Calls.mono (at_nil 0 w1) ?_
 rintro e2 w2 ⟨rfl,m2⟩
 have M2:=Hxq (m1.trans m2 (by simp))
 clear m1 m2
 go_wp2_with fail
 have eA:=heap_alloc_new w2 (Obj.cells #[.int .i64 0,.int .i64 0,.string ⟨#[]⟩] 28)
 have mA:=(Mod.refl [] w2).alloc (Obj.cells #[.int .i64 0,.int .i64 0,.string ⟨#[]⟩] 28)
 have zA:(w2.alloc (Obj.cells #[.int .i64 0,.int .i64 0,.string ⟨#[]⟩] 28)).heap.size=w2.heap.size+1:=by rw [World.size_alloc]
 generalize w2.alloc (Obj.cells _ 28)=x3 at *
 have eB:=heap_alloc_new x3 (Obj.cells #[.int .i64 0] 3)
 have mB:=(Mod.refl [] x3).alloc (Obj.cells #[.int .i64 0] 3)
 rw [zA] at eB
 generalize x3.alloc (Obj.cells _ 3)=x4 at *
 refine Calls.mono (all_any (.pointer none) x4 rfl rfl) ?_
 rintro e3 w3 ⟨rfl,hbox,m3⟩
 unfold tabF
 go_wp2_with fail
 refine Calls.mono (snew_any w3) ?_
 rintro e4 w4 ⟨p,bm,rfl,hT,hp,hbm,m4⟩
 have mC:=m3.trans m4 (by simp)
 have E1:=Hxq (mC.at (mB.at eA (by simp)) (by simp));have E2:=Hxq (mC.at eB (by simp));have EB:=Hxq (m4.at hbox (by simp));have HT:=Lib.hid hT
 have M4:=Hxq (M2.out.trans (mA.trans (mB.trans mC (by simp)) (by simp)) (by simp))
 have hz2:=mC.size
 have hlb:=lt_of_block eB
 have hq3:=lt_of_block hbox
 clear eA mA zA eB mB hbox m3 hT m4 mC
 generalize x4.heap.size=q at *
 go_wp2_with fail
 refine (wpIn_wide (n:=9)).1 ?_
 refine wp_seqM (gf:=31) (lb:=#[.pointer (some ⟨q,0,none⟩)]) rfl (enters_of Tryd.func31 (by kernel_rfl) rfl) (it_nil _ q) (fun _ _=>rfl)
  (fun pre W=>Mod [] w4 W) (fun c pre W=>False) (fun pre A C hs hm=>hs.trans hm (fun t ht=>by rw [Msq] at ht;exact .inr (by omega))) (fun c pre A C hs hm=>hs) (fun pre A hs=>trivial) (fun W hm=>⟨_,hm.at EB.out (by simp)⟩) (Mod.refl [] w4)
  (fun pre x a' W=>True) (fun _ _ _ _ _ _ _=>trivial) ?assign ?body ?done ?stop
 case assign =>
  intro l pre x W K hi hlt hK
  gi_wp2_with fail
  exact hK _ _ (Mod.refl _ _) hi trivial
 case body =>
  intro l pre x a' W hi _ hf
  exact hf.elim
 case stop =>
  intro D c pre W hD hS hf
  exact hf.elim
 case done =>
  rintro D xs W hD rfl hm hK
  have T5:=HT.out.past hm
  have hDlt:=lt_of_block hK
  have c6:=hm.cell (cell_at E2.out 0) (by simp)
  have d0:=hm.cell (cell_at E1.out 0) (by simp);have d1:=hm.cell (cell_at E1.out 1) (by simp);have d2:=hm.cell (cell_at E1.out 2) (by simp)
  try simp only [List.getElem?_toArray,List.getElem?_cons_zero,List.getElem?_cons_succ] at c6 d0 d1 d2
  have hpw:=lt_of_block HT.out.at_
  have hbw:=HT.out.map.lt
  have HM:=Lib.hid hm;have HK:=Lib.hid hK
  have hlw:=lt_of_block E1.out
  have hlw2:=lt_of_block E2.out
  have hzh:=hm.size
  clear hm hK
  go_wp2_with fail
  refine Calls.mono (sput_new p bm _ _ _ _ ⟨#[120]⟩ (by decide) (by simp) (by simp) W T5) ?_
  rintro e5 W5 ⟨rfl,⟨D5,va5,vc5,T6,F6⟩,m5⟩
  have hz5:=m5.size
  clear T5
  go_wp2_with fail
  refine Calls.mono (sput_new p bm _ _ _ _ ⟨#[121]⟩ (by decide) (by simp) (by simp) W5 T6) ?_
  rintro e6 W6 ⟨rfl,⟨D6,va6,vc6,T7,F7⟩,m6⟩
  have hz6:=m6.size
  go_wp2_with fail
  refine Calls.mono (sput_old p bm _ _ _ _ ⟨#[120]⟩ (by decide) 0 rfl W6 T7) ?_
  rintro e7 W7 ⟨rfl,rfl⟩
  go_wp2_with fail
  refine Calls.mono (sfind_any p bm _ _ _ _ ⟨#[122]⟩ (by decide) 0 false (.inr ⟨rfl,rfl,by simp⟩) W7 T7) ?_
  rintro e8 W8 ⟨rfl,rfl⟩
  have no5:∀ j,(j<w3.heap.size\/j=D)->j∉p :: bm :: fp (.slice none ([]:List ByteArray).length 0):=fun j hj hs=>by
   simp [fp] at hs;omega
  have no6:∀ j,(j<w3.heap.size\/j=D)->j∉p :: bm :: fp (.slice va5 ([]++[(⟨#[120]⟩:ByteArray)]).length vc5):=fun j hj hs=>by
   rcases List.mem_cons.1 hs with e | hs
   ·omega
   ·rcases List.mem_cons.1 hs with e | hs
    ·omega
    ·rcases F6 j hs with h | h
     ·simp [fp] at h
     ·omega
  have mm:∀ {b i:Nat} {u:Value},b<w3.heap.size->W.cell? ⟨b,i,none⟩=some u->W8.cell? ⟨b,i,none⟩=some u:=fun hb h=>m6.cell (m5.cell h (no5 _ (.inl hb))) (no6 _ (.inl hb))
  have c6:=mm (by omega) c6;have d0:=mm (by omega) d0;have d1:=mm (by omega) d1;have d2:=mm (by omega) d2
  have HK8:=Hxq (m6.at (m5.at HK.out (no5 _ (.inr rfl))) (no6 _ (.inr rfl)))
  have HM8:Hid (Mod [] w W8):=Hxq ((M4.out.trans HM.out (by simp)).trans ((m5.mono (T:=p :: bm :: fp (.slice va5 ([]++[(⟨#[120]⟩:ByteArray)]).length vc5)) (by simp [fp])).trans m6 (fun t ht=>.inl ht)) (fun t ht=>by
   rcases List.mem_cons.1 ht with e | ht
   ·have:=M4.out.size;have:=M2.out.size;exact .inr (by omega)
   ·rcases List.mem_cons.1 ht with e | ht
    ·have:=M4.out.size;have:=M2.out.size;exact .inr (by omega)
    ·rcases F6 t ht with h | h
     ·simp [fp] at h
     ·have:=M4.out.size;have:=HM.out.size;exact .inr (by omega)))
  clear mm no5 no6 m5 m6 T6 T7 F6 F7
  go_wp2_with fail
  refine Calls.mono (put_nil0 W8) ?_
  rintro e9 w9 ⟨rfl,m9⟩
  have d0:=m9.cell d0 (by simp);have d1:=m9.cell d1 (by simp);have d2:=m9.cell d2 (by simp);have c6:=m9.cell c6 (by simp)
  go_wp2_with fail
  refine Calls.mono (len_nil w9) ?_
  rintro e10 w10 ⟨rfl,m10⟩
  have c6:=m10.cell c6 (by simp)
  go_wp2_with fail
  refine Calls.mono (copy_nil w10) ?_
  rintro e11 w11 ⟨rfl,m11⟩
  have HK11:=Hxq (m11.at (m10.at (m9.at HK8.out (by simp)) (by simp)) (by simp))
  have HM11:=Hxq (HM8.out.trans (m9.trans (m10.trans m11 (by simp)) (by simp)) (by simp))
  clear m9 m10 m11
  go_wp2_with fail
  refine ⟨by simp,.inl ⟨_,_,rfl,run_takeDeferred HK11.out,?_⟩⟩
  rw [HR.out]
  refine ⟨.bool true,by simp [results,Tryd.results12,go_sem],rfl,?_⟩
  exact HM11.out.trans (mod_putObj _ _ _) (fun t ht=>by rw [Msq] at ht;subst ht;have:=M4.out.size;exact .inr (by omega))
end Go.Proofs.YtdablillhbfgkaaDoor
