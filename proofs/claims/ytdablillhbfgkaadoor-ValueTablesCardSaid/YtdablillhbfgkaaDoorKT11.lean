/- THE TEXTS MERGED: VtWPut VtWI. -/
import Derived.Test.YtdablillhbfgkaaDoorKT10
namespace Go.Proofs.YtdablillhbfgkaaDoor
open Go.RowKit Go.Maps
set_option linter.unusedVariables false
set_option linter.unusedSimpArgs false
set_option maxRecDepth 100000
/-- what world.put leaves -/
def WPutR (w:World) (wb k:Nat) (cs:Array Value) (s:SV) (v:Va.Val) (e:Ending) (w':World):Prop :=
 e=.returned (.bool true)/\∃ s':SV,s'.l=tput s.l v/\s'.p=s.p/\Side w' s'/\(∀ j∈s'.F,j∈s.F\/w.heap.size<=j)/\w'.heap[wb]?=some (.cells (cs.setIfInBounds (2+k) s'.x) 35 (0,0))/\Mod (wb :: s.F) w w'/\RAt w' s.va s.l
set_option maxHeartbeats 8000000 in
theorem wput_any (wb k:Nat) (hk:k<2) (cs:Array Value) (s:SV) (v:Va.Val) (hv:VIn v) (hl:s.l.length<=4398046511102) (w:World) (hw:w.heap[wb]?=some (.cells cs 35 (0,0)))
  (h0:cs[k]?=some (.pointer (some ⟨s.p,0,none⟩))) (h2:cs[2+k]?=some s.x) (hS:Side w s) (hn:wb∉s.F) :
  Calls Tryd.prog 26 #[.pointer (some ⟨wb,0,none⟩),.int .i64 (k:Nat),.agg (valV v)] w (WPutR w wb k cs s v):=by
 have mA:=(Mod.refl [] w).alloc (Obj.cells (valV v) 28)
 have eA:=heap_alloc_new w (Obj.cells (valV v) 28)
 have hk0:(0:Int)<=(k:Int):=by omega
 have hk2:(k:Int)<2:=by omega
 obtain ⟨R,hR⟩:∃ R,R=WPutR w wb k cs s v:=⟨_,rfl⟩
 rw [<-hR]
 have HR:=Lib.hid hR;have HW:=Lib.hid hw;have HS:=Lib.hid hS;have HC0:=Lib.hid h0;have HC2:=Lib.hid h2;have HN:=Lib.hid hn
 have hlt:=lt_of_block hw
 clear hR hw hS h0 h2 hn
 have ev:valV v=#[.int .i64 v.k,.int .i64 v.n,.string (Lx.ofS v.s)]:=rfl
 rw [ev] at mA eA
 unfold valV
 clear ev
 go_enter Tryd.func26,Tryd.ntmps26
 go_upto_region 1 with fail
 generalize w.alloc (Obj.cells _ 28)=w0 at *
 generalize hq:w.heap.size=q at *
 have M0:=Lib.hid mA;have N0:=Lib.hid eA;have W0:=Hxq (mA.at HW.out (by simp));have S0:=Hxq (HS.out.keep mA (by simp))
 clear mA eA
 have c0:=(cell_at W0.out k).trans HC0.out
 have d0:=cell_at N0.out 0;have d1:=cell_at N0.out 1;have d2:=cell_at N0.out 2
 simp only [List.getElem?_toArray,List.getElem?_cons_zero,List.getElem?_cons_succ] at d0 d1 d2
 refine tl_region (fun wS=>Mod [] w0 wS) [0,1,2,3,4,7,8] (by kernel_rfl) ?_
 have hHeld:Mod [] w0 w0.drew:=(Mod.refl [] w0).drew
 try simp only [Act.put,Lq1,Lq2,Lq3]
 generalize w0.drew=wd at *
 refine TlAny.pure 0 (v:=?_) ?_ ?_ ?_
 rotate_left 1
 ·refine Or.inl ⟨by rfl,?_⟩
  intro wS _
  go_simp
  all_goals with_reducible rfl
 ·exact fun _ _ _ h=>h
 try simp only [Act.put,Lq1,Lq2,Lq3]
 refine TlAny.pure 1 (v:=?_) ?_ ?_ ?_
 rotate_left 1
 ·refine Or.inl ⟨by rfl,?_⟩
  intro wS _
  go_simp
  all_goals with_reducible rfl
 ·exact fun _ _ _ h=>h
 try simp only [Act.put,Lq1,Lq2,Lq3]
 refine TlAny.pure 2 (v:=?_) ?_ ?_ ?_
 rotate_left 1
 ·refine Or.inl ⟨by rfl,?_⟩
  intro wS _
  go_simp
  all_goals with_reducible rfl
 ·exact fun _ _ _ h=>h
 try simp only [Act.put,Lq1,Lq2,Lq3]
 refine TlAny.pure 3 (v:=?_) ?_ ?_ ?_
 rotate_left 1
 ·refine Or.inl ⟨by rfl,?_⟩
  intro wS _
  go_simp
  all_goals with_reducible rfl
 ·exact fun _ _ _ h=>h
 try simp only [Act.put,Lq1,Lq2,Lq3]
 refine TlAny.pure 4 (v:=?_) ?_ ?_ ?_
 rotate_left 1
 ·refine Or.inl ⟨by rfl,?_⟩
  intro wS _
  go_simp
  all_goals with_reducible rfl
 ·exact fun _ _ _ h=>h
 try simp only [Act.put,Lq1,Lq2,Lq3]
 refine TlAny.take 5 (v:=?_) hHeld ?_ ?_ ?_
 rotate_left 1
 ·refine Or.inl ⟨by rfl,?_⟩
  intro wS hSw
  replace hSw:Mod [] w0 wS:=hSw
  have p:=hSw.cell c0 (by simp)
  clear hSw
  go_simp
  all_goals with_reducible rfl
 ·exact fun _ _ _ h=>h
 try simp only [Act.put,Lq1,Lq2,Lq3]
 refine TlAny.take 6 (v:=?_) hHeld ?_ ?_ ?_
 rotate_left 1
 ·refine Or.inl ⟨by rfl,?_⟩
  intro wS hSw
  replace hSw:Mod [] w0 wS:=hSw
  have p0:=hSw.cell d0 (by simp);have p1:=hSw.cell d1 (by simp);have p2:=hSw.cell d2 (by simp)
  clear hSw
  go_simp
  all_goals with_reducible rfl
 ·exact fun _ _ _ h=>h
 try simp only [Act.put,Lq1,Lq2,Lq3]
 have M0d:=Hxq (M0.out.trans hHeld (by simp));have W0d:=Hxq (hHeld.at W0.out (by simp));have N0d:=Hxq (hHeld.at N0.out (by simp));have S0d:=Hxq (S0.out.keep hHeld (by simp))
 have zwd:=M0d.out.size
 have hlq:=lt_of_block N0d.out
 refine TlAny.one 7 ?_
 intro K hK
 go_simp
 refine Calls.mono (tabput_any s.p s.bm s.D s.va s.vc s.l v hv hl wd S0d.out.tab) ?_
 rintro e1 w1 ⟨rfl,⟨D',va',vc',hT,hF⟩,hm1,hra⟩
 have hn2:wb∉s.p :: s.bm :: fp (.slice s.va s.l.length s.vc):=fun h=>HN.out (List.mem_append_left _ h)
 have hq2:q∉s.p :: s.bm :: fp (.slice s.va s.l.length s.vc):=fun h=>by have:=HS.out.lt q (List.mem_append_left _ h);omega
 have W1:=Hxq (hm1.at W0d.out hn2);have N1:=Hxq (hm1.at N0d.out hq2);have HT:=Lib.hid hT;have HF:=Lib.hid hF;have RA:=Lib.hid hra;have O1:=Hxq (hm1.owns S0d.out.own (fun j hj h=>HS.out.dis j h hj));have M1:=Hxq (show Mod s.tf w w1 from (M0d.out.mono (by simp)).trans hm1 (fun t ht=>.inl ht))
 obtain ⟨y,hy⟩:∃ y:Int,y=((tput s.l v).idxOf v:Nat):=⟨_,rfl⟩
 rw [<-hy]
 have HY:=Lib.hid hy
 have zm1:=hm1.size
 clear hT hF hra hm1 hy hHeld
 refine hK.out _ _ (fun hN=>absurd hN (by decide)) ?_
 clear hK K
 try simp only [Act.put,Lq1,Lq2,Lq3]
 refine TlAny.pure 8 (v:=?_) ?_ ?_ ?_
 rotate_left 1
 ·refine Or.inl ⟨by rfl,?_⟩
  intro wS _
  go_simp
  all_goals with_reducible rfl
 ·exact fun _ _ _ h=>h
 try simp only [Act.put,Lq1,Lq2,Lq3]
 refine TlAny.fin ?_
 clear c0 d0 d1 d2
 have c2:=(cell_at W1.out (2+k)).trans HC2.out
 have d0:=cell_at N1.out 0;have d1:=cell_at N1.out 1;have d2:=cell_at N1.out 2
 simp only [List.getElem?_toArray,List.getElem?_cons_zero,List.getElem?_cons_succ] at d0 d1 d2
 have hx:s.x=.slice s.xa s.l.length s.xc:=rfl
 go_upto_region 2 with fail
 refine tl_region (fun wS=>Mod [] w1 wS) [] (by kernel_rfl) ?_
 have hHeld:Mod [] w1 w1.drew:=(Mod.refl [] w1).drew
 try simp only [Act.put,Lq1,Lq2,Lq3]
 generalize w1.drew=wd2 at *
 refine TlAny.take 0 (v:=?_) hHeld ?_ ?_ ?_
 rotate_left 1
 ·refine Or.inl ⟨by rfl,?_⟩
  intro wS hSw
  replace hSw:Mod [] w1 wS:=hSw
  clear hSw
  go_simp
  all_goals with_reducible rfl
 ·exact fun _ _ _ h=>h
 try simp only [Act.put,Lq1,Lq2,Lq3]
 refine TlAny.take 1 (v:=?_) hHeld ?_ ?_ ?_
 rotate_left 1
 ·refine Or.inl ⟨by rfl,?_⟩
  intro wS hSw
  replace hSw:Mod [] w1 wS:=hSw
  clear hSw
  go_simp
  all_goals with_reducible rfl
 ·exact fun _ _ _ h=>h
 try simp only [Act.put,Lq1,Lq2,Lq3]
 refine TlAny.take 2 (v:=?_) hHeld ?_ ?_ ?_
 rotate_left 1
 ·refine Or.inl ⟨by rfl,?_⟩
  intro wS hSw
  replace hSw:Mod [] w1 wS:=hSw
  clear hSw
  go_simp
  all_goals with_reducible rfl
 ·exact fun _ _ _ h=>h
 try simp only [Act.put,Lq1,Lq2,Lq3]
 refine TlAny.take 3 (v:=?_) hHeld ?_ ?_ ?_
 rotate_left 1
 ·refine Or.inl ⟨by rfl,?_⟩
  intro wS hSw
  replace hSw:Mod [] w1 wS:=hSw
  clear hSw
  go_simp
  all_goals with_reducible rfl
 ·exact fun _ _ _ h=>h
 try simp only [Act.put,Lq1,Lq2,Lq3]
 refine TlAny.take 4 (v:=?_) hHeld ?_ ?_ ?_
 rotate_left 1
 ·refine Or.inl ⟨by rfl,?_⟩
  intro wS hSw
  replace hSw:Mod [] w1 wS:=hSw
  clear hSw
  go_simp
  all_goals with_reducible rfl
 ·exact fun _ _ _ h=>h
 try simp only [Act.put,Lq1,Lq2,Lq3]
 refine TlAny.take 5 (v:=?_) hHeld ?_ ?_ ?_
 rotate_left 1
 ·refine Or.inl ⟨by rfl,?_⟩
  intro wS hSw
  replace hSw:Mod [] w1 wS:=hSw
  have p:=hSw.cell c2 (by simp)
  clear hSw
  go_simp
  all_goals with_reducible rfl
 ·exact fun _ _ _ h=>h
 try simp only [Act.put,Lq1,Lq2,Lq3]
 refine TlAny.take 6 (v:=?_) hHeld ?_ ?_ ?_
 rotate_left 1
 ·refine Or.inl ⟨by rfl,?_⟩
  intro wS hSw
  replace hSw:Mod [] w1 wS:=hSw
  have p0:=hSw.cell d0 (by simp);have p1:=hSw.cell d1 (by simp);have p2:=hSw.cell d2 (by simp)
  clear hSw
  go_simp
  all_goals with_reducible rfl
 ·exact fun _ _ _ h=>h
 try simp only [Act.put,Lq1,Lq2,Lq3]
 refine TlAny.one 7 ?_
 intro K hK
 go_simp
 refine Calls.mono (idx_any s.x s.l v HS.out.vb hv.2 (by omega) wd2 (VOwn.vrow (base:=0) ⟨hHeld.owns O1.out (by simp),fun j _=>Nat.zero_le j⟩)) ?_
 rintro e2 w2 ⟨rfl,hm2⟩
 replace hHeld:=hHeld.trans hm2 (by simp)
 obtain ⟨z,hz⟩:∃ z:Int,z=lat s.l v:=⟨_,rfl⟩
 rw [<-hz]
 have HZ:=Lib.hid hz
 clear hm2 hz
 refine hK.out _ _ (fun _=>hHeld) ?_
 clear hK K
 try simp only [Act.put,Lq1,Lq2,Lq3]
 refine TlAny.one 8 ?_
 intro K hK
 go_simp
 refine hK.out _ _ (fun _=>hHeld) ?_
 clear hK K
 try simp only [Act.put,Lq1,Lq2,Lq3]
 refine TlAny.fin ?_
 have W2:=Hxq (hHeld.at W1.out (by simp));have N2:=Hxq (hHeld.at N1.out (by simp));have T2:=Hxq (HT.out.keep hHeld (by simp) (by simp) (by simp));have R2:=Hxq (RA.out.keep (vc:=s.vc) hHeld (by simp));have O2:=Hxq (hHeld.owns O1.out (by simp))
 have M2:=Hxq (M1.out.trans hHeld (by simp))
 have hz1:=M1.out.size;have hz2:=hHeld.size
 clear hHeld c2 d0 d1 d2
 have hnum:=num_law s.l v
 by_cases hin:v∈s.l
 ·have hzz:¬ z<0:=by rw [HZ.out];exact fun h=>(lat_neg _ _).1 h hin
  rw [<-HZ.out,if_neg hzz,<-HY.out] at hnum
  subst hnum
  have htp:tput s.l v=s.l:=by rw [tput,if_pos hin]
  go_wp2_with fail
  rw [HR.out]
  have hF:∀ j∈fp (.slice va' (tput s.l v).length vc'),j∈fp (.slice s.va s.l.length s.vc)\/w.heap.size<=j:=fun j hj=>(HF.out j hj).imp id (fun h=>by omega)
  refine ⟨rfl,⟨s.p,s.bm,D',va',vc',s.xa,s.xc,s.l⟩,htp.symm,rfl,⟨by have h:=T2.out;rw [htp] at h;exact h,O2.out,fun j hj hx=>?_⟩,fun j hj=>?_,?_,M2.out.mono (fun t ht=>.inl (List.mem_cons_of_mem _ (List.mem_append_left _ ht))),R2.out⟩
  ·rw [htp] at hF
   rcases List.mem_cons.1 hj with rfl | hj
   ·exact HS.out.dis _ (by simp [SV.tf]) hx
   ·rcases List.mem_cons.1 hj with rfl | hj
    ·exact HS.out.dis _ (by simp [SV.tf]) hx
    ·rcases hF j hj with h | h
     ·exact HS.out.dis j (by simp [SV.tf,h]) hx
     ·have:=HS.out.lt j (List.mem_append_right _ hx);omega
  ·rw [htp] at hF
   rcases List.mem_append.1 hj with hj | hj
   ·rcases List.mem_cons.1 hj with rfl | hj
    ·exact .inl (by simp [SV.F,SV.tf])
    ·rcases List.mem_cons.1 hj with rfl | hj
     ·exact .inl (by simp [SV.F,SV.tf])
     ·exact (hF j hj).imp (fun h=>by simp [SV.F,SV.tf,h]) id
   ·exact .inl (List.mem_append_right _ hj)
  ·have e:cs.setIfInBounds (2+k) s.x=cs:=by
    apply Array.ext_getElem?
    intro j
    rw [Array.getElem?_setIfInBounds]
    split
    ·rename_i e;subst e;rw [HC2.out];simp [(Array.getElem?_eq_some_iff.1 HC2.out).1]
    ·rfl
   show _=some (Obj.cells (cs.setIfInBounds (2+k) s.x) _ _)
   rw [e]
   exact W2.out
 ·have hzz:z<0:=by rw [HZ.out];exact (lat_neg _ _).2 hin
  rw [<-HZ.out,if_pos hzz,<-HY.out] at hnum
  subst hnum
  have htp:tput s.l v=s.l++[v]:=by rw [tput,if_neg hin]
  have c2:=(cell_at W2.out (2+k)).trans HC2.out
  have d0:=cell_at N2.out 0;have d1:=cell_at N2.out 1;have d2:=cell_at N2.out 2
  simp only [List.getElem?_toArray,List.getElem?_cons_zero,List.getElem?_cons_succ] at d0 d1 d2
  rw [hx] at c2
  go_upto_region 5 with fail
  have hwx:wb∉fp s.x:=fun h=>HN.out (List.mem_append_right _ h)
  have hqx:q∉fp s.x:=fun h=>by have:=HS.out.lt q (List.mem_append_right _ h);omega
  obtain ⟨T,hTT⟩:∃ T:List Nat,T=fp s.x:=⟨_,rfl⟩
  rw [<-hTT] at hwx hqx
  refine tl_region (fun wS=>Mod T w2 wS) [0,1,2,3,4,5,6,11,12,13,14] (by kernel_rfl) ?_
  have hHeld:Mod T w2 w2.drew:=(Mod.refl T w2).drew
  have NH:Mod [] w2 w2.drew:=(Mod.refl [] w2).drew
  try simp only [Act.put,Lq1,Lq2,Lq3]
  generalize w2.drew=wj at *
  refine TlAny.pure 0 (v:=?_) ?_ ?_ ?_
  rotate_left 1
  ·refine Or.inl ⟨by rfl,?_⟩
   intro wS _
   go_simp
   all_goals with_reducible rfl
  ·exact fun _ _ _ h=>h
  try simp only [Act.put,Lq1,Lq2,Lq3]
  refine TlAny.pure 1 (v:=?_) ?_ ?_ ?_
  rotate_left 1
  ·refine Or.inl ⟨by rfl,?_⟩
   intro wS _
   go_simp
   all_goals with_reducible rfl
  ·exact fun _ _ _ h=>h
  try simp only [Act.put,Lq1,Lq2,Lq3]
  refine TlAny.pure 2 (v:=?_) ?_ ?_ ?_
  rotate_left 1
  ·refine Or.inl ⟨by rfl,?_⟩
   intro wS _
   go_simp
   all_goals with_reducible rfl
  ·exact fun _ _ _ h=>h
  try simp only [Act.put,Lq1,Lq2,Lq3]
  refine TlAny.pure 3 (v:=?_) ?_ ?_ ?_
  rotate_left 1
  ·refine Or.inl ⟨by rfl,?_⟩
   intro wS _
   go_simp
   all_goals with_reducible rfl
  ·exact fun _ _ _ h=>h
  try simp only [Act.put,Lq1,Lq2,Lq3]
  refine TlAny.pure 4 (v:=?_) ?_ ?_ ?_
  rotate_left 1
  ·refine Or.inl ⟨by rfl,?_⟩
   intro wS _
   go_simp
   all_goals with_reducible rfl
  ·exact fun _ _ _ h=>h
  try simp only [Act.put,Lq1,Lq2,Lq3]
  refine TlAny.pure 5 (v:=?_) ?_ ?_ ?_
  rotate_left 1
  ·refine Or.inl ⟨by rfl,?_⟩
   intro wS _
   go_simp
   all_goals with_reducible rfl
  ·exact fun _ _ _ h=>h
  try simp only [Act.put,Lq1,Lq2,Lq3]
  refine TlAny.pure 6 (v:=?_) ?_ ?_ ?_
  rotate_left 1
  ·refine Or.inl ⟨by rfl,?_⟩
   intro wS _
   go_simp
   all_goals with_reducible rfl
  ·exact fun _ _ _ h=>h
  try simp only [Act.put,Lq1,Lq2,Lq3]
  refine TlAny.pure 11 (v:=?_) ?_ ?_ ?_
  rotate_left 1
  ·refine Or.inl ⟨by rfl,?_⟩
   intro wS _
   go_simp
   all_goals with_reducible rfl
  ·exact fun _ _ _ h=>h
  try simp only [Act.put,Lq1,Lq2,Lq3]
  refine TlAny.pure 12 (v:=?_) ?_ ?_ ?_
  rotate_left 1
  ·refine Or.inl ⟨by rfl,?_⟩
   intro wS _
   go_simp
   all_goals with_reducible rfl
  ·exact fun _ _ _ h=>h
  try simp only [Act.put,Lq1,Lq2,Lq3]
  refine TlAny.take 7 (v:=?_) hHeld ?_ ?_ ?_
  rotate_left 1
  ·refine Or.inl ⟨by rfl,?_⟩
   intro wS hSw
   replace hSw:Mod T w2 wS:=hSw
   have p:=hSw.cell c2 hwx
   clear hSw
   go_simp
   all_goals with_reducible rfl
  ·exact fun _ _ _ h=>h
  try simp only [Act.put,Lq1,Lq2,Lq3]
  refine TlAny.take 8 (v:=?_) hHeld ?_ ?_ ?_
  rotate_left 1
  ·refine Or.inl ⟨by rfl,?_⟩
   intro wS hSw
   replace hSw:Mod T w2 wS:=hSw
   have p0:=hSw.cell d0 hqx;have p1:=hSw.cell d1 hqx;have p2:=hSw.cell d2 hqx
   clear hSw
   go_simp
   all_goals with_reducible rfl
  ·exact fun _ _ _ h=>h
  try simp only [Act.put,Lq1,Lq2,Lq3]
  refine TlAny.one 9 ?_
  intro K hK
  go_simp
  refine hK.out _ _ (fun _=>hHeld.alloc _) ?_
  clear hK K
  try simp only [Act.put,Lq1,Lq2,Lq3]
  have xb:=heap_alloc_new wj (Obj.cells #[.int .i64 v.k,.int .i64 v.n,.string (Lx.ofS v.s)] 28)
  have mb:=(Mod.refl [] wj).alloc (Obj.cells #[.int .i64 v.k,.int .i64 v.n,.string (Lx.ofS v.s)] 28)
  generalize wj.alloc (Obj.cells _ 28)=wk at *
  generalize wj.heap.size=xx at *
  have NK:=NH.trans mb (by simp)
  have hzk:=NK.size
  have SRC:=Hxq (src_val (t:=v) xb)
  have RK:=Hxq (NK.owns O2.out (by simp))
  have WK:=Hxq (NK.at W2.out (by simp))
  have TK:=Hxq (T2.out.keep NK (by simp) (by simp) (by simp))
  have RRK:=Hxq (R2.out.keep (vc:=s.vc) NK (by simp))
  have MK:=Hxq (M2.out.trans NK (by simp))
  clear mb xb NH
  obtain ⟨iV,hV0,hV1,hV2,hV3⟩:=info_valT
  refine TlAny.one 10 ?_
  intro K hK
  refine step_append_src _ rfl _ _ 30 30 rfl 28 iV (.agg (valV Va.zero)) 3 32 Tryd.underlying30 hV0 hV1 hV2 hV3 rfl s.x s.l.length (rowVals s.l) rfl RK.out _ 1 (valV v).toList rfl SRC.out (by unfold maxLen;omega) (by omega) ?_
  intro v5 w5 hown5 hm5 hf5
  obtain ⟨ua5,uc5,rfl⟩:=owns_slice hown5
  rw [<-hTT] at hm5 hf5
  have W5:=Hxq (hm5.at WK.out hwx)
  have q5:w5.cell? ⟨wb,2+k,none⟩=some (.slice s.xa s.l.length s.xc):=(cell_at W5.out (2+k)).trans HC2.out
  have f5:w5.frozen? ⟨wb,2+k,none⟩=false:=free_at W5.out (2+k)
  replace hHeld:Mod T w2 w5:=(NK.mono (by simp)).trans hm5 (fun t ht=>.inl ht)
  have z5:=hm5.size
  have hFP:∀ j∈fp (.slice va' (tput s.l v).length vc'),j∈fp (.slice s.va s.l.length s.vc)\/w.heap.size<=j:=fun j hj=>(HF.out j hj).imp id (fun h=>by omega)
  have hsx:∀ j∈fp s.x,j<w.heap.size:=fun j hj=>HS.out.lt j (List.mem_append_right _ hj)
  have hdT:∀ j∈s.p :: s.bm :: fp (.slice va' (tput s.l v).length vc'),j∉T:=by
   intro j hj hx
   rw [hTT] at hx
   rcases List.mem_cons.1 hj with rfl | hj
   ·exact HS.out.dis _ (by simp [SV.tf]) hx
   ·rcases List.mem_cons.1 hj with rfl | hj
    ·exact HS.out.dis _ (by simp [SV.tf]) hx
    ·rcases hFP j hj with h | h
     ·exact HS.out.dis j (by simp [SV.tf,h]) hx
     ·have:=hsx j hx;omega
  have T5:=TK.out.keep hm5 (hdT _ (by simp)) (hdT _ (by simp)) (fun j hj=>hdT j (by simp [hj]))
  have R5:=RRK.out.keep (vc:=s.vc) hm5 (fun j hj hx=>HS.out.dis j (by simp [SV.tf,hj]) (by rw [<-hTT];exact hx))
  have hm9:=(Mod.refl [wb] w5).setCell (p:=⟨wb,2+k,none⟩) (.inl (by simp)) (.slice ua5 (s.l.length+1) uc5)
  have h9:=setCell_at W5.out (2+k) (.slice ua5 (s.l.length+1) uc5)
  have hTlt:=fun j hj=>fp_lt TK.out.row j hj
  have hpl:=lt_of_block TK.out.at_
  have hbl:=TK.out.map.lt
  have hnF:∀ j∈s.p :: s.bm :: fp (.slice va' (tput s.l v).length vc'),j≠wb:=by
   intro j hj e
   subst e
   rcases List.mem_cons.1 hj with e | hj
   ·exact HN.out (by simp [SV.F,SV.tf,e])
   ·rcases List.mem_cons.1 hj with e | hj
    ·exact HN.out (by simp [SV.F,SV.tf,e])
    ·rcases hFP j hj with h | h
     ·exact HN.out (by simp [SV.F,SV.tf,h])
     ·omega
  have hnU:wb∉fp (.slice ua5 (s.l.length+1) uc5):=fun hj=>by rcases hf5 wb hj with h | h;exact hwx h;have:=lt_of_block WK.out;omega
  have e5:rowVals (s.l++[v])=rowVals s.l++(valV v).toList:=by rw [rowVals_app];simp [rowVals]
  have SD:Hid (Side (w5.setCell ⟨wb,2+k,none⟩ (.slice ua5 (s.l.length+1) uc5)) ⟨s.p,s.bm,D',va',vc',ua5,uc5,s.l++[v]⟩):=Hxq (by
   have h1:=T5.keep hm9 (by simpa using hnF s.p (by simp)) (by simpa using hnF s.bm (by simp)) (fun j hj=>by simpa using hnF j (by simp [hj]))
   have h2:=hm9.owns hown5 (fun j hj hs=>hnU (by rw [Msq] at hs;subst hs;exact hj))
   rw [htp] at h1
   refine ⟨h1,?_,?_⟩
   ·show World.ownsRow _ 0 _ 3 (.slice ua5 (s.l++[v]).length uc5) (s.l++[v]).length (rowVals (s.l++[v]))
    rw [e5,List.length_append,List.length_singleton]
    exact h2
   ·intro j hj hx
    have hx2:j∈fp (.slice ua5 (s.l.length+1) uc5):=by simpa [SV.x,List.length_append] using hx
    have hj2:j∈s.p :: s.bm :: fp (.slice va' (tput s.l v).length vc'):=by rw [htp];exact hj
    rcases hf5 j hx2 with h | h
    ·exact hdT j hj2 h
    ·rcases List.mem_cons.1 hj2 with e | hj3
     ·omega
     ·rcases List.mem_cons.1 hj3 with e | hj3
      ·omega
      ·have:=hTlt j hj3;omega)
  have SF:Hid (∀ j∈(⟨s.p,s.bm,D',va',vc',ua5,uc5,s.l++[v]⟩:SV).F,j∈s.F\/w.heap.size<=j):=Hxq (by
   intro j hj
   rcases List.mem_append.1 hj with hj | hj
   ·have hj2:j∈s.p :: s.bm :: fp (.slice va' (tput s.l v).length vc'):=by rw [htp];exact hj
    rcases List.mem_cons.1 hj2 with e | hj3
    ·exact .inl (by simp [SV.F,SV.tf,e])
    ·rcases List.mem_cons.1 hj3 with e | hj3
     ·exact .inl (by simp [SV.F,SV.tf,e])
     ·exact (hFP j hj3).imp (fun h=>by simp [SV.F,SV.tf,h]) id
   ·have hx2:j∈fp (.slice ua5 (s.l.length+1) uc5):=by simpa [SV.x,List.length_append] using hj
    rcases hf5 j hx2 with h | h
    ·exact .inl (List.mem_append_right _ (by rw [<-hTT];exact h))
    ·exact .inr (by have:=MK.out.size;omega))
  have SW:Hid ((w5.setCell ⟨wb,2+k,none⟩ (.slice ua5 (s.l.length+1) uc5)).heap[wb]?=some (.cells (cs.setIfInBounds (2+k) (.slice ua5 (s.l++[v]).length uc5)) 35 (0,0))):=Hxq (by rw [List.length_append,List.length_singleton];exact h9)
  have SM:Hid (Mod (wb :: s.F) w (w5.setCell ⟨wb,2+k,none⟩ (.slice ua5 (s.l.length+1) uc5))):=Hxq (((MK.out.mono (T:=wb :: s.F) (fun t ht=>.inl (by simp [SV.F,ht]))).trans hm5 (fun t ht=>.inl (by rw [hTT] at ht;simp [SV.F,ht]))).trans hm9 (fun t ht=>.inl (by rw [Msq] at ht;simp [ht])))
  have SR:Hid (RAt (w5.setCell ⟨wb,2+k,none⟩ (.slice ua5 (s.l.length+1) uc5)) s.va s.l):=Hxq (R5.keep (vc:=s.vc) hm9 (fun j hj hs=>HN.out (by rw [Msq] at hs;subst hs;simp [SV.F,SV.tf,hj])))
  clear hown5 hm5 hf5 NK T5 R5 hm9 h9 hTlt hdT hnF hnU hFP
  refine hK.out _ _ (fun _=>hHeld) ?_
  clear hK K
  try simp only [Act.put,Lq1,Lq2,Lq3]
  refine TlAny.pure 13 (v:=?_) ?_ ?_ ?_
  rotate_left 1
  ·refine Or.inl ⟨by rfl,?_⟩
   intro wS _
   go_simp
   all_goals with_reducible rfl
  ·exact fun _ _ _ h=>h
  try simp only [Act.put,Lq1,Lq2,Lq3]
  refine TlAny.one 14 ?_
  intro K hK
  go_simp
  refine hK.out _ _ (fun hN=>absurd hN (by decide)) ?_
  clear hK K
  try simp only [Act.put,Lq1,Lq2,Lq3]
  refine TlAny.fin ?_
  clear q5 f5 hHeld
  go_wp2_with fail
  rw [HR.out]
  refine ⟨rfl,⟨s.p,s.bm,D',va',vc',ua5,uc5,s.l++[v]⟩,htp.symm,rfl,?_,?_,?_,?_,?_⟩
  ·exact SD.out
  ·exact SF.out
  ·exact SW.out
  ·exact SM.out
  ·exact SR.out
theorem enum_set_self {cs:Array Value} {i:Nat} {x:Value} (h:cs[i]?=some x):cs.setIfInBounds i x=cs:=by
 apply Array.ext_getElem?
 intro j
 rw [Array.getElem?_setIfInBounds]
 split
 ·rename_i e;subst e;rw [h];simp [(Array.getElem?_eq_some_iff.1 h).1]
 ·rfl
/-- a table and its list, at a place of the law's world -/
structure Place (W:World) (wb k:Nat) (cs:Array Value) (s:SV):Prop where
 k2:k<2
 blk:W.heap[wb]?=some (.cells cs 35 (0,0))
 c0:cs[k]?=some (.pointer (some ⟨s.p,0,none⟩))
 c2:cs[2+k]?=some s.x
 side:Side W s
 nin:wb∉s.F
theorem Place.keep {S:List Nat} {W W':World} {wb k:Nat} {cs:Array Value} {s:SV} (h:Place W wb k cs s) (hm:Mod S W W') (h1:wb∉S) (h2:∀ j∈s.F,j∉S):Place W' wb k cs s :=
 ⟨h.k2,hm.at h.blk h1,h.c0,h.c2,h.side.keep hm h2,h.nin⟩
theorem Place.put {w W':World} {wb k:Nat} {cs:Array Value} {s s':SV} (h:Place w wb k cs s) (hp:s'.p=s.p) (hs:Side W' s') (hf:∀ j∈s'.F,j∈s.F\/w.heap.size<=j) (hb:W'.heap[wb]?=some (.cells (cs.setIfInBounds (2+k) s'.x) 35 (0,0))) :
  Place W' wb k (cs.setIfInBounds (2+k) s'.x) s':=by
 have hl:=(Array.getElem?_eq_some_iff.1 h.c2).1
 refine ⟨h.k2,hb,?_,by simp [hl],hs,fun hj=>?_⟩
 ·rw [Array.getElem?_setIfInBounds_ne (by omega),hp];exact h.c0
 ·rcases hf _ hj with hj | hj
  ·exact h.nin hj
  ·have:=lt_of_block h.blk;omega
/-- what a walk's loop holds -/
structure WI (w:World) (wb k q:Nat) (cs:Array Value) (s:SV) (v:Va.Val) (most:Int) (mid:Bool) (b13 b14:Nat) (ua:Option Addr) (uc Z:Nat) (r:Bool) (n:Nat) (W:World):Prop where
 e6:W.heap[w.heap.size]?=some (.cells #[.pointer (some ⟨wb,0,none⟩)] 24 (0,0))
 e7:W.heap[w.heap.size+1]?=some (.cells #[.func (.func 31) #[] #[.pointer (some ⟨q,0,none⟩)]] 33 (0,0))
 e8:W.heap[w.heap.size+1+1]?=some (.cells #[.int .i64 (k:Nat)] 3 (0,0))
 e9:W.heap[w.heap.size+1+1+1]?=some (.cells #[.int .i64 most] 3 (0,0))
 e10:W.heap[w.heap.size+1+1+1+1]?=some (.cells #[.bool mid] 4 (0,0))
 e11:W.heap[w.heap.size+1+1+1+1+1]?=some (.cells #[.int .i64 v.k,.int .i64 v.n,.string (Lx.ofS v.s)] 28 (0,0))
 e12:W.heap[w.heap.size+1+1+1+1+1+1]?=some (.cells #[.bool r] 4 (0,0))
 e13:W.heap[b13]?=some (.cells #[.slice ua s.l.length uc] 30 (0,0))
 e14:W.heap[b14]?=some (.cells #[.int .i64 (n:Nat)] 3 (0,0))
 row:VOwn W (w.heap.size+7) (.slice ua s.l.length uc) s.l
 box:W.heap[q]?=some (.cells #[.pointer (some ⟨s.p,0,none⟩)] 25 (0,0))
 st:∃ s':SV,(s'.l=s.l\/(mid=true/\s'.l=tput s.l v))/\s'.p=s.p/\(∀ j∈s'.F,j∈s.F\/Z+2<=j)/\Place W wb k (cs.setIfInBounds (2+k) s'.x) s'/\(mid=false->s'=s)/\(n=0->s'=s)
 rat:RAt W s.va s.l
 mod:Mod (if mid=true then wb :: s.F else []) w W
/-- where its blocks lie -/
structure WB (w:World) (wb q:Nat) (s:SV) (b13 b14:Nat) (ua:Option Addr) (uc Z:Nat):Prop where
 hw:wb<w.heap.size
 hq:q<w.heap.size
 qw:q≠wb
 qF:q∉s.F
 sF:∀ j∈s.F,j<w.heap.size
 h13:w.heap.size+7<=b13/\b13<b14
 h14:b14<Z
 hu:∀ j∈fp (.slice ua s.l.length uc),w.heap.size+7<=j/\j<Z/\j≠b13/\j≠b14
theorem WB.va {w:World} {wb q:Nat} {s:SV} {b13 b14:Nat} {ua:Option Addr} {uc Z:Nat} (h:WB w wb q s b13 b14 ua uc Z):∀ j∈fp (.slice s.va s.l.length s.vc),j<w.heap.size:=fun j hj=>h.sF j (by simp [SV.F,SV.tf,hj])
theorem WI.step {w:World} {wb k q:Nat} {cs:Array Value} {s:SV} {v:Va.Val} {most:Int} {mid:Bool} {b13 b14:Nat} {ua:Option Addr} {uc Z:Nat} {r:Bool} {n:Nat} {A C:World} (h:WI w wb k q cs s v most mid b13 b14 ua uc Z r n A) (hb:WB w wb q s b13 b14 ua uc Z)
  (hm:Mod [Z+1] A C):WI w wb k q cs s v most mid b13 b14 ua uc Z r n C:=by
 have b1:=hb.hw;have b2:=hb.hq;have b3:=hb.h13;have b4:=hb.h14
 have no:∀ j,j<Z->j∉[Z+1]:=fun j hj hs=>by rw [Msq] at hs;omega
 refine ⟨hm.at h.e6 (no _ (by omega)),hm.at h.e7 (no _ (by omega)),hm.at h.e8 (no _ (by omega)),hm.at h.e9 (no _ (by omega)),hm.at h.e10 (no _ (by omega)),hm.at h.e11 (no _ (by omega)),hm.at h.e12 (no _ (by omega)),hm.at h.e13 (no _ (by omega)),hm.at h.e14 (no _ (by omega)),
  h.row.keep hm (fun j hj=>no j (hb.hu j hj).2.1),hm.at h.box (no _ (by omega)),?_,h.rat.keep (vc:=s.vc) hm (fun j hj=>no j (by have:=hb.va j hj;omega)),h.mod.trans hm (fun t ht=>by rw [Msq] at ht;exact .inr (by omega))⟩
 obtain ⟨s',h1,h2,h3,h4,h5⟩:=h.st
 refine ⟨s',h1,h2,h3,h4.keep hm (no _ (by omega)) (fun j hj hs=>?_),h5⟩
 rw [Msq] at hs
 rcases h3 j hj with h | h
 ·have:=hb.sF j h;omega
 ·omega
/-- the count is stored -/
theorem WI.store {w:World} {wb k q:Nat} {cs:Array Value} {s:SV} {v:Va.Val} {most:Int} {mid:Bool} {b13 b14:Nat} {ua:Option Addr} {uc Z:Nat} {r:Bool} {n:Nat} {A:World} (h:WI w wb k q cs s v most mid b13 b14 ua uc Z r n A) (hb:WB w wb q s b13 b14 ua uc Z) (m:Nat) (hm0:m≠0) :
  WI w wb k q cs s v most mid b13 b14 ua uc Z r m (A.setCell ⟨b14,0,none⟩ (.int .i64 (m:Nat))):=by
 have b1:=hb.hw;have b2:=hb.hq;have b3:=hb.h13;have b4:=hb.h14
 have hm:=(Mod.refl [b14] A).setCell (p:=⟨b14,0,none⟩) (.inl (by simp)) (.int .i64 (m:Nat))
 have no:∀ j,j≠b14->j∉[b14]:=fun j hj hs=>by rw [Msq] at hs;omega
 refine ⟨hm.at h.e6 (no _ (by omega)),hm.at h.e7 (no _ (by omega)),hm.at h.e8 (no _ (by omega)),hm.at h.e9 (no _ (by omega)),hm.at h.e10 (no _ (by omega)),hm.at h.e11 (no _ (by omega)),hm.at h.e12 (no _ (by omega)),hm.at h.e13 (no _ (by omega)),setCell_at h.e14 0 _,
  h.row.keep hm (fun j hj=>no j (hb.hu j hj).2.2.2),hm.at h.box (no _ (by omega)),?_,h.rat.keep (vc:=s.vc) hm (fun j hj=>no j (by have:=hb.va j hj;omega)),h.mod.trans hm (fun t ht=>by rw [Msq] at ht;exact .inr (by omega))⟩
 obtain ⟨s',h1,h2,h3,h4,h5,-⟩:=h.st
 refine ⟨s',h1,h2,h3,h4.keep hm (no _ (by omega)) (fun j hj hs=>?_),h5,fun h=>absurd h hm0⟩
 rw [Msq] at hs
 rcases h3 j hj with h | h
 ·have:=hb.sF j h;omega
 ·omega
/-- the answer is stored -/
theorem WI.says {w:World} {wb k q:Nat} {cs:Array Value} {s:SV} {v:Va.Val} {most:Int} {mid:Bool} {b13 b14:Nat} {ua:Option Addr} {uc Z:Nat} {r:Bool} {n:Nat} {A:World} (h:WI w wb k q cs s v most mid b13 b14 ua uc Z r n A) (hb:WB w wb q s b13 b14 ua uc Z) (r':Bool) :
  WI w wb k q cs s v most mid b13 b14 ua uc Z r' n (A.setCell ⟨w.heap.size+1+1+1+1+1+1,0,none⟩ (.bool r')):=by
 have b1:=hb.hw;have b2:=hb.hq;have b3:=hb.h13;have b4:=hb.h14
 have hm:=(Mod.refl [w.heap.size+1+1+1+1+1+1] A).setCell (p:=⟨w.heap.size+1+1+1+1+1+1,0,none⟩) (.inl (by simp)) (.bool r')
 have no:∀ j,j≠w.heap.size+1+1+1+1+1+1->j∉[w.heap.size+1+1+1+1+1+1]:=fun j hj hs=>by rw [Msq] at hs;omega
 refine ⟨hm.at h.e6 (no _ (by omega)),hm.at h.e7 (no _ (by omega)),hm.at h.e8 (no _ (by omega)),hm.at h.e9 (no _ (by omega)),hm.at h.e10 (no _ (by omega)),hm.at h.e11 (no _ (by omega)),setCell_at h.e12 0 _,hm.at h.e13 (no _ (by omega)),hm.at h.e14 (no _ (by omega)),
  h.row.keep hm (fun j hj=>no j (by have:=(hb.hu j hj).1;omega)),hm.at h.box (no _ (by omega)),?_,h.rat.keep (vc:=s.vc) hm (fun j hj=>no j (by have:=hb.va j hj;omega)),h.mod.trans hm (fun t ht=>by rw [Msq] at ht;exact .inr (by omega))⟩
 obtain ⟨s',h1,h2,h3,h4,h5⟩:=h.st
 refine ⟨s',h1,h2,h3,h4.keep hm (no _ (by omega)) (fun j hj hs=>?_),h5⟩
 rw [Msq] at hs
 rcases h3 j hj with h | h
 ·have:=hb.sF j h;omega
 ·omega
/-- behind the law's put, which comes once -/
theorem WI.put {w:World} {wb k q:Nat} {cs:Array Value} {s:SV} {v:Va.Val} {most:Int} {b13 b14:Nat} {ua:Option Addr} {uc Z:Nat} {A C:World} {e:Ending} (h:WI w wb k q cs s v most true b13 b14 ua uc Z false 0 A) (hb:WB w wb q s b13 b14 ua uc Z) (hZ:Z+2<=A.heap.size)
  (hc:cs[2+k]?=some s.x) (hr:WPutR A wb k cs s v e C) :
  ∃ s':SV,s'.l=tput s.l v/\Place C wb k (cs.setIfInBounds (2+k) s'.x) s'/\s'.p=s.p/\q∉s'.F/\C.heap[Z]?=A.heap[Z]?/\C.heap[Z+1]?=A.heap[Z+1]? /\
   ∀ m,m≠0->∀ D,Mod [] C D->WI w wb k q cs s v most true b13 b14 ua uc Z false m (D.setCell ⟨b14,0,none⟩ (.int .i64 (m:Nat))):=by
 have b1:=hb.hw;have b2:=hb.hq;have b3:=hb.h13;have b4:=hb.h14
 obtain ⟨-,s',r1,r2,r3,r4,r5,r6,r7⟩:=hr
 obtain ⟨s0,-,-,-,pl,-,h0⟩:=h.st
 obtain rfl:=h0 rfl
 rw [enum_set_self hc] at pl
 have pl2:=pl.put r2 r3 r4 r5
 have no:∀ j,w.heap.size<=j->j∉wb :: s0.F:=fun j hj hs=>by rcases List.mem_cons.1 hs with rfl | hs;omega;have:=hb.sF j hs;omega
 have noq:q∉wb :: s0.F:=fun hs=>by rcases List.mem_cons.1 hs with e | hs;exact hb.qw e;exact hb.qF hs
 refine ⟨s',r1,pl2,r2,fun hj=>?_,r6.block Z (by omega) (no _ (by omega)),r6.block (Z+1) (by omega) (no _ (by omega)),fun m hm0 D hD=>?_⟩
 ·rcases r4 _ hj with hj | hj
  ·exact hb.qF hj
  ·omega
 ·have M:=r6.trans (T:=[]) hD (by simp)
  have hW:WI w wb k q cs s0 v most true b13 b14 ua uc Z false m (D.setCell ⟨b14,0,none⟩ (.int .i64 (m:Nat))):=by
   have hm:=(Mod.refl [b14] D).setCell (p:=⟨b14,0,none⟩) (.inl (by simp)) (.int .i64 (m:Nat))
   have M2:Mod (b14 :: wb :: s0.F) A (D.setCell ⟨b14,0,none⟩ (.int .i64 (m:Nat))):=(M.mono (by simp;exact fun a ha=>.inl (.inr (.inr ha)))).trans hm (by simp)
   have no2:∀ j,w.heap.size<=j->j≠b14->j∉b14 :: wb :: s0.F:=fun j hj hn hs=>by rcases List.mem_cons.1 hs with e | hs;exact hn e;exact no j hj hs
   have noq2:q∉b14 :: wb :: s0.F:=fun hs=>by rcases List.mem_cons.1 hs with e | hs;omega;exact noq hs
   refine ⟨M2.at h.e6 (no2 _ (by omega) (by omega)),M2.at h.e7 (no2 _ (by omega) (by omega)),M2.at h.e8 (no2 _ (by omega) (by omega)),M2.at h.e9 (no2 _ (by omega) (by omega)),M2.at h.e10 (no2 _ (by omega) (by omega)),M2.at h.e11 (no2 _ (by omega) (by omega)),M2.at h.e12 (no2 _ (by omega) (by omega)),M2.at h.e13 (no2 _ (by omega) (by omega)),
    setCell_at (hD.at (r6.at h.e14 (no _ (by omega))) (by simp)) 0 _,
    h.row.keep M2 (fun j hj=>no2 j (by have:=hb.hu j hj;omega) (hb.hu j hj).2.2.2),M2.at h.box noq2,⟨s',.inr ⟨rfl,r1⟩,r2,fun j hj=>(r4 j hj).imp id (fun h=>by omega),(pl2.keep hD (by simp) (by simp)).keep hm (by simp;omega) (fun j hj hs=>?_),fun h=>(by cases h),fun h=>absurd h hm0⟩,(r7.keep (vc:=s0.vc) hD (by simp)).keep (vc:=s0.vc) hm (fun j hj hs=>by rw [Msq] at hs;have:=hb.va j hj;omega),?_⟩
   ·rw [Msq] at hs
    rcases r4 j hj with h | h
    ·have:=hb.sF j h;omega
    ·omega
   ·have hmd:=h.mod
    rw [if_pos rfl] at hmd ⊢
    exact hmd.trans M2 (fun t ht=>by rcases List.mem_cons.1 ht with rfl | ht;exact .inr (by omega);exact .inl ht)
  exact hW
end Go.Proofs.YtdablillhbfgkaaDoor
