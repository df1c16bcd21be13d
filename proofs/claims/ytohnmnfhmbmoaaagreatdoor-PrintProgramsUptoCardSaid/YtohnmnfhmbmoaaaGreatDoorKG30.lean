/- THE TEXTS MERGED: P5Agg2. -/
import Derived.Test.YtohnmnfhmbmoaaaGreatDoorKG26
import Derived.Test.YtohnmnfhmbmoaaaGreatDoorKG29
namespace Go.Proofs.YtohnmnfhmbmoaaaGreatDoor
open Go.RowKit
set_option linter.unusedVariables false
set_option linter.unusedSimpArgs false
set_option maxRecDepth 100000
theorem TxS.must {o:Option (List Nat)} {n:Nat} {s:ByteArray} {b:Bool} (h:TxS o n s b) (c:Bool):TxS (cat (mustO c) o) n s (b || !c):=by
 cases c
 ·exact ⟨h.1,fun t ht=>by simp [mustO] at ht,fun _=>by simp⟩
 ·show TxS (cat (some []) o) n s (b || false)
  rw [cat_nil,Bool.or_false]
  exact h
theorem TxS.after {o:Option (List Nat)} {n:Nat} {s:ByteArray} {b:Bool} (h:TxS o n s b) (c:Bool):TxS (cat o (mustO c)) n s (b || !c):=by
 cases c
 ·exact ⟨h.1,fun t ht=>by simp [mustO] at ht,fun _=>by simp⟩
 ·show TxS (cat o (some [])) n s (b || false)
  rw [cat_nil',Bool.or_false]
  exact h
theorem TxR.le {o:Option (List Nat)} {n m:Nat} {w:World} {e:Ending} {w':World} (h:TxR o n w e w') (hm:n<=m):TxR o m w e w':=by
 obtain ⟨v,rfl,⟨s,b,rfl,hs⟩,m1⟩:=h
 exact ⟨_,rfl,⟨s,b,rfl,TxS.le hs hm⟩,m1⟩
set_option maxHeartbeats 8000000 in
theorem ragg_any (c:Nat) (hB0:R5B c) (fn:Int) (av:ByteArray) (of:Pr.Ex) (body:List Pr.Li) (oa ba:Option Addr) (oc bc:Nat) (d:Int) (w:World) (h1:¬ fn<1) (h2:¬ 4<fn) (hd:d=((c+1:Nat):Int)) (hb16:c<=16) (hbn:body.length≠0)
  (hO:EOk w of (.slice oa of.args.length oc)) (hB:BOk w body (.slice ba body.length bc)) (hG:GlobV w) (hlen:av.size+exWt of+2 * lsWt body+50<=140737488000000) :
  Calls Tryz.prog 127 #[.agg (agVP fn av of (.slice oa of.args.length oc) (.slice ba body.length bc)),.int .i64 d] w (TxR (pG (c+1) fn av of body) (av.size+exWt of+2 * lsWt body+50) w):=by
 have HP:Hid (pG (c+1) fn av of body=cat (cat (cat (cat (mustO (Va.variable_ (Cod.str av))) (some (Cod.str av++([32,61,32]++(Pr.word fn++[32,123,32]))))) (ofO fn of)) (comO (Pr.pL c) body)) (some [32,125])):=Hxq (by
  unfold pG
  dsimp only
  rw [if_pos ⟨by omega,by omega,hbn⟩])
 generalize pG (c+1) fn av of body=o at *
 have hm0:=((Mod.refl [] w).alloc (Obj.cells (agVP fn av of (.slice oa of.args.length oc) (.slice ba body.length bc)) 45)).alloc (Obj.cells #[.string ⟨#[]⟩,.bool false] 92)
 have e0:=two_a w (agVP fn av of (.slice oa of.args.length oc) (.slice ba body.length bc)) #[.string ⟨#[]⟩,.bool false] 45 92
 have e1:=two_b w (agVP fn av of (.slice oa of.args.length oc) (.slice ba body.length bc)) #[.string ⟨#[]⟩,.bool false] 45 92
 have zA:((w.alloc (Obj.cells (agVP fn av of (.slice oa of.args.length oc) (.slice ba body.length bc)) 45)).alloc (Obj.cells #[.string ⟨#[]⟩,.bool false] 92)).heap.size=w.heap.size+2:=by simp
 have hl:((body.length:Int) == 0)=false:=by rw [beq_eq_false_iff_ne];omega
 have hd1:¬ d<1:=by omega
 unfold R5B at hB0
 have HB:=Lib.hid hB;have HO:=Lib.hid hO;have HG:=Lib.hid hG;have HL:=Lib.hid hB0;have HD:=Lib.hid hd
 clear hB hO hG hB0 hd
 unfold agVP at *
 go_enter Tryz.func127,Tryz.ntmps127
 go_upto_region 1 with fail
 generalize (w.alloc (Obj.cells _ 45)).alloc (Obj.cells _ 92)=w0 at *
 have M0:=Lib.hid hm0;have E0:=Lib.hid e0;have E1:=Lib.hid e1;have ZA:=Lib.hid zA
 clear hm0 e0 e1 zA
 have x0:=cell_at E0.out 0;have x1:=cell_at E0.out 1;have x9:=cell_at E0.out 9
 simp only [List.getElem?_toArray,List.getElem?_cons_zero,List.getElem?_cons_succ] at x0 x1 x9
 have b0:=cell_at E1.out 0;have b1:=cell_at E1.out 1
 simp only [List.getElem?_toArray,List.getElem?_cons_zero,List.getElem?_cons_succ] at b0 b1
 go_upto_region 3 with fail
 have HV:Hid (Calls Tryz.prog 120 #[.string av] w0 fun e' w'=>e'=.returned (.bool (Va.variable_ (Cod.str av)))/\w'=w0):=Hxq (vVariable_any av (by omega) w0)
 go_wp2_with fail
 refine HV.out.mono ?_
 rintro e' w1 ⟨rfl,hw1⟩
 subst hw1
 clear HV
 generalize hisv:Va.variable_ (Cod.str av)=isv at *
 have HIS:=Lib.hid hisv
 clear hisv hl hbn
 go_upto_region 4 with fail
 obtain ⟨cs,hcs⟩:∃ cs,Lx.ofS (Pr.word fn)=cs:=⟨_,rfl⟩
 have hcz:cs.size<=5:=by
  rw [<-hcs,ofS_size]
  unfold Pr.word
  repeat' split
  all_goals decide
 have h3:({ data:=#[32,61,32] }:ByteArray).size=3:=rfl
 have h3':({ data:=#[32,123,32] }:ByteArray).size=3:=rfl
 have HCS:=Lib.hid hcs
 obtain ⟨SX,hSX⟩:∃ SX,av++{ data:=#[32,61,32] }++cs++{ data:=#[32,123,32] }=SX:=⟨_,rfl⟩
 have HSX:Hid (TxS (cat (mustO isv) (some (Cod.str av++([32,61,32]++(Pr.word fn++[32,123,32]))))) (av.size+11) SX (!isv)):=Hxq (by
  have hav:av=Lx.ofS (Cod.str av):=(Lx.ofS_str av).symm
  have t1:=(((TxS.lit (Cod.str av) av hav).app (TxS.lit [32,61,32] { data:=#[32,61,32] } rfl)).app (TxS.lit (Pr.word fn) cs hcs.symm)).app (TxS.lit [32,123,32] { data:=#[32,123,32] } rfl)
  rw [hSX] at t1
  refine ((t1.le (m:=av.size+11) (by rw [h3,h3'];omega)).of (o':=some (Cod.str av++([32,61,32]++(Pr.word fn++[32,123,32])))) (b':=false) (by simp [cat]) rfl).must isv |>.of rfl ?_
  simp)
 clear hcs
 go_cut [6] (fun cc wx=>∃ p6,cc=.pointer (some ⟨p6,0,none⟩)/\wx.heap[p6]?=some (.cells #[.string SX,.bool (!isv)] 92 (0,0))/\Mod [] w1 wx/\w1.heap.size<=p6)
 case first =>
  refine tl_region (fun wS=>Mod [] w1 wS) [12] (by kernel_rfl) ?_
  have hHeld:Mod [] w1 w1.drew:=(Mod.refl [] w1).drew
  try simp only [Act.put,Lq1,Lq2,Lq3]
  generalize w1.drew=wd at *
  refine TlAny.take 0 (v:=?_) hHeld ?_ ?_ ?_
  rotate_left 1
  ·refine Or.inl ⟨by rfl,?_⟩
   intro wS hSw
   replace hSw:Mod [] w1 wS:=hSw
   clear hSw
   go_simp
   all_goals with_reducible rfl
  ·exact fun _ _ _ h=>h
  try simp only [Act.put,Lq1,Lq2,Lq3]
  refine TlAny.take 1 (v:=?_) hHeld ?_ ?_ ?_
  rotate_left 1
  ·refine Or.inl ⟨by rfl,?_⟩
   intro wS hSw
   replace hSw:Mod [] w1 wS:=hSw
   have p:=hSw.cell x1 (by simp)
   clear hSw
   go_simp
   all_goals with_reducible rfl
  ·exact fun _ _ _ h=>h
  try simp only [Act.put,Lq1,Lq2,Lq3]
  refine TlAny.take 2 (v:=?_) hHeld ?_ ?_ ?_
  rotate_left 1
  ·refine Or.inl ⟨by rfl,?_⟩
   intro wS hSw
   replace hSw:Mod [] w1 wS:=hSw
   clear hSw
   go_simp;(try rw [if_neg (by (try simp only [ByteArray.size_append]);omega)])
   all_goals with_reducible rfl
  ·exact fun _ _ _ h=>h
  try simp only [Act.put,Lq1,Lq2,Lq3]
  refine TlAny.take 3 (v:=?_) hHeld ?_ ?_ ?_
  rotate_left 1
  ·refine Or.inl ⟨by rfl,?_⟩
   intro wS hSw
   replace hSw:Mod [] w1 wS:=hSw
   clear hSw
   go_simp
   all_goals with_reducible rfl
  ·exact fun _ _ _ h=>h
  try simp only [Act.put,Lq1,Lq2,Lq3]
  refine TlAny.take 4 (v:=?_) hHeld ?_ ?_ ?_
  rotate_left 1
  ·refine Or.inl ⟨by rfl,?_⟩
   intro wS hSw
   replace hSw:Mod [] w1 wS:=hSw
   have p:=hSw.cell x0 (by simp)
   clear hSw
   go_simp
   all_goals with_reducible rfl
  ·exact fun _ _ _ h=>h
  try simp only [Act.put,Lq1,Lq2,Lq3]
  refine TlAny.take 8 (v:=?_) hHeld ?_ ?_ ?_
  rotate_left 1
  ·refine Or.inl ⟨by rfl,?_⟩
   intro wS hSw
   replace hSw:Mod [] w1 wS:=hSw
   clear hSw
   go_simp
   all_goals with_reducible rfl
  ·exact fun _ _ _ h=>h
  try simp only [Act.put,Lq1,Lq2,Lq3]
  refine TlAny.take 9 (v:=?_) hHeld ?_ ?_ ?_
  rotate_left 1
  ·refine Or.inl ⟨by rfl,?_⟩
   intro wS hSw
   replace hSw:Mod [] w1 wS:=hSw
   clear hSw
   go_simp
   all_goals with_reducible rfl
  ·exact fun _ _ _ h=>h
  try simp only [Act.put,Lq1,Lq2,Lq3]
  refine TlAny.two 5 11 ?_ ?_
  ·intro K hK
   go_simp
   refine (rcalled_any fn _).mono ?_
   rintro e2 v5 ⟨rfl,hv1⟩
   subst hv1
   rw [HCS.out]
   refine hK.out _ _ (fun _=>hHeld) ?_
   clear hK K
   try simp only [Act.put,Lq1,Lq2,Lq3]
   refine TlAny.take 6 (v:=?_) hHeld ?_ ?_ ?_
   rotate_left 1
   ·refine Or.inl ⟨by rfl,?_⟩
    intro wS hSw
    replace hSw:Mod [] w1 wS:=hSw
    clear hSw
    go_simp;(try rw [if_neg (by (try simp only [ByteArray.size_append]);omega)])
    all_goals with_reducible rfl
   ·exact fun _ _ _ h=>h
   try simp only [Act.put,Lq1,Lq2,Lq3]
   refine TlAny.take 7 (v:=?_) hHeld ?_ ?_ ?_
   rotate_left 1
   ·refine Or.inl ⟨by rfl,?_⟩
    intro wS hSw
    replace hSw:Mod [] w1 wS:=hSw
    clear hSw
    go_simp;(try rw [if_neg (by (try simp only [ByteArray.size_append]);omega)])
    all_goals with_reducible rfl
   ·exact fun _ _ _ h=>h
   try simp only [Act.put,Lq1,Lq2,Lq3]
   refine TlAny.take 10 (v:=?_) hHeld ?_ ?_ ?_
   rotate_left 1
   ·refine Or.inl ⟨by rfl,?_⟩
    intro wS hSw
    replace hSw:Mod [] w1 wS:=hSw
    clear hSw
    go_simp
    all_goals with_reducible rfl
   ·exact fun _ _ _ h=>h
   try simp only [Act.put,Lq1,Lq2,Lq3]
   refine TlAny.one 11 ?_
   intro K hK
   go_simp
   refine hK.out _ _ (fun _=>hHeld.alloc _) ?_
   clear hK K
   try simp only [Act.put,Lq1,Lq2,Lq3]
   have xA:=heap_alloc_new v5 (Obj.cells #[.string ⟨#[]⟩,.bool false] 92)
   have mA:=(Mod.refl [] v5).alloc (Obj.cells #[.string ⟨#[]⟩,.bool false] 92)
   have hle:=hHeld.size
   generalize v5.alloc (Obj.cells _ 92)=v11 at *
   generalize v5.heap.size=p6 at *
   replace hHeld:Mod [] w1 v11:=hHeld.trans mA (by simp)
   clear mA
   have c0:=cell_at xA 0;have c1:=cell_at xA 1
   simp only [List.getElem?_toArray,List.getElem?_cons_zero,List.getElem?_cons_succ] at c0 c1
   have fA:∀ j,v11.frozen? ⟨p6,j,none⟩=false:=fun j=>free_at xA j
   refine TlAny.one 12 ?_
   intro K hK
   go_simp
   refine hK.out _ _ (fun hN=>absurd hN (by decide)) ?_
   clear hK K
   try simp only [Act.put,Lq1,Lq2,Lq3]
   refine TlAny.fin ?_
   go_wp2_with fail
   go_meet
   exact ⟨p6,rfl,setCs_row (vs:=[.string SX,.bool (!isv)]) xA rfl,hHeld.trans (setCs_mod p6 [.string SX,.bool (!isv)] 0 v11) (fun t ht=>.inr (by rw [Msq] at ht;omega)),by omega⟩
  ·intro K hK
   go_simp
   refine hK.out _ _ (fun _=>hHeld.alloc _) ?_
   clear hK K
   try simp only [Act.put,Lq1,Lq2,Lq3]
   have xA:=heap_alloc_new wd (Obj.cells #[.string ⟨#[]⟩,.bool false] 92)
   have mA:=(Mod.refl [] wd).alloc (Obj.cells #[.string ⟨#[]⟩,.bool false] 92)
   have hle:=hHeld.size
   generalize wd.alloc (Obj.cells _ 92)=v11 at *
   generalize wd.heap.size=p6 at *
   replace hHeld:Mod [] w1 v11:=hHeld.trans mA (by simp)
   clear mA
   refine TlAny.one 5 ?_
   intro K hK
   go_simp
   refine (rcalled_any fn _).mono ?_
   rintro e2 v5 ⟨rfl,hv1⟩
   subst hv1
   rw [HCS.out]
   refine hK.out _ _ (fun _=>hHeld) ?_
   clear hK K
   try simp only [Act.put,Lq1,Lq2,Lq3]
   refine TlAny.take 6 (v:=?_) hHeld ?_ ?_ ?_
   rotate_left 1
   ·refine Or.inl ⟨by rfl,?_⟩
    intro wS hSw
    replace hSw:Mod [] w1 wS:=hSw
    clear hSw
    go_simp;(try rw [if_neg (by (try simp only [ByteArray.size_append]);omega)])
    all_goals with_reducible rfl
   ·exact fun _ _ _ h=>h
   try simp only [Act.put,Lq1,Lq2,Lq3]
   refine TlAny.take 7 (v:=?_) hHeld ?_ ?_ ?_
   rotate_left 1
   ·refine Or.inl ⟨by rfl,?_⟩
    intro wS hSw
    replace hSw:Mod [] w1 wS:=hSw
    clear hSw
    go_simp;(try rw [if_neg (by (try simp only [ByteArray.size_append]);omega)])
    all_goals with_reducible rfl
   ·exact fun _ _ _ h=>h
   try simp only [Act.put,Lq1,Lq2,Lq3]
   refine TlAny.take 10 (v:=?_) hHeld ?_ ?_ ?_
   rotate_left 1
   ·refine Or.inl ⟨by rfl,?_⟩
    intro wS hSw
    replace hSw:Mod [] w1 wS:=hSw
    clear hSw
    go_simp
    all_goals with_reducible rfl
   ·exact fun _ _ _ h=>h
   try simp only [Act.put,Lq1,Lq2,Lq3]
   have c0:=cell_at xA 0;have c1:=cell_at xA 1
   simp only [List.getElem?_toArray,List.getElem?_cons_zero,List.getElem?_cons_succ] at c0 c1
   have fA:∀ j,v5.frozen? ⟨p6,j,none⟩=false:=fun j=>free_at xA j
   refine TlAny.one 12 ?_
   intro K hK
   go_simp
   refine hK.out _ _ (fun hN=>absurd hN (by decide)) ?_
   clear hK K
   try simp only [Act.put,Lq1,Lq2,Lq3]
   refine TlAny.fin ?_
   go_wp2_with fail
   go_meet
   exact ⟨p6,rfl,setCs_row (vs:=[.string SX,.bool (!isv)]) xA rfl,hHeld.trans (setCs_mod p6 [.string SX,.bool (!isv)] 0 v5) (fun t ht=>.inr (by rw [Msq] at ht;omega)),by omega⟩
 case rest =>
  obtain ⟨p6,rfl,x6,m6,hp6⟩:=hcut
  generalize hwq:wc=wq at *
  clear hwq
  have hz0:w.heap.size+2<=p6:=by have q:=(M0.out).size;have:=ZA.out;have:=lt_of_block E1.out;omega
  have hp0:w.heap.size∉[p6]:=by rw [Msq];omega
  have hp1:w.heap.size+1∉[p6]:=by rw [Msq];omega
  have F0:=Hxq (m6.at E0.out (by simp));have F1:=Hxq (m6.at E1.out (by simp));have M6:=Hxq (M0.out.trans m6 (by simp));have X6:=Lib.hid x6
  have hsx:=HSX.out.1
  clear m6 x6 x0 x1 x9 b0 b1 h3 h3' hcz
  have y0:=cell_at F0.out 0;have y2:=cell_at F0.out 2;have y3:=cell_at F0.out 3;have y4:=cell_at F0.out 4;have y5:=cell_at F0.out 5;have y6:=cell_at F0.out 6;have y7:=cell_at F0.out 7;have y8:=cell_at F0.out 8
  simp only [List.getElem?_toArray,List.getElem?_cons_zero,List.getElem?_cons_succ] at y0 y2 y3 y4 y5 y6 y7 y8
  obtain ⟨f1,hf1⟩:∃ f1,(fn == 1)=f1:=⟨_,rfl⟩
  have HF1:=Lib.hid hf1
  go_upto_if 45 with fail
  clear hf1
  go_cut [] (fun wx=>∃ (S:ByteArray) (B:Bool),wx.heap[p6]?=some (.cells #[.string S,.bool B] 92 (0,0))/\Mod [p6] wq wx/\TxS (cat (cat (mustO isv) (some (Cod.str av++([32,61,32]++(Pr.word fn++[32,123,32]))))) (ofO fn of)) (av.size+11+(exWt of+3)) S B)
  case first =>
   rcases Bool.eq_false_or_eq_true f1 with rfl | rfl
   ·have HC:=rnoExpr_any of oa oc wq
    have HFO:Hid (∀ B,(!isv || !Pr.noExpr of)=B->TxS (cat (cat (mustO isv) (some (Cod.str av++([32,61,32]++(Pr.word fn++[32,123,32]))))) (ofO fn of)) (av.size+11+(exWt of+3)) SX B):=Hxq (fun B hB=>((HSX.out.after (Pr.noExpr of)).of (by unfold ofO;rw [if_pos (by simpa using HF1.out)]) hB.symm).le (by omega))
    unfold exV at HC
    generalize Pr.noExpr of=nO at *
    have HC:=Lib.hid HC
    go_wp2_with fail
    refine HC.out.mono ?_
    rintro e9 w9 ⟨rfl,m9⟩
    have x9:=m9.at X6.out (by simp)
    have M9:=Lib.hid m9
    clear m9 HC
    have XN:=Hxq (fun v=>setCell_at x9 1 v);have MN:=Hxq (fun v=>(Mod.refl [p6] w9).setCell (p:=⟨p6,1,none⟩) (.inl (by simp)) v)
    have u1:=cell_at x9 1
    simp only [List.getElem?_toArray,List.getElem?_cons_zero,List.getElem?_cons_succ] at u1
    have fU:∀ j,w9.frozen? ⟨p6,j,none⟩=false:=fun j=>free_at x9 j
    clear x9
    cases isv <;> cases nO
    all_goals (
     go_wp2_with fail
     go_meet
     exact ⟨SX,_,XN.out _,(M9.out.mono (by simp)).trans (MN.out _) (by simp),HFO.out _ rfl⟩)
   ·have HC:=exr_all 17 (by omega) of _ 16 wq rfl (HO.out.past M6.out) (HG.out.past M6.out (by simp)) (by omega)
    have HFO:Hid (∀ (t:ByteArray) (bt:Bool),TxS (Pr.pE 17 of) (exWt of) t bt->TxS (cat (cat (mustO isv) (some (Cod.str av++([32,61,32]++(Pr.word fn++[32,123,32]))))) (ofO fn of)) (av.size+11+(exWt of+3)) (SX++t++{ data:=#[32,58,32] }) (!isv || bt)):=Hxq (fun t bt ht=>by
     have h:=(HSX.out.app ht).app (TxS.lit [32,58,32] { data:=#[32,58,32] } rfl)
     refine (h.of (o':=cat (cat (mustO isv) (some (Cod.str av++([32,61,32]++(Pr.word fn++[32,123,32]))))) (ofO fn of)) ?_ (b':=(!isv || bt)) (by simp)).le (by show _+3<=_;omega)
     unfold ofO
     rw [if_neg (by simpa using HF1.out)]
     exact (cat_assoc _ _ _).symm)
    unfold exV at HC
    have HC:=Lib.hid HC
    go_wp2_with fail
    refine HC.out.mono ?_
    rintro e9 w9 ⟨v,rfl,⟨t,bt,rfl,ht⟩,m9⟩
    have mU:=m9.trans ((Mod.refl [] w9).alloc (Obj.cells #[.string t,.bool bt] 92)) (by simp)
    have xU:=heap_alloc_new w9 (Obj.cells #[.string t,.bool bt] 92)
    have hpz:p6<w9.heap.size:=lt_of_block (m9.at X6.out (by simp))
    go_upto_region 9 with fail
    generalize w9.alloc (Obj.cells _ 92)=w10 at *
    generalize w9.heap.size=p8 at *
    have X10:=Hxq (mU.at X6.out (by simp));have Y10:=Lib.hid xU;have M10:=Lib.hid mU
    have htz:=ht.1
    have HFF:=Hxq (HFO.out t bt ht)
    clear mU xU m9 ht HC HFO y2 y3 y4 y5 y6 y7 y8
    have u0:=cell_at X10.out 0;have v0:=cell_at Y10.out 0
    simp only [List.getElem?_toArray,List.getElem?_cons_zero,List.getElem?_cons_succ] at u0 v0
    have fU:∀ j,w10.frozen? ⟨p6,j,none⟩=false:=fun j=>free_at X10.out j
    have h3:({ data:=#[32,58,32] }:ByteArray).size=3:=rfl
    have XN:=fun v=>setCell_at X10.out 0 v
    have MN:=fun v=>(Mod.refl [p6] w10).setCell (p:=⟨p6,0,none⟩) (.inl (by simp)) v
    have XN:=XN (.string (SX++t++{ data:=#[32,58,32] }));have MN:=MN (.string (SX++t++{ data:=#[32,58,32] }))
    have YN:=MN.at Y10.out (by rw [Msq];omega)
    have hx0:(w10.setCell ⟨p6,0,none⟩ (.string (SX++t++{ data:=#[32,58,32] }))).heap[p6]?=some (.cells #[.string (SX++t++{ data:=#[32,58,32] }),.bool (!isv)] 92 (0,0)):=XN
    have HX:=Lib.hid hx0;have HM:=Lib.hid MN;have HY:=Lib.hid YN
    clear XN MN YN hx0
    go_upto_region 10 with fail
    generalize SX++t++{ data:=#[32,58,32] }=SY at *
    generalize w10.setCell ⟨p6,0,none⟩ (.string SY)=w11 at *
    clear u0 v0 fU
    have u1:=cell_at HX.out 1;have v1:=cell_at HY.out 1
    simp only [List.getElem?_toArray,List.getElem?_cons_zero,List.getElem?_cons_succ] at u1 v1
    have fU:∀ j,w11.frozen? ⟨p6,j,none⟩=false:=fun j=>free_at HX.out j
    have XN:=Hxq (fun v=>setCell_at HX.out 1 v);have MN:=Hxq (fun v=>(Mod.refl [p6] w11).setCell (p:=⟨p6,1,none⟩) (.inl (by simp)) v)
    have M11:=Hxq ((M10.out.mono (T:=[p6]) (by simp)).trans HM.out (by simp))
    cases isv <;> cases bt
    all_goals (
     go_wp2_with fail
     go_meet
     exact ⟨SY,_,XN.out _,M11.out.trans (MN.out _) (by simp),HFF.out⟩)
  case rest =>
   obtain ⟨S,B,x7,m7,hS⟩:=hcut
   have G0:=Hxq (m7.at F0.out hp0);have G1:=Hxq (m7.at F1.out hp1);have M7:=Hxq (M6.out.trans m7 (fun t ht=>.inr (by rw [Msq] at ht;omega)));have X7:=Lib.hid x7;have HS:=Lib.hid hS
   have hsz:=hS.1
   clear x7 m7 hS y0 y2 y3 y4 y5 y6 y7 y8
   have HC:Hid (Calls Tryz.prog 61 #[.slice ba body.length bc,.int .i64 ((c:Nat):Int)] wc (TxR (comO (Pr.pL c) body) (2 * lsWt body) wc)):=Hxq (HL.out body _ wc (HB.out.past M7.out) (HG.out.past M7.out (by simp)) (by omega))
   have hwr:wrap64 (d - 1)=((c:Nat):Int):=by have:=HD.out;unfold wrap64;omega
   have z9:=cell_at G0.out 9
   simp only [List.getElem?_toArray,List.getElem?_cons_zero,List.getElem?_cons_succ] at z9
   go_wp2_with fail
   refine HC.out.mono ?_
   rintro e9 w9 ⟨v,rfl,⟨t,bt,rfl,ht⟩,m9⟩
   have mU:=m9.trans ((Mod.refl [] w9).alloc (Obj.cells #[.string t,.bool bt] 92)) (by simp)
   have xU:=heap_alloc_new w9 (Obj.cells #[.string t,.bool bt] 92)
   go_upto_region 12 with fail
   generalize w9.alloc (Obj.cells _ 92)=w10 at *
   generalize w9.heap.size=p9 at *
   have X10:=Hxq (mU.at X7.out (by simp));have Y10:=Lib.hid xU;have M10:=Hxq (M7.out.trans mU (by simp));have G10:=Hxq (mU.at G1.out (by simp))
   have htz:=ht.1
   have HFF:Hid (∀ BB,(B || bt)=BB->TxS o (av.size+exWt of+2 * lsWt body+50) (S++t++{ data:=#[32,125] }) BB):=Hxq (fun BB hBB=>by
    have h:=(HS.out.app ht).app (TxS.lit [32,125] { data:=#[32,125] } rfl)
    refine (h.of (o':=o) ?_ (b':=BB) (by rw [<-hBB,Bool.or_false])).le (by show _+2<=_;omega)
    rw [HP.out])
   clear mU xU m9 ht HC z9 hwr
   have u0:=cell_at X10.out 0;have u1:=cell_at X10.out 1;have v0:=cell_at Y10.out 0;have v1:=cell_at Y10.out 1
   simp only [List.getElem?_toArray,List.getElem?_cons_zero,List.getElem?_cons_succ] at u0 u1 v0 v1
   have fA:∀ j,w10.frozen? ⟨w.heap.size+1,j,none⟩=false:=fun j=>free_at G10.out j
   have b0:=cell_at G10.out 0;have b1:=cell_at G10.out 1
   simp only [List.getElem?_toArray,List.getElem?_cons_zero,List.getElem?_cons_succ] at b0 b1
   have h2:({ data:=#[32,125] }:ByteArray).size=2:=rfl
   cases B
   all_goals (
    go_wp2_with fail
    generalize S++t++{ data:=#[32,125] }=S2 at *
    refine bodyPost_ret (results_cell_row rfl _ _ _ _ _ _ _ rfl (setCs_row (vs:=[.string S2,.bool _]) G10.out rfl) Tryz.underlying92 rfl (by kernel_rfl)) rfl ⟨_,rfl,⟨S2,_,rfl,HFF.out _ rfl⟩,M10.out.trans (setCs_mod (w.heap.size+1) [.string S2,.bool _] 0 w10) (fun t ht=>.inr (by rw [Msq] at ht;omega))⟩)
end Go.Proofs.YtohnmnfhmbmoaaaGreatDoor
