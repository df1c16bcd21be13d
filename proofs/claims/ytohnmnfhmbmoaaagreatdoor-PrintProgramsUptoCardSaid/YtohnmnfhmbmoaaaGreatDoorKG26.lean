/- THE TEXTS MERGED: P5Lits P5Rule P5Rel P5Prog. -/
import Derived.Test.YtohnmnfhmbmoaaaGreatDoorKG25
namespace Go.Proofs.YtohnmnfhmbmoaaaGreatDoor
open Go.RowKit
set_option linter.unusedVariables false
set_option linter.unusedSimpArgs false
set_option maxRecDepth 100000
def R5L (b:Nat):Prop:=∀ (e:Pr.Li) (U:LU) (w:World),LOk w e U->GlobV w->2 * lWt e<=140737488000000 ->
 Calls Tryz.prog 93 #[.agg (liV e U),.int .i64 (b:Int)] w (TxR (Pr.pL b e) (2 * lWt e - 100) w)
def R5B (b:Nat):Prop:=∀ (ls:List Pr.Li) (u:Value) (w:World),BOk w ls u->GlobV w->2 * lsWt ls<=140737488000000 ->
 Calls Tryz.prog 61 #[u,.int .i64 (b:Int)] w (TxR (comO (Pr.pL b) ls) (2 * lsWt ls) w)
/-- the answer's block and the text's, at g and g + 1 -/
structure RLt (w:World) (g:Nat) (so:ByteArray) (bo:Bool) (wx:World):Prop where
 r:wx.heap[g]?=some (.cells #[.string ⟨#[]⟩,.bool false] 92 (0,0))
 o:wx.heap[g+1]?=some (.cells #[.string so,.bool bo] 92 (0,0))
 m:Mod [] w wx
 g0:w.heap.size<=g
 z:g+2<=wx.heap.size
theorem RLt.step {w:World} {g:Nat} {so:ByteArray} {bo:Bool} {wx wy:World} (h:RLt w g so bo wx) (m:Mod [] wx wy):RLt w g so bo wy :=
 ⟨m.at h.r (by simp),m.at h.o (by simp),h.m.trans m (by simp),h.g0,Nat.le_trans h.z m.size⟩
theorem RLt.set0 {w:World} {g:Nat} {so:ByteArray} {bo:Bool} {wx:World} (h:RLt w g so bo wx) (s:ByteArray):RLt w g s bo (wx.setCell ⟨g+1,0,none⟩ (.string s)):=by
 have m:=(Mod.refl [g+1] wx).setCell (p:=⟨g+1,0,none⟩) (.inl (by simp)) (.string s)
 exact ⟨m.at h.r (by simp),by rw [setCell_at h.o];rfl,h.m.trans m (fun t ht=>.inr (by rw [Msq] at ht;have:=h.g0;omega)),h.g0,Nat.le_trans h.z m.size⟩
theorem RLt.set1 {w:World} {g:Nat} {so:ByteArray} {bo:Bool} {wx:World} (h:RLt w g so bo wx) (b:Bool):RLt w g so b (wx.setCell ⟨g+1,1,none⟩ (.bool b)):=by
 have m:=(Mod.refl [g+1] wx).setCell (p:=⟨g+1,1,none⟩) (.inl (by simp)) (.bool b)
 exact ⟨m.at h.r (by simp),by rw [setCell_at h.o];rfl,h.m.trans m (fun t ht=>.inr (by rw [Msq] at ht;have:=h.g0;omega)),h.g0,Nat.le_trans h.z m.size⟩
set_option maxHeartbeats 8000000 in
theorem rlits_of {b:Nat} (HL0:R5L b):R5B b:=by
 intro ls u w hB hG hlen
 obtain ⟨ba,bc,rfl⟩:=hB.lit
 have hLL:=lsWt_len ls
 unfold R5L at HL0
 have HL:=Lib.hid HL0;have HB:=Lib.hid hB;have HG:=Lib.hid hG
 clear HL0 hB hG
 have hm0:=((Mod.refl [] w).alloc (Obj.cells #[.string ⟨#[]⟩,.bool false] 92)).alloc (Obj.cells #[.string ⟨#[]⟩,.bool false] 92)
 have e0:=two_a w #[.string ⟨#[]⟩,.bool false] #[.string ⟨#[]⟩,.bool false] 92 92
 have e1:=two_b w #[.string ⟨#[]⟩,.bool false] #[.string ⟨#[]⟩,.bool false] 92 92
 have zA:((w.alloc (Obj.cells #[.string ⟨#[]⟩,.bool false] 92)).alloc (Obj.cells #[.string ⟨#[]⟩,.bool false] 92)).heap.size=w.heap.size+2:=by simp
 go_enter Tryz.func61,Tryz.ntmps61
 go_upto_region 2 with fail
 generalize (w.alloc (Obj.cells _ 92)).alloc (Obj.cells _ 92)=w0 at *
 have RA:=Hxq (RLt.mk e0 e1 hm0 (Nat.le_refl _) (Nat.le_of_eq zA.symm))
 clear hm0 e0 e1 zA
 go_wp2_with fail
 go_loopw [6] (fun iv wr=>∃ (k:Nat) (so:ByteArray),k<=ls.length/\iv=.int .i64 (k:Nat)/\TxS (comO (Pr.pL b) (ls.take k)) (2 * lsWt (ls.take k)) so false/\RLt w w.heap.size so false wr) (fun iv _=>ls.length - (intOf iv).toNat)
 case atStart=>exact ⟨0,⟨#[]⟩,Nat.zero_le _,rfl,⟨Nat.zero_le _,fun t ht=>by cases ht;exact ⟨rfl,rfl⟩,fun hn=>by cases hn⟩,RA.out⟩
 case round =>
  obtain ⟨k,so,hk,rfl,hS,hr⟩:=hrel
  by_cases hlt:k<ls.length
  ·have hkI:(k:Int)<(ls.length:Int):=by omega
   have hk0:(0:Int)<=(k:Int):=by omega
   obtain ⟨bb,off,U,rfl,hc,hok⟩:=HB.out.at k hlt
   have hsn:=comO_snoc (Pr.pL b) (ls.take k) ls[k]
   have hst:=lsWt_take ls k hlt
   have hle:=lsWt_le ls (k+1)
   have hth:=lWt_pos ls[k]
   have hnone:=seqO_none_take (Pr.pL b) ls (k+1)
   rw [<-List.take_succ_eq_append_getElem hlt,List.length_take,Nat.min_eq_left hk] at hsn
   have HSN:=Lib.hid hsn
   have HNO:Hid (comO (Pr.pL b) (ls.take (k+1))=none->comO (Pr.pL b) ls=none):=Hxq (fun h=>by
    unfold comO at h ⊢
    rw [Option.map_eq_none_iff] at h ⊢
    exact hnone h)
   clear hsn hnone
   generalize ls[k]=t at *
   have hc:=hc.past hr.m
   have hok:=hok.past hr.m
   have HGr:=HG.out.past hr.m (by simp)
   have HC:=Hxq (HL.out t U wr hok HGr (by omega))
   have HS:=Lib.hid hS;have HR:=Lib.hid hr
   have hso:=hS.1
   clear hS hr HGr
   obtain ⟨kk,a,op,le,re,fn,av,of,body,ln,cl⟩:=t
   obtain ⟨hT,hl,hre,ho,hbo⟩:=hok.parts
   obtain ⟨Ut,Ul,Ur,Uo,Ub⟩:=U
   dsimp only at hT hl hre ho hbo
   obtain ⟨ta,tc,rfl⟩:=hT.lit
   obtain ⟨la,lc,rfl⟩:=hl.lit
   obtain ⟨ra,rc,rfl⟩:=hre.lit
   obtain ⟨oa,oc,rfl⟩:=ho.lit
   obtain ⟨ya,yc,rfl⟩:=hbo.lit
   have XR:=CellsAt.range (cs:=[Value.int IntKind.i64 kk,Value.string a.rel,(Value.slice ta a.terms.length tc),Value.int IntKind.i64 op,Value.int IntKind.i64 le.k,Value.string le.v,Value.int IntKind.i64 le.x.k,Value.int IntKind.i64 le.x.n,Value.string (Lx.ofS le.x.s),Value.int IntKind.i64 le.op,(Value.slice la le.args.length lc),Value.int IntKind.i64 re.k,Value.string re.v,Value.int IntKind.i64 re.x.k,Value.int IntKind.i64 re.x.n,Value.string (Lx.ofS re.x.s),Value.int IntKind.i64 re.op,(Value.slice ra re.args.length rc),Value.int IntKind.i64 fn,Value.string av,Value.int IntKind.i64 of.k,Value.string of.v,Value.int IntKind.i64 of.x.k,Value.int IntKind.i64 of.x.n,Value.string (Lx.ofS of.x.s),Value.int IntKind.i64 of.op,(Value.slice oa of.args.length oc),(Value.slice ya body.length yc),Value.int IntKind.i64 ln,Value.int IntKind.i64 cl]) hc
   clear hT hl hre ho hbo hc hok
   obtain ⟨wt,hwt⟩:∃ wt,lWt (.mk kk a op le re fn av of body ln cl)=wt:=⟨_,rfl⟩
   rw [hwt] at hst hth HC
   clear hwt
   go_wp2_with (refine wpList_load_mid rfl 49 _ rfl bb _ rfl _ _ XR Tryz.underlying49 rfl (by kernel_rfl) ?_)
   refine HC.out.mono ?_
   rintro e5 w5 ⟨v,rfl,⟨s,bt,rfl,hs⟩,m5⟩
   clear XR HC
   have mU:=(Mod.refl [] w5).alloc (Obj.cells #[.string s,.bool bt] 92)
   have xU:=heap_alloc_new w5 (Obj.cells #[.string s,.bool bt] 92)
   have hz5:w.heap.size+2<=w5.heap.size:=Nat.le_trans HR.out.z m5.size
   go_upto_region 6 with fail
   generalize w5.alloc (Obj.cells _ 92)=w6 at *
   generalize w5.heap.size=pt at *
   have R6:=Hxq ((HR.out.step m5).step mU);have X6:=Lib.hid xU;have HS2:=Lib.hid hs
   clear mU xU m5 hs
   have b0:=cell_at R6.out.r 0;have b1:=cell_at R6.out.r 1;have o0:=cell_at R6.out.o 0;have u0:=cell_at X6.out 0;have u1:=cell_at X6.out 1
   simp only [List.getElem?_toArray,List.getElem?_cons_zero,List.getElem?_cons_succ] at b0 b1 o0 u0 u1
   have fA:∀ j,w6.frozen? ⟨w.heap.size,j,none⟩=false:=fun j=>free_at R6.out.r j
   have fO:∀ j,w6.frozen? ⟨w.heap.size+1,j,none⟩=false:=fun j=>free_at R6.out.o j
   cases bt
   ·have hs2:=HS2.out.1
    have hptn:pt∉[w.heap.size+1]:=by rw [Msq];omega
    clear b0 b1 fA
    go_upto_if 24 with fail
    go_cut [] (fun wx=>∃ (s1:ByteArray),TxS (cat (comO (Pr.pL b) (ls.take k)) (some (if k=0 then [] else [44,32]))) (2 * lsWt (ls.take k)+2) s1 false/\RLt w w.heap.size s1 false wx/\wx.heap[pt]?=some (.cells #[.string s,.bool false] 92 (0,0)))
    case first =>
     by_cases k0:k=0
     ·subst k0
      go_wp2_with fail
      go_meet
      exact ⟨so,(HS.out.of (by simp [cat_nil']) rfl).le (by omega),R6.out,X6.out⟩
     ·have kB:decide (0<k)=true:=by rw [decide_eq_true_eq];omega
      have K0:=Lib.hid k0
      clear k0 kB
      go_wp2_with fail
      all_goals first
       | (exfalso;have:=K0.out;omega)
       | skip
      go_meet
      refine ⟨so++{ data:=#[44,32] },?_,R6.out.set0 _,((Mod.refl [w.heap.size+1] w6).setCell (p:=⟨w.heap.size+1,0,none⟩) (.inl (by simp)) _).at X6.out hptn⟩
      rw [if_neg K0.out]
      exact ((HS.out.app (TxS.lit [44,32] { data:=#[44,32] } rfl)).of rfl (by simp)).le (Nat.le_refl _)
    case rest =>
     obtain ⟨s1,hs1,hr,xt⟩:=hcut
     have HS1:=Lib.hid hs1;have R3:=Lib.hid hr;have XT3:=Lib.hid xt
     have hs1z:=hs1.1
     clear hs1 hr xt o0 fO u0 u1
     have o0:=cell_at R3.out.o 0;have t0:=cell_at XT3.out 0
     simp only [List.getElem?_toArray,List.getElem?_cons_zero,List.getElem?_cons_succ] at o0 t0
     have fO:∀ j,wc.frozen? ⟨w.heap.size+1,j,none⟩=false:=fun j=>free_at R3.out.o j
     have HFIN:Hid (TxS (comO (Pr.pL b) (ls.take (k+1))) (2 * lsWt (ls.take (k+1))) (s1++s) false):=Hxq (((HS1.out.app HS2.out).of (by rw [HSN.out]) rfl).le (by omega))
     have HR5:=Hxq (R3.out.set0 (s1++s))
     go_wp2_with fail
     go_roundw
     case rel=>exact ⟨k+1,_,by omega,by go_num,HFIN.out,HR5.out⟩
     case measure=>simp [intOf];omega
   ·have HN:Hid (comO (Pr.pL b) ls=none):=Hxq (HNO.out (by
     rw [HSN.out]
     have h0:=HS2.out.2.1
     cases ht:Pr.pL b (Pr.Li.mk kk a op le re fn av of body ln cl) with
     | some x=>have:=(h0 x ht).1;cases this
     | none=>simp))
    go_wp2_with fail
    refine bodyPost_ret (results_cell_row rfl _ _ _ _ _ _ _ rfl (setCs_row (vs:=[.string ⟨#[]⟩,.bool true]) R6.out.r rfl) Tryz.underlying92 rfl (by kernel_rfl)) rfl ⟨_,rfl,⟨⟨#[]⟩,true,rfl,Nat.zero_le _,fun t ht=>(nomatch HN.out.symm.trans ht),fun _=>rfl⟩,R6.out.m.trans (setCs_mod w.heap.size [.string ⟨#[]⟩,.bool true] 0 w6) (fun t ht=>.inr (by rw [Msq] at ht;omega))⟩
  ·obtain rfl:k=ls.length:=by omega
   have hkI:¬ (ls.length:Int)<(ls.length:Int):=by omega
   rw [List.take_length] at hS
   have HS:=Lib.hid hS;have HR:=Lib.hid hr
   clear hS
   have o0:=cell_at hr.o 0;have o1:=cell_at hr.o 1;have b0:=cell_at hr.r 0;have b1:=cell_at hr.r 1
   simp only [List.getElem?_toArray,List.getElem?_cons_zero,List.getElem?_cons_succ] at o0 o1 b0 b1
   have fA:∀ j,wr.frozen? ⟨w.heap.size,j,none⟩=false:=fun j=>free_at hr.r j
   clear hr
   go_wp2_with fail
   refine bodyPost_ret (results_cell_row rfl _ _ _ _ _ _ _ rfl (setCs_row (vs:=[.string so,.bool false]) HR.out.r rfl) Tryz.underlying92 rfl (by kernel_rfl)) rfl ⟨_,rfl,⟨so,false,rfl,HS.out⟩,HR.out.m.trans (setCs_mod w.heap.size [.string so,.bool false] 0 wr) (fun t ht=>.inr (by rw [Msq] at ht;omega))⟩
set_option maxHeartbeats 4000000 in
theorem rrule_any (HB0:R5B 16) (r:Pr.Rul) (tu bu:Value) (w:World) (hT:TOk w r.head.terms tu) (hB:BOk w r.body bu) (hG:GlobV w) (hlen:2 * rWt r<=140737488000000) :
  Calls Tryz.prog 38 #[.agg #[.string r.head.rel,tu,bu,.int .i64 r.line,.int .i64 r.col]] w (TxR (Pr.pR r) (2 * rWt r) w):=by
 obtain ⟨⟨rel,ts⟩,body,ln,cl⟩:=r
 dsimp only at hT hB hlen ⊢
 obtain ⟨ta,tc,rfl⟩:=hT.lit
 obtain ⟨ba,bc,rfl⟩:=hB.lit
 have hW:rWt ⟨⟨rel,ts⟩,body,ln,cl⟩=aWt ⟨rel,ts⟩+lsWt body+10:=rfl
 have hpR:Pr.pR ⟨⟨rel,ts⟩,body,ln,cl⟩=match Pr.pA ⟨rel,ts⟩ with
  | none=>none
  | some h=>if body.length=0 then some h else (comO (Pr.pL 16) body).map (fun t=>h++([32,58,45,32]++t)):=rfl
 rw [hW] at hlen ⊢
 generalize Pr.pR ⟨⟨rel,ts⟩,body,ln,cl⟩=o at *
 have HO:=Lib.hid hpR
 clear hW hpR
 have hm0:=((Mod.refl [] w).alloc (Obj.cells #[.string rel,.slice ta ts.length tc,.slice ba body.length bc,.int .i64 ln,.int .i64 cl] 63)).alloc (Obj.cells #[.string ⟨#[]⟩,.bool false] 92)
 have e0:=two_a w #[.string rel,.slice ta ts.length tc,.slice ba body.length bc,.int .i64 ln,.int .i64 cl] #[.string ⟨#[]⟩,.bool false] 63 92
 have e1:=two_b w #[.string rel,.slice ta ts.length tc,.slice ba body.length bc,.int .i64 ln,.int .i64 cl] #[.string ⟨#[]⟩,.bool false] 63 92
 have zA:((w.alloc (Obj.cells #[.string rel,.slice ta ts.length tc,.slice ba body.length bc,.int .i64 ln,.int .i64 cl] 63)).alloc (Obj.cells #[.string ⟨#[]⟩,.bool false] 92)).heap.size=w.heap.size+2:=by simp
 unfold R5B at HB0
 have HL:=Lib.hid HB0;have HT:=Lib.hid hT;have HB:=Lib.hid hB;have HG:=Lib.hid hG
 clear HB0 hT hB hG
 go_enter Tryz.func38,Tryz.ntmps38
 go_upto_region 1 with fail
 generalize (w.alloc (Obj.cells _ 63)).alloc (Obj.cells _ 92)=w0 at *
 have M0:=Lib.hid hm0;have E0:=Lib.hid e0;have E1:=Lib.hid e1;have ZA:=Lib.hid zA
 clear hm0 e0 e1 zA
 have HA:Hid (Calls Tryz.prog 60 #[.agg #[.string rel,.slice ta ts.length tc]] w0 (TxR (Pr.pA ⟨rel,ts⟩) (2 * aWt ⟨rel,ts⟩) w0)):=Hxq (ratom_any ⟨rel,ts⟩ _ w0 (HT.out.past M0.out) (HG.out.past M0.out (by simp)) (by omega))
 have x0:=cell_at E0.out 0;have x1:=cell_at E0.out 1;have x2:=cell_at E0.out 2
 simp only [List.getElem?_toArray,List.getElem?_cons_zero,List.getElem?_cons_succ] at x0 x1 x2
 go_wp2_with fail
 refine HA.out.mono ?_
 rintro e w1 ⟨v,rfl,⟨s,b,rfl,hs⟩,m1⟩
 have hsz:w.heap.size+2<=w1.heap.size:=by have:=m1.size;have:=ZA.out;omega
 have mU:=m1.trans ((Mod.refl [] w1).alloc (Obj.cells #[.string s,.bool b] 92)) (by simp)
 have xU:=heap_alloc_new w1 (Obj.cells #[.string s,.bool b] 92)
 go_upto_region 2 with fail
 have zU:(w1.alloc (Obj.cells #[.string s,.bool b] 92)).heap.size=w1.heap.size+1:=by simp
 generalize w1.alloc (Obj.cells _ 92)=w2 at *
 generalize w1.heap.size=pt at *
 have M2:=Hxq (M0.out.trans mU (by simp));have F0:=Hxq (mU.at E0.out (by simp));have F1:=Hxq (mU.at E1.out (by simp));have X2:=Lib.hid xU;have HS:Hid (TxS (Pr.pA ⟨rel,ts⟩) (2 * aWt ⟨rel,ts⟩) s b):=Lib.hid hs;have ZU:=Lib.hid zU
 clear mU xU m1 x0 x1 x2 HA hs zU
 have x2:=cell_at F0.out 2;have b0:=cell_at F1.out 0;have b1:=cell_at F1.out 1;have u0:=cell_at X2.out 0;have u1:=cell_at X2.out 1
 simp only [List.getElem?_toArray,List.getElem?_cons_zero,List.getElem?_cons_succ] at x2 b0 b1 u0 u1
 have fA:∀ j,w2.frozen? ⟨w.heap.size+1,j,none⟩=false:=fun j=>free_at F1.out j
 have HEND:Hid (TxS o (2 * (aWt ⟨rel,ts⟩+lsWt body+10)) s b->TxR o (2 * (aWt ⟨rel,ts⟩+lsWt body+10)) w (.returned (.agg #[.string s,.bool b])) (setCs w2 (w.heap.size+1) 0 [.string s,.bool b])) :=
  Hxq (fun ho=>⟨_,rfl,⟨s,b,rfl,ho⟩,M2.out.trans (setCs_mod (w.heap.size+1) [.string s,.bool b] 0 w2) (fun t ht=>.inr (by rw [Msq] at ht;omega))⟩)
 by_cases hn:body.length=0
 ·have hnB:((body.length:Int) == 0)=true:=by rw [beq_iff_eq];omega
  have HN:=Lib.hid hn
  clear hn
  go_wp2_with fail
  refine bodyPost_ret (results_cell_row rfl _ _ _ _ _ _ _ rfl (setCs_row (vs:=[.string s,.bool b]) F1.out rfl) Tryz.underlying92 rfl (by kernel_rfl)) rfl (HEND.out ?_)
  have hq:o=Pr.pA ⟨rel,ts⟩:=by
   rw [HO.out]
   cases Pr.pA ⟨rel,ts⟩ with
   | none=>rfl
   | some h=>exact if_pos HN.out
  rw [hq]
  exact ⟨Nat.le_trans HS.out.1 (by omega),HS.out.2⟩
 ·have hnB:((body.length:Int) == 0)=false:=by rw [beq_eq_false_iff_ne];omega
  have HN:=Lib.hid hn
  clear hn
  cases b
  ·clear HEND
   go_upto_region 4 with fail
   have HC:Hid (Calls Tryz.prog 61 #[.slice ba body.length bc,.int .i64 16] w2 (TxR (comO (Pr.pL 16) body) (2 * lsWt body) w2)):=Hxq (HL.out body _ w2 (HB.out.past M2.out) (HG.out.past M2.out (by simp)) (by omega))
   go_wp2_with fail
   refine HC.out.mono ?_
   rintro e' w3 ⟨v,rfl,⟨s3,b3,rfl,hs3⟩,m3⟩
   have hz3:=m3.size
   have zU:=ZU.out
   have mU:=m3.trans ((Mod.refl [] w3).alloc (Obj.cells #[.string s3,.bool b3] 92)) (by simp)
   have xU:=heap_alloc_new w3 (Obj.cells #[.string s3,.bool b3] 92)
   go_upto_region 5 with fail
   generalize w3.alloc (Obj.cells _ 92)=w4 at *
   generalize w3.heap.size=pt3 at *
   have M4:=Hxq (M2.out.trans mU (by simp));have G1:=Hxq (mU.at F1.out (by simp));have Y2:=Hxq (mU.at X2.out (by simp));have Y3:=Lib.hid xU;have HS3:Hid (TxS (comO (Pr.pL 16) body) (2 * lsWt body) s3 b3):=Lib.hid hs3
   have hss:=HS.out.1
   have hss3:=hs3.1
   clear mU xU m3 x2 b0 b1 u0 u1 fA HC hs3
   have b0:=cell_at G1.out 0;have b1:=cell_at G1.out 1;have u0:=cell_at Y2.out 0;have v0:=cell_at Y3.out 0;have v1:=cell_at Y3.out 1
   simp only [List.getElem?_toArray,List.getElem?_cons_zero,List.getElem?_cons_succ] at b0 b1 u0 v0 v1
   have fA:∀ j,w4.frozen? ⟨w.heap.size+1,j,none⟩=false:=fun j=>free_at G1.out j
   have h48:({ data:=#[32,58,45,32] }:ByteArray).size=4:=rfl
   go_wp2_with fail
   have HF:TxS o (2 * (aWt ⟨rel,ts⟩+lsWt body+10)) (s++{ data:=#[32,58,45,32] }++s3) b3:=by
    have h1:=((TxS.app (o1:=Pr.pA ⟨rel,ts⟩) HS.out (TxS.lit [32,58,45,32] { data:=#[32,58,45,32] } rfl)).app HS3.out).of (o':=o) (b':=b3) (by
     rw [HO.out]
     cases h:Pr.pA ⟨rel,ts⟩ with
     | none=>rfl
     | some x =>
      dsimp only
      rw [if_neg HN.out]
      cases comO (Pr.pL 16) body with
      | none=>rfl
      | some y=>simp) rfl
    exact h1.le (by show _+4+_<=_;omega)
   generalize s++{ data:=#[32,58,45,32] }++s3=s5 at *
   refine bodyPost_ret (results_cell_row rfl _ _ _ _ _ _ _ rfl (setCs_row (vs:=[.string s5,.bool b3]) G1.out rfl) Tryz.underlying92 rfl (by kernel_rfl)) rfl ⟨_,rfl,⟨s5,b3,rfl,HF⟩,M4.out.trans (setCs_mod (w.heap.size+1) [.string s5,.bool b3] 0 w4) (fun t ht=>.inr (by rw [Msq] at ht;omega))⟩
  ·go_wp2_with fail
   refine bodyPost_ret (results_cell_row rfl _ _ _ _ _ _ _ rfl (setCs_row (vs:=[.string s,.bool true]) F1.out rfl) Tryz.underlying92 rfl (by kernel_rfl)) rfl (HEND.out ?_)
   have h0:Pr.pA ⟨rel,ts⟩=none:=by
    cases h:Pr.pA ⟨rel,ts⟩ with
    | none=>rfl
    | some x=>have:=((HS.out).2.1 x h).1;cases this
   rw [h0] at HO
   rw [HO.out]
   exact ⟨Nat.le_trans HS.out.1 (by omega),fun t ht=>(nomatch ht),fun _=>rfl⟩
set_option maxHeartbeats 4000000 in
theorem rrelation_any (x:Pr.Rel) (yu:Value) (w:World) (hY:YOk w x.types yu) (hlen:dWt x<=140737488000000) :
  Calls Tryz.prog 37 #[.agg (deV x yu)] w (TxR (cat (Pr.pD x) (some [46])) (dWt x) w):=by
 rw [pD_eq]
 obtain ⟨rel,ts,ln,cl⟩:=x
 obtain ⟨ad,c,rfl⟩:=hY.lit
 have hW:dWt ⟨rel,ts,ln,cl⟩=rel.size+30+10 * ts.length:=rfl
 rw [hW] at hlen ⊢
 clear hW
 dsimp only at hY ⊢
 unfold deV
 have hm0:=((Mod.refl [] w).alloc (Obj.cells #[.string rel,.slice ad ts.length c,.int .i64 ln,.int .i64 cl] 70)).alloc (Obj.cells #[.string ⟨#[]⟩,.bool false] 92)
 have e0:=two_a w #[.string rel,.slice ad ts.length c,.int .i64 ln,.int .i64 cl] #[.string ⟨#[]⟩,.bool false] 70 92
 have e1:=two_b w #[.string rel,.slice ad ts.length c,.int .i64 ln,.int .i64 cl] #[.string ⟨#[]⟩,.bool false] 70 92
 have zA:((w.alloc (Obj.cells #[.string rel,.slice ad ts.length c,.int .i64 ln,.int .i64 cl] 70)).alloc (Obj.cells #[.string ⟨#[]⟩,.bool false] 92)).heap.size=w.heap.size+2:=by simp
 have HN:=Hxq (fun w=>vName_any rel (by omega) w)
 have HY:=Lib.hid hY
 have h9:({ data:=#[114,101,108,97,116,105,111,110,32] }:ByteArray).size=9:=rfl
 clear hY
 go_enter Tryz.func37,Tryz.ntmps37
 go_upto_region 1 with fail
 generalize (w.alloc (Obj.cells _ 70)).alloc (Obj.cells _ 92)=w0 at *
 have M0:=Lib.hid hm0;have E0:=Lib.hid e0;have E1:=Lib.hid e1;have ZA:=Lib.hid zA
 clear hm0 e0 e1 zA
 have x0:=cell_at E0.out 0
 simp only [List.getElem?_toArray,List.getElem?_cons_zero,List.getElem?_cons_succ] at x0
 go_wp2_with fail
 refine (HN.out w0).mono ?_
 rintro e w1 ⟨rfl,hww⟩
 subst hww
 have HH:Hid (headD rel=if Va.name (Cod.str rel)=true then some ([114,101,108,97,116,105,111,110,32]++(Cod.str rel++[40])) else none):=Lib.hid rfl
 generalize Va.name (Cod.str rel)=bn at *
 go_upto_region 3 with fail
 have HB:=Hxq (show TxS (headD rel) (rel.size+10) ({ data:=#[114,101,108,97,116,105,111,110,32] }++rel++{ data:=#[40] }) (!bn) from ⟨Nat.le_of_eq (by rw [ByteArray.size_append,ByteArray.size_append,h9];show 9+rel.size+1=_;omega),fun t ht=>by
  rw [HH.out] at ht
  cases bn with
  | false=>rw [if_neg (by decide)] at ht;cases ht
  | true =>
   rw [if_pos rfl] at ht
   cases ht
   refine ⟨rfl,?_⟩
   rw [ofS_appR,ofS_appR,Lx.ofS_str,ByteArray.append_assoc]
   rfl,fun hn=>by
  rw [HH.out] at hn
  cases bn with
  | false=>rfl
  | true=>rw [if_pos rfl] at hn;cases hn⟩)
 have mB:=(Mod.refl [] w1).alloc (Obj.cells #[.string ({ data:=#[114,101,108,97,116,105,111,110,32] }++rel++{ data:=#[40] }),.bool (!bn)] 92)
 have xB:=heap_alloc_new w1 (Obj.cells #[.string ({ data:=#[114,101,108,97,116,105,111,110,32] }++rel++{ data:=#[40] }),.bool (!bn)] 92)
 have zB:(w1.alloc (Obj.cells #[.string ({ data:=#[114,101,108,97,116,105,111,110,32] }++rel++{ data:=#[40] }),.bool (!bn)] 92)).heap.size=w.heap.size+3:=by simp [ZA.out]
 rw [ZA.out] at xB ⊢
 have RA:=Hxq (RLt.mk (g:=w.heap.size+1) (mB.at E1.out (by simp)) xB (M0.out.trans mB (by simp)) (by omega) (Nat.le_of_eq zB.symm))
 have BA:=Hxq (mB.at E0.out (by simp))
 clear mB xB zB x0 E0 E1
 generalize w1.alloc (Obj.cells _ 92)=w2 at *
 generalize { data:=#[114,101,108,97,116,105,111,110,32] }++rel++{ data:=#[40] }=s0 at *
 go_wp2_with fail
 go_loopw [5] (fun iv wr=>∃ (k:Nat) (so:ByteArray) (bo:Bool),k<=ts.length/\iv=.int .i64 (k:Nat)/\TxS (cat (headD rel) (comO Pr.pTy (ts.take k))) (rel.size+10+5 * k) so bo/\RLt w (w.heap.size+1) so bo wr/\wr.heap[w.heap.size]?=some (.cells #[.string rel,.slice ad ts.length c,.int .i64 ln,.int .i64 cl] 70 (0,0))) (fun iv _=>ts.length - (intOf iv).toNat)
 case atStart=>exact ⟨0,_,_,Nat.zero_le _,rfl,(HB.out.of (by simp [comO,Pr.seqO,Pr.commas,List.intercalate,List.intersperse,cat_nil']) rfl).le (by omega),RA.out,BA.out⟩
 case round =>
  obtain ⟨k,so,bo,hk,rfl,hS,hr,hb⟩:=hrel
  have x0:=cell_at hb 0;have x1:=cell_at hb 1;have o0:=cell_at hr.o 0;have o1:=cell_at hr.o 1
  simp only [List.getElem?_toArray,List.getElem?_cons_zero,List.getElem?_cons_succ] at x0 x1 o0 o1
  have HS:=Lib.hid hS;have HR:=Lib.hid hr;have HX:=Lib.hid hb
  have hso:=hS.1
  have fO:∀ j,wr.frozen? ⟨w.heap.size+1+1,j,none⟩=false:=fun j=>free_at HR.out.o j
  by_cases hlt:k<ts.length
  ·have hkI:(k:Int)<(ts.length:Int):=by omega
   have hk0:(0:Int)<=(k:Int):=by omega
   obtain ⟨b,off,rfl,ha⟩:=HY.out.at k hlt
   have HSN:=Hxq (comO_snoc Pr.pTy (ts.take k) ts[k])
   rw [<-List.take_succ_eq_append_getElem hlt,List.length_take,Nat.min_eq_left hk] at HSN
   generalize ts[k]=t at *
   have HA:=Lib.hid ha
   have hbx:w.heap.size∉[w.heap.size+1+1]:=by rw [Msq];omega
   clear hS hr hb ha
   go_upto_if 24 with fail
   go_cut [] (fun wx=>∃ (s1:ByteArray),TxS (cat (cat (headD rel) (comO Pr.pTy (ts.take k))) (some (if k=0 then [] else [44,32]))) (rel.size+10+5 * k+2) s1 bo/\RLt w (w.heap.size+1) s1 bo wx/\wx.heap[w.heap.size]?=some (.cells #[.string rel,.slice (some ⟨b,off,none⟩) ts.length c,.int .i64 ln,.int .i64 cl] 70 (0,0)))
   case first =>
    by_cases k0:k=0
    ·subst k0
     go_wp2_with fail
     go_meet
     exact ⟨so,(HS.out.of (by simp [cat_nil']) rfl).le (by omega),HR.out,HX.out⟩
    ·have kB:decide (0<k)=true:=by rw [decide_eq_true_eq];omega
     have K0:=Lib.hid k0
     clear k0 kB
     go_wp2_with fail
     all_goals first
      | (exfalso;have:=K0.out;omega)
      | skip
     go_meet
     refine ⟨so++{ data:=#[44,32] },?_,HR.out.set0 _,((Mod.refl [w.heap.size+1+1] wr).setCell (p:=⟨w.heap.size+1+1,0,none⟩) (.inl (by simp)) _).at HX.out hbx⟩
     rw [if_neg K0.out]
     exact ((HS.out.app (TxS.lit [44,32] { data:=#[44,32] } rfl)).of rfl (by simp)).le (Nat.le_refl _)
   case rest =>
    obtain ⟨s1,hs1,hr,xt⟩:=hcut
    have HS1:=Lib.hid hs1;have R3:=Lib.hid hr;have XT3:=Lib.hid xt
    have hs1z:=hs1.1
    have a0:=hr.m.cell HA.out (by simp)
    clear hs1 hr xt o0 o1 fO x0 x1
    have o0:=cell_at R3.out.o 0;have o1:=cell_at R3.out.o 1;have x1:=cell_at XT3.out 1
    simp only [List.getElem?_toArray,List.getElem?_cons_zero,List.getElem?_cons_succ] at o0 o1 x1
    have fO:∀ j,wc.frozen? ⟨w.heap.size+1+1,j,none⟩=false:=fun j=>free_at R3.out.o j
    have HX0:Hid (∀ i v,(wc.setCell ⟨w.heap.size+1+1,i,none⟩ v).heap[w.heap.size]?=some (.cells #[.string rel,.slice (some ⟨b,off,none⟩) ts.length c,.int .i64 ln,.int .i64 cl] 70 (0,0))):=Hxq (fun i v=>((Mod.refl [w.heap.size+1+1] wc).setCell (p:=⟨w.heap.size+1+1,i,none⟩) (.inl (by simp)) v).at XT3.out hbx)
    by_cases t1:t=1
    ·subst t1
     have HFIN:=Hxq (((HS1.out.app (TxS.lit [110,117,109] { data:=#[110,117,109] } rfl)).of (o':=cat (headD rel) (comO Pr.pTy (ts.take (k+1)))) (b':=bo) (by rw [HSN.out,show Pr.pTy 1=some [110,117,109] from rfl];simp only [cat_assoc]) (by simp)).le (m:=rel.size+10+5 * (k+1)) (by show _+3<=_;omega))
     have HR5:=Hxq (R3.out.set0 (s1++{ data:=#[110,117,109] }))
     go_wp2_with fail
     go_roundw
     case rel=>exact ⟨k+1,_,_,by omega,by go_num,HFIN.out,HR5.out,HX0.out _ _⟩
     case measure=>simp [intOf];omega
    ·by_cases t2:t=2
     ·subst t2
      have HFIN:=Hxq (((HS1.out.app (TxS.lit [115,121,109] { data:=#[115,121,109] } rfl)).of (o':=cat (headD rel) (comO Pr.pTy (ts.take (k+1)))) (b':=bo) (by rw [HSN.out,show Pr.pTy 2=some [115,121,109] from rfl];simp only [cat_assoc]) (by simp)).le (m:=rel.size+10+5 * (k+1)) (by show _+3<=_;omega))
      have HR5:=Hxq (R3.out.set0 (s1++{ data:=#[115,121,109] }))
      go_wp2_with fail
      go_roundw
      case rel=>exact ⟨k+1,_,_,by omega,by go_num,HFIN.out,HR5.out,HX0.out _ _⟩
      case measure=>simp [intOf];omega
     ·have t1B:(t == 1)=false:=by rw [beq_eq_false_iff_ne];exact t1
      have t2B:(t == 2)=false:=by rw [beq_eq_false_iff_ne];exact t2
      have HFIN:Hid (TxS (cat (headD rel) (comO Pr.pTy (ts.take (k+1)))) (rel.size+10+5 * (k+1)) s1 true):=Hxq (by
       rw [HSN.out,pTy_other t1 t2]
       refine ⟨by omega,fun t ht=>?_,fun _=>rfl⟩
       simp at ht)
      have HR5:=Hxq (R3.out.set1 true)
      clear t1 t2
      go_wp2_with fail
      go_roundw
      case rel=>exact ⟨k+1,_,_,by omega,by go_num,HFIN.out,HR5.out,HX0.out _ _⟩
      case measure=>simp [intOf];omega
  ·obtain rfl:k=ts.length:=by omega
   have hkI:¬ (ts.length:Int)<(ts.length:Int):=by omega
   rw [List.take_length] at HS
   clear hS hr hb
   go_upto_region 15 with fail
   have r4:=HR.out.set0 (so++{ data:=#[41,46] })
   generalize wr.setCell ⟨w.heap.size+1+1,0,none⟩ (.string (so++{ data:=#[41,46] }))=w7 at *
   have R4:=Lib.hid r4
   have HFIN:Hid (TxS (cat (cat (cat (headD rel) (comO Pr.pTy ts)) (some [41])) (some [46])) (rel.size+30+10 * ts.length) (so++{ data:=#[41,46] }) bo):=Hxq (((HS.out.app (TxS.lit [41,46] { data:=#[41,46] } rfl)).of (by simp only [cat_assoc];rfl) (by simp)).le (by show _+2<=_;omega))
   clear r4 x0 x1 o0 o1 fO
   generalize so++{ data:=#[41,46] }=s2 at *
   have o0:=cell_at R4.out.o 0;have o1:=cell_at R4.out.o 1;have b0:=cell_at R4.out.r 0;have b1:=cell_at R4.out.r 1
   simp only [List.getElem?_toArray,List.getElem?_cons_zero,List.getElem?_cons_succ] at o0 o1 b0 b1
   have fA:∀ j,w7.frozen? ⟨w.heap.size+1,j,none⟩=false:=fun j=>free_at R4.out.r j
   go_wp2_with fail
   refine bodyPost_ret (results_cell_row rfl _ _ _ _ _ _ _ rfl (setCs_row (vs:=[.string s2,.bool bo]) R4.out.r rfl) Tryz.underlying92 rfl (by kernel_rfl)) rfl ⟨_,rfl,⟨s2,bo,rfl,HFIN.out⟩,R4.out.m.trans (setCs_mod (w.heap.size+1) [.string s2,.bool bo] 0 w7) (fun t ht=>.inr (by rw [Msq] at ht;omega))⟩
theorem linO_none {α:Type} (f:α->Option (List Nat)) (l:List α) (k:Nat) (h:linO f (l.take k)=none):linO f l=none:=by
 unfold linO at h ⊢
 rw [Option.map_eq_none_iff] at h ⊢
 exact seqO_none_take f l k h
/-- what has been written so far: never marked -/
def OutS (o:Option (List Nat)) (n:Nat) (s:ByteArray):Prop:=TxS o n s false
set_option maxHeartbeats 4000000 in
theorem rProgram_any (HB:R5B 16) (P:Pr.Prog) (du ru:Value) (w:World) (hD:DsOk w P.rels du) (hR:RsOk w P.rules ru) (hG:GlobV w) (hlen:dsWt P.rels+2 * rsWt P.rules<=140737488000000) :
  Calls Tryz.prog 12 #[.agg #[du,ru]] w (fun e w'=>e=.returned (tv (Pr.pP P))/\Mod [] w w'):=by
 rw [pP_eq]
 obtain ⟨ds,rs⟩:=P
 dsimp only at *
 obtain ⟨da,dc,rfl⟩:=hD.lit
 obtain ⟨ra,rc,rfl⟩:=hR.lit
 have hdl:ds.length<=dsWt ds:=sum_len _ (fun x=>by omega) ds
 have hrl:rs.length<=rsWt rs:=sum_len _ (fun x=>by omega) rs
 have HD:=Lib.hid hD;have HR:=Lib.hid hR;have HG:=Lib.hid hG;have HBB:=Lib.hid HB
 clear hD hR hG HB
 have hm0:=(Mod.refl [] w).alloc (Obj.cells #[.slice da ds.length dc,.slice ra rs.length rc] 25)
 have e0:=heap_alloc_new w (Obj.cells #[.slice da ds.length dc,.slice ra rs.length rc] 25)
 go_enter Tryz.func12,Tryz.ntmps12
 go_upto_region 1 with fail
 generalize w.alloc (Obj.cells _ 25)=w0 at *
 have M0:=Lib.hid hm0;have E0:=Lib.hid e0
 clear hm0 e0
 go_wp2_with fail
 go_loopw [4,5] (fun ov iv wr=>∃ (k:Nat) (so:ByteArray),k<=ds.length/\ov=.string so/\iv=.int .i64 (k:Nat)/\OutS (linO Pr.pD (ds.take k)) (dsWt (ds.take k)) so/\Mod [] w wr/\wr.heap[w.heap.size]?=some (.cells #[.slice da ds.length dc,.slice ra rs.length rc] 25 (0,0))) (fun _ iv _=>ds.length - (intOf iv).toNat)
 case atStart=>exact ⟨0,_,Nat.zero_le _,rfl,rfl,⟨Nat.zero_le _,fun t ht=>(by cases ht;exact ⟨rfl,rfl⟩),fun hn=>nomatch hn⟩,M0.out,E0.out⟩
 case round =>
  obtain ⟨k,so,hk,rfl,rfl,hS,hm,hx⟩:=hrel
  have x0:=cell_at hx 0;have x1:=cell_at hx 1
  simp only [List.getElem?_toArray,List.getElem?_cons_zero,List.getElem?_cons_succ] at x0 x1
  have HS:=Lib.hid hS;have HM:=Lib.hid hm;have HX:=Lib.hid hx
  have hso:=hS.1
  clear hS hx hm
  by_cases hlt:k<ds.length
  ·have hkI:(k:Int)<(ds.length:Int):=by omega
   have hk0:(0:Int)<=(k:Int):=by omega
   obtain ⟨b,off,yu,rfl,ha,hy⟩:=HD.out.at k hlt
   have HSN:=Hxq (linO_snoc Pr.pD (ds.take k) ds[k])
   have hsn:=sum_take (fun x=>dWt x+2) ds k hlt
   have hle:=sum_take_le (fun x=>dWt x+2) ds (k+1)
   have q1:dsWt (ds.take (k+1))=((ds.take (k+1)).map fun x=>dWt x+2).sum:=rfl
   have q2:dsWt (ds.take k)=((ds.take k).map fun x=>dWt x+2).sum:=rfl
   have q3:dsWt ds=(ds.map fun x=>dWt x+2).sum:=rfl
   rw [<-q1,<-q2] at hsn
   rw [<-q1,<-q3] at hle
   clear q1 q2 q3
   have HNO:=Hxq (fun h=>linO_none Pr.pD ds (k+1) h)
   rw [<-List.take_succ_eq_append_getElem hlt] at HSN
   generalize ds[k]=t at *
   have HC:=Hxq (rrelation_any t yu wr (hy.past HM.out) (by omega))
   have hc:=ha.past HM.out
   obtain ⟨nm,ty,ln,cl⟩:=t
   obtain ⟨ya,yc,rfl⟩:=hy.lit
   clear hy ha
   obtain ⟨wt,hwt⟩:∃ wt,dWt ⟨nm,ty,ln,cl⟩=wt:=⟨_,rfl⟩
   rw [hwt] at hsn HC
   clear hwt
   unfold deV at *
   dsimp only at *
   have a0:wr.cell? ⟨b,off+k * 4,none⟩=some (.string nm):=hc 0 _ rfl
   have a1:wr.cell? ⟨b,off+k * 4+1,none⟩=some (.slice ya ty.length yc):=hc 1 _ rfl
   have a2:wr.cell? ⟨b,off+k * 4+2,none⟩=some (.int .i64 ln):=hc 2 _ rfl
   have a3:wr.cell? ⟨b,off+k * 4+3,none⟩=some (.int .i64 cl):=hc 3 _ rfl
   clear hc
   go_wp2_with fail
   refine HC.out.mono ?_
   rintro e5 w5 ⟨v,rfl,⟨s,bt,rfl,hs⟩,m5⟩
   have mU:=m5.trans ((Mod.refl [] w5).alloc (Obj.cells #[.string s,.bool bt] 92)) (by simp)
   have xU:=heap_alloc_new w5 (Obj.cells #[.string s,.bool bt] 92)
   go_upto_region 6 with fail
   generalize w5.alloc (Obj.cells _ 92)=w6 at *
   generalize w5.heap.size=pt at *
   have M6:=Hxq (HM.out.trans mU (by simp));have X6:=Hxq (mU.at HX.out (by simp))
   have HS2:Hid (TxS (cat (Pr.pD ⟨nm,ty,ln,cl⟩) (some [46])) wt s bt):=Lib.hid hs
   have hs2:=hs.1
   have u0:=cell_at xU 0;have u1:=cell_at xU 1
   simp only [List.getElem?_toArray,List.getElem?_cons_zero,List.getElem?_cons_succ] at u0 u1
   clear mU xU m5 hs HC a0 a1 a2 a3
   cases bt
   ·have HFIN:Hid (OutS (linO Pr.pD (ds.take (k+1))) (dsWt (ds.take (k+1))) (so++s++{ data:=#[10] })):=Hxq (((TxS.app (TxS.app HS.out HS2.out) (TxS.lit [10] { data:=#[10] } rfl)).of (by rw [HSN.out];simp only [cat_assoc];rfl) rfl).le (by show _+1<=_;omega))
    go_wp2_with fail
    go_roundw
    case rel=>exact ⟨k+1,_,by omega,rfl,by go_num,HFIN.out,M6.out,X6.out⟩
    case measure=>simp [intOf];omega
   ·have HN:Hid (cat (linO Pr.pD ds) (linO Pr.pR rs)=none):=Hxq (by
     have h0:Pr.pD ⟨nm,ty,ln,cl⟩=none:=by
      cases h:Pr.pD ⟨nm,ty,ln,cl⟩ with
      | none=>rfl
      | some x=>have:=(HS2.out.2.1 (x++[46]) (by rw [h];simp)).1;cases this
     rw [HNO.out (by rw [HSN.out,h0];simp)]
     rfl)
    go_wp2_with fail
    go_ret2
    exact ⟨by rw [HN.out];rfl,M6.out⟩
  ·obtain rfl:k=ds.length:=by omega
   have hkI:¬ (ds.length:Int)<(ds.length:Int):=by omega
   rw [List.take_length] at HS hso
   go_wp2_with fail
   clear x0 x1
   go_loopw [4,7] (fun ov iv wr=>∃ (k:Nat) (so:ByteArray),k<=rs.length/\ov=.string so/\iv=.int .i64 (k:Nat)/\OutS (cat (linO Pr.pD ds) (linO Pr.pR (rs.take k))) (dsWt ds+2 * rsWt (rs.take k)) so/\Mod [] w wr/\wr.heap[w.heap.size]?=some (.cells #[.slice da ds.length dc,.slice ra rs.length rc] 25 (0,0))) (fun _ iv _=>rs.length - (intOf iv).toNat)
   case atStart=>exact ⟨0,_,Nat.zero_le _,rfl,rfl,(HS.out.of (by simp [linO,Pr.seqO,Pr.lines,cat_nil']) rfl).le (by omega),HM.out,HX.out⟩
   case round =>
    clear HS HM HX hso
    obtain ⟨k,so,hk,rfl,rfl,hS,hm,hx⟩:=hrel
    have x0:=cell_at hx 0;have x1:=cell_at hx 1
    simp only [List.getElem?_toArray,List.getElem?_cons_zero,List.getElem?_cons_succ] at x0 x1
    have HS:=Lib.hid hS;have HM:=Lib.hid hm;have HX:=Lib.hid hx
    have hso:=hS.1
    clear hS hx hm
    by_cases hlt:k<rs.length
    ·have hkI:(k:Int)<(rs.length:Int):=by omega
     have hk0:(0:Int)<=(k:Int):=by omega
     obtain ⟨b,off,yu,zu,rfl,ha,hy,hz⟩:=HR.out.at k hlt
     have HSN:=Hxq (linO_snoc Pr.pR (rs.take k) rs[k])
     have hsn:=sum_take (fun x=>rWt x+2) rs k hlt
     have hle:=sum_take_le (fun x=>rWt x+2) rs (k+1)
     have q1:rsWt (rs.take (k+1))=((rs.take (k+1)).map fun x=>rWt x+2).sum:=rfl
     have q2:rsWt (rs.take k)=((rs.take k).map fun x=>rWt x+2).sum:=rfl
     have q3:rsWt rs=(rs.map fun x=>rWt x+2).sum:=rfl
     rw [<-q1,<-q2] at hsn
     rw [<-q1,<-q3] at hle
     clear q1 q2 q3
     have HNO:=Hxq (fun h=>linO_none Pr.pR rs (k+1) h)
     rw [<-List.take_succ_eq_append_getElem hlt] at HSN
     generalize rs[k]=t at *
     have HC:=Hxq (rrule_any HBB.out t yu zu wr (hy.past HM.out) (hz.past HM.out) (HG.out.past HM.out (by simp)) (by omega))
     have hc:=ha.past HM.out
     obtain ⟨⟨nm,ty⟩,bd,ln,cl⟩:=t
     obtain ⟨ya,yc,rfl⟩:=hy.lit
     obtain ⟨za,zc,rfl⟩:=hz.lit
     clear hy hz ha
     obtain ⟨wt,hwt⟩:∃ wt,rWt ⟨⟨nm,ty⟩,bd,ln,cl⟩=wt:=⟨_,rfl⟩
     rw [hwt] at hsn HC
     clear hwt
     unfold ruV at *
     dsimp only at *
     have a0:wr.cell? ⟨b,off+k * 5,none⟩=some (.string nm):=hc 0 _ rfl
     have a1:wr.cell? ⟨b,off+k * 5+1,none⟩=some (.slice ya ty.length yc):=hc 1 _ rfl
     have a2:wr.cell? ⟨b,off+k * 5+2,none⟩=some (.slice za bd.length zc):=hc 2 _ rfl
     have a3:wr.cell? ⟨b,off+k * 5+3,none⟩=some (.int .i64 ln):=hc 3 _ rfl
     have a4:wr.cell? ⟨b,off+k * 5+4,none⟩=some (.int .i64 cl):=hc 4 _ rfl
     clear hc
     go_wp2_with fail
     refine HC.out.mono ?_
     rintro e5 w5 ⟨v,rfl,⟨s,bt,rfl,hs⟩,m5⟩
     have mU:=m5.trans ((Mod.refl [] w5).alloc (Obj.cells #[.string s,.bool bt] 92)) (by simp)
     have xU:=heap_alloc_new w5 (Obj.cells #[.string s,.bool bt] 92)
     go_upto_region 13 with fail
     generalize w5.alloc (Obj.cells _ 92)=w6 at *
     generalize w5.heap.size=pt at *
     have M6:=Hxq (HM.out.trans mU (by simp));have X6:=Hxq (mU.at HX.out (by simp))
     have HS2:Hid (TxS (Pr.pR ⟨⟨nm,ty⟩,bd,ln,cl⟩) (2 * wt) s bt):=Lib.hid hs
     have hs2:=hs.1
     have u0:=cell_at xU 0;have u1:=cell_at xU 1
     simp only [List.getElem?_toArray,List.getElem?_cons_zero,List.getElem?_cons_succ] at u0 u1
     clear mU xU m5 hs HC a0 a1 a2 a3 a4
     cases bt
     ·have HFIN:Hid (OutS (cat (linO Pr.pD ds) (linO Pr.pR (rs.take (k+1)))) (dsWt ds+2 * rsWt (rs.take (k+1))) (so++s++{ data:=#[46,10] })):=Hxq (((TxS.app (TxS.app HS.out HS2.out) (TxS.lit [46,10] { data:=#[46,10] } rfl)).of (by rw [HSN.out];simp only [cat_assoc]) rfl).le (by show _+2<=_;omega))
      go_wp2_with fail
      go_roundw
      case rel=>exact ⟨k+1,_,by omega,rfl,by go_num,HFIN.out,M6.out,X6.out⟩
      case measure=>simp [intOf];omega
     ·have HN:Hid (cat (linO Pr.pD ds) (linO Pr.pR rs)=none):=Hxq (by
       have h0:Pr.pR ⟨⟨nm,ty⟩,bd,ln,cl⟩=none:=by
        cases h:Pr.pR ⟨⟨nm,ty⟩,bd,ln,cl⟩ with
        | none=>rfl
        | some x=>have:=(HS2.out.2.1 x h).1;cases this
       rw [HNO.out (by rw [HSN.out,h0];simp)]
       simp)
      go_wp2_with fail
      go_ret2
      exact ⟨by rw [HN.out];rfl,M6.out⟩
    ·obtain rfl:k=rs.length:=by omega
     have hkI:¬ (rs.length:Int)<(rs.length:Int):=by omega
     rw [List.take_length] at HS
     have HN:Hid (Value.tuple #[.string so,.int .i64 0]=tv (cat (linO Pr.pD ds) (linO Pr.pR rs))):=Hxq (by
      cases h:cat (linO Pr.pD ds) (linO Pr.pR rs) with
      | none=>have:=HS.out.2.2 h;cases this
      | some x=>rw [(HS.out.2.1 x h).2];rfl)
     go_wp2_with fail
     go_ret2
     exact ⟨by rw [<-HN.out];rfl,HM.out⟩
end Go.Proofs.YtohnmnfhmbmoaaaGreatDoor
