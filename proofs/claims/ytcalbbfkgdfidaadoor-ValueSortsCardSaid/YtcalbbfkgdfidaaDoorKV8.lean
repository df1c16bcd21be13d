/- THE TEXTS MERGED: SoInsTg SoSymATg SoSymBTg SoSwapTg SoRotTg SoSymCTg. -/
import Derived.Test.YtcalbbfkgdfidaaDoorKV7
namespace Go.Proofs.YtcalbbfkgdfidaaDoor
open Go.RowKit Go.Sort Go.Lib
set_option linter.unusedVariables false
set_option linter.unusedSimpArgs false
set_option maxRecDepth 100000
set_option maxHeartbeats 4000000 in
theorem insertionTg_any {enc:Nat->List Value} {f:Nat->Nat->Int} (E:Enc enc 3) (X A Y:List Nat) (a b g cap:Nat) (W:World) (hC:CmpOk 7 enc f W g) (ha:a=X.length) (hb:b=X.length+A.length)
  (hR:Row enc 3 W g (X++(A++Y))) (hg:g<W.heap.size) (L:Nat) (hL:(X++(A++Y)).length=L) (hsz:L<=1152921504606846976) :
  Calls Tryd.prog 59 #[.slice (some ⟨g,0,none⟩) L cap,.int .i64 a,.int .i64 b,.func (.func 7) #[] #[]] W fun e W'=>e=.returned (.tuple #[])/\∃ C,So.Sorted f A C/\Row enc 3 W' g (X++(C++Y))/\Mod [g] W W':=by
 have HR:=Lib.hid hR;have HE:=Lib.hid E;have HG:=Lib.hid hg;have HCC:=Lib.hid hC;have HSZ:=Lib.hid hsz
 have hl:X.length+(A.length+Y.length)=L:=by rw [<-hL];simp
 have HL:=Lib.hid hL
 obtain ⟨n,hn⟩:∃ n,A.length=n:=⟨_,rfl⟩
 rw [hn] at hb hl
 have HNn:=Lib.hid hn;have HA:=Lib.hid ha;have HB:=Lib.hid hb;have HLL:=Lib.hid hl
 have hab:a<=b:=by omega
 have hbL:b<=L:=by omega
 clear hR E hg hC hL hn ha hb hl
 go_enter Tryd.func59,Tryd.ntmps59
 go_wp2_with fail
 go_loopw [8] (fun iv wr=>∃ (i:Nat) (D C R:List Nat),iv=.int .i64 (i:Nat)/\a<i/\i<=b+1/\A=D++R/\(i=a+D.length\/A=[]/\i=b+1)/\So.Sorted f D C/\Row enc 3 wr g (X++(C++(R++Y)))/\Mod [g] W wr) (fun iv _=>b+1 - (intOf iv).toNat)
 case atStart =>
  cases hAA:A with
  | nil=>exact ⟨a+1,[],[],[],by go_num,by omega,by omega,rfl,.inr ⟨rfl,by have:=HNn.out;have:=HA.out;have:=HB.out;rw [hAA] at *;simp at *;omega⟩,.nil,by have:=HR.out;rw [hAA] at this;exact this,Mod.refl _ _⟩
  | cons x R=>exact ⟨a+1,[x],[x],R,by go_num,by omega,by omega,rfl,.inl rfl,⟨List.Perm.refl _,fun _ _=>List.pairwise_singleton _ _⟩,by have:=HR.out;rw [hAA] at this;exact this,Mod.refl _ _⟩
 case round =>
  obtain ⟨i,D,C,R,rfl,hai,hib,hAD,hiD,hS,hr,hm⟩:=hrel
  have HR0:=Lib.hid hr;have HM:=Lib.hid hm;have HS:=Lib.hid hS;have HAD:=Lib.hid hAD;have HID:=Lib.hid hiD
  clear hr hm hS hAD hiD
  by_cases hlt:i<b
  ·have hltI:(i:Int)<(b:Int):=by omega
   have hiD:i=a+D.length:=by
    rcases HID.out with h | h
    ·exact h
    ·omega
   have hDR:D.length+R.length=n:=by have:=HNn.out;rw [HAD.out,List.length_append] at this;exact this
   obtain ⟨x,R',hRx⟩:∃ x R',R=x :: R':=by
    cases hR:R with
    | nil=>rw [hR] at hDR;simp at hDR;have:=HA.out;have:=HB.out;omega
    | cons x R'=>exact ⟨x,R',rfl⟩
   have hCD:C.length=D.length:=HS.out.1.length_eq
   have HRX:=Lib.hid hRx;have HCD:=Lib.hid hCD;have HiD:=Lib.hid hiD;have HDR:=Lib.hid hDR
   clear hRx hCD hiD hDR HID
   go_wp2_with fail
   go_loopw [9] (fun jv wr2=>∃ (j:Nat) (P Q:List Nat),jv=.int .i64 (j:Nat)/\C=P++Q/\j=a+P.length/\j<=i/\(∀ q∈Q,f x q<0)/\Row enc 3 wr2 g (X++(P++(x :: (Q++(R'++Y)))))/\Mod [g] W wr2) (fun jv _=>(intOf jv).toNat)
   case atStart=>exact ⟨i,C,[],rfl,by simp,by rw [HCD.out];exact HiD.out,Nat.le_refl _,by simp,by have:=HR0.out;rw [HRX.out] at this;exact this,HM.out⟩
   case round =>
    clear HR0 HM
    obtain ⟨j,P,Q,rfl,hCP,hj,hji,hQ,hr,hm⟩:=hrel
    have HRR:=Lib.hid hr;have HM:=Lib.hid hm;have HCP:=Lib.hid hCP;have HQ:=Lib.hid hQ;have HJ:=Lib.hid hj
    clear hr hm hCP hQ hj
    -- behind the inner loop
    have OUT:Hid (∀ w',(∀ p,P.getLast?=some p->¬ f x p<0)->Row enc 3 w' g (X++(P++(x :: (Q++(R'++Y)))))->Mod [g] W w' ->
      ∃ (i':Nat) (D' C' R2:List Nat),Value.int .i64 ((i:Int)+1)=.int .i64 (i':Nat)/\a<i'/\i'<=b+1/\A=D'++R2/\(i'=a+D'.length\/A=[]/\i'=b+1)/\So.Sorted f D' C'/\Row enc 3 w' g (X++(C'++(R2++Y)))/\Mod [g] W w'):=Hxq (by
     intro w' hP hr hm
     refine ⟨i+1,D++[x],P++x :: Q,R',by go_num,by omega,by omega,by rw [HAD.out,HRX.out];simp,.inl (by have:=HiD.out;simp;omega),?_,?_,hm⟩
     ·exact So.Sorted.put (by rw [<-HCP.out];exact HS.out) HQ.out hP
     ·simpa using hr)
    by_cases hja:a<j
    ·have hjaI:(a:Int)<(j:Int):=by omega
     obtain ⟨q,hq⟩:∃ q,j=q+1:=⟨j - 1,by omega⟩
     have hqI:(j:Int) - 1=(q:Nat):=by omega
     obtain ⟨P',p,hPp⟩:∃ P' p,P=P'++[p]:=by
      rcases List.eq_nil_or_concat P with h | ⟨P',p,h⟩
      ·have:=HJ.out;rw [h] at this;simp at this;omega
      ·exact ⟨P',p,by rw [h,List.concat_eq_append]⟩
     have hPl:q=a+P'.length:=by have:=HJ.out;rw [hPp] at this;simp at this;omega
     obtain ⟨lc,hlc⟩:∃ lc,lc=X++(P++(x :: (Q++(R'++Y)))):=⟨_,rfl⟩
     rw [<-hlc] at HRR
     have hl2:lc=(X++P')++p :: x :: (Q++(R'++Y)):=by rw [hlc,hPp];simp
     have hx1:lc.getD j 0=x:=by
      rw [hl2]
      have:=getD_at ((X++P')++[p]) (Q++(R'++Y)) x j (by have:=HA.out;simp;omega)
      simpa using this
     have hp1:lc.getD q 0=p:=by rw [hl2];exact getD_at _ _ _ _ (by have:=HA.out;simp;omega)
     have hjl:j<lc.length:=by rw [hl2];have:=HA.out;simp;omega
     have hql:q<lc.length:=by omega
     have hjL:j<L:=by omega
     have hqL:q<L:=by omega
     have hgw:g<wr.heap.size:=Nat.lt_of_lt_of_le HG.out HM.out.size
     have HX1:=Lib.hid hx1;have HP1:=Lib.hid hp1;have HL2:=Lib.hid hl2;have HLC:=Lib.hid hlc;have HPP:=Lib.hid hPp;have HGW:=Lib.hid hgw;have HPL:=Lib.hid hPl
     have HJL:=Lib.hid hjl;have HQL:=Lib.hid hql
     have wq1:IntKind.i64.wrap (q:Int)=(q:Int):=by rw [IntKind.wrap_i64];omega
     obtain ⟨x0,x1,x2,y0,y1,y2,hx,hy,ca0,ca1,ca2,cb0,cb1,cb2,_⟩:=HRR.out.swap3 HE.out Tryd.prog j q hjl hql
     have HCL:=Hxq ((HCC.out.past HM.out).call _ _ hx hy)
     rw [hx1,hp1] at HCL
     have ea0:=past_cell ca0;have ea1:=past_cell ca1;have ea2:=past_cell ca2;have eb0:=past_cell cb0;have eb1:=past_cell cb1;have eb2:=past_cell cb2
     have HQQ:=Lib.hid hq
     clear hx hy hx1 hp1 hl2 hlc hPp hgw hPl hjl hql hq
     obtain ⟨r,hr⟩:∃ r,r=f x p:=⟨_,rfl⟩
     rw [<-hr] at HCL
     have HRr:=Lib.hid hr
     clear hr
     by_cases hneg:r<0
     ·go_wp2_with fail
      have inh:=past_one wr
      refine region_past (by kernel_rfl) (by kernel_rfl) ?_
      repeat (quiet_step (exact past_call (HCL.out _)))
      refine wpQuiet_nil ?_
      intro _ hw'
      obtain ⟨⟨wq,mq⟩,hw''⟩:=hw'
      subst hw''
      clear inh
      have R2:=Hxq (HRR.out.past mq HGW.out)
      have M2:=Hxq (HM.out.trans mq (by simp))
      clear HCL ca0 ca1 ca2 cb0 cb1 cb2 HRR HM mq
      obtain ⟨x0,x1,x2,y0,y1,y2,hx,hy,ca0,ca1,ca2,cb0,cb1,cb2,s0,s1,s2,s3,s4,s5,hn⟩:=R2.out.swap3 HE.out Tryd.prog j q HJL.out HQL.out
      have HN:=Lib.hid hn
      clear hx hy hn
      go_wp2_with fail
      go_region
      have MN:=Hxq (M2.out.trans (HN.out.2) (fun t ht=>.inl ht))
      have RN:=Lib.hid HN.out.1
      clear HN s0 s1 s2 s3 s4 s5 ca0 ca1 ca2 cb0 cb1 cb2 R2 M2
      generalize World.setCell _ _ _=wn at *
      go_wp2_with fail
      go_roundw
      case rel =>
       refine ⟨q,P',p :: Q,rfl,by rw [HCP.out,HPP.out];simp,HPL.out,by have:=HQQ.out;omega,?_,?_,MN.out⟩
       ·intro z hz
        rcases List.mem_cons.1 hz with rfl | hz
        ·have:=HRr.out;omega
        ·exact HQ.out z hz
       ·have h:=RN.out
        rw [HL2.out,swL_adj _ _ _ _ _ _ (by have:=HA.out;have:=HPL.out;have:=HQQ.out;simp;omega) (by have:=HA.out;have:=HPL.out;simp;omega)] at h
        simpa using h
      case measure=>have:=HQQ.out;simp [intOf];omega
     ·go_wp2_with fail
      have inh:=past_one wr
      refine region_past (by kernel_rfl) (by kernel_rfl) ?_
      repeat (quiet_step (exact past_call (HCL.out _)))
      refine wpQuiet_nil ?_
      intro _ hw'
      obtain ⟨⟨wq,mq⟩,hw''⟩:=hw'
      subst hw''
      clear inh
      have R2:=Hxq (HRR.out.past mq HGW.out)
      have M2:=Hxq (HM.out.trans mq (by simp))
      clear HCL ca0 ca1 ca2 cb0 cb1 cb2 HRR HM mq
      go_wp2_with fail
      go_roundw
      case rel =>
       refine OUT.out _ ?_ (by have:=R2.out;rw [HLC.out] at this;exact this) M2.out
       intro z hz
       rw [HPP.out] at hz
       simp at hz
       rw [<-hz,<-HRr.out]
       exact hneg
      case measure=>simp [intOf];omega
    ·have hjaI:¬ (a:Int)<(j:Int):=by omega
     have hP0:P=[]:=by
      have:=HJ.out
      exact List.length_eq_zero_iff.1 (by omega)
     go_wp2_with fail
     go_quiet (fail)
     go_wp2_with fail
     go_roundw
     case rel=>exact OUT.out _ (by rw [hP0];intro p hp;cases hp) (HRR.out) (HM.out.drewN _)
     case measure=>simp [intOf];omega
  ·have hltI:¬ (i:Int)<(b:Int):=by omega
   go_wp2_with fail
   go_end0
   refine ⟨rfl,C,?_,?_,HM.out⟩
   ·have hR0:R=[]:=by
     rcases HID.out with h | ⟨h,-⟩
     ·have h1:=HNn.out
      rw [HAD.out,List.length_append] at h1
      have:=HA.out;have:=HB.out
      exact List.length_eq_zero_iff.1 (by omega)
     ·have:=HAD.out;rw [h] at this
      exact (List.nil_eq_append_iff.1 this).2
    have h1:=HAD.out
    rw [hR0,List.append_nil] at h1
    rw [h1];exact HS.out
   ·have hR0:R=[]:=by
     rcases HID.out with h | ⟨h,-⟩
     ·have h1:=HNn.out
      rw [HAD.out,List.length_append] at h1
      have:=HA.out;have:=HB.out
      exact List.length_eq_zero_iff.1 (by omega)
     ·have:=HAD.out;rw [h] at this
      exact (List.nil_eq_append_iff.1 this).2
    have h:=HR0.out
    rw [hR0] at h
    exact h
set_option maxHeartbeats 4000000 in
theorem symATg_any {enc:Nat->List Value} {f:Nat->Nat->Int} (E:Enc enc 3) (X B Y:List Nat) (x:Nat) (a m b g cap:Nat) (W:World) (hC:CmpOk 7 enc f W g) (ha:a=X.length) (hm:m=X.length+1) (hb:b=X.length+1+B.length)
  (hR:Row enc 3 W g (X++(x :: (B++Y)))) (hg:g<W.heap.size) (L:Nat) (hL:(X++(x :: (B++Y))).length=L) (hsz:L<=1152921504606846976) :
  Calls Tryd.prog 60 #[.slice (some ⟨g,0,none⟩) L cap,.int .i64 a,.int .i64 m,.int .i64 b,.func (.func 7) #[] #[]] W fun e W'=>e=.returned (.tuple #[])/\∃ C,So.Merged f [x] B C/\Row enc 3 W' g (X++(C++Y))/\Mod [g] W W':=by
 have HR:=Lib.hid hR;have HE:=Lib.hid E;have HG:=Lib.hid hg;have HCC:=Lib.hid hC;have HSZ:=Lib.hid hsz
 have hl:X.length+(B.length+Y.length+1)=L:=by rw [<-hL];simp
 have HL:=Lib.hid hL
 obtain ⟨n,hn⟩:∃ n,B.length=n:=⟨_,rfl⟩
 rw [hn] at hb hl
 have HNn:=Lib.hid hn;have HA:=Lib.hid ha;have HMm:=Lib.hid hm;have HB:=Lib.hid hb;have HLL:=Lib.hid hl
 have hma:(m:Int) - (a:Int)=1:=by omega
 have hmn:m+n<=L:=by omega
 have hbm:b=m+n:=by omega
 have HBM:=Lib.hid hbm
 have ham:a<m:=by omega
 clear hR E hg hC hL hn ha hm hb hl hbm
 go_enter Tryd.func60,Tryd.ntmps60
 go_wp2_with fail
 go_loopw [10,11,12] (fun iv jv _ wr=>∃ (i j i' j':Nat),iv=.int .i64 (i:Nat)/\jv=.int .i64 (j:Nat)/\i=m+i'/\j=m+j'/\i'<=j'/\j'<=n/\So.Bs1 f B x i' j'/\Row enc 3 wr g (X++(x :: (B++Y)))/\Mod [g] W wr) (fun iv jv _ _=>(intOf jv).toNat - (intOf iv).toNat)
 case atStart=>exact ⟨m,b,0,n,rfl,rfl,rfl,HBM.out,by omega,Nat.le_refl _,by have:=So.Bs1.start (f:=f) B x;rw [HNn.out] at this;exact this,HR.out,Mod.refl _ _⟩
 case round =>
  obtain ⟨i,j,i',j',rfl,rfl,hi,hj,hij,hjn,hS,hr,hmm⟩:=hrel
  have HRR:=Lib.hid hr;have HM:=Lib.hid hmm;have HS:=Lib.hid hS;have HI:=Lib.hid hi;have HJ:=Lib.hid hj
  clear hr hmm hS
  by_cases hlt:i<j
  ·have hltI:(i:Int)<(j:Int):=by omega
   have hjL:j<=L:=by omega
   clear hi hj
   obtain ⟨h',hh'⟩:∃ h',h'=(i'+j') / 2:=⟨_,rfl⟩
   obtain ⟨h,hh⟩:∃ h,h=m+h':=⟨_,rfl⟩
   have hb1:i'<=h'/\h'<j':=by have:=HI.out;have:=HJ.out;omega
   have hhI:((i:Int)+(j:Int)) / 2=(h:Nat):=by have:=HI.out;have:=HJ.out;omega
   have hhL:h<L:=by omega
   have haL:a<L:=by omega
   have hh'n:h'<B.length:=by rw [HNn.out];omega
   obtain ⟨lc,hlc⟩:∃ lc,lc=X++(x :: (B++Y)):=⟨_,rfl⟩
   rw [<-hlc] at HRR
   have hll:lc.length=L:=by rw [hlc];exact HL.out
   obtain ⟨z,hz⟩:∃ z,z=B[h']:=⟨_,rfl⟩
   have hx1:lc.getD h 0=z:=by
    rw [hlc,hz]
    have:=getD_in (X++[x]) B Y h' h hh'n (by have:=HMm.out;simp;omega)
    simpa using this
   have HZ:Hid (∀ hlt,z=B[h']'hlt):=Hxq (fun _=>hz)
   have hx2:lc.getD a 0=x:=by rw [hlc];exact getD_at _ _ _ _ HA.out
   have hgw:g<wr.heap.size:=Nat.lt_of_lt_of_le HG.out HM.out.size
   obtain ⟨x0,x1,x2,y0,y1,y2,hx,hy,ca0,ca1,ca2,cb0,cb1,cb2,_⟩:=HRR.out.swap3 HE.out Tryd.prog h a (by omega) (by omega)
   have HCL:=Hxq ((HCC.out.past HM.out).call _ _ hx hy)
   rw [hx1,hx2] at HCL
   have ea0:=past_cell ca0;have ea1:=past_cell ca1;have ea2:=past_cell ca2;have eb0:=past_cell cb0;have eb1:=past_cell cb1;have eb2:=past_cell cb2
   have HH:=Lib.hid hh;have HH':=Lib.hid hh';have HB1:=Lib.hid hb1;have HLC:=Lib.hid hlc;have HGW:=Lib.hid hgw;have HHN:=Lib.hid hh'n
   obtain ⟨r,hr⟩:∃ r,r=f z x:=⟨_,rfl⟩
   rw [<-hr] at HCL
   have HRr:=Lib.hid hr
   clear hx hy hx1 hx2 hh hh' hb1 hlc hgw hz hh'n hr hll
   have wq1:IntKind.i64.wrap (h:Int)=(h:Int):=by rw [IntKind.wrap_i64];omega
   by_cases hneg:r<0
   ·go_wp2_with fail
    have inh:=past_one wr
    refine region_past (by kernel_rfl) (by kernel_rfl) ?_
    repeat (quiet_step (exact past_call (HCL.out _)))
    refine wpQuiet_nil ?_
    intro _ hw'
    obtain ⟨⟨wq,mq⟩,hw''⟩:=hw'
    subst hw''
    clear inh
    have R2:=Hxq (HRR.out.past mq HGW.out)
    have M2:=Hxq (HM.out.trans mq (by simp))
    clear HCL ca0 ca1 ca2 cb0 cb1 cb2 HRR HM mq
    go_wp2_with fail
    go_roundw
    case rel=>exact ⟨h+1,j,h'+1,j',by go_num,rfl,by have:=HH.out;omega,HJ.out,by have:=HB1.out;omega,hjn,HS.out.up HHN.out (by rw [<-HZ.out HHN.out,<-HRr.out];omega),by have:=R2.out;rw [HLC.out] at this;exact this,M2.out⟩
    case measure=>have:=HB1.out;have:=HH.out;have:=HI.out;have:=HJ.out;simp [intOf];omega
   ·go_wp2_with fail
    have inh:=past_one wr
    refine region_past (by kernel_rfl) (by kernel_rfl) ?_
    repeat (quiet_step (exact past_call (HCL.out _)))
    refine wpQuiet_nil ?_
    intro _ hw'
    obtain ⟨⟨wq,mq⟩,hw''⟩:=hw'
    subst hw''
    clear inh
    have R2:=Hxq (HRR.out.past mq HGW.out)
    have M2:=Hxq (HM.out.trans mq (by simp))
    clear HCL ca0 ca1 ca2 cb0 cb1 cb2 HRR HM mq
    go_wp2_with fail
    go_roundw
    case rel=>exact ⟨i,h,i',h',rfl,rfl,HI.out,HH.out,by have:=HB1.out;omega,by have:=HB1.out;omega,HS.out.down HHN.out (by rw [<-HZ.out HHN.out,<-HRr.out];omega),by have:=R2.out;rw [HLC.out] at this;exact this,M2.out⟩
    case measure=>have:=HB1.out;have:=HH.out;have:=HI.out;have:=HJ.out;simp [intOf];omega
  ·have hltI:¬ (i:Int)<(j:Int):=by omega
   obtain rfl:i'=j':=by omega
   obtain ⟨t,ht⟩:∃ t,t=a+i':=⟨_,rfl⟩
   have htI:(i:Int) - 1=(t:Nat):=by have:=HMm.out;have:=HA.out;omega
   have htL:t<L:=by have:=HMm.out;have:=HA.out;omega
   have wt1:IntKind.i64.wrap (t:Int)=(t:Int):=by rw [IntKind.wrap_i64];omega
   have HT:=Lib.hid ht
   clear hi hj ht hij
   go_wp2_with fail
   go_loopw [13] (fun kv wr2=>∃ (k k':Nat),kv=.int .i64 (k:Nat)/\k=a+k'/\k'<=i'/\Row enc 3 wr2 g (X++(B.take k'++(x :: (B.drop k'++Y))))/\Mod [g] W wr2) (fun kv _=>t - (intOf kv).toNat)
   case atStart=>exact ⟨a,0,rfl,rfl,by omega,by simpa using HRR.out,HM.out⟩
   case round =>
    clear HRR HM
    obtain ⟨k,k',rfl,hk,hki,hr,hmm⟩:=hrel
    have HRR:=Lib.hid hr;have HM:=Lib.hid hmm;have HK:=Lib.hid hk
    clear hr hmm hk
    by_cases hlt2:k<t
    ·have hkI:(k:Int)<(t:Int):=by omega
     obtain ⟨q,hq⟩:∃ q,q=k+1:=⟨_,rfl⟩
     have hqI:(k:Int)+1=(q:Nat):=by omega
     have hk'n:k'<B.length:=by have:=HK.out;have:=HT.out;rw [HNn.out];omega
     have hqL:q<L:=by have:=HK.out;have:=HT.out;omega
     have hkL:k<L:=by omega
     have wq1:IntKind.i64.wrap (q:Int)=(q:Int):=by rw [IntKind.wrap_i64];omega
     obtain ⟨lc,hlc⟩:∃ lc,lc=X++(B.take k'++(x :: (B.drop k'++Y))):=⟨_,rfl⟩
     rw [<-hlc] at HRR
     obtain ⟨z,hz⟩:∃ z,z=B[k']:=⟨_,rfl⟩
     have HZ:Hid (∀ hlt,z=B[k']'hlt):=Hxq (fun _=>hz)
     have hl2:lc=(X++B.take k')++x :: ([]++z :: (B.drop (k'+1)++Y)):=by
      rw [hlc,hz,List.drop_eq_getElem_cons hk'n]
      simp only [List.append_assoc,List.cons_append,List.nil_append]
     have hll:lc.length=L:=by
      rw [hlc,<-HL.out]
      have:=List.take_append_drop k' B
      simp only [List.length_append,List.length_cons,List.length_take,List.length_drop]
      omega
     obtain ⟨x0,x1,x2,y0,y1,y2,hx,hy,ca0,ca1,ca2,cb0,cb1,cb2,s0,s1,s2,s3,s4,s5,hn⟩:=HRR.out.swap3 HE.out Tryd.prog k q (by omega) (by omega)
     have HN:=Lib.hid hn;have HL2:=Lib.hid hl2;have HQ:=Lib.hid hq;have HKN:=Lib.hid hk'n
     clear hx hy hn hl2 hlc hll hq hz hk'n
     go_wp2_with fail
     go_region
     have MN:=Hxq (HM.out.trans (HN.out.2) (fun t ht=>.inl ht))
     have RN:=Lib.hid HN.out.1
     clear HN s0 s1 s2 s3 s4 s5 ca0 ca1 ca2 cb0 cb1 cb2 HRR HM
     generalize World.setCell _ _ _=wn at *
     go_wp2_with fail
     go_roundw
     case rel =>
      refine ⟨q,k'+1,by first | rfl | go_num,by have:=HK.out;have:=HQ.out;omega,by have:=HK.out;have:=HT.out;omega,?_,MN.out⟩
      have h:=RN.out
      have hkl:(B.take k').length=k':=by rw [List.length_take];have:=HKN.out;omega
      rw [HL2.out,swL_at _ _ _ _ _ _ _ (by have:=HA.out;have:=HK.out;rw [List.length_append,hkl];omega) (by have:=HA.out;have:=HK.out;have:=HQ.out;rw [List.length_append,hkl,List.length_nil];omega)] at h
      rw [List.take_succ_eq_append_getElem HKN.out,<-HZ.out HKN.out]
      simpa only [List.append_assoc,List.cons_append,List.nil_append] using h
     case measure=>have:=HQ.out;simp [intOf];omega
    ·have hkI:¬ (k:Int)<(t:Int):=by omega
     obtain rfl:k'=i':=by have:=HK.out;have:=HT.out;omega
     go_wp2_with fail
     refine bodyPost_ret (results_none rfl _ _ _) rfl ?_
     exact ⟨rfl,_,HS.out.fin,by simpa only [List.append_assoc,List.cons_append] using HRR.out,HM.out⟩
set_option maxHeartbeats 4000000 in
theorem symBTg_any {enc:Nat->List Value} {f:Nat->Nat->Int} (E:Enc enc 3) (X A Y:List Nat) (y:Nat) (a m b g cap:Nat) (W:World) (hC:CmpOk 7 enc f W g) (ha:a=X.length) (hm:m=X.length+A.length) (hb:b=m+1) (hA1:A.length≠1)
  (hR:Row enc 3 W g (X++(A++(y :: Y)))) (hg:g<W.heap.size) (L:Nat) (hL:(X++(A++(y :: Y))).length=L) (hsz:L<=1152921504606846976) :
  Calls Tryd.prog 60 #[.slice (some ⟨g,0,none⟩) L cap,.int .i64 a,.int .i64 m,.int .i64 b,.func (.func 7) #[] #[]] W fun e W'=>e=.returned (.tuple #[])/\∃ C,So.Merged f A [y] C/\Row enc 3 W' g (X++(C++Y))/\Mod [g] W W':=by
 have HR:=Lib.hid hR;have HE:=Lib.hid E;have HG:=Lib.hid hg;have HCC:=Lib.hid hC;have HSZ:=Lib.hid hsz
 have hl:X.length+(A.length+(Y.length+1))=L:=by rw [<-hL];simp
 have HL:=Lib.hid hL
 obtain ⟨n,hn⟩:∃ n,A.length=n:=⟨_,rfl⟩
 rw [hn] at hm hl hA1
 have HNn:=Lib.hid hn;have HA:=Lib.hid ha;have HMm:=Lib.hid hm;have HB:=Lib.hid hb;have HLL:=Lib.hid hl
 have hma:¬ (m:Int) - (a:Int)=1:=by omega
 have hmab:((m:Int) - (a:Int) == 1)=false:=by rw [beq_eq_false_iff_ne];exact hma
 have hbm:(b:Int) - (m:Int)=1:=by omega
 have hmn:m=a+n:=by omega
 have HMN:=Lib.hid hmn
 have ham:a<=m:=by omega
 have hmL:m<L:=by omega
 clear hR E hg hC hL hn ha hm hb hl hmn hA1
 go_enter Tryd.func60,Tryd.ntmps60
 go_wp2_with fail
 go_loopw [14,15,16] (fun iv jv _ wr=>∃ (i j i' j':Nat),iv=.int .i64 (i:Nat)/\jv=.int .i64 (j:Nat)/\i=a+i'/\j=a+j'/\i'<=j'/\j'<=n/\So.Bs2 f A y i' j'/\Row enc 3 wr g (X++(A++(y :: Y)))/\Mod [g] W wr) (fun iv jv _ _=>(intOf jv).toNat - (intOf iv).toNat)
 case atStart=>exact ⟨a,m,0,n,rfl,rfl,rfl,HMN.out,by omega,Nat.le_refl _,by have:=So.Bs2.start (f:=f) A y;rw [HNn.out] at this;exact this,HR.out,Mod.refl _ _⟩
 case round =>
  obtain ⟨i,j,i',j',rfl,rfl,hi,hj,hij,hjn,hS,hr,hmm⟩:=hrel
  have HRR:=Lib.hid hr;have HM:=Lib.hid hmm;have HS:=Lib.hid hS;have HI:=Lib.hid hi;have HJ:=Lib.hid hj
  clear hr hmm hS
  by_cases hlt:i<j
  ·have hltI:(i:Int)<(j:Int):=by omega
   have hjL:j<=L:=by have:=HMN.out;omega
   obtain ⟨h',hh'⟩:∃ h',h'=(i'+j') / 2:=⟨_,rfl⟩
   obtain ⟨h,hh⟩:∃ h,h=a+h':=⟨_,rfl⟩
   clear hi hj
   have hb1:i'<=h'/\h'<j':=by have:=HI.out;have:=HJ.out;omega
   have hhI:((i:Int)+(j:Int)) / 2=(h:Nat):=by have:=HI.out;have:=HJ.out;omega
   have hhL:h<L:=by have:=HMN.out;omega
   have hh'n:h'<A.length:=by rw [HNn.out];omega
   obtain ⟨lc,hlc⟩:∃ lc,lc=X++(A++(y :: Y)):=⟨_,rfl⟩
   rw [<-hlc] at HRR
   have hll:lc.length=L:=by rw [hlc];exact HL.out
   obtain ⟨z,hz⟩:∃ z,z=A[h']:=⟨_,rfl⟩
   have hx1:lc.getD h 0=z:=by
    rw [hlc,hz]
    exact getD_in X A (y :: Y) h' h hh'n (by have:=HA.out;omega)
   have HZ:Hid (∀ hlt,z=A[h']'hlt):=Hxq (fun _=>hz)
   have hx2:lc.getD m 0=y:=by
    rw [hlc,<-List.append_assoc]
    exact getD_at _ _ _ _ (by rw [List.length_append,HNn.out];exact HMm.out)
   have hgw:g<wr.heap.size:=Nat.lt_of_lt_of_le HG.out HM.out.size
   obtain ⟨x0,x1,x2,y0,y1,y2,hx,hy,ca0,ca1,ca2,cb0,cb1,cb2,_⟩:=HRR.out.swap3 HE.out Tryd.prog m h (by omega) (by omega)
   have HCL:=Hxq ((HCC.out.past HM.out).call _ _ hx hy)
   rw [hx1,hx2] at HCL
   have ea0:=past_cell ca0;have ea1:=past_cell ca1;have ea2:=past_cell ca2;have eb0:=past_cell cb0;have eb1:=past_cell cb1;have eb2:=past_cell cb2
   have HH:=Lib.hid hh;have HH':=Lib.hid hh';have HB1:=Lib.hid hb1;have HLC:=Lib.hid hlc;have HGW:=Lib.hid hgw;have HHN:=Lib.hid hh'n
   obtain ⟨r,hr⟩:∃ r,r=f y z:=⟨_,rfl⟩
   rw [<-hr] at HCL
   have HRr:=Lib.hid hr
   clear hx hy hx1 hx2 hh hh' hb1 hlc hgw hz hh'n hr hll
   have wq1:IntKind.i64.wrap (h:Int)=(h:Int):=by rw [IntKind.wrap_i64];omega
   by_cases hneg:r<0
   ·go_wp2_with fail
    have inh:=past_one wr
    refine region_past (by kernel_rfl) (by kernel_rfl) ?_
    repeat (quiet_step (exact past_call (HCL.out _)))
    refine wpQuiet_nil ?_
    intro _ hw'
    obtain ⟨⟨wq,mq⟩,hw''⟩:=hw'
    subst hw''
    clear inh
    have R2:=Hxq (HRR.out.past mq HGW.out)
    have M2:=Hxq (HM.out.trans mq (by simp))
    clear HCL ca0 ca1 ca2 cb0 cb1 cb2 HRR HM mq
    go_wp2_with fail
    go_roundw
    case rel=>exact ⟨i,h,i',h',rfl,rfl,HI.out,HH.out,by have:=HB1.out;omega,by have:=HB1.out;omega,HS.out.down HHN.out (by rw [<-HZ.out HHN.out,<-HRr.out];omega),by have:=R2.out;rw [HLC.out] at this;exact this,M2.out⟩
    case measure=>have:=HB1.out;have:=HH.out;have:=HI.out;have:=HJ.out;simp [intOf];omega
   ·have hn2:decide (r<0)=false:=decide_eq_false hneg
    have hn3:0<=r:=by omega
    go_wp2_with fail
    have inh:=past_one wr
    refine region_past (by kernel_rfl) (by kernel_rfl) ?_
    repeat (quiet_step (exact past_call (HCL.out _)))
    refine wpQuiet_nil ?_
    intro _ hw'
    obtain ⟨⟨wq,mq⟩,hw''⟩:=hw'
    subst hw''
    clear inh
    have R2:=Hxq (HRR.out.past mq HGW.out)
    have M2:=Hxq (HM.out.trans mq (by simp))
    clear HCL ca0 ca1 ca2 cb0 cb1 cb2 HRR HM mq
    go_wp2_with fail
    go_roundw
    case rel=>exact ⟨h+1,j,h'+1,j',by go_num,rfl,by have:=HH.out;omega,HJ.out,by have:=HB1.out;omega,hjn,HS.out.up HHN.out (by rw [<-HZ.out HHN.out,<-HRr.out];omega),by have:=R2.out;rw [HLC.out] at this;exact this,M2.out⟩
    case measure=>have:=HB1.out;have:=HH.out;have:=HI.out;have:=HJ.out;simp [intOf];omega
  ·have hltI:¬ (i:Int)<(j:Int):=by omega
   obtain rfl:i'=j':=by omega
   clear hi hj hij
   go_wp2_with fail
   go_loopw [17] (fun kv wr2=>∃ (k k':Nat),kv=.int .i64 (k:Nat)/\k=a+k'/\i'<=k'/\k'<=n/\Row enc 3 wr2 g (X++(A.take k'++(y :: (A.drop k'++Y))))/\Mod [g] W wr2) (fun kv _=>(intOf kv).toNat)
   case atStart=>exact ⟨m,n,rfl,HMN.out,hjn,Nat.le_refl _,by have:=HRR.out;have e:=HNn.out;rw [List.take_of_length_le (by omega),List.drop_of_length_le (by omega)];exact this,HM.out⟩
   case round =>
    clear HRR HM
    obtain ⟨k,k',rfl,hk,hki,hkn,hr,hmm⟩:=hrel
    have HRR:=Lib.hid hr;have HM:=Lib.hid hmm;have HK:=Lib.hid hk
    clear hr hmm hk
    by_cases hlt2:i<k
    ·have hkI:(i:Int)<(k:Int):=by omega
     obtain ⟨q',hq'⟩:∃ q',k'=q'+1:=⟨k' - 1,by have:=HK.out;have:=HI.out;omega⟩
     obtain ⟨q,hq⟩:∃ q,k=q+1:=⟨k - 1,by omega⟩
     have hqI:(k:Int) - 1=(q:Nat):=by omega
     have hk'n:q'<A.length:=by rw [HNn.out];omega
     have hqL:q<L:=by have:=HK.out;have:=HMN.out;omega
     have hkL:k<L:=by have:=HK.out;have:=HMN.out;omega
     have hqa:q=a+q':=by have:=HK.out;omega
     have wq1:IntKind.i64.wrap (q:Int)=(q:Int):=by rw [IntKind.wrap_i64];omega
     obtain ⟨lc,hlc⟩:∃ lc,lc=X++(A.take k'++(y :: (A.drop k'++Y))):=⟨_,rfl⟩
     rw [<-hlc] at HRR
     obtain ⟨z,hz⟩:∃ z,z=A[q']:=⟨_,rfl⟩
     have HZ:Hid (∀ hlt,z=A[q']'hlt):=Hxq (fun _=>hz)
     have hl2:lc=(X++A.take q')++z :: y :: (A.drop k'++Y):=by
      rw [hlc,hq',hz,List.take_succ_eq_append_getElem hk'n]
      simp only [List.append_assoc,List.cons_append,List.nil_append]
     have hll:lc.length=L:=by
      rw [hlc,<-HL.out]
      simp only [List.length_append,List.length_cons,List.length_take,List.length_drop]
      have:=HNn.out
      omega
     obtain ⟨x0,x1,x2,y0,y1,y2,hx,hy,ca0,ca1,ca2,cb0,cb1,cb2,s0,s1,s2,s3,s4,s5,hn⟩:=HRR.out.swap3 HE.out Tryd.prog k q (by omega) (by omega)
     have HN:=Lib.hid hn;have HL2:=Lib.hid hl2;have HQ:=Lib.hid hq;have HQ':=Lib.hid hq';have HKN:=Lib.hid hk'n;have HQA:=Lib.hid hqa
     clear hx hy hn hl2 hlc hll hq hq' hz hk'n hqa
     go_wp2_with fail
     go_region
     have MN:=Hxq (HM.out.trans (HN.out.2) (fun t ht=>.inl ht))
     have RN:=Lib.hid HN.out.1
     clear HN s0 s1 s2 s3 s4 s5 ca0 ca1 ca2 cb0 cb1 cb2 HRR HM
     generalize World.setCell _ _ _=wn at *
     go_wp2_with fail
     go_roundw
     case rel =>
      refine ⟨q,q',by first | rfl | go_num,HQA.out,by have:=HQ'.out;have:=HQA.out;have:=HI.out;have:=HQ.out;omega,by have:=HQ'.out;omega,?_,MN.out⟩
      have h:=RN.out
      have hkl:(A.take q').length=q':=by rw [List.length_take];have:=HKN.out;omega
      rw [HL2.out,swL_adj _ _ _ _ _ _ (by have:=HA.out;have:=HQA.out;have:=HQ.out;rw [List.length_append,hkl];omega) (by have:=HA.out;have:=HQA.out;rw [List.length_append,hkl];omega)] at h
      rw [List.drop_eq_getElem_cons HKN.out,<-HZ.out HKN.out,<-HQ'.out]
      simpa only [List.append_assoc,List.cons_append,List.nil_append] using h
     case measure=>have:=HQ.out;simp [intOf];omega
    ·have hkI:¬ (i:Int)<(k:Int):=by omega
     obtain rfl:k'=i':=by have:=HK.out;have:=HI.out;omega
     go_wp2_with fail
     refine bodyPost_ret (results_none rfl _ _ _) rfl ?_
     exact ⟨rfl,_,HS.out.fin,by simpa only [List.append_assoc,List.cons_append] using HRR.out,HM.out⟩
set_option maxHeartbeats 4000000 in
theorem swapRangeTg_any {enc:Nat->List Value} (E:Enc enc 3) (X U M V Y:List Nat) (a b n g cap:Nat) (fv:Value) (W:World) (ha:a=X.length) (hU:U.length=n) (hV:V.length=n) (hb:b=X.length+n+M.length)
  (hR:Row enc 3 W g (X++(U++(M++(V++Y))))) (hg:g<W.heap.size) (L:Nat) (hL:(X++(U++(M++(V++Y)))).length=L) (hsz:L<=1152921504606846976) :
  Calls Tryd.prog 82 #[.slice (some ⟨g,0,none⟩) L cap,.int .i64 a,.int .i64 b,.int .i64 n,fv] W fun e W'=>e=.returned (.tuple #[])/\Row enc 3 W' g (X++(V++(M++(U++Y))))/\Mod [g] W W':=by
 have HR:=Lib.hid hR;have HE:=Lib.hid E;have HG:=Lib.hid hg
 have HA:=Lib.hid ha;have HB:=Lib.hid hb
 clear hR E hg
 have hlen:X.length+(n+(M.length+(n+Y.length)))=L:=by rw [<-hL];simp [hU,hV]
 have HL:=Lib.hid hL
 have han:a+n<=L:=by omega
 have hbn:b+n<=L:=by omega
 have HLN:=Lib.hid hlen
 clear hL ha hb hlen
 go_enter Tryd.func82,Tryd.ntmps82
 go_wp2_with fail
 go_loopw [10] (fun iv wr=>∃ (i:Nat),i<=n/\iv=.int .i64 (i:Nat)/\Row enc 3 wr g (X++((V.take i++U.drop i)++(M++((U.take i++V.drop i)++Y))))/\Mod [g] W wr) (fun iv _=>n - (intOf iv).toNat)
 case atStart=>exact ⟨0,by omega,rfl,by simpa using HR.out,Mod.refl _ _⟩
 case round =>
  obtain ⟨i,hi,rfl,hr,hm⟩:=hrel
  have HRR:=Lib.hid hr;have HM:=Lib.hid hm
  clear hr hm
  by_cases hlt:i<n
  ·have hiI:(i:Int)<(n:Int):=by omega
   obtain ⟨lc,hlc⟩:∃ lc,lc=X++((V.take i++U.drop i)++(M++((U.take i++V.drop i)++Y))):=⟨_,rfl⟩
   rw [<-hlc] at HRR
   have hll:lc.length=L:=by rw [hlc];simp [hU,hV];have:=HLN.out;omega
   have Hlc:=Lib.hid hlc
   clear hlc
   have NX:=HRR.out.swap3 HE.out Tryd.prog (a+i) (b+i) (by omega) (by omega)
   obtain ⟨x0,x1,x2,y0,y1,y2,hx,hy,ca0,ca1,ca2,cb0,cb1,cb2,s0,s1,s2,s3,s4,s5,hn⟩:=NX
   have HN:=Lib.hid hn
   clear hx hy hn
   have w1:IntKind.i64.wrap ((a:Int)+(i:Int))=(a:Int)+(i:Int):=by rw [IntKind.wrap_i64];omega
   have w2:IntKind.i64.wrap ((b:Int)+(i:Int))=(b:Int)+(i:Int):=by rw [IntKind.wrap_i64];omega
   have t1:((a:Int)+(i:Int)).toNat=a+i:=by omega
   have t2:((b:Int)+(i:Int)).toNat=b+i:=by omega
   have q1:(a:Int)+(i:Int)<(L:Int):=by omega
   have q2:(b:Int)+(i:Int)<(L:Int):=by omega
   have q3:(0:Int)<=(a:Int)+(i:Int):=by omega
   have q4:(0:Int)<=(b:Int)+(i:Int):=by omega
   go_wp2_with fail
   go_region
   have MN:=Hxq (HM.out.trans (HN.out.2) (fun t ht=>.inl ht))
   have RN:=Lib.hid HN.out.1
   clear HN s0 s1 s2 s3 s4 s5 ca0 ca1 ca2 cb0 cb1 cb2
   generalize World.setCell _ _ _=wn at *
   go_wp2_with fail
   go_roundw
   case rel =>
    refine ⟨i+1,by omega,by go_num,?_,MN.out⟩
    have h:=RN.out
    rw [Hlc.out,swap_step X U M V Y i n (a+i) (b+i) hU hV hlt (by rw [HA.out]) (by rw [HB.out])] at h
    exact h
   case measure=>simp [intOf];omega
  ·obtain rfl:i=n:=by omega
   have hiI:¬ (i:Int)<(i:Int):=by omega
   go_wp2_with fail
   go_end0
   refine ⟨rfl,?_,HM.out⟩
   have h:=HRR.out
   rw [List.take_of_length_le (by omega),List.take_of_length_le (by omega),List.drop_of_length_le (by omega),List.drop_of_length_le (by omega),List.append_nil,List.append_nil] at h
   exact h
set_option maxHeartbeats 4000000 in
theorem rotateTg_any {enc:Nat->List Value} (E:Enc enc 3) (X A B Y:List Nat) (a m b g cap:Nat) (fv:Value) (W:World) (ha:a=X.length) (hm:m=X.length+A.length) (hb:b=X.length+A.length+B.length) (hA:0<A.length) (hB:0<B.length)
  (hR:Row enc 3 W g (X++(A++(B++Y)))) (hg:g<W.heap.size) (L:Nat) (hL:(X++(A++(B++Y))).length=L) (hsz:L<=1152921504606846976) :
  Calls Tryd.prog 74 #[.slice (some ⟨g,0,none⟩) L cap,.int .i64 a,.int .i64 m,.int .i64 b,fv] W fun e W'=>e=.returned (.tuple #[])/\Row enc 3 W' g (X++(B++(A++Y)))/\Mod [g] W W':=by
 have HR:=Lib.hid hR;have HE:=Lib.hid E;have HG:=Lib.hid hg;have HSZ:=Lib.hid hsz
 have hl:X.length+(A.length+(B.length+Y.length))=L:=by rw [<-hL];simp
 have HL:=Lib.hid hL
 obtain ⟨i0,hi0⟩:∃ i0,A.length=i0:=⟨_,rfl⟩
 obtain ⟨j0,hj0⟩:∃ j0,B.length=j0:=⟨_,rfl⟩
 rw [hi0] at hm hb hA hl;rw [hj0] at hb hB hl
 have HI:=Lib.hid hi0;have HJ:=Lib.hid hj0;have HA:=Lib.hid ha;have HMm:=Lib.hid hm;have HBb:=Lib.hid hb
 have d1:(m:Int) - (a:Int)=(i0:Nat):=by omega
 have d2:(b:Int) - (m:Int)=(j0:Nat):=by omega
 have bl:m+j0<=L:=by omega
 have mi:i0<=m:=by omega
 clear hR E hg hL hi0 hj0 ha hm hb hl
 go_enter Tryd.func74,Tryd.ntmps74
 go_wp2_with fail
 go_loopw [10,11] (fun iv jv wr=>∃ (P U V S:List Nat) (i j:Nat),iv=.int .i64 (i:Nat)/\jv=.int .i64 (j:Nat)/\U.length=i/\V.length=j/\P.length+i=m/\0<i/\0<j/\X++(B++(A++Y))=P++(V++(U++S))/\(P++(U++(V++S))).length=L/\Row enc 3 wr g (P++(U++(V++S)))/\Mod [g] W wr) (fun iv jv _=>(intOf iv).toNat+(intOf jv).toNat)
 case atStart=>exact ⟨X,A,B,Y,i0,j0,rfl,rfl,HI.out,HJ.out,by have:=HMm.out;omega,hA,hB,rfl,HL.out,HR.out,Mod.refl _ _⟩
 case round =>
  obtain ⟨P,U,V,S,i,j,rfl,rfl,hU,hV,hP,hi,hj,hT,hLL,hr,hmm⟩:=hrel
  have hPl:P.length+i+j<=L:=by rw [<-hLL];simp [hU,hV];omega
  have HRR:=Lib.hid hr;have HM:=Lib.hid hmm;have HT:=Lib.hid hT;have HLL:=Lib.hid hLL;have HU:=Lib.hid hU;have HV:=Lib.hid hV
  obtain ⟨p,hp⟩:∃ p,P.length=p:=⟨_,rfl⟩
  rw [hp] at hP hPl
  have HP:=Lib.hid hp
  have e1:(m:Int) - (i:Int)=(p:Nat):=by omega
  clear hr hmm hT hLL hU hV hp d1 d2
  have hgw:g<wr.heap.size:=Nat.lt_of_lt_of_le HG.out HM.out.size
  rcases Nat.lt_trichotomy j i with hlt | heq | hgt
  ·have c1:¬ (i:Int)=(j:Int):=by omega
   have c1b:((i:Int) == (j:Int))=false:=by rw [beq_eq_false_iff_ne];exact c1
   have c2:(j:Int)<(i:Int):=by omega
   obtain ⟨d,hd⟩:∃ d,d+j=i:=⟨i - j,by omega⟩
   have hdI:(i:Int) - (j:Int)=(d:Nat):=by omega
   obtain ⟨U1,U2,hUe,hU1⟩:∃ U1 U2,U=U1++U2/\U1.length=j:=⟨U.take j,U.drop j,(List.take_append_drop _ _).symm,by rw [List.length_take,HU.out];omega⟩
   have hU2:U2.length=d:=by have:=HU.out;rw [hUe,List.length_append] at this;omega
   have hassoc:P++(U++(V++S))=P++(U1++(U2++(V++S))):=by rw [hUe,List.append_assoc]
   have HC:=Hxq (swapRangeTg_any HE.out P U1 U2 V S p m j g cap fv wr HP.out.symm hU1 HV.out (by have:=HP.out;omega) (by rw [<-hassoc];exact HRR.out) hgw L (by rw [<-hassoc];exact HLL.out) HSZ.out)
   have HUE:=Lib.hid hUe;have HU1:=Lib.hid hU1;have HU2:=Lib.hid hU2
   clear hassoc hgw hUe hU1 hU2
   go_wp2_with fail
   refine Calls.mono HC.out ?_
   rintro e2 w2 ⟨rfl,r2,m2⟩
   have R2:=Lib.hid r2;have M2:=Lib.hid m2
   clear r2 m2 HC
   go_wp2_with fail
   go_roundw
   case rel =>
    refine ⟨P++V,U2,U1,S,d,j,rfl,rfl,HU2.out,HU1.out,by rw [List.length_append,HV.out,HP.out];omega,by omega,by omega,?_,?_,?_,HM.out.trans M2.out (fun t ht=>.inl ht)⟩
    ·rw [HT.out,HUE.out];simp only [List.append_assoc]
    ·rw [<-HLL.out,HUE.out];simp only [List.length_append];omega
    ·have:=R2.out;simp only [List.append_assoc] at this ⊢;exact this
   case measure=>simp [intOf];omega
  ·subst heq
   have HC:=Hxq (swapRangeTg_any HE.out P U [] V S p m j g cap fv wr HP.out.symm HU.out HV.out (by have:=HP.out;simp;omega) (by simpa using HRR.out) hgw L (by simpa using HLL.out) HSZ.out)
   clear hgw
   go_wp2_with fail
   refine Calls.mono HC.out ?_
   rintro e2 w2 ⟨rfl,r2,m2⟩
   have R2:=Lib.hid r2;have M2:=Lib.hid m2
   clear r2 m2 HC
   go_wp2_with fail
   go_end0
   refine ⟨rfl,?_,HM.out.trans M2.out (fun t ht=>.inl ht)⟩
   rw [HT.out]
   simpa using R2.out
  ·have c1:¬ (i:Int)=(j:Int):=by omega
   have c1b:((i:Int) == (j:Int))=false:=by rw [beq_eq_false_iff_ne];exact c1
   have c2:¬ (j:Int)<(i:Int):=by omega
   obtain ⟨d,hd⟩:∃ d,d+i=j:=⟨j - i,by omega⟩
   have hdI:(j:Int) - (i:Int)=(d:Nat):=by omega
   obtain ⟨q,hq⟩:∃ q,q=m+d:=⟨_,rfl⟩
   have hqI:(m:Int)+(j:Int) - (i:Int)=(q:Nat):=by omega
   obtain ⟨V1,V2,hVe,hV1⟩:∃ V1 V2,V=V1++V2/\V1.length=d:=⟨V.take d,V.drop d,(List.take_append_drop _ _).symm,by rw [List.length_take,HV.out];omega⟩
   have hV2:V2.length=i:=by have:=HV.out;rw [hVe,List.length_append] at this;omega
   have hassoc:P++(U++(V++S))=P++(U++(V1++(V2++S))):=by rw [hVe,List.append_assoc]
   have HC:=Hxq (swapRangeTg_any HE.out P U V1 V2 S p q i g cap fv wr HP.out.symm HU.out hV2 (by have:=HP.out;omega) (by rw [<-hassoc];exact HRR.out) hgw L (by rw [<-hassoc];exact HLL.out) HSZ.out)
   have HVE:=Lib.hid hVe;have HV1:=Lib.hid hV1;have HV2:=Lib.hid hV2
   have hmj:m+j<=L:=by omega
   clear hassoc hgw hVe hV1 hV2 hq
   go_wp2_with fail
   refine Calls.mono HC.out ?_
   rintro e2 w2 ⟨rfl,r2,m2⟩
   have R2:=Lib.hid r2;have M2:=Lib.hid m2
   clear r2 m2 HC
   go_wp2_with fail
   go_roundw
   case rel =>
    refine ⟨P,V2,V1,U++S,i,d,rfl,rfl,HV2.out,HV1.out,by rw [HP.out];omega,by omega,by omega,?_,?_,?_,HM.out.trans M2.out (fun t ht=>.inl ht)⟩
    ·rw [HT.out,HVE.out];simp only [List.append_assoc]
    ·rw [<-HLL.out,HVE.out];simp only [List.length_append];omega
    ·exact R2.out
   case measure=>simp [intOf];omega
def SymKTg (enc:Nat->List Value) (f:Nat->Nat->Int) (n:Nat):Prop:=∀ (X A B Y:List Nat) (a m b g cap L:Nat) (W:World),A.length+B.length<=n->0<A.length->0<B.length->CmpOk 7 enc f W g ->
 a=X.length->m=X.length+A.length->b=X.length+A.length+B.length->Row enc 3 W g (X++(A++(B++Y)))->g<W.heap.size->(X++(A++(B++Y))).length=L->L<=1152921504606846976 ->
 Calls Tryd.prog 60 #[.slice (some ⟨g,0,none⟩) L cap,.int .i64 a,.int .i64 m,.int .i64 b,.func (.func 7) #[] #[]] W fun e W'=>e=.returned (.tuple #[])/\∃ C,So.Merged f A B C/\Row enc 3 W' g (X++(C++Y))/\Mod [g] W W'
set_option maxHeartbeats 16000000 in
theorem symCTg_any {enc:Nat->List Value} {f:Nat->Nat->Int} (E:Enc enc 3) (n:Nat) (IH:SymKTg enc f n) (X A B Y:List Nat) (a m b g cap L:Nat) (W:World) (hn:A.length+B.length<=n+1) (hA2:2<=A.length) (hB2:2<=B.length) (hC:CmpOk 7 enc f W g)
  (ha:a=X.length) (hm:m=X.length+A.length) (hb:b=X.length+A.length+B.length) (hR:Row enc 3 W g (X++(A++(B++Y)))) (hg:g<W.heap.size) (hL:(X++(A++(B++Y))).length=L) (hsz:L<=1152921504606846976) :
  Calls Tryd.prog 60 #[.slice (some ⟨g,0,none⟩) L cap,.int .i64 a,.int .i64 m,.int .i64 b,.func (.func 7) #[] #[]] W fun e W'=>e=.returned (.tuple #[])/\∃ C,So.Merged f A B C/\Row enc 3 W' g (X++(C++Y))/\Mod [g] W W':=by
 have HR:=Lib.hid hR;have HE:=Lib.hid E;have HG:=Lib.hid hg;have HCC:=Lib.hid hC;have HSZ:=Lib.hid hsz;have HIH:=Lib.hid IH
 have hl:X.length+(A.length+(B.length+Y.length))=L:=by rw [<-hL];simp
 have HL:=Lib.hid hL
 obtain ⟨la,hla⟩:∃ la,A.length=la:=⟨_,rfl⟩
 obtain ⟨lb,hlb⟩:∃ lb,B.length=lb:=⟨_,rfl⟩
 rw [hla] at hm hb hl hn hA2;rw [hlb] at hb hl hn hB2
 obtain ⟨d,hd⟩:∃ d,d=(la+lb) / 2:=⟨_,rfl⟩
 obtain ⟨mid,hmid⟩:∃ mid,mid=a+d:=⟨_,rfl⟩
 obtain ⟨nn,hnn⟩:∃ nn,nn=mid+m:=⟨_,rfl⟩
 have hm':m=a+la:=by omega
 have hb':b=m+lb:=by omega
 have hXa:X.length=a:=ha.symm
 have HLA:=Lib.hid hla;have HLB:=Lib.hid hlb;have HD:=Lib.hid hd;have HMID:=Lib.hid hmid;have HNN:=Lib.hid hnn;have HM':=Lib.hid hm';have HB':=Lib.hid hb';have HXA:=Lib.hid hXa;have HN:=Lib.hid hn
 have hma:¬ (m:Int) - (a:Int)=1:=by omega
 have hmab:((m:Int) - (a:Int) == 1)=false:=by rw [beq_eq_false_iff_ne];exact hma
 have hbm:¬ (b:Int) - (m:Int)=1:=by omega
 have hbmb:((b:Int) - (m:Int) == 1)=false:=by rw [beq_eq_false_iff_ne];exact hbm
 have hmidI:((a:Int)+(b:Int)) / 2=(mid:Nat):=by omega
 have hnnI:(mid:Int)+(m:Int)=(nn:Nat):=by omega
 have hbL:b<=L:=by omega
 have haL:a<=L:=by omega
 have hmL:m<=L:=by omega
 have hmidL:mid<=L:=by omega
 have hnnL:nn<=L+L:=by omega
 have wn1:IntKind.i64.wrap (nn:Int)=(nn:Int):=by rw [IntKind.wrap_i64];omega
 clear hR E hg hC hL IH hla hlb hd hmid hnn hm' hb' hXa hn ha hm hb hl
 go_enter Tryd.func60,Tryd.ntmps60
 go_upto_if 140 with fail
 go_cut [20,21,140] from 141 to 146 (fun sv rv _ wx=>∃ (s0 r0 sA rA:Nat),sv=.int .i64 (sA:Nat)/\rv=.int .i64 (rA:Nat)/\sA=a+s0/\rA=a+r0/\s0<=r0/\r0<=la/\r0<=d/\d<=lb+s0/\(s0=0\/d=lb+s0)/\(r0=la\/r0=d)/\W=wx)
 case first =>
  by_cases hc:mid<m
  ·have hcI:(mid:Int)<(m:Int):=by omega
   have hdl:lb<=d/\d<la:=by have:=HD.out;have:=HMID.out;have:=HM'.out;omega
   obtain ⟨sx,hsx⟩:∃ sx,sx=a+(d - lb):=⟨_,rfl⟩
   have hsI:(nn:Int) - (b:Int)=(sx:Nat):=by have:=HNN.out;have:=HMID.out;have:=HM'.out;have:=HB'.out;omega
   have ws1:IntKind.i64.wrap (sx:Int)=(sx:Int):=by rw [IntKind.wrap_i64];have:=HMID.out;omega
   have HSX:=Lib.hid hsx;have HDL:=Lib.hid hdl
   clear hsx hdl
   go_wp2_with fail
   go_meet
   exact ⟨d - lb,d,sx,mid,rfl,rfl,HSX.out,HMID.out,by omega,by have:=HDL.out;omega,by omega,by have:=HDL.out;omega,.inr (by have:=HDL.out;omega),.inr rfl,rfl⟩
  ·have hcI:¬ (mid:Int)<(m:Int):=by omega
   have hdl:la<=d/\d<=lb:=by have:=HD.out;have:=HMID.out;have:=HM'.out;omega
   have HDL:=Lib.hid hdl
   clear hdl
   go_wp2_with fail
   go_meet
   exact ⟨0,la,a,m,rfl,rfl,rfl,HM'.out,by omega,by omega,by have:=HDL.out;omega,by have:=HDL.out;omega,.inl rfl,.inl rfl,rfl⟩
 case rest =>
  obtain ⟨s0,r0,sA,rA,rfl,rfl,hsA,hrA,h1,h2,h3,h4,h5,h6,rfl⟩:=hcut
  have HSA:=Lib.hid hsA;have HRA:=Lib.hid hrA;have H5:=Lib.hid h5;have H6:=Lib.hid h6
  have H1:=Lib.hid h1;have H2:=Lib.hid h2;have H3:=Lib.hid h3;have H4:=Lib.hid h4
  obtain ⟨p,hp⟩:∃ p,nn=p+1:=⟨nn - 1,by have:=HNN.out;have:=HM'.out;omega⟩
  have hpI:(nn:Int) - 1=(p:Nat):=by omega
  have wp1:IntKind.i64.wrap (p:Int)=(p:Int):=by rw [IntKind.wrap_i64];omega
  have HP:=Lib.hid hp
  clear hsA hrA h1 h2 h3 h4 h5 h6 hp
  go_wp2_with fail
  go_loopw [20,21,23] (fun sv rv _ wr=>∃ (s r s' r':Nat),sv=.int .i64 (s:Nat)/\rv=.int .i64 (r:Nat)/\s=a+s'/\r=a+r'/\s0<=s'/\s'<=r'/\r'<=r0/\So.Bs3 f A B d s0 r0 s' r'/\Row enc 3 wr g (X++(A++(B++Y)))/\Mod [g] W wr) (fun sv rv _ _=>(intOf rv).toNat - (intOf sv).toNat)
  case atStart=>exact ⟨sA,rA,s0,r0,rfl,rfl,HSA.out,HRA.out,Nat.le_refl _,H1.out,Nat.le_refl _,So.Bs3.start A B d s0 r0,HR.out,Mod.refl _ _⟩
  case round =>
   obtain ⟨s,r,s',r',rfl,rfl,hs,hrr,hs0,hsr,hr0,hS,hr,hmm⟩:=hrel
   have HRR:=Lib.hid hr;have HM:=Lib.hid hmm;have HS:=Lib.hid hS;have HI:=Lib.hid hs;have HJ:=Lib.hid hrr
   have HS0:=Lib.hid hs0;have HSR:=Lib.hid hsr;have HR0:=Lib.hid hr0
   clear hr hmm hS
   by_cases hlt:s<r
   ·have hltI:(s:Int)<(r:Int):=by omega
    have hrL:r<=L:=by have:=HM'.out;have:=H2.out;omega
    obtain ⟨c',hc'⟩:∃ c',c'=(s'+r') / 2:=⟨_,rfl⟩
    obtain ⟨c,hc⟩:∃ c,c=a+c':=⟨_,rfl⟩
    have hb1:s'<=c'/\c'<r':=by omega
    have hcI:((s:Int)+(r:Int)) / 2=(c:Nat):=by omega
    have hcla:c'<la:=by have:=H2.out;omega
    have hcd:c'+1<=d:=by have:=H3.out;omega
    have hclb:d - 1 - c'<lb:=by have:=H4.out;omega
    obtain ⟨e,he⟩:∃ e,e=m+(d - 1 - c'):=⟨_,rfl⟩
    have heI:(p:Int) - (c:Int)=(e:Nat):=by have:=HP.out;have:=HNN.out;have:=HMID.out;omega
    have hcL:c<L:=by have:=HM'.out;omega
    have heL:e<L:=by have:=HB'.out;omega
    have hcn:c'<A.length:=by rw [HLA.out];exact hcla
    have hen:d - 1 - c'<B.length:=by rw [HLB.out];exact hclb
    obtain ⟨lc,hlc⟩:∃ lc,lc=X++(A++(B++Y)):=⟨_,rfl⟩
    rw [<-hlc] at HRR
    have hll:lc.length=L:=by rw [hlc];exact HL.out
    obtain ⟨z,hz⟩:∃ z,z=A[c']:=⟨_,rfl⟩
    obtain ⟨y,hy'⟩:∃ y,y=B[d - 1 - c']:=⟨_,rfl⟩
    have HZ:Hid (∀ hlt,z=A[c']'hlt):=Hxq (fun _=>hz)
    have HY:Hid (∀ hlt,y=B[d - 1 - c']'hlt):=Hxq (fun _=>hy')
    have hx1:lc.getD c 0=z:=by
     rw [hlc,hz]
     exact getD_in X A (B++Y) c' c hcn (by rw [HXA.out];exact hc)
    have hx2:lc.getD e 0=y:=by
     rw [hlc,hy',<-List.append_assoc]
     exact getD_in (X++A) B Y _ e hen (by rw [List.length_append,HXA.out,HLA.out,<-HM'.out];exact he)
    have hgw:g<wr.heap.size:=Nat.lt_of_lt_of_le HG.out HM.out.size
    obtain ⟨x0,x1,x2,y0,y1,y2,hx,hy,ca0,ca1,ca2,cb0,cb1,cb2,_⟩:=HRR.out.swap3 HE.out Tryd.prog e c (by omega) (by omega)
    have HCL:=Hxq ((HCC.out.past HM.out).call _ _ hx hy)
    rw [hx1,hx2] at HCL
    have ea0:=past_cell ca0;have ea1:=past_cell ca1;have ea2:=past_cell ca2;have eb0:=past_cell cb0;have eb1:=past_cell cb1;have eb2:=past_cell cb2
    have HCv:=Lib.hid hc;have HB1:=Lib.hid hb1;have HLC:=Lib.hid hlc;have HGW:=Lib.hid hgw;have HCN:=Lib.hid hcn;have HEN:=Lib.hid hen;have HCD:=Lib.hid hcd
    obtain ⟨q,hq⟩:∃ q,q=f y z:=⟨_,rfl⟩
    rw [<-hq] at HCL
    have HQ:=Lib.hid hq
    have wq1:IntKind.i64.wrap (c:Int)=(c:Int):=by rw [IntKind.wrap_i64];omega
    have wq2:IntKind.i64.wrap (e:Int)=(e:Int):=by rw [IntKind.wrap_i64];omega
    clear hx hy hx1 hx2 hc hc' hb1 hlc hgw hz hy' hcn hen hcd hcla hclb he hq hll hs hrr hs0 hsr hr0
    by_cases hneg:q<0
    ·go_wp2_with fail
     have inh:=past_one wr
     refine region_past (by kernel_rfl) (by kernel_rfl) ?_
     repeat (quiet_step (exact past_call (HCL.out _)))
     refine wpQuiet_nil ?_
     intro _ hw'
     obtain ⟨⟨wq,mq⟩,hw''⟩:=hw'
     subst hw''
     clear inh
     have R2:=Hxq (HRR.out.past mq HGW.out)
     have M2:=Hxq (HM.out.trans mq (by simp))
     clear HCL ca0 ca1 ca2 cb0 cb1 cb2 HRR HM mq
     go_wp2_with fail
     go_roundw
     case rel=>exact ⟨s,c,s',c',rfl,rfl,HI.out,HCv.out,HS0.out,by have:=HB1.out;omega,by have:=HB1.out;have:=HR0.out;omega,HS.out.down H3.out HCN.out HEN.out (by rw [<-HZ.out HCN.out,<-HY.out HEN.out,<-HQ.out];omega),by have:=R2.out;rw [HLC.out] at this;exact this,M2.out⟩
     case measure=>have:=HB1.out;have:=HCv.out;have:=HI.out;have:=HJ.out;simp [intOf];omega
    ·have hn2:decide (q<0)=false:=decide_eq_false hneg
     have hn3:0<=q:=by omega
     go_wp2_with fail
     have inh:=past_one wr
     refine region_past (by kernel_rfl) (by kernel_rfl) ?_
     repeat (quiet_step (exact past_call (HCL.out _)))
     refine wpQuiet_nil ?_
     intro _ hw'
     obtain ⟨⟨wq,mq⟩,hw''⟩:=hw'
     subst hw''
     clear inh
     have R2:=Hxq (HRR.out.past mq HGW.out)
     have M2:=Hxq (HM.out.trans mq (by simp))
     clear HCL ca0 ca1 ca2 cb0 cb1 cb2 HRR HM mq
     go_wp2_with fail
     go_roundw
     case rel=>exact ⟨c+1,r,c'+1,r',by go_num,rfl,by have:=HCv.out;omega,HJ.out,by have:=HB1.out;have:=HS0.out;omega,by have:=HB1.out;omega,HR0.out,HS.out.up HCD.out HCN.out HEN.out (by rw [<-HZ.out HCN.out,<-HY.out HEN.out,<-HQ.out];omega),by have:=R2.out;rw [HLC.out] at this;exact this,M2.out⟩
     case measure=>have:=HB1.out;have:=HCv.out;have:=HI.out;have:=HJ.out;simp [intOf];omega
   ·have hltI:¬ (s:Int)<(r:Int):=by omega
    obtain rfl:s'=r':=by omega
    obtain ⟨A1,hA1⟩:∃ A1,A1=A.take s':=⟨_,rfl⟩
    obtain ⟨A2,hA2'⟩:∃ A2,A2=A.drop s':=⟨_,rfl⟩
    obtain ⟨B1,hB1⟩:∃ B1,B1=B.take (d - s'):=⟨_,rfl⟩
    obtain ⟨B2,hB2'⟩:∃ B2,B2=B.drop (d - s'):=⟨_,rfl⟩
    have b1:s'<=la:=by have:=H2.out;omega
    have b2:s'<=d:=by have:=H3.out;omega
    have b3:d<=lb+s':=by have:=H4.out;omega
    have lA1:A1.length=s':=by rw [hA1,List.length_take,HLA.out];omega
    have lA2:A2.length=la - s':=by rw [hA2',List.length_drop,HLA.out]
    have lB1:B1.length=d - s':=by rw [hB1,List.length_take,HLB.out];omega
    have lB2:B2.length=lb - (d - s'):=by rw [hB2',List.length_drop,HLB.out]
    have eA:A=A1++A2:=by rw [hA1,hA2',List.take_append_drop]
    have eB:B=B1++B2:=by rw [hB1,hB2',List.take_append_drop]
    obtain ⟨en,hen⟩:∃ en,en=m+(d - s'):=⟨_,rfl⟩
    have henI:(nn:Int) - (s:Int)=(en:Nat):=by have:=HNN.out;have:=HMID.out;omega
    have we1:IntKind.i64.wrap (en:Int)=(en:Int):=by rw [IntKind.wrap_i64];have:=HB'.out;omega
    have HFIN:=Hxq (fun ho hp hq hc=>So.Bs3.fin HS.out HS0.out HR0.out (by rw [HLA.out];exact H2.out) H3.out (by rw [HLB.out];exact H4.out) (by rw [HLB.out];exact H5.out) (by rw [HLA.out];exact H6.out) ho hp hq hc)
    rw [<-hA1,<-hA2',<-hB1,<-hB2'] at HFIN
    have R0:Hid (Row enc 3 wr g (X++(A1++(A2++(B1++(B2++Y)))))):=Hxq (by have:=HRR.out;rw [eA,eB] at this;simpa only [List.append_assoc] using this)
    have hlen:(X++(A1++(A2++(B1++(B2++Y))))).length=L:=by have:=HL.out;rw [eA,eB] at this;simpa only [List.append_assoc] using this
    have HLN:=Lib.hid hlen;have HA1:=Lib.hid lA1;have HA2:=Lib.hid lA2;have HB1:=Lib.hid lB1;have HB2:=Lib.hid lB2;have HEA:=Lib.hid eA;have HEB:=Lib.hid eB;have HEN:=Lib.hid hen
    have hsm:s=mid\/s<mid:=by have:=HMID.out;omega
    have HSV:=Lib.hid hs
    clear hA1 hA2' hB1 hB2' lA1 lA2 lB1 lB2 eA eB hlen hen hs hrr hs0 hsr hr0 hsm HRR HS
    go_upto_region 39 with fail
    go_cut [185] from 178 to 184 (fun tv wx=>∃ gb:Bool,tv=.bool gb/\gb=(decide (s'<la) && decide (s'<d))/\wr=wx)
    case first =>
     by_cases k1:s'<la
     ·have k1I:(s:Int)<(m:Int):=by have:=HSV.out;have:=HM'.out;omega
      by_cases k2:s'<d
      ·have k2I:(m:Int)<(en:Int):=by have:=HEN.out;omega
       have hk:(true:Bool)=(decide (s'<la) && decide (s'<d)):=by simp [k1,k2]
       have HK:=Lib.hid hk
       clear k1 k2 hk
       go_wp2_with fail
       go_meet
       exact ⟨_,rfl,HK.out,rfl⟩
      ·have k2I:¬ (m:Int)<(en:Int):=by have:=HEN.out;omega
       have hk:(false:Bool)=(decide (s'<la) && decide (s'<d)):=by simp [k2]
       have HK:=Lib.hid hk
       clear k1 k2 hk
       go_wp2_with fail
       go_meet
       exact ⟨_,rfl,HK.out,rfl⟩
     ·have k1I:¬ (s:Int)<(m:Int):=by have:=HSV.out;have:=HM'.out;omega
      have hk:(false:Bool)=(decide (s'<la) && decide (s'<d)):=by simp [k1]
      have HK:=Lib.hid hk
      clear k1 hk
      go_wp2_with fail
      go_meet
      exact ⟨_,rfl,HK.out,rfl⟩
    case rest =>
     obtain ⟨gb,rfl,hgb,rfl⟩:=hcut
     have HGB:=Lib.hid hgb
     clear hgb
     go_upto_if 185 with fail
     go_cut [] from 186 to 191 (fun wx=>Row enc 3 wx g (X++(A1++(B1++(A2++(B2++Y)))))/\Mod [g] W wx)
     case first =>
      cases gb with
      | true =>
       have hk:s'<la/\s'<d:=by have:=HGB.out;simpa using this.symm
       have HC:=Hxq (rotateTg_any HE.out (X++A1) A2 B1 (B2++Y) s m en g cap (.func (.func 7) #[] #[]) wr (by rw [List.length_append,HXA.out,HA1.out];exact HSV.out) (by rw [List.length_append,HXA.out,HA1.out,HA2.out];have:=HM'.out;omega) (by rw [List.length_append,HXA.out,HA1.out,HA2.out,HB1.out];have:=HM'.out;have:=HEN.out;omega) (by rw [HA2.out];omega) (by rw [HB1.out];omega)
        (by have:=R0.out;simpa only [List.append_assoc] using this) (Nat.lt_of_lt_of_le HG.out HM.out.size) L (by have:=HLN.out;simpa only [List.append_assoc] using this) HSZ.out)
       clear hk
       go_wp2_with fail
       refine Calls.mono HC.out ?_
       rintro e2 w2 ⟨rfl,r2,m2⟩
       have R2:=Lib.hid r2;have M2:=Lib.hid m2
       clear r2 m2 HC
       go_wp2_with fail
       go_meet
       exact ⟨by have:=R2.out;simpa only [List.append_assoc] using this,HM.out.trans M2.out (fun t ht=>.inl ht)⟩
      | false =>
       have h0:Row enc 3 wr g (X++(A1++(B1++(A2++(B2++Y))))):=by
        have hk:=HGB.out
        by_cases k1:s'<la
        ·have hb0:B1=[]:=List.length_eq_zero_iff.1 (by rw [HB1.out];simp [k1] at hk;omega)
         have:=R0.out;rw [hb0] at this ⊢;simpa using this
        ·have ha0:A2=[]:=List.length_eq_zero_iff.1 (by rw [HA2.out];omega)
         have:=R0.out;rw [ha0] at this ⊢;simpa using this
       have H0:=Lib.hid h0
       clear h0
       go_wp2_with fail
       go_meet
       exact ⟨H0.out,HM.out⟩
     case rest =>
      obtain ⟨rx,mx⟩:=hcut
      have RX:=Lib.hid rx;have MX:=Lib.hid mx
      clear rx mx R0 HM HGB
      go_upto_region 41 with fail
      go_cut [199] from 192 to 198 (fun tv wy=>∃ gb:Bool,tv=.bool gb/\gb=(decide (0<s') && decide (s'<d))/\wc=wy)
      case first =>
       by_cases k1:0<s'
       ·have k1I:(a:Int)<(s:Int):=by have:=HSV.out;omega
        by_cases k2:s'<d
        ·have k2I:(s:Int)<(mid:Int):=by have:=HSV.out;have:=HMID.out;omega
         have hk:(true:Bool)=(decide (0<s') && decide (s'<d)):=by simp [k1,k2]
         have HK:=Lib.hid hk
         clear k1 k2 hk
         go_wp2_with fail
         go_meet
         exact ⟨_,rfl,HK.out,rfl⟩
        ·have k2I:¬ (s:Int)<(mid:Int):=by have:=HSV.out;have:=HMID.out;omega
         have hk:(false:Bool)=(decide (0<s') && decide (s'<d)):=by simp [k2]
         have HK:=Lib.hid hk
         clear k1 k2 hk
         go_wp2_with fail
         go_meet
         exact ⟨_,rfl,HK.out,rfl⟩
       ·have k1I:¬ (a:Int)<(s:Int):=by have:=HSV.out;omega
        have hk:(false:Bool)=(decide (0<s') && decide (s'<d)):=by simp [k1]
        have HK:=Lib.hid hk
        clear k1 hk
        go_wp2_with fail
        go_meet
        exact ⟨_,rfl,HK.out,rfl⟩
      case rest =>
       obtain ⟨gb,rfl,hgb,rfl⟩:=hcut
       have HGB:=Lib.hid hgb
       clear hgb
       go_upto_if 199 with fail
       generalize hwq:wc=wq at *
       clear hwq
       go_cut [] from 200 to 205 (fun wy=>∃ C1,So.Merged f A1 B1 C1/\Row enc 3 wy g (X++(C1++(A2++(B2++Y))))/\Mod [g] W wy)
       case first =>
        cases gb with
        | true =>
         have hk:0<s'/\s'<d:=by have:=HGB.out;simpa using this.symm
         have HC:=Hxq (HIH.out X A1 B1 (A2++(B2++Y)) a s mid g cap L wq (by rw [HA1.out,HB1.out];have:=HN.out;have:=HD.out;omega) (by rw [HA1.out];exact hk.1) (by rw [HB1.out];omega) (HCC.out.past MX.out) HXA.out.symm (by rw [HXA.out,HA1.out];exact HSV.out) (by rw [HXA.out,HA1.out,HB1.out];have:=HMID.out;omega)
          RX.out (Nat.lt_of_lt_of_le HG.out MX.out.size) (by have:=HLN.out;simp only [List.length_append] at this ⊢;omega) HSZ.out)
         clear hk
         go_wp2_with fail
         refine Calls.mono HC.out ?_
         rintro e2 w2 ⟨rfl,C1,c1,r2,m2⟩
         have R2:=Lib.hid r2;have M2:=Lib.hid m2;have HC1:=Lib.hid c1
         clear r2 m2 HC c1
         go_wp2_with fail
         go_meet
         exact ⟨C1,HC1.out,R2.out,MX.out.trans M2.out (fun t ht=>.inl ht)⟩
        | false =>
         have h0:∃ C1,So.Merged f A1 B1 C1/\Row enc 3 wq g (X++(C1++(A2++(B2++Y)))):=by
          have hk:=HGB.out
          by_cases k1:0<s'
          ·have hb0:B1=[]:=List.length_eq_zero_iff.1 (by rw [HB1.out];simp [k1] at hk;omega)
           exact ⟨A1,by rw [hb0];exact So.merged_nil,by have:=RX.out;rw [hb0] at this;simpa using this⟩
          ·have ha0:A1=[]:=List.length_eq_zero_iff.1 (by rw [HA1.out];omega)
           exact ⟨B1,by rw [ha0];exact So.merged_nil',by have:=RX.out;rw [ha0] at this;simpa using this⟩
         have H0:=Lib.hid h0
         clear h0
         go_wp2_with fail
         go_meet
         obtain ⟨C1,q1,q2⟩:=H0.out
         exact ⟨C1,q1,q2,MX.out⟩
       case rest =>
        obtain ⟨C1,hc1,ry,my⟩:=hcut
        have RY:=Lib.hid ry;have MY:=Lib.hid my;have HC1:=Lib.hid hc1
        have hcl:C1.length=d:=by rw [hc1.1.length_eq,List.length_append,HA1.out,HB1.out];omega
        have HCLn:=Lib.hid hcl
        clear ry my hc1 hcl RX MX HGB
        have FIN:Hid (∀ C2 w',So.Merged f A2 B2 C2->Row enc 3 w' g (X++(C1++(C2++Y)))->Mod [g] W w'->∃ C,So.Merged f A B C/\Row enc 3 w' g (X++(C++Y))/\Mod [g] W w'):=Hxq (by
         intro C2 w' h2 r2 m2
         refine ⟨C1++C2,?_,by simpa only [List.append_assoc] using r2,m2⟩
         rw [HEA.out,HEB.out]
         refine So.merged_two HC1.out h2 (fun ho hp hq hc=>?_)
         rw [<-HEA.out,<-HEB.out] at hc
         rw [<-HEA.out] at hp;rw [<-HEB.out] at hq
         exact HFIN.out ho hp hq hc)
        by_cases k1:s'<la
        ·have k1I:(mid:Int)<(en:Int):=by have:=HEN.out;have:=HMID.out;have:=HM'.out;omega
         by_cases k2:d - s'<lb
         ·have k2I:(en:Int)<(b:Int):=by have:=HEN.out;have:=HB'.out;omega
          have HC:=Hxq (HIH.out (X++C1) A2 B2 Y mid en b g cap L wc (by rw [HA2.out,HB2.out];have:=HN.out;have:=HD.out;omega) (by rw [HA2.out];omega) (by rw [HB2.out];omega) (HCC.out.past MY.out) (by rw [List.length_append,HXA.out,HCLn.out];exact HMID.out) (by rw [List.length_append,HXA.out,HCLn.out,HA2.out];have:=HEN.out;have:=HM'.out;omega) (by rw [List.length_append,HXA.out,HCLn.out,HA2.out,HB2.out];have:=HB'.out;have:=HM'.out;omega)
           (by have:=RY.out;simpa only [List.append_assoc] using this) (Nat.lt_of_lt_of_le HG.out MY.out.size) (by have h1:=HLN.out;have h2:=HCLn.out;have h3:=HA1.out;have h4:=HB1.out;simp only [List.length_append] at h1 ⊢;omega) HSZ.out)
          clear k1 k2
          go_wp2_with fail
          refine Calls.mono HC.out ?_
          rintro e2 w2 ⟨rfl,C2,c2,r2,m2⟩
          have R2:=Lib.hid r2;have M2:=Lib.hid m2;have HC2:=Lib.hid c2
          clear r2 m2 HC c2
          go_wp2_with fail
          go_end0
          exact ⟨rfl,FIN.out C2 _ HC2.out (by have:=R2.out;simpa only [List.append_assoc] using this) (MY.out.trans M2.out (fun t ht=>.inl ht))⟩
         ·have k2I:¬ (en:Int)<(b:Int):=by have:=HEN.out;have:=HB'.out;omega
          have hb0:B2=[]:=List.length_eq_zero_iff.1 (by rw [HB2.out];omega)
          clear k1 k2
          go_wp2_with fail
          go_end0
          exact ⟨rfl,FIN.out A2 _ (by rw [hb0];exact So.merged_nil) (by have:=RY.out;rw [hb0] at this;simpa using this) MY.out⟩
        ·have k1I:¬ (mid:Int)<(en:Int):=by have:=HEN.out;have:=HMID.out;have:=HM'.out;omega
         have ha0:A2=[]:=List.length_eq_zero_iff.1 (by rw [HA2.out];omega)
         clear k1
         go_wp2_with fail
         go_end0
         exact ⟨rfl,FIN.out B2 _ (by rw [ha0];exact So.merged_nil') (by have:=RY.out;rw [ha0] at this;simpa using this) MY.out⟩
end Go.Proofs.YtcalbbfkgdfidaaDoor
