/- THE TEXTS MERGED: SoStTg SoEqTg SoCptTg SoSdTg. -/
import Derived.Test.YtcalbbfkgdfidaaDoorKV8
namespace Go.Proofs.YtcalbbfkgdfidaaDoor
open Go.RowKit Go.Sort Go.Lib
set_option linter.unusedVariables false
set_option linter.unusedSimpArgs false
set_option maxRecDepth 100000
theorem symTg_all {enc:Nat->List Value} {f:Nat->Nat->Int} (E:Enc enc 3):∀ n,SymKTg enc f n
 | 0=>fun X A B Y a m b g cap L W hn hA hB=>by omega
 | n+1=>fun X A B Y a m b g cap L W hn hA hB hC ha hm hb hR hg hL hsz=>by
  by_cases h1:A.length=1
  ·obtain ⟨x,rfl⟩:∃ x,A=[x]:=by
    match A,h1 with
    | [x],_=>exact ⟨x,rfl⟩
   exact symATg_any E X B Y x a m b g cap W hC ha (by simpa using hm) (by simpa using hb) (by simpa using hR) hg L (by simpa using hL) hsz
  ·by_cases h2:B.length=1
   ·obtain ⟨y,rfl⟩:∃ y,B=[y]:=by
     match B,h2 with
     | [y],_=>exact ⟨y,rfl⟩
    exact symBTg_any E X A Y y a m b g cap W hC ha hm (by rw [hb,hm];simp) h1 (by simpa using hR) hg L (by simpa using hL) hsz
   ·exact symCTg_any E n (symTg_all E n) X A B Y a m b g cap L W hn (by omega) (by omega) hC ha hm hb hR hg hL hsz
theorem symTg_any {enc:Nat->List Value} {f:Nat->Nat->Int} (E:Enc enc 3) (X A B Y:List Nat) (a m b g cap L:Nat) (W:World) (hA:0<A.length) (hB:0<B.length) (hC:CmpOk 7 enc f W g)
  (ha:a=X.length) (hm:m=X.length+A.length) (hb:b=X.length+A.length+B.length) (hR:Row enc 3 W g (X++(A++(B++Y)))) (hg:g<W.heap.size) (hL:(X++(A++(B++Y))).length=L) (hsz:L<=1152921504606846976) :
  Calls Tryd.prog 60 #[.slice (some ⟨g,0,none⟩) L cap,.int .i64 a,.int .i64 m,.int .i64 b,.func (.func 7) #[] #[]] W fun e W'=>e=.returned (.tuple #[])/\∃ C,So.Merged f A B C/\Row enc 3 W' g (X++(C++Y))/\Mod [g] W W' :=
 symTg_all E _ X A B Y a m b g cap L W (Nat.le_refl _) hA hB hC ha hm hb hR hg hL hsz
/-- what stands when a chunk of the row has been done: D done, R not yet -/
def StsTg (enc:Nat->List Value) (f:Nat->Nat->Int) (s:Nat) (n g:Nat) (W w:World) (a:Nat):Prop :=
 ∃ D R,So.Hd f (2 * s) a D/\So.Ch f s a R/\a+R.length=n/\Row enc 3 w g (D++R)/\Mod [g] W w
set_option maxHeartbeats 4000000 in
theorem stableTg_any {enc:Nat->List Value} {f:Nat->Nat->Int} (E:Enc enc 3) (n g cap:Nat) (W:World) (hC:CmpOk 7 enc f W g) (hR:Row enc 3 W g (List.range' 0 n)) (hg:g<W.heap.size) (hsz:n<=1152921504606846976) :
  Calls Tryd.prog 43 #[.slice (some ⟨g,0,none⟩) n cap,.int .i64 n,.func (.func 7) #[] #[]] W fun e W'=>e=.returned (.tuple #[])/\∃ C,So.Chunk f 0 C/\C.length=n/\Row enc 3 W' g C/\Mod [g] W W':=by
 have HR:=Lib.hid hR;have HE:=Lib.hid E;have HG:=Lib.hid hg;have HCC:=Lib.hid hC;have HSZ:=Lib.hid hsz
 clear hR E hg hC
 go_enter Tryd.func43,Tryd.ntmps43
 go_wp2_with fail
 go_loopw [7,8] (fun av bv wr=>∃ (a:Nat) (D:List Nat),av=.int .i64 (a:Nat)/\bv=.int .i64 ((a+20:Nat):Int)/\a<=n/\So.Hd f 20 a D/\Row enc 3 wr g (D++List.range' a (n - a))/\Mod [g] W wr) (fun av _ _=>n - (intOf av).toNat)
 case atStart=>exact ⟨0,[],rfl,rfl,by omega,.nil _,by simpa using HR.out,Mod.refl _ _⟩
 case round =>
  obtain ⟨a,D,rfl,rfl,han,hD,hr,hm⟩:=hrel
  obtain ⟨b,hb⟩:∃ b,a+20=b:=⟨_,rfl⟩
  rw [hb]
  have HRR:=Lib.hid hr;have HM:=Lib.hid hm;have HD:=Lib.hid hD;have HB:=Lib.hid hb
  have hgw:g<wr.heap.size:=Nat.lt_of_lt_of_le HG.out HM.out.size
  clear hr hm hD hb
  by_cases hlt:b<=n
  ·have hltI:(b:Int)<=(n:Int):=by omega
   have hl:D.length=a:=HD.out.1
   have e1:List.range' a (n - a)=List.range' a 20++List.range' b (n - b):=by rw [<-HB.out,List.range'_append_1];congr 1;have:=HB.out;omega
   have HC:=Hxq (insertionTg_any HE.out D (List.range' a 20) (List.range' b (n - b)) a b g cap wr (HCC.out.past HM.out) hl.symm (by rw [hl,List.length_range'];exact HB.out.symm) (by rw [<-e1];exact HRR.out) hgw n (by rw [<-e1,List.length_append,hl,List.length_range'];omega) HSZ.out)
   clear hl e1 hgw
   go_wp2_with fail
   refine Calls.mono HC.out ?_
   rintro e2 w2 ⟨rfl,C,hS,r2,m2⟩
   have R2:=Lib.hid r2;have M2:=Lib.hid m2;have HS:=Lib.hid hS
   clear r2 m2 HC hS
   go_wp2_with fail
   go_roundw
   case rel=>exact ⟨b,D++C,rfl,by go_num,by omega,by rw [<-HB.out];exact HD.out.snoc (by rw [HS.out.1.length_eq,List.length_range']) (So.Chunk.sorted HS.out),by rw [List.append_assoc];exact R2.out,HM.out.trans M2.out (fun t ht=>.inl ht)⟩
   case measure=>have:=HB.out;simp [intOf];omega
  ·have hltI:¬ (b:Int)<=(n:Int):=by omega
   have hl:D.length=a:=HD.out.1
   have HC:=Hxq (insertionTg_any HE.out D (List.range' a (n - a)) [] a n g cap wr (HCC.out.past HM.out) hl.symm (by rw [hl,List.length_range'];omega) (by rw [List.append_nil];exact HRR.out) hgw n (by rw [List.append_nil,List.length_append,hl,List.length_range'];omega) HSZ.out)
   have hnb:n - a<=20:=by have:=HB.out;omega
   have HNB:=Lib.hid hnb
   clear hl hgw hnb
   go_wp2_with fail
   refine Calls.mono HC.out ?_
   rintro e2 w2 ⟨rfl,C,hS,r2,m2⟩
   have hc0:So.Ch f 20 0 (D++C):=HD.out.end (by rw [hS.1.length_eq,List.length_range'];exact HNB.out) (So.Chunk.sorted hS)
   have hlen:(D++C).length=n:=by rw [List.length_append,hS.1.length_eq,List.length_range',HD.out.1];omega
   have R2:Hid (∃ l,So.Ch f 20 0 l/\l.length=n/\Row enc 3 w2 g l/\Mod [g] W w2):=Lib.hid ⟨_,hc0,hlen,by simpa using r2,HM.out.trans m2 (fun t ht=>.inl ht)⟩
   clear r2 m2 HC hS hc0 hlen HRR HM HD HNB
   go_wp2_with fail
   go_loopw [6,7,8] (fun sv _ _ wr=>∃ (s:Nat) (l:List Nat),sv=.int .i64 (s:Nat)/\0<s/\s<=2305843009213693952/\So.Ch f s 0 l/\l.length=n/\Row enc 3 wr g l/\Mod [g] W wr) (fun sv _ _ _=>n - (intOf sv).toNat)
   case atStart =>
    obtain ⟨l,h1,h2,h3,h4⟩:=R2.out
    exact ⟨20,l,rfl,by omega,by omega,h1,h2,h3,h4⟩
   case round =>
    obtain ⟨s,l,rfl,hs0,hsM,hCh,hll,hr,hm⟩:=hrel
    have HRR:=Lib.hid hr;have HM:=Lib.hid hm;have HCh:=Lib.hid hCh;have HLL:=Lib.hid hll
    clear hr hm hCh hll R2
    by_cases hlt:s<n
    ·have hltI:(s:Int)<(n:Int):=by omega
     obtain ⟨t,ht⟩:∃ t,t=2 * s:=⟨_,rfl⟩
     have htI:(2:Int) * (s:Int)=(t:Nat):=by omega
     have htI2:(s:Int) * (2:Int)=(t:Nat):=by omega
     have HT:=Lib.hid ht
     have htM:t<=2305843009213693952:=by omega
     clear ht
     go_wp2_with fail
     go_loopw [7,8] (fun av bv wq=>∃ (a b:Nat),av=.int .i64 (a:Nat)/\bv=.int .i64 (b:Nat)/\b=a+t/\a<=n/\StsTg enc f s n g W wq a) (fun av _ _=>n - (intOf av).toNat)
     case atStart=>exact ⟨0,t,rfl,rfl,by omega,by omega,[],l,.nil _,HCh.out,by rw [HLL.out];omega,HRR.out,HM.out⟩
     case round =>
      obtain ⟨a,b,rfl,rfl,hb,han,hS⟩:=hrel
      obtain ⟨D,R,hD,hCR,hlR,hr,hm⟩:=hS
      have R3:=Lib.hid hr;have M3:=Lib.hid hm;have HD:=Lib.hid hD;have HCR:=Lib.hid hCR;have HLR:=Lib.hid hlR;have HB:=Lib.hid hb
      have hgw:g<wr.heap.size:=Nat.lt_of_lt_of_le HG.out M3.out.size
      have hbM:b<=4611686018427387904:=by omega
      clear hr hm hD hCR hlR hb HRR HM HCh HLL
      by_cases hlt2:b<=n
      ·have hltI2:(b:Int)<=(n:Int):=by omega
       obtain ⟨A,B,R',eR,hA,hB,cA,cB,cR⟩:=So.Ch.two hs0 HCR.out (by have:=HLR.out;have:=HB.out;have:=HT.out;omega)
       have hDl:=HD.out.1
       obtain ⟨m,hm⟩:∃ m,m=a+s:=⟨_,rfl⟩
       have hmI:(a:Int)+(s:Int)=(m:Nat):=by omega
       have wm:IntKind.i64.wrap (m:Int)=(m:Int):=by rw [IntKind.wrap_i64];omega
       have HC:=Hxq (symTg_any HE.out D A B R' a m b g cap n wr (by omega) (by omega) (HCC.out.past M3.out) hDl.symm (by omega) (by have:=HB.out;have:=HT.out;omega) (by rw [<-eR];exact R3.out) hgw (by rw [<-eR,List.length_append,hDl];exact HLR.out) HSZ.out)
       have hR'l:b+R'.length=n:=by have:=HLR.out;rw [eR] at this;simp only [List.length_append] at this;have:=HB.out;have:=HT.out;omega
       have HA:=Lib.hid hA;have HBl:=Lib.hid hB;have CA:=Lib.hid cA;have CB:=Lib.hid cB;have CR:=Lib.hid cR;have HRl:=Lib.hid hR'l
       clear eR hA hB cA cB cR hDl hm hR'l hgw
       go_wp2_with fail
       refine Calls.mono HC.out ?_
       rintro e2 w2 ⟨rfl,C,hS,r2,m2⟩
       have R4:=Lib.hid r2;have M4:=Lib.hid m2;have HS:=Lib.hid hS
       clear r2 m2 HC hS
       have hnx:(b:Int)+(t:Int)=((b+t:Nat):Int):=by omega
       obtain ⟨b2,hb2⟩:∃ b2,b2=b+t:=⟨_,rfl⟩
       rw [<-hb2] at hnx
       have HB2:=Lib.hid hb2
       clear hb2
       go_wp2_with fail
       go_roundw
       case rel =>
        refine ⟨b,b2,rfl,rfl,HB2.out,by omega,D++C,R',?_,?_,HRl.out,by simpa only [List.append_assoc] using R4.out,M3.out.trans M4.out (fun t ht=>.inl ht)⟩
        ·rw [HB.out,HT.out]
         exact HD.out.snoc (by rw [HS.out.1.length_eq,List.length_append,HA.out,HBl.out];omega) (CA.out.merge (by rw [HA.out];exact CB.out) HS.out)
        ·rw [HB.out,HT.out];exact CR.out
       case measure=>have:=HB.out;have:=HT.out;simp [intOf];omega
      ·have hltI2:¬ (b:Int)<=(n:Int):=by omega
       have hDl:=HD.out.1
       obtain ⟨m,hm⟩:∃ m,m=a+s:=⟨_,rfl⟩
       have hmI:(a:Int)+(s:Int)=(m:Nat):=by omega
       have wm:IntKind.i64.wrap (m:Int)=(m:Int):=by rw [IntKind.wrap_i64];omega
       have hRl:R.length<2 * s:=by have:=HLR.out;have:=HB.out;have:=HT.out;omega
       by_cases hmn:m<n
       ·have hmnI:(m:Int)<(n:Int):=by omega
        obtain ⟨A,B,eR,hA,cA,cB⟩:=So.Ch.split hs0 HCR.out (by have:=HLR.out;omega) hRl
        have hlB:0<B.length:=by have:=HLR.out;rw [eR,List.length_append] at this;omega
        have HC:=Hxq (symTg_any HE.out D A B [] a m n g cap n wr (by omega) hlB (HCC.out.past M3.out) hDl.symm (by omega) (by have:=HLR.out;rw [eR,List.length_append] at this;omega) (by rw [List.append_nil,<-eR];exact R3.out) hgw (by rw [List.append_nil,<-eR,List.length_append,hDl];exact HLR.out) HSZ.out)
        have FIN:Hid (∀ w2 C,So.Merged f A B C->Row enc 3 w2 g (D++(C++[]))->Mod [g] wr w2->∃ l,So.Ch f t 0 l/\l.length=n/\Row enc 3 w2 g l/\Mod [g] W w2):=Hxq (by
         intro w2 C hS r2 m2
         have hCl:C.length=R.length:=by rw [hS.1.length_eq,eR]
         refine ⟨D++C,?_,by rw [List.length_append,hCl,hDl];exact HLR.out,by simpa using r2,M3.out.trans m2 (fun t ht=>.inl ht)⟩
         rw [HT.out]
         exact HD.out.end (by rw [hCl];omega) (cA.merge (by rw [hA];exact cB) hS))
        clear eR hA cA cB hDl hm hRl hlB hgw HLR HCR
        go_wp2_with fail
        refine Calls.mono HC.out ?_
        rintro e2 w2 ⟨rfl,C,hS,r2,m2⟩
        have R4:=Hxq (FIN.out _ _ hS r2 m2)
        clear r2 m2 HC hS FIN
        go_wp2_with fail
        go_roundw
        case rel =>
         obtain ⟨l,h1,h2,h3,h4⟩:=R4.out
         exact ⟨t,l,rfl,by omega,htM,h1,h2,h3,h4⟩
        case measure=>have:=HT.out;simp [intOf];omega
       ·have hmnI:¬ (m:Int)<(n:Int):=by omega
        have R4:Hid (∃ l,So.Ch f t 0 l/\l.length=n/\Row enc 3 wr g l/\Mod [g] W wr):=Lib.hid ⟨D++R,by rw [HT.out];exact HD.out.end (by omega) (So.Ch.one hs0 HCR.out (by have:=HLR.out;omega)),by rw [List.length_append,hDl];exact HLR.out,R3.out,M3.out⟩
        clear hDl hm hRl hgw HLR HCR R3 M3
        go_wp2_with fail
        go_roundw
        case rel =>
         obtain ⟨l,h1,h2,h3,h4⟩:=R4.out
         exact ⟨t,l,rfl,by omega,htM,h1,h2,h3,h4⟩
        case measure=>have:=HT.out;simp [intOf];omega
    ·have hltI:¬ (s:Int)<(n:Int):=by omega
     go_wp2_with fail
     go_end0
     exact ⟨rfl,l,HCh.out.one hs0 (by rw [HLL.out];omega),HLL.out,HRR.out,HM.out⟩
/-- a test of two things, in all worlds in which the sort's row alone has turned -/
def EqOkTg (enc:Nat->List Value) (f:Nat->Nat->Int) (W:World) (g p:Nat):Prop :=
 ∀ W',Mod [g] W W'->∀ x y,Calls Tryd.prog 23 #[.agg (enc x).toArray,.agg (enc y).toArray,.pointer (some ⟨p,0,none⟩)] W' fun e W''=>e=.returned (.bool (decide (f x y=0)))/\Mod [] W' W''
theorem EqOkTg.past {enc:Nat->List Value} {f:Nat->Nat->Int} {W W':World} {g p:Nat} (h:EqOkTg enc f W g p) (hm:Mod [g] W W'):EqOkTg enc f W' g p :=
 fun V hV=>h V (hm.trans hV (fun t ht=>.inl ht))
theorem EqOkTg.call {enc:Nat->List Value} {f:Nat->Nat->Int} {W:World} {g p:Nat} (h:EqOkTg enc f W g p) (x y:Nat) {X Y:List Value} (hx:enc x=X) (hy:enc y=Y) :
  ∀ q:Past W,Calls Tryd.prog 23 #[.agg X.toArray,.agg Y.toArray,.pointer (some ⟨p,0,none⟩)] q.w fun e W''=>e=.returned (.bool (decide (f x y=0)))/\Mod [] q.w W'':=fun q=>by
 subst hx hy
 exact h q.w (q.m.mono (by simp)) x y
set_option maxHeartbeats 4000000 in
theorem eqTg_any {enc:Nat->List Value} {f:Nat->Nat->Int} (E:Enc enc 3) (g p:Nat) (W:World) (hC:CmpOk 7 enc f W g) (hp:W.cell? ⟨p,0,none⟩=some (.func (.func 7) #[] #[])) (hpg:p≠g):EqOkTg enc f W g p:=by
 intro w hm x y
 have hc:=hm.cell hp (by simpa using hpg)
 obtain ⟨x0,x1,x2,hx⟩:=E.three x
 obtain ⟨y0,y1,y2,hy⟩:=E.three y
 have H1:=(((Mod.refl [] w).alloc (Obj.cells #[x0,x1,x2] 28)).alloc (Obj.cells #[y0,y1,y2] 28))
 have hC2:=(hC.past hm).past (H1.mono (by simp)) _ (Mod.refl _ _) x y
 have hc2:=H1.cell hc (by simp)
 rw [hx,hy] at hC2 ⊢
 have HC:=Lib.hid hC2;have M1:=Lib.hid H1
 obtain ⟨r,hr⟩:∃ r,f x y=r:=⟨_,rfl⟩
 rw [hr] at HC ⊢
 have hlt:=hm.size
 clear hC hp hm hc hC2 H1 hx hy hr
 go_enter Tryd.func23,Tryd.ntmps23
 go_wp2_with fail
 refine Calls.mono HC.out ?_
 rintro e2 w2 ⟨rfl,m2⟩
 have M2:=Hxq (M1.out.trans m2 (by simp))
 clear HC M1 m2
 by_cases h0:r=0
 ·subst h0
  go_wp2_with fail
  go_ret
  exact ⟨rfl,M2.out⟩
 ·have h1:(r == 0)=false:=by rw [beq_eq_false_iff_ne];exact h0
  have h2:decide (r=0)=false:=decide_eq_false h0
  have H2:=Lib.hid h2
  clear h2
  go_wp2_with fail
  go_ret
  exact ⟨by rw [H2.out];rfl,M2.out⟩
theorem zeroTg (w:World):(zeroValue 28).run Tryd.prog w=.ok (.agg #[.string ⟨#[]⟩,.slice none 0 0,.int .i64 0]) w:=by kernel_rfl
set_option maxHeartbeats 4000000 in
theorem compactTg_any {enc:Nat->List Value} {f:Nat->Nat->Int} (E:Enc enc 3) (C:List Nat) (n g cap p:Nat) (W:World) (hC:EqOkTg enc f W g p) (hR:Row enc 3 W g C) (hn:C.length=n) (hcap:n<=cap) (hg:g<W.heap.size) (hsz:n<=1152921504606846976) :
  Calls Tryd.prog 22 #[.slice (some ⟨g,0,none⟩) n cap,.func (.func 23) #[] #[.pointer (some ⟨p,0,none⟩)]] W fun e W'=>e=.returned (.slice (some ⟨g,0,none⟩) (So.cpt f C).length cap)/\Row enc 3 W' g (So.cpt f C)/\Mod [g] W W':=by
 have HR:=Lib.hid hR;have HE:=Lib.hid E;have HG:=Lib.hid hg;have HCC:=Lib.hid hC;have HSZ:=Lib.hid hsz;have HN:=Lib.hid hn
 clear hR E hg hC hn
 by_cases hn2:n<2
 ·have hnI:(n:Int)<2:=by omega
  have hcp:So.cpt f C=C:=by
   have:=HN.out
   match C with
   | []=>rfl
   | [x]=>rfl
   | x :: y :: l=>simp at this;omega
  rw [hcp]
  have hl:=HN.out
  go_enter Tryd.func22,Tryd.ntmps22
  go_wp2_with fail
  go_ret
  exact ⟨by rw [HN.out];rfl,HR.out,Mod.refl _ _⟩
 ·have hnI:¬ (n:Int)<2:=by omega
  go_enter Tryd.func22,Tryd.ntmps22
  go_wp2_with fail
  go_loopw [5] (fun kv wr=>∃ (k:Nat),kv=.int .i64 ((k+1:Nat):Int)/\k+1<=n/\So.cpt f (C.take (k+1))=C.take (k+1)/\Row enc 3 wr g C/\Mod [g] W wr) (fun kv _=>n - (intOf kv).toNat)
  case atStart=>exact ⟨0,rfl,by omega,So.first_one C,HR.out,Mod.refl _ _⟩
  case round =>
   obtain ⟨k,rfl,hkn,hcp,hr,hm⟩:=hrel
   have HRR:=Lib.hid hr;have HM:=Lib.hid hm;have HCP:=Lib.hid hcp
   obtain ⟨j,hj⟩:∃ j,k+1=j:=⟨_,rfl⟩
   rw [hj] at hkn ⊢
   have hgw:g<wr.heap.size:=Nat.lt_of_lt_of_le HG.out HM.out.size
   have HGW:=Lib.hid hgw;have HJ:=Lib.hid hj
   clear hr hm hcp hgw hj
   by_cases hlt:j<n
   ·have hltI:(j:Int)<(n:Int):=by omega
    have hjI:(j:Int) - 1=(k:Nat):=by have:=HJ.out;omega
    have hk1:k<n:=by have:=HJ.out;omega
    have wk1:IntKind.i64.wrap (k:Int)=(k:Int):=by rw [IntKind.wrap_i64];omega
    have hjl:j<C.length:=by rw [HN.out];exact hlt
    have hkl:k<C.length:=by rw [HN.out];exact hk1
    obtain ⟨x0,x1,x2,y0,y1,y2,hx,hy,ca0,ca1,ca2,cb0,cb1,cb2,_⟩:=HRR.out.swap3 HE.out Tryd.prog j k hjl hkl
    have HCL:=Hxq ((HCC.out.past HM.out).call _ _ hx hy)
    have ej:C.getD j 0=C[j]:=by rw [List.getD_eq_getElem?_getD,List.getElem?_eq_getElem hjl];rfl
    have ek:C.getD k 0=C[k]:=by rw [List.getD_eq_getElem?_getD,List.getElem?_eq_getElem hkl];rfl
    obtain ⟨r,hr⟩:∃ r,r=f C[j] C[k]:=⟨_,rfl⟩
    rw [ej,ek,<-hr] at HCL
    have ea0:=past_cell ca0;have ea1:=past_cell ca1;have ea2:=past_cell ca2;have eb0:=past_cell cb0;have eb1:=past_cell cb1;have eb2:=past_cell cb2
    have HF:Hid (∀ (h1:k+1<C.length) (h2:k<C.length),f C[k+1] C[k]=r):=Hxq (fun h1 h2=>by subst hr;have hh:=HJ.out;subst hh;rfl)
    clear hx hy hr ej ek hjl hkl
    by_cases h0:r=0
    ·have hdd:decide (r=0)=true:=decide_eq_true h0
     rw [hdd] at HCL
     have H0:=Lib.hid h0
     clear hdd h0
     go_wp2_with fail
     have inh:=past_one wr
     refine region_past (by kernel_rfl) (by kernel_rfl) ?_
     repeat (quiet_step (exact past_call (HCL.out _)))
     refine wpQuiet_nil ?_
     intro _ hw'
     obtain ⟨⟨wq,mq⟩,hw''⟩:=hw'
     subst hw''
     clear inh
     have R2:=Hxq (HRR.out.past mq HGW.out)
     have M2:=Hxq (HM.out.trans mq (by simp))
     clear HCL ca0 ca1 ca2 cb0 cb1 cb2 HRR HM mq
     go_wp2_with fail
     go_loopw [5,7] (fun kv qv wr=>∃ (kk q k2:Nat) (lc:List Nat),kv=.int .i64 (kk:Nat)/\qv=.int .i64 ((k2+1:Nat):Int)/\q=j+k2/\So.Cm f C q kk lc/\Row enc 3 wr g lc/\Mod [g] W wr) (fun _ qv _=>n - (intOf qv).toNat)
     case atStart=>exact ⟨j,j,0,C,rfl,rfl,rfl,by have hh:=HJ.out;subst hh;exact So.Cm.start (by rw [HN.out];exact hlt) HCP.out (by rw [HF.out (by rw [HN.out];exact hlt) (by rw [HN.out];exact hk1)];exact H0.out),R2.out,M2.out⟩
     case round =>
      clear HCP HF H0 R2 M2
      obtain ⟨kk,q,k2,lc,rfl,rfl,hq,hCm,hr,hm⟩:=hrel
      have R3:=Lib.hid hr;have M3:=Lib.hid hm;have HCm:=Lib.hid hCm;have HQ:=Lib.hid hq
      have hcl:=hCm.length
      have hqn:q<n:=by rw [<-HN.out];exact hCm.lt
      have hkkn:kk<=q:=hCm.le
      obtain ⟨ki,hki⟩:∃ ki,k2+1=ki:=⟨_,rfl⟩
      have hgw3:g<wr.heap.size:=Nat.lt_of_lt_of_le HG.out M3.out.size
      have HGW3:=Lib.hid hgw3;have HKI:=Lib.hid hki
      rw [hki]
      clear hr hm hCm hki hgw3
      by_cases hlt2:ki<n - j
      ·have hltI2:(ki:Int)<(n:Int) - (j:Int):=by omega
       have hk2I:(ki:Int) - 1=(k2:Nat):=by have:=HKI.out;omega
       have wk2:IntKind.i64.wrap (k2:Int)=(k2:Int):=by rw [IntKind.wrap_i64];have:=HKI.out;omega
       have hq1:q+1<n:=by have:=HKI.out;omega
       have hq1l:q+1<C.length:=by rw [HN.out];exact hq1
       obtain ⟨x0,x1,x2,y0,y1,y2,hx,hy,ca0,ca1,ca2,cb0,cb1,cb2,_⟩:=R3.out.swap3 HE.out Tryd.prog (q+1) q (by omega) (by omega)
       have HCL:=Hxq ((HCC.out.past M3.out).call _ _ hx hy)
       rw [HCm.out.get (q+1) (by omega) hq1l,HCm.out.get q (by omega) (by omega)] at HCL
       rw [show (q+1) * 3=j * 3+ki * 3 by have:=HKI.out;omega] at ca0 ca1 ca2
       rw [show q * 3=j * 3+k2 * 3 by omega] at cb0 cb1 cb2
       obtain ⟨r2,hr2⟩:∃ r,r=f C[q+1] C[q]:=⟨_,rfl⟩
       rw [<-hr2] at HCL
       have ea0:=past_cell ca0;have ea1:=past_cell ca1;have ea2:=past_cell ca2;have eb0:=past_cell cb0;have eb1:=past_cell cb1;have eb2:=past_cell cb2
       have HF2:Hid (∀ (h1:q+1<C.length) (h2:q<C.length),f C[q+1] C[q]=r2):=Hxq (fun h1 h2=>hr2.symm)
       clear hx hy hr2
       have hkj:ki<n - j:=hlt2
       have hkj2:k2<n - j:=by have:=HKI.out;omega
       by_cases h0:r2=0
       ·have hdd:decide (r2=0)=true:=decide_eq_true h0
        rw [hdd] at HCL
        have H0:=Lib.hid h0
        clear hdd h0
        go_wp2_with fail
        have inh:=past_one wr
        refine region_past (by kernel_rfl) (by kernel_rfl) ?_
        repeat (quiet_step (exact past_call (HCL.out _)))
        refine wpQuiet_nil ?_
        intro _ hw'
        obtain ⟨⟨wq,mq⟩,hw''⟩:=hw'
        subst hw''
        clear inh
        have R4:=Hxq (R3.out.past mq HGW3.out)
        have M4:=Hxq (M3.out.trans mq (by simp))
        clear HCL ca0 ca1 ca2 cb0 cb1 cb2 R3 M3 mq
        go_wp2_with fail
        go_roundw
        case rel=>exact ⟨kk,q+1,ki,lc,rfl,by go_num,by have:=HKI.out;have:=HQ.out;omega,HCm.out.skip (by rw [HN.out];exact hq1) (by rw [HF2.out (by rw [HN.out];exact hq1) (by rw [HN.out];exact hqn)];exact H0.out),R4.out,M4.out⟩
        case measure=>simp [intOf];omega
       ·have hdd:decide (r2=0)=false:=decide_eq_false h0
        rw [hdd] at HCL
        have H0:=Lib.hid h0
        clear hdd h0
        go_wp2_with fail
        have inh:=past_one wr
        refine region_past (by kernel_rfl) (by kernel_rfl) ?_
        repeat (quiet_step (exact past_call (HCL.out _)))
        refine wpQuiet_nil ?_
        intro _ hw'
        obtain ⟨⟨wq,mq⟩,hw''⟩:=hw'
        subst hw''
        clear inh
        have R4:=Hxq (R3.out.past mq HGW3.out)
        have M4:=Hxq (M3.out.trans mq (by simp))
        clear HCL ca0 ca1 ca2 cb0 cb1 cb2 ea0 ea1 ea2 eb0 eb1 eb2 R3 M3 mq
        obtain ⟨y0,y1,y2,hy,cb0,cb1,cb2,s0,s1,s2,hn4⟩:=R4.out.copy3 HE.out Tryd.prog kk (q+1) (by omega) (by omega)
        have HN4:=Lib.hid hn4
        have eg:=HCm.out.get (q+1) (by omega) (by rw [HN.out];exact hq1)
        have EG:=Lib.hid eg
        rw [show (q+1) * 3=j * 3+ki * 3 by have:=HKI.out;have:=HQ.out;omega] at cb0 cb1 cb2
        have hkkn2:kk<n:=by omega
        clear hy hn4 eg
        go_wp2_with fail
        have MN:=Hxq (M4.out.trans (HN4.out.2) (fun t ht=>.inl ht))
        have RN:=Lib.hid HN4.out.1
        clear HN4 s0 s1 s2 cb0 cb1 cb2 R4 M4
        generalize World.setCell _ _ _=wn at *
        go_wp2_with fail
        go_roundw
        case rel=>exact ⟨kk+1,q+1,ki,lc.set kk (C[q+1]'(by rw [HN.out];exact hq1)),by go_num,by go_num,by have:=HKI.out;have:=HQ.out;omega,HCm.out.keep (by rw [HN.out];exact hq1) (by rw [HF2.out (by rw [HN.out];exact hq1) (by rw [HN.out];exact hqn)];exact H0.out),by have h:=RN.out;rw [EG.out] at h;exact h,MN.out⟩
        case measure=>simp [intOf];omega
      ·have hltI2:¬ (ki:Int)<(n:Int) - (j:Int):=by omega
       have hqe:q+1=C.length:=by rw [HN.out];have:=HKI.out;omega
       obtain ⟨R,eR,hK⟩:=HCm.out.fin hqe
       have hRl:lc.length=n:=by rw [hcl];exact HN.out
       obtain ⟨vs,hcl0⟩:=run_clear_k (P:=Tryd.prog) wr 22 28 22 (.agg #[.string ⟨#[]⟩,.slice none 0 0,.int .i64 0]) 3 Tryd.underlying22 zeroTg rfl (fun v hv=>by simp [Value.cells] at hv;rcases hv with rfl | rfl | rfl <;> rfl) g (kk * 3) (n - kk) (cap - kk) (by omega) (fun i hi=>R3.out.there _ (by rw [hRl];have:(n - kk) * 3=n * 3 - kk * 3:=Nat.sub_mul ..;omega))
       have hcl2:∀ ty,(Builtin.clear_ #[22] ty #[.slice (some ⟨g,kk * 3,none⟩) (n - kk) (cap - kk)]).run Tryd.prog wr=.ok (.tuple #[]) (wr.setCells g (kk * 3) vs):=fun _=>hcl0
       have RF:Hid (Row enc 3 (wr.setCells g (kk * 3) vs) g (So.cpt f C)):=Hxq (Row.cut (Row.pre (R:=R) (by rw [<-eR];exact R3.out)) vs _ (by rw [hK]))
       have MF:Hid (Mod [g] W (wr.setCells g (kk * 3) vs)):=Hxq (M3.out.trans (mod_setCells g vs _ _) (fun t ht=>.inl ht))
       have HK:=Lib.hid hK
       have hkc:kk<=cap:=by omega
       have hkn3:kk<=n:=by omega
       clear hcl0 hqe eR hK hcl hRl R3 M3
       go_wp2_with fail
       go_ret
       exact ⟨by rw [HK.out];rfl,RF.out,MF.out⟩
    ·have hdd:decide (r=0)=false:=decide_eq_false h0
     rw [hdd] at HCL
     have H0:=Lib.hid h0
     clear hdd h0
     go_wp2_with fail
     have inh:=past_one wr
     refine region_past (by kernel_rfl) (by kernel_rfl) ?_
     repeat (quiet_step (exact past_call (HCL.out _)))
     refine wpQuiet_nil ?_
     intro _ hw'
     obtain ⟨⟨wq,mq⟩,hw''⟩:=hw'
     subst hw''
     clear inh
     have R2:=Hxq (HRR.out.past mq HGW.out)
     have M2:=Hxq (HM.out.trans mq (by simp))
     clear HCL ca0 ca1 ca2 cb0 cb1 cb2 HRR HM mq
     go_wp2_with fail
     go_roundw
     case rel=>exact ⟨j,by go_num,by omega,by have hh:=HJ.out;subst hh;exact So.first_next (by rw [HN.out];exact hlt) HCP.out (by rw [HF.out (by rw [HN.out];exact hlt) (by rw [HN.out];exact hk1)];exact H0.out),R2.out,M2.out⟩
     case measure=>simp [intOf];omega
   ·have hltI:¬ (j:Int)<(n:Int):=by omega
    have hcc:So.cpt f C=C:=So.first_end (k:=k+1) (by rw [HN.out];have:=HJ.out;omega) HCP.out
    have HCc:=Lib.hid hcc
    clear hcc
    go_wp2_with fail
    go_ret
    rw [HCc.out]
    exact ⟨by rw [HN.out];rfl,HRR.out,HM.out⟩
theorem Tryd.infoTg:(Tryd.prog.info? 28).map (fun i=>(i.zero,i.size,i.bytes))=some (some (.agg #[.string ⟨#[]⟩,.slice none 0 0,.int .i64 0]),3,48):=by kernel_rfl
set_option maxHeartbeats 4000000 in
theorem cloneTg_any {enc:Nat->List Value} (E:Enc enc 3) (l:List Nat) (n g c:Nat) (w:World) (hn:l.length=n) (hR:Row enc 3 w g l) (hl:n * 48<=140737488355328) :
  Calls Tryd.prog 19 #[.slice (some ⟨g,0,none⟩) n c] w fun e w'=>∃ q cap,e=.returned (.slice (some ⟨q,0,none⟩) n cap)/\n<=cap/\Row enc 3 w' q l/\w.heap.size<=q/\q<w'.heap.size/\Mod [] w w':=by
 obtain ⟨i0,hinf,hz0,hz1,hz2⟩:=info_parts Tryd.infoTg
 have q1:∀ (w:World) (a:Option Addr) (n c n' c':Nat),(binOp .eql 22 (.slice a n c) (.slice none n' c')).run Tryd.prog w=.ok (.bool a.isNone) w:=fun w a n c n' c'=>Lib.run_eql_slice_nil w _ _ a n c n' c' Tryd.underlying22
 have m1:=(Mod.refl [] w).alloc (Obj.cells #[] 28)
 have hgw:l=[]\/g<w.heap.size:=by
  cases l with
  | nil=>exact .inl rfl
  | cons x r =>
   right
   have h1:=hR 0 (by rw [size_flatK];simp)
   rcases Nat.lt_or_ge g w.heap.size with h | h
   ·exact h
   ·have h2:=h1.1
    simp [World.cell?,Array.getElem?_eq_none h] at h2
 have hS1:Src Tryd.prog 3 22 (.slice (some ⟨g,0,none⟩) n c) n (flL enc 3 l) (w.alloc (Obj.cells #[] 28)):=by
  rw [<-hn]
  rcases hgw with h | h
  ·subst h;exact Src.ofSlice _ Tryd.underlying22 _ _ c _ (flL_len enc 3 []) (fun j u hu=>by simp [flL,flatK] at hu) (by simp [flL,flatK])
  ·exact (hR.past m1 h).src E _ _ Tryd.underlying22 c
 have S1:=Lib.hid hS1
 have O1:Hid ((w.alloc (Obj.cells #[] 28)).ownsRow 0 28 3 (.slice (some ⟨w.heap.size,0,none⟩) 0 0) 0 []):=Hxq (World.ownsRow_made w #[] 0 (Nat.zero_le _) (Nat.zero_le _) rfl)
 have M1:=Lib.hid m1
 have HN:=Lib.hid hn
 clear hR m1 hS1 hgw hn
 go_enter Tryd.func19,Tryd.ntmps19
 go_wp2_with (at_builtin;refine wpList_append_src _ rfl _ _ 22 22 rfl 28 i0 (.agg #[.string ⟨#[]⟩,.slice none 0 0,.int .i64 0]) 3 48 Tryd.underlying22 hinf hz0 hz1 hz2 rfl (.slice (some ⟨w.heap.size,0,none⟩) 0 0) 0 [] rfl O1.out _ n (flL enc 3 l) rfl S1.out (by unfold maxLen;omega) (by omega) ?_)
 intro v' w1 hown hmod hfresh hnil
 have hm:Mod [] w w1:=M1.out.trans hmod (fun t ht=>.inr (by simp [fp] at ht;omega))
 have hv:v'≠.slice none 0 0:=fun h=>hnil h
 try rw [List.nil_append] at hown
 try rw [Nat.zero_add] at hown
 obtain ⟨q,cap,rfl,h1,h2,h3,h4⟩:=Row.own hown HN.out hv
 have hq:w.heap.size<=q:=by
  have:=hfresh q (by simp [fp]);simp [fp] at this;omega
 have HO:Hid (n<=cap/\Row enc 3 w1 q l/\w.heap.size<=q/\q<w1.heap.size/\Mod [] w w1):=Lib.hid ⟨h1,h3,hq,h4,hm⟩
 clear hown hmod hfresh hnil hm hv h1 h2 h3 h4 hq S1 O1 M1
 go_wp2_with fail
 go_ret
 exact ⟨q,cap,rfl,HO.out⟩
set_option maxHeartbeats 4000000 in
theorem sortStableTg_any {enc:Nat->List Value} {f:Nat->Nat->Int} (E:Enc enc 3) (n g cap:Nat) (W:World) (hC:CmpOk 7 enc f W g) (hR:Row enc 3 W g (List.range' 0 n)) (hg:g<W.heap.size) (hsz:n<=1152921504606846976) :
  Calls Tryd.prog 20 #[.slice (some ⟨g,0,none⟩) n cap,.func (.func 7) #[] #[]] W fun e W'=>e=.returned (.tuple #[])/\∃ C,So.Chunk f 0 C/\C.length=n/\Row enc 3 W' g C/\Mod [g] W W':=by
 have HC:=Hxq (stableTg_any E n g cap W hC hR hg hsz)
 clear E hC hR hg
 go_enter Tryd.func20,Tryd.ntmps20
 go_wp2_with fail
 refine Calls.mono HC.out ?_
 rintro e2 w2 ⟨rfl,h⟩
 have H:=Lib.hid h
 clear h HC
 go_wp2_with fail
 go_end0
 exact ⟨rfl,H.out⟩
theorem clipTg_any (g n cap:Nat) (hc:n<=cap) (W:World):Calls Tryd.prog 21 #[.slice (some ⟨g,0,none⟩) n cap] W fun e W'=>e=.returned (.slice (some ⟨g,0,none⟩) n n)/\W'=W:=by
 go_enter Tryd.func21,Tryd.ntmps21
 go_wp2_with fail
 go_ret
 exact ⟨rfl,rfl⟩
set_option maxHeartbeats 4000000 in
theorem sortedTg_any {enc:Nat->List Value} {f:Nat->Nat->Int} (E:Enc enc 3) (n h c:Nat) (w:World) (hC:∀ w',Mod [] w w'->∀ g,w.heap.size<=g->CmpOk 7 enc f w' g) (hR:Row enc 3 w h (List.range' 0 n)) (hl:n * 48<=140737488355328) :
  Calls Tryd.prog 6 #[.slice (some ⟨h,0,none⟩) n c,.func (.func 7) #[] #[]] w fun e w'=>∃ q C,e=.returned (.slice (some ⟨q,0,none⟩) (So.cpt f C).length (So.cpt f C).length)/\So.Chunk f 0 C/\C.length=n/\Row enc 3 w' q (So.cpt f C)/\w.heap.size<=q/\q<w'.heap.size/\Mod [] w w':=by
 have m1:=(Mod.refl [] w).alloc (Obj.cells #[.func (.func 7) #[] #[]] 30)
 have hgw:n=0\/h<w.heap.size:=by
  cases n with
  | zero=>exact .inl rfl
  | succ n =>
   right
   have h1:=hR 0 (by rw [size_flatK];simp)
   rcases Nat.lt_or_ge h w.heap.size with h2 | h2
   ·exact h2
   ·have h3:=h1.1
    simp [World.cell?,Array.getElem?_eq_none h2] at h3
 have hR1:Row enc 3 (w.alloc (Obj.cells #[.func (.func 7) #[] #[]] 30)) h (List.range' 0 n):=by
  rcases hgw with h1 | h1
  ·subst h1;intro j hj;rw [size_flatK] at hj;simp at hj
  ·exact hR.past m1 h1
 have HCl:=Hxq (cloneTg_any E (List.range' 0 n) n h c _ (by simp) hR1 hl)
 have HE:=Lib.hid E;have HC:=Lib.hid hC;have M1:=Lib.hid m1
 have hb:(w.alloc (Obj.cells #[.func (.func 7) #[] #[]] 30)).cell? ⟨w.heap.size,0,none⟩=some (.func (.func 7) #[] #[]):=by unfold World.cell?;simp only [heap_alloc_new];rfl
 have HB:=Lib.hid hb
 have hsz1:(w.alloc (Obj.cells #[.func (.func 7) #[] #[]] 30)).heap.size=w.heap.size+1:=by simp
 have HSZ1:=Lib.hid hsz1
 clear E hC hR m1 hR1 hgw hb hsz1
 go_enter Tryd.func6,Tryd.ntmps6
 go_wp2_with fail
 refine Calls.mono HCl.out ?_
 rintro e2 w2 ⟨g,cap,rfl,hcap,r2,hg1,hg2,m2⟩
 have M2:=Hxq (M1.out.trans m2 (by simp))
 have B2:=m2.cell HB.out (by simp)
 have hg1':w.heap.size+1<=g:=by rw [<-HSZ1.out];exact hg1
 have HG1:=Lib.hid hg1'
 have HS:=Hxq (sortStableTg_any HE.out n g cap w2 (HC.out _ M2.out g (by omega)) r2 hg2 (by omega))
 have HCP:=Lib.hid hcap;have HG2:=Lib.hid hg2
 clear m2 r2 hg1 hg1' HCl HB HSZ1 hg2 hcap
 go_wp2_with fail
 refine Calls.mono HS.out ?_
 rintro e3 w3 ⟨rfl,C,hCh,hCl,r3,m3⟩
 have B3:=m3.cell B2 (fun h=>by have h2:=Msq.1 h;have h3:=HG1.out;simp only at h2;omega)
 have M3:Hid (Mod [g] w2 w3):=Lib.hid m3
 have M13:Hid (Mod [] w w3):=Hxq (M2.out.trans m3 (fun t ht=>.inr (by have h2:=Msq.1 ht;have h3:=HG1.out;omega)))
 have HQ:=eqTg_any HE.out g w.heap.size w3 (HC.out _ M13.out g (by have:=HG1.out;omega)) B3 (by have:=HG1.out;omega)
 have HCm:=Hxq (compactTg_any HE.out C n g cap w.heap.size w3 HQ r3 hCl HCP.out (Nat.lt_of_lt_of_le HG2.out m3.size) (by omega))
 have HCh:=Lib.hid hCh;have HCL:=Lib.hid hCl
 have G3:=Hxq (Nat.lt_of_lt_of_le HG2.out m3.size)
 clear m3 r3 HQ HS B2 B3 hCh hCl
 go_wp2_with fail
 refine Calls.mono HCm.out ?_
 rintro e4 w4 ⟨rfl,r4,m4⟩
 have R4:=Lib.hid r4;have M4:=Lib.hid m4
 have hlc:(So.cpt f C).length<=cap:=Nat.le_trans (So.cpt_len C) (by rw [HCL.out];exact HCP.out)
 have HCx:=Hxq (clipTg_any g (So.cpt f C).length cap hlc w4)
 clear r4 m4 HCm hlc
 go_wp2_with fail
 refine Calls.mono HCx.out ?_
 rintro e5 w5 ⟨rfl,rfl⟩
 clear HCx
 go_wp2_with fail
 go_ret
 exact ⟨g,C,rfl,HCh.out,HCL.out,R4.out,by have:=HG1.out;omega,Nat.lt_of_lt_of_le G3.out M4.out.size,M13.out.trans M4.out (fun t ht=>.inr (by have h2:=Msq.1 ht;have h3:=HG1.out;omega))⟩
end Go.Proofs.YtcalbbfkgdfidaaDoor
