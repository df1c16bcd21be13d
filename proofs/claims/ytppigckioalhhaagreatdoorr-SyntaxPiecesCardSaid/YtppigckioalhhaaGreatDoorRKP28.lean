/- THE TEXTS MERGED: SyPut SyBare SySame5 SySize SyBlankL. -/
import Derived.Test.YtppigckioalhhaaGreatDoorRKP1
import Derived.Test.YtppigckioalhhaaGreatDoorRKP27
import Derived.Laws.OwnMore
import Derived.Test.YtppigckioalhhaaGreatDoorRKP22
import Derived.Test.YtppigckioalhhaaGreatDoorRKP20
import Derived.Test.YtppigckioalhhaaGreatDoorRKP25
import Derived.Test.YtppigckioalhhaaGreatDoorRKP8
namespace Go.Proofs.YtppigckioalhhaaGreatDoorR
open Go.RowKit
set_option linter.unusedVariables false
set_option linter.unusedSimpArgs false
set_option maxRecDepth 100000
theorem rowCells_set1 {α:Type} {cs:α->Array Value} {n:Nat} (hn:∀ x,(cs x).size=n) (p':α) (o:Nat) (u:Value) (ho:o<n):∀ (acc:List α) (i:Nat) (h:i<acc.length),(cs p').toList=(cs acc[i]).toList.set o u ->
  rowCells cs (acc.set i p')=(rowCells cs acc).set (i * n+o) u
 | x :: r,0,h,hc=>by
  simp only [List.getElem_cons_zero] at hc
  have hx:(cs x).toList.length=n:=by rw [Array.length_toList,hn]
  simp only [List.set_cons_zero,rowCells,List.flatMap_cons,Nat.zero_mul,Nat.zero_add]
  rw [hc,List.set_append_left _ _ (by omega)]
 | x :: r,i+1,h,hc=>by
  simp only [List.getElem_cons_succ] at hc
  have hx:(cs x).toList.length=n:=by rw [Array.length_toList,hn]
  have ih:=rowCells_set1 hn p' o u ho r i (by simpa using h) hc
  simp only [rowCells] at ih
  simp only [List.set_cons_succ,rowCells,List.flatMap_cons]
  rw [ih,List.set_append_right _ _ (by rw [hx,Nat.add_mul];omega)]
  congr 2
  rw [hx,Nat.add_mul];omega
theorem GI.put1 {α:Type} {T:TypeId} {n:Nat} {cs:α->Array Value} {B:(Nat->Prop)->World->α->Prop} {S:List Nat} {w0 W:World} {acc:List α} {g:Nat} {vc:Nat} (hB:Bears n cs B) (h:GI T n cs B S w0 W acc (some ⟨g,0,none⟩) vc) (i:Nat) (hi:i<acc.length) (p':α) (o:Nat) (ho:o<n) (u:Value)
  (hc:(cs p').toList=(cs acc[i]).toList.set o u) (hp:B (fun k=>w0.heap.size<=k/\k∉fp (.slice (some ⟨g,0,none⟩) acc.length vc)) W p') :
  GI T n cs B S w0 (W.setCell ⟨g,i * n+o,none⟩ u) (acc.set i p') (some ⟨g,0,none⟩) vc:=by
 have e1:(acc.set i p').length=acc.length:=by simp
 have hm:Mod [g] W (W.setCell ⟨g,i * n+o,none⟩ u):=(Mod.refl [g] W).setCell (p:=⟨g,i * n+o,none⟩) (.inl (by simp)) u
 have hg:g∈fp (.slice (some ⟨g,0,none⟩) acc.length vc):=by simp [fp]
 refine ⟨?_,by rw [e1];exact h.new,fun q hq=>?_,h.low,h.mod.trans hm (fun k hk=>by rw [Msq] at hk;subst hk;exact .inr (h.new _ hg))⟩
 ·rw [e1,rowCells_set1 hB.size p' o u ho acc i hi hc]
  exact (h.row.stored (i * n+o) u).1
 ·rw [e1]
  have hq2:B (fun k=>w0.heap.size<=k/\k∉fp (.slice (some ⟨g,0,none⟩) acc.length vc)) W q:=by
   rcases List.mem_or_eq_of_mem_set hq with hq | rfl
   ·exact h.sub q hq
   ·exact hp
  exact hB.keep hq2 hm (fun s hs hh=>by rw [Msq] at hs;subst hs;exact hh.2 hg)
def BaC (d:Nat):Prop:=∀ (l:List Pr.Li),liDs l<d->l.length<=1048576->liMs l<=1048576->∀ (F:Nat->Prop) (u:Value) (w:World),BB F w l u ->
 Calls Tryz.prog 54 #[u] w (CpB (l.map Sy.bareL) w)
set_option maxHeartbeats 8000000 in
theorem bac_of (d:Nat) (hS:BaC d):BaC (d+1):=by
 intro l hd hl hM F u w h
 have HS:=Lib.hid hS
 have HC:=Hxq (copyLits_any l hl hM u w h)
 obtain ⟨a1,c1,rfl⟩:=h.lit
 clear h hS
 go_enter Tryz.func54,Tryz.ntmps54
 go_wp2_with fail
 refine HC.out.mono ?_
 rintro e1 v1 ⟨acc0,va,vc,rfl,hm0,hG0,hmod⟩
 have GG:=Lib.hid hG0;have HM0:=Lib.hid hm0
 have hn0:acc0.length=l.length:=by rw [<-hm0];simp
 clear hG0 hm0 hmod HC
 generalize hn:acc0.length=n at *
 subst hn0
 have HN:=Lib.hid hn
 clear hn
 go_wp2_with fail
 go_loopw [4] (fun iv wr=>∃ (i:Nat) (acc:List (Pr.Li × LU)),iv=.int .i64 (i:Nat)/\i<=l.length/\acc.length=l.length/\acc.map (·.1)=(l.take i).map Sy.bareL++l.drop i/\GI 50 30 csL BL [] w wr acc va vc) (fun iv _=>l.length - (intOf iv).toNat)
 case atStart=>exact ⟨0,acc0,rfl,Nat.zero_le _,HN.out,by simpa using HM0.out,GG.out⟩
 case round =>
  obtain ⟨i,acc,rfl,hi,hlen,hmap,hG⟩:=hrel
  have G0:=Lib.hid hG;have HMP:=Lib.hid hmap
  clear hG hmap
  by_cases hlt:i<l.length
  ·have hiI:(i:Int)<(l.length:Int):=by omega
   have hi0:(0:Int)<=(i:Int):=by omega
   have hia:i<acc.length:=by omega
   have hil:i<l.length:=by omega
   obtain ⟨g,hva⟩:∃ g,va=some ⟨g,0,none⟩:=by
    rcases G0.out.row.2 with ⟨h1,h2⟩ | ⟨g,cap,cur,h1,-⟩
    ·omega
    ·simp only [Value.slice.injEq] at h1;exact ⟨g,h1.1⟩
   subst hva
   obtain ⟨b,off,hb,hcell⟩:=(RowB.of_owns (F:=fun _=>True) liV_size G0.out.row (fun _ _=>trivial)).at i hia
   simp only [Option.some.injEq,Addr.mk.injEq,and_true] at hb
   obtain ⟨rfl,rfl⟩:=hb
   have hsub:=G0.out.sub _ (List.getElem_mem hia)
   have hfz:=fun j=>G0.out.row.frozenAt j
   have hy:(acc[i]).1=l[i]:=by
    have e:(acc.map (·.1))[i]?=l[i]?:=by
     rw [HMP.out,List.getElem?_append_right (by simp;omega),show (List.map Sy.bareL (List.take i l)).length=i by simp;omega,List.getElem?_drop,Nat.sub_self,Nat.add_zero]
    rw [List.getElem?_map,List.getElem?_eq_getElem hia,List.getElem?_eq_getElem hil] at e
    simpa using e
   have hdj:=liDs_mem l i hil
   have hmj:=liMs_mem l i hil
   have HYL:Hid (l[i]?=some l[i]):=Hxq (List.getElem?_eq_getElem hil)
   have HYA:Hid (acc[i]?=some acc[i]):=Hxq (List.getElem?_eq_getElem hia)
   rw [<-hy] at hdj hmj HYL
   generalize hz:acc[i]=z at *
   obtain ⟨⟨k,⟨rel,ts⟩,op,le,re,fn,av,of,body,ln,cl⟩,U1⟩:=z
   dsimp only at hcell hsub hdj hmj HYL
   obtain ⟨ht1,hl1,hr1,ho1,hb1⟩:=hsub.parts
   obtain ⟨t1,l1,r1,q1,b1⟩:=U1
   dsimp only at ht1 hl1 hr1 ho1 hb1
   obtain ⟨ba1,bc1,rfl⟩:=hb1.lit
   have hD:liDs body<d:=by simp only [liD] at hdj;omega
   simp only [liM] at hmj
   have hB5:body.length<=1048576:=by omega
   have hB6:liMs body<=1048576:=by omega
   clear hdj hmj hy
   rw [Nat.zero_add] at hcell
   have c27:=hcell 27 (.slice ba1 body.length bc1) rfl
   have c28:=hcell 28 (.int .i64 ln) rfl
   have c29:=hcell 29 (.int .i64 cl) rfl
   have G1:=G0.out.put1 bearsLi i hia (.mk k ⟨rel,ts⟩ op le re fn av of body 0 cl,⟨t1,l1,r1,q1,.slice ba1 body.length bc1⟩) 28 (by omega) (.int .i64 0) (by rw [hz];rfl) (LB.of ht1 hl1 hr1 ho1 hb1)
   have m1:Mod [g] wr (wr.setCell ⟨g,i * 30+28,none⟩ (.int .i64 0)):=(Mod.refl [g] wr).setCell (p:=⟨g,i * 30+28,none⟩) (.inl (by simp)) _
   have hgf:∀ s∈[g],¬ (w.heap.size<=s/\s∉fp (.slice (some ⟨g,0,none⟩) acc.length vc)):=fun s hs hh=>by rw [Msq] at hs;subst hs;exact hh.2 (by simp [fp])
   have hia1:i<(acc.set i (Pr.Li.mk k ⟨rel,ts⟩ op le re fn av of body 0 cl,(⟨t1,l1,r1,q1,.slice ba1 body.length bc1⟩:LU))).length:=by simpa using hia
   have G2:=G1.put1 bearsLi i hia1 (.mk k ⟨rel,ts⟩ op le re fn av of body 0 0,⟨t1,l1,r1,q1,.slice ba1 body.length bc1⟩) 29 (by omega) (.int .i64 0) (by rw [List.getElem_set_self];rfl) (by rw [List.length_set];exact (LB.of ht1 hl1 hr1 ho1 hb1:LB _ _ (.mk k ⟨rel,ts⟩ op le re fn av of body 0 0) _).keep m1 hgf)
   rw [List.set_set] at G2
   have m2:Mod [g] (wr.setCell ⟨g,i * 30+28,none⟩ (.int .i64 0)) ((wr.setCell ⟨g,i * 30+28,none⟩ (.int .i64 0)).setCell ⟨g,i * 30+28+1,none⟩ (.int .i64 0)):=(Mod.refl [g] _).setCell (p:=⟨g,i * 30+28+1,none⟩) (.inl (by simp)) _
   have G2:Hid (GI 50 30 csL BL [] w ((wr.setCell ⟨g,i * 30+28,none⟩ (.int .i64 0)).setCell ⟨g,i * 30+28+1,none⟩ (.int .i64 0)) (acc.set i (.mk k ⟨rel,ts⟩ op le re fn av of body 0 0,⟨t1,l1,r1,q1,.slice ba1 body.length bc1⟩)) (some ⟨g,0,none⟩) vc):=Lib.hid G2
   have m12:=Hxq (m1.trans m2 (by simp))
   have HT:=Lib.hid ht1;have HL:=Lib.hid hl1;have HR:=Lib.hid hr1;have HO:=Lib.hid ho1;have HB:=Lib.hid hb1
   have HGF:=Lib.hid hgf;have HZ:=Lib.hid hz
   clear G1 m1 m2 ht1 hl1 hr1 ho1 hb1 hgf hz hsub hcell
   go_upto_region 6 with fail
   generalize (wr.setCell ⟨g,i * 30+28,none⟩ (.int .i64 0)).setCell ⟨g,i * 30+28+1,none⟩ (.int .i64 0)=q2 at *
   have hgl:g<q2.heap.size:=fp_lt G2.out.row g (by simp [fp])
   have hwg:w.heap.size<=g:=G0.out.new g (by simp [fp])
   obtain ⟨b,off,hb,hcell⟩:=(RowB.of_owns (F:=fun _=>True) liV_size G2.out.row (fun _ _=>trivial)).at i (by simpa using hia)
   simp only [Option.some.injEq,Addr.mk.injEq,and_true] at hb
   obtain ⟨rfl,rfl⟩:=hb
   rw [List.getElem_set_self,Nat.zero_add] at hcell
   have d27:=hcell 27 (.slice ba1 body.length bc1) rfl
   clear c27 c28 c29 hfz hcell
   have hb2:=Hxq (HB.out.keep m12.out HGF.out)
   go_wp2_with fail
   refine (HS.out body hD hB5 hB6 _ _ q2 hb2.out).mono ?_
   rintro e4 v4 ⟨bacc,ba3,bc3,rfl,bm,r4,m4⟩
   have G4:=Hxq (G2.out.keep bearsLi m4)
   have B4:Hid (BB (fun k=>w.heap.size<=k/\k∉fp (.slice (some ⟨g,0,none⟩) acc.length vc)) v4 (body.map Sy.bareL) (.slice ba3 bacc.length bc3)):=Hxq (bm ▸ (BB.of_gi r4).mono (fun k hk _=>⟨by omega,by simp [fp];omega⟩))
   have d27:=m4.cell d27 (by simp)
   have hfz:=fun j=>G4.out.row.frozenAt j
   have ML:=Hxq (m12.out.trans m4 (by simp))
   have hia2:i<(acc.set i (Pr.Li.mk k ⟨rel,ts⟩ op le re fn av of body 0 0,(⟨t1,l1,r1,q1,.slice ba1 body.length bc1⟩:LU))).length:=by simpa using hia
   have G5:=G4.out.put1 bearsLi i hia2 (.mk k ⟨rel,ts⟩ op le re fn av of (body.map Sy.bareL) 0 0,⟨t1,l1,r1,q1,.slice ba3 bacc.length bc3⟩) 27 (by omega) (.slice ba3 bacc.length bc3) (by rw [List.getElem_set_self];rfl) (by rw [List.length_set];exact LB.of (HT.out.keep ML.out HGF.out) (HL.out.keep ML.out HGF.out) (HR.out.keep ML.out HGF.out) (HO.out.keep ML.out HGF.out) B4.out)
   rw [List.set_set] at G5
   have G6:=Lib.hid G5
   clear G5 bm r4 m4 HT HL HR HO HB HGF B4 G2 G4 ML m12 hb2
   go_wp2_with fail
   generalize v4.setCell ⟨g,i * 30+27,none⟩ (.slice ba3 bacc.length bc3)=q5 at *
   go_roundw
   case rel =>
    refine ⟨i+1,_,by go_num,by omega,by simpa using hlen,?_,G6.out⟩
    rw [List.map_set,HMP.out,List.set_append_right _ _ (by simp;omega),show (List.map Sy.bareL (List.take i l)).length=i by simp;omega,Nat.sub_self,List.drop_eq_getElem_cons hil,List.set_cons_zero,List.take_add_one,HYL.out]
    simp [Sy.bareL_eq]
   case measure=>simp [intOf];omega
  ·obtain rfl:i=l.length:=by omega
   have hiI:¬ (l.length:Int)<(l.length:Int):=by omega
   have HL2:=Lib.hid hlen
   clear hlen
   go_wp2_with fail
   go_ret
   exact ⟨acc,va,vc,by rw [HL2.out];rfl,by rw [HMP.out];simp,G0.out,G0.out.mod⟩
theorem bac_all:∀ d,BaC d
 | 0=>fun l hd=>absurd hd (by omega)
 | d+1=>bac_of d (bac_all d)
theorem bareBody_any {F:Nat->Prop} (l:List Pr.Li) (hl:l.length<=1048576) (hM:liMs l<=1048576) (u:Value) (w:World) (h:BB F w l u) :
  Calls Tryz.prog 54 #[u] w (CpB (l.map Sy.bareL) w):=bac_all (liDs l+1) l (Nat.lt_succ_self _) hl hM F u w h
theorem BB.one {w:World} {g:Nat} {T:TypeId} {l:Pr.Li} {U:LU} {fr:Nat × Nat} (h:w.heap[g]?=some (.cells (liV l U) T fr)) (hb:LB (fun _=>True) w l U):BB (fun _=>True) w [l] (.slice (some ⟨g,0,none⟩) 1 1) :=
 BB.of_row (F:=fun _=>True) (w:=w) (u:=.slice (some ⟨g,0,none⟩) 1 1) [(l,U)] (RowB.row trivial (lt_of_block h) (fun i hi=>by
  obtain rfl:i=0:=by simp at hi;omega
  intro j v hv
  simp only [List.getElem_cons_zero,Nat.zero_mul,Nat.add_zero,Nat.zero_add] at hv ⊢
  rw [cell_at h,hv])) (fun p hp=>by rw [Msq] at hp;subst hp;exact hb)
end Go.Proofs.YtppigckioalhhaaGreatDoorR
namespace Go.Proofs.YtppigckioalhhaaGreatDoorR.Sy
open Pr (Ex Li Atom Rul Rel Prog)
set_option linter.unusedVariables false
theorem listF_len {α:Type} {v:Env} {fin:List Nat} {one:Nat->PR α}:∀ (k:Nat) (acc:List α) (i:Nat) (l:List α) (j:Nat),listF v fin one k acc i=.ok l j->l.length<=acc.length+k
 | 0,acc,i,l,j,h=>by cases h
 | k+1,acc,i,l,j,h=>by
  rw [listF] at h
  split at h
  ·obtain ⟨a,m,-,h2⟩:=bind_ok h
   have:=listF_len k _ _ l j h2
   simp at this
   omega
  ·obtain ⟨a,m,-,h2⟩:=bind_ok h
   cases h2
   omega
theorem list_len {α:Type} {v:Env} {fin:List Nat} {one:Nat->PR α} {i:Nat} {l:List α} {j:Nat} (h:list v fin one i=.ok l j):l.length<=v.ws.length+2:=by
 unfold list at h
 split at h
 ·cases h;simp
 ·obtain ⟨a,m,-,h2⟩:=bind_ok h
  have:=listF_len _ _ _ l j h2
  simp at this
  omega
theorem atom_len {v:Env} {i:Nat} {a:Atom} {j:Nat} (h:atom v i=.ok a j):a.terms.length<=v.ws.length+2:=by
 unfold atom at h
 obtain ⟨t,m,-,h⟩:=bind_ok h
 obtain ⟨_,m2,-,h⟩:=bind_ok h
 obtain ⟨l,m3,h1,h⟩:=bind_ok h
 cases h
 exact list_len h1
theorem chain_M {v:Env} {line:Nat} {sub:Nat->Nat->PR (Ex × Nat)} {above:Nat} (hs:∀ ab i r j,sub ab i=.ok r j->exM r.1<=2):∀ (n:Nat) (e:Ex) (d i:Nat) (r:Ex × Nat) (j:Nat),exM e<=2->chainF v line sub above n e d i=.ok r j->exM r.1<=2
 | 0,e,d,i,r,j,he,h=>by cases h
 | n+1,e,d,i,r,j,he,h=>by
  rw [chainF] at h
  split at h
  ·cases h;exact he
  ·split at h
   ·cases h
   ·obtain ⟨x,m,h1,h2⟩:=bind_ok h
    have:=hs _ _ _ _ h1
    exact chain_M hs n _ _ m r j (by simp [exM,exMs];omega) h2
theorem expr_M (v:Env):∀ (n line above i:Nat) (r:Ex × Nat) (j:Nat),exprF v n line above i=.ok r j->exM r.1<=2
 | 0,line,above,i,r,j,h=>by cases h
 | n+1,line,above,i,r,j,h=>by
  rw [exprF] at h
  split at h
  ·split at h
   ·cases h;simp [exM,exMs]
   ·split at h
    ·cases h;simp [exM,exMs]
    ·split at h
     ·split at h
      ·cases h
      ·obtain ⟨x,m,h1,h2⟩:=bind_ok h
       cases h2
       have:=expr_M v n _ _ _ _ _ h1
       simp [exM,exMs];omega
     ·split at h
      ·cases h
      ·obtain ⟨_,m,-,h⟩:=bind_ok h
       obtain ⟨x,m2,h1,h⟩:=bind_ok h
       obtain ⟨_,m3,-,h⟩:=bind_ok h
       cases h
       exact expr_M v n _ _ _ x _ h1
  ·obtain ⟨x,m,h1,h2⟩:=bind_ok h
   exact chain_M (fun ab i r j=>expr_M v n _ ab i r j) _ _ _ m r j (expr_M v n _ _ _ _ _ h1) h2
theorem expr_M1 {v:Env} {i:Nat} {e:Ex} {j:Nat} (h:expr v i=.ok e j):exM e<=2:=by
 unfold expr at h
 obtain ⟨x,m,h1,h2⟩:=bind_ok h
 cases h2
 exact expr_M v _ _ _ _ _ _ h1
theorem liMs_snoc (acc:List Li) (a:Li):liMs (acc++[a])=max (liMs acc) (liM a):=by
 induction acc with
 | nil=>simp [liMs]
 | cons x r ih=>simp only [List.cons_append,liMs,ih];omega
theorem body_M {v:Env} {one:Nat->PR Li} {B:Nat} (h1:∀ i a j,one i=.ok a j->liM a<=B):∀ (k:Nat) (acc:List Li) (i:Nat) (l:List Li) (j:Nat),liMs acc<=B->bodyF v one k acc i=.ok l j->liMs l<=B/\l.length<=acc.length+k
 | 0,acc,i,l,j,ha,h=>by cases h
 | k+1,acc,i,l,j,ha,h=>by
  rw [bodyF] at h
  split at h
  ·obtain ⟨a,m,h2,h3⟩:=bind_ok h
   have:=body_M h1 k _ _ l j (by rw [liMs_snoc];have:=h1 _ _ _ h2;omega) h3
   refine ⟨this.1,?_⟩
   have h4:=this.2
   simp at h4
   omega
  ·cases h
   exact ⟨ha,by omega⟩
theorem bodyOf_M {v:Env} {one:Nat->PR Li} {B:Nat} (h1:∀ i a j,one i=.ok a j->liM a<=B) {i:Nat} {l:List Li} {j:Nat} (h:bodyOf v one i=.ok l j):liMs l<=B/\l.length<=v.ws.length+2:=by
 unfold bodyOf at h
 obtain ⟨a,m,h2,h3⟩:=bind_ok h
 have:=body_M h1 _ _ _ l j (by simp only [liMs];have:=h1 _ _ _ h2;omega) h3
 refine ⟨this.1,?_⟩
 have h4:=this.2
 simp at h4
 omega
theorem lit_M (v:Env):∀ (k br i:Nat) (a:Li) (j:Nat),litF v k br i=.ok a j->liM a<=v.ws.length+2
 | 0,br,i,a,j,h=>by cases h
 | k+1,br,i,a,j,h=>by
  have e0:exM ex0=0:=by simp [ex0,exM,exMs]
  have a0:at0.terms.length=0:=rfl
  rw [litF] at h
  split at h
  ·obtain ⟨x,m,h1,h2⟩:=bind_ok h
   cases h2
   have:=atom_len h1
   simp [liM,liMs,e0];omega
  ·split at h
   ·obtain ⟨x,m,h1,h2⟩:=bind_ok h
    cases h2
    have:=atom_len h1
    simp [liM,liMs,e0];omega
   ·split at h
    ·obtain ⟨g,m,h1,h2⟩:=bind_ok h
     cases h2
     unfold aggOf at h1
     split at h1
     ·cases h1
     ·obtain ⟨_,m1,-,h1⟩:=bind_ok h1
      obtain ⟨o,m2,h3,h1⟩:=bind_ok h1
      obtain ⟨b,m3,h4,h1⟩:=bind_ok h1
      obtain ⟨_,m4,-,h1⟩:=bind_ok h1
      cases h1
      have hb:=bodyOf_M (lit_M v k (br+1)) h4
      have ho:exM o<=2:=by
       split at h3
       ·obtain ⟨e,m5,h5,h3⟩:=bind_ok h3
        obtain ⟨_,m6,-,h3⟩:=bind_ok h3
        cases h3
        exact expr_M1 h5
       ·cases h3;rw [e0];omega
      simp only [liM,e0,a0];omega
    ·obtain ⟨x,m,h1,h2⟩:=bind_ok h
     split at h2
     ·cases h2
     ·obtain ⟨y,m2,h3,h2⟩:=bind_ok h2
      cases h2
      have:=expr_M1 h1
      have:=expr_M1 h3
      simp [liM,liMs,e0,a0];omega
theorem rule_M {v:Env} {i:Nat} {r:Rul} {j:Nat} (h:rule v i=.ok r j):r.head.terms.length<=v.ws.length+2/\r.body.length<=v.ws.length+2/\liMs r.body<=v.ws.length+2:=by
 unfold rule at h
 obtain ⟨x,m,h1,h2⟩:=bind_ok h
 obtain ⟨b,m2,h3,h2⟩:=bind_ok h2
 cases h2
 refine ⟨atom_len h1,?_⟩
 split at h3
 ·have:=bodyOf_M (fun i a j=>lit_M v _ _ i a j) h3
  exact ⟨this.2,this.1⟩
 ·cases h3;simp [liMs]
theorem relation_M {v:Env} {i:Nat} {r:Rel} {j:Nat} (h:relation v i=.ok r j):r.types.length<=v.ws.length+2:=by
 unfold relation at h
 obtain ⟨t,m,-,h⟩:=bind_ok h
 obtain ⟨_,m2,-,h⟩:=bind_ok h
 obtain ⟨l,m3,h1,h⟩:=bind_ok h
 cases h
 exact list_len h1
theorem prog_M {v:Env}:∀ (n:Nat) (p:Prog) (i:Nat) (q:Prog) (j:Nat),(∀ r∈p.rels,r.types.length<=v.ws.length+2)->(∀ r∈p.rules,r.head.terms.length<=v.ws.length+2/\r.body.length<=v.ws.length+2/\liMs r.body<=v.ws.length+2)->progF v n p i=.ok q j ->
  q.rels.length<=p.rels.length+n/\q.rules.length<=p.rules.length+n/\(∀ r∈q.rels,r.types.length<=v.ws.length+2)/\∀ r∈q.rules,r.head.terms.length<=v.ws.length+2/\r.body.length<=v.ws.length+2/\liMs r.body<=v.ws.length+2
 | 0,p,i,q,j,h1,h2,h=>by cases h
 | n+1,p,i,q,j,h1,h2,h=>by
  rw [progF] at h
  split at h
  ·split at h
   ·obtain ⟨x,m,h3,h⟩:=bind_ok h
    obtain ⟨_,m2,-,h⟩:=bind_ok h
    have:=prog_M n ⟨p.rels++[x],p.rules⟩ m2 q j (by
     intro r hr
     rcases List.mem_append.1 hr with hr | hr
     ·exact h1 r hr
     ·rw [Msq] at hr;subst hr;exact relation_M h3) h2 h
    refine ⟨?_,?_,this.2.2.1,this.2.2.2⟩
    ·have:=this.1;simp at this;omega
    ·have:=this.2.1;simp at this;omega
   ·obtain ⟨x,m,h3,h⟩:=bind_ok h
    obtain ⟨_,m2,-,h⟩:=bind_ok h
    have:=prog_M n ⟨p.rels,p.rules++[x]⟩ m2 q j h1 (by
     intro r hr
     rcases List.mem_append.1 hr with hr | hr
     ·exact h2 r hr
     ·rw [Msq] at hr;subst hr;exact rule_M h3) h
    refine ⟨?_,?_,this.2.2.1,this.2.2.2⟩
    ·have:=this.1;simp at this;omega
    ·have:=this.2.1;simp at this;omega
  ·cases h
   exact ⟨by omega,by omega,h1,h2⟩
theorem prog_pgM {v:Env} (hv:v.ws.length<=65536) {p:Prog} {j:Nat} (h:whole v (prog v)=.ok p j):PgM p:=by
 unfold whole at h
 obtain ⟨x,m,h1,h2⟩:=bind_ok h
 split at h2
 ·cases h2
 ·cases h2
  have:=prog_M _ _ _ _ _ (by simp) (by simp) h1
  simp at this
  obtain ⟨k1,k2,k3,k4⟩:=this
  exact ⟨by omega,by omega,fun r hr=>by have:=k3 r hr;omega,fun r hr=>by have:=(k4 r hr).1;omega,fun r hr=>by have:=(k4 r hr).2.1;omega,fun r hr=>by have:=(k4 r hr).2.2;omega⟩
open Pr (Term Atom Ex Li Rul Rel Prog)
set_option linter.unusedSimpArgs false
theorem liMs_bare:∀ (d:Nat) (l:List Li),liDs l<d->liMs (l.map bareL)=liMs l
 | 0,l,h=>absurd h (by omega)
 | d+1,[],h=>rfl
 | d+1,.mk k a op le re fn av of body ln cl :: r,h=>by
  simp only [liDs,liD] at h
  rw [List.map_cons,bareL_eq]
  simp only [liMs,liM,List.length_map]
  rw [liMs_bare d body (by omega),liMs_bare (d+1) r (by omega)]
theorem liMs_bareL (l:List Li):liMs (l.map bareL)=liMs l:=liMs_bare (liDs l+1) l (Nat.lt_succ_self _)
theorem bareP_M {p:Prog} (h:PgM p):PgM (bareP p):=by
 refine ⟨by simpa [bareP] using h.rels,by simpa [bareP] using h.rules,fun r hr=>?_,fun r hr=>?_,fun r hr=>?_,fun r hr=>?_⟩
 all_goals
  simp only [bareP,List.mem_map] at hr
  obtain ⟨q,hq,rfl⟩:=hr
 ·exact h.types q hq
 ·exact h.terms q hq
 ·simpa [bareU] using h.body q hq
 ·simpa [bareU,liMs_bareL] using h.deep q hq
end Go.Proofs.YtppigckioalhhaaGreatDoorR.Sy
