/- THE TEXTS MERGED: SpAtom SpBody SpTree SpProg PrWt PrBase. -/
import Derived.Test.YtohnmnfhmbmoaaaGreatDoorKG13
namespace Go.Proofs.YtohnmnfhmbmoaaaGreatDoor
open Go.RowKit
set_option linter.unusedVariables false
set_option linter.unusedSimpArgs false
set_option maxRecDepth 100000
/-- an atom's terms can be spoiled -/
def SAC (F:Nat->Prop) (w:World) (u:Value):Prop:=∀ (rel:ByteArray) (wr:World),Sp F w wr->Calls Tryz.prog 40 #[.agg #[.string rel,u]] wr (SpR F wr)
set_option maxHeartbeats 4000000 in
theorem sac_row {F:Nat->Prop} {w:World} (hFw:∀ k,F k->k<w.heap.size) (a:Option Addr) (m c:Nat) (hm:m<=134217728)
  (h:∀ i,i<m->∃ g,a=some ⟨g,0,none⟩/\F g/\TyAt w g 88/\∃ t,CellsAt w g (i * 5) (tmV t)):SAC F w (.slice a m c):=by
 intro rel wv hs
 have HS:=Lib.hid hs;have HH:=Lib.hid h;have HF:=Lib.hid hFw
 have mA:=(Mod.refl [] wv).alloc (Obj.cells #[.string rel,.slice a m c] 42)
 have bA:=heap_alloc_new wv (Obj.cells #[.string rel,.slice a m c] 42)
 clear hs h hFw
 go_enter Tryz.func40,Tryz.ntmps40
 go_upto_region 1 with fail
 generalize wv.alloc (Obj.cells #[.string rel,.slice a m c] 42)=w0 at *
 have M0:=Lib.hid mA;have E0:=Lib.hid bA
 have hnF:Hid (¬ F wv.heap.size):=Hxq (fun h=>by have:=HF.out _ h;have:=HS.out.size;omega)
 clear mA bA
 generalize hpa:wv.heap.size=pa at *
 have x1:=cell_at E0.out 1
 simp only [List.getElem?_toArray,List.getElem?_cons_zero,List.getElem?_cons_succ] at x1
 go_wp2_with fail
 go_loopw [2] (fun iv wr=>∃ (i:Nat),iv=.int .i64 (i:Nat)/\i<=m/\Sp F w0 wr) (fun iv _=>m - (intOf iv).toNat)
 case atStart=>exact ⟨0,rfl,Nat.zero_le _,Sp.refl F w0⟩
 case round =>
  obtain ⟨i,rfl,hi,hI⟩:=hrel
  have EQ:=Hxq (hI.at E0.out hnF.out)
  have HI:=Lib.hid hI
  clear hI x1
  have x1:=cell_at EQ.out 1
  simp only [List.getElem?_toArray,List.getElem?_cons_zero,List.getElem?_cons_succ] at x1
  by_cases hlt:i<m
  ·have hjI:(i:Int)<(m:Int):=by omega
   have hj0:(0:Int)<=(i:Int):=by omega
   obtain ⟨g,rfl,hFg,hT,t,hc⟩:=HH.out i hlt
   have hw:Sp F w wr:=(HS.out.trans (Sp.of_mod M0.out)).trans HI.out
   obtain ⟨t',hc'⟩:∃ t',CellsAt wr g (i * 5) (tmV t'):=by
    rcases hw.cells hT (cs:=tmV t) (by rw [goneOf_T];rfl) hc with h | h
    ·exact ⟨t,h⟩
    ·exact ⟨goneT,by rw [goneOf_T] at h;exact h⟩
   have hTq:=hw.ty hT
   have hset:Sp F wr (setCs wr g (i * 5) (tmV goneT).toList):=by
    have:=Sp.set (F:=F) (i:=i) (cs:=tmV t') hFg hTq (by rw [goneOf_T];rfl) hc' (Nat.succ_pos 4)
    rwa [goneOf_T] at this
   have HT:=Lib.hid hset
   have fG:∀ j,wr.frozen? ⟨g,j,none⟩=false:=fun j=>by obtain ⟨C,hC⟩:=hTq;exact free_at hC j
   have c0:=hc' 0 _ rfl;have c1:=hc' 1 _ rfl;have c2:=hc' 2 _ rfl;have c3:=hc' 3 _ rfl;have c4:=hc' 4 _ rfl
   rw [Nat.add_zero] at c0
   clear hset hc hc' hTq hT hw
   go_upto_region 3 with fail
   generalize hw8:setCs wr g (i * 5) (tmV goneT).toList=w8 at *
   have hw9:((((wr.setCell ⟨g,i * 5,none⟩ (.int .i64 77)).setCell ⟨g,i * 5+1,none⟩ (.string ⟨#[]⟩)).setCell ⟨g,i * 5+2,none⟩ (.int .i64 0)).setCell ⟨g,i * 5+3,none⟩ (.int .i64 0)).setCell ⟨g,i * 5+4,none⟩ (.string ⟨#[]⟩)=w8:=hw8
   rw [hw9]
   clear hw9 hw8 c0 c1 c2 c3 c4 fG
   go_wp2_with fail
   go_roundw
   case rel=>exact ⟨i+1,by go_num,by omega,HI.out.trans HT.out⟩
   case measure=>simp [intOf];omega
  ·obtain rfl:i=m:=by omega
   have hjI:¬ (i:Int)<(i:Int):=by omega
   go_wp2_with fail
   go_end0
   exact ⟨rfl,(Sp.of_mod M0.out).trans HI.out⟩
/-- an expression's arguments can be spoiled -/
def SXC (F:Nat->Prop) (w:World) (u:Value):Prop:=∀ (e:Pr.Ex) (wv:World),Sp F w wv->Calls Tryz.prog 62 #[.agg (exV e u)] wv (SpR F wv)
/-- an expression's slot -/
def XAt (F:Nat->Prop) (w:World) (u:Value):Prop:=∃ a m c,u=.slice a m c/\SXC F w u
set_option maxHeartbeats 4000000 in
theorem sxc_row {F:Nat->Prop} {w:World} (hFw:∀ k,F k->k<w.heap.size) (a:Option Addr) (m c:Nat) (hm:m<=134217728)
  (h0:XAt F w (.slice none 0 0)\/m=0)
  (h:∀ i,i<m->∃ g,a=some ⟨g,0,none⟩/\F g/\TyAt w g 38/\∃ e u,CellsAt w g (i * 7) (exV e u)/\XAt F w u):SXC F w (.slice a m c):=by
 intro e wv hs
 obtain ⟨k,v,⟨xk,xn,xs⟩,op,args⟩:=e
 have HS:=Lib.hid hs;have HH:=Lib.hid h;have HF:=Lib.hid hFw;have HZ:=Lib.hid h0
 simp only [exV,Pr.Ex.k,Pr.Ex.v,Pr.Ex.x,Pr.Ex.op]
 generalize hxB:Lx.ofS xs=xB at *
 have mA:=(Mod.refl [] wv).alloc (Obj.cells #[.int .i64 k,.string v,.int .i64 xk,.int .i64 xn,.string xB,.int .i64 op,.slice a m c] 38)
 have bA:=heap_alloc_new wv (Obj.cells #[.int .i64 k,.string v,.int .i64 xk,.int .i64 xn,.string xB,.int .i64 op,.slice a m c] 38)
 clear hs h hFw h0 hxB
 go_enter Tryz.func62,Tryz.ntmps62
 go_upto_region 1 with fail
 generalize wv.alloc (Obj.cells _ 38)=w0 at *
 have M0:=Lib.hid mA;have E0:=Lib.hid bA
 have hnF:Hid (¬ F wv.heap.size):=Hxq (fun h=>by have:=HF.out _ h;have:=HS.out.size;omega)
 clear mA bA
 generalize hpa:wv.heap.size=pa at *
 have x6:=cell_at E0.out 6
 simp only [List.getElem?_toArray,List.getElem?_cons_zero,List.getElem?_cons_succ] at x6
 go_wp2_with fail
 go_loopw [2] (fun iv wr=>∃ (i:Nat),iv=.int .i64 (i:Nat)/\i<=m/\Sp F w0 wr) (fun iv _=>m - (intOf iv).toNat)
 case atStart=>exact ⟨0,rfl,Nat.zero_le _,Sp.refl F w0⟩
 case round =>
  obtain ⟨i,rfl,hi,hI⟩:=hrel
  have EQ:=Hxq (hI.at E0.out hnF.out)
  have HI:=Lib.hid hI
  clear hI x6
  have x6:=cell_at EQ.out 6
  simp only [List.getElem?_toArray,List.getElem?_cons_zero,List.getElem?_cons_succ] at x6
  by_cases hlt:i<m
  ·have hjI:(i:Int)<(m:Int):=by omega
   have hj0:(0:Int)<=(i:Int):=by omega
   obtain ⟨g,rfl,hFg,hT,y,u,hc,hx⟩:=HH.out i hlt
   have key:Hid (∀ ws,Sp F w ws->TyAt ws g 38/\∃ y u,CellsAt ws g (i * 7) (exV y u)/\XAt F w u):=Hxq (fun ws hw=>⟨hw.ty hT,by
    rcases hw.cells hT (cs:=exV y u) (by rw [goneOf_X];rfl) hc with h | h
    ·exact ⟨y,u,h,hx⟩
    ·exact ⟨goneX,_,by rw [goneOf_X] at h;exact h,by rcases HZ.out with h | h;exact h;omega⟩⟩)
   have hw:Sp F w wr:=(HS.out.trans (Sp.of_mod M0.out)).trans HI.out
   obtain ⟨hTq,y',u',hc',a',m',c',rfl,hx'⟩:=key.out wr hw
   have HX:=Hxq (hx' y' wr hw)
   have c0:=hc' 0 _ rfl;have c1:=hc' 1 _ rfl;have c2:=hc' 2 _ rfl;have c3:=hc' 3 _ rfl;have c4:=hc' 4 _ rfl;have c5:=hc' 5 _ rfl;have c6:=hc' 6 _ rfl
   rw [Nat.add_zero] at c0
   have HW:=Lib.hid hw
   clear hc hc' hTq hT hw hx hx'
   unfold exV at HX
   go_upto_region 5 with fail
   refine HX.out.mono ?_
   rintro e1 w1 ⟨rfl,h1⟩
   have HI1:=Hxq (HI.out.trans h1)
   obtain ⟨hTq,y2,u2,hc',a2,m2,c2',rfl,-⟩:=key.out w1 (HW.out.trans h1)
   have hset:Sp F w1 (setCs w1 g (i * 7) (exV goneX (.slice none 0 0)).toList):=by
    have:=Sp.set (F:=F) (i:=i) (cs:=exV y2 (.slice a2 m2 c2')) hFg hTq (by rw [goneOf_X];rfl) hc' (Nat.succ_pos 6)
    rwa [goneOf_X] at this
   have HT:=Lib.hid hset
   have q6:=cell_at (h1.at EQ.out hnF.out) 6
   simp only [List.getElem?_toArray,List.getElem?_cons_zero,List.getElem?_cons_succ] at q6
   clear h1 c0 c1 c2 c3 c4 c5 c6 x6 HX
   have fG:∀ j,w1.frozen? ⟨g,j,none⟩=false:=fun j=>by obtain ⟨C,hC⟩:=hTq;exact free_at hC j
   have c0:=hc' 0 _ rfl;have c1:=hc' 1 _ rfl;have c2:=hc' 2 _ rfl;have c3:=hc' 3 _ rfl;have c4:=hc' 4 _ rfl;have c5:=hc' 5 _ rfl;have c6:=hc' 6 _ rfl
   rw [Nat.add_zero] at c0
   clear hset hc' hTq
   go_upto_region 3 with fail
   generalize hw8:setCs w1 g (i * 7) (exV goneX (.slice none 0 0)).toList=w8 at *
   have hw9:((((((w1.setCell ⟨g,i * 7,none⟩ (.int .i64 77)).setCell ⟨g,i * 7+1,none⟩ (.string ⟨#[]⟩)).setCell ⟨g,i * 7+2,none⟩ (.int .i64 0)).setCell ⟨g,i * 7+3,none⟩ (.int .i64 0)).setCell ⟨g,i * 7+4,none⟩ (.string ⟨#[]⟩)).setCell ⟨g,i * 7+5,none⟩ (.int .i64 0)).setCell ⟨g,i * 7+6,none⟩ (.slice none 0 0)=w8:=hw8
   rw [hw9]
   clear hw9 hw8 c0 c1 c2 c3 c4 c5 c6 fG
   go_wp2_with fail
   go_roundw
   case rel=>exact ⟨i+1,by go_num,by omega,HI1.out.trans HT.out⟩
   case measure=>simp [intOf];omega
  ·obtain rfl:i=m:=by omega
   have hjI:¬ (i:Int)<(i:Int):=by omega
   go_wp2_with fail
   go_end0
   exact ⟨rfl,(Sp.of_mod M0.out).trans HI.out⟩
theorem liV_sz (y:Pr.Li) (U:LU):(liV y U).size=30:=liV_size (y,U)
theorem setCells_setCs (b:Nat):∀ (vs:List Value) (o:Nat) (w:World),w.setCells b o vs=setCs w b o vs
 | [],_,_=>rfl
 | v :: r,o,w=>setCells_setCs b r (o+1) _
theorem there_of {w:World} {g o:Nat} {xs:Array Value} {T:TypeId} (h:CellsAt w g o xs) (ht:TyAt w g T) (n:Nat) (hn:xs.size=n):w.there g o n:=by
 subst hn
 obtain ⟨C,hC⟩:=ht
 exact fun j hj=>⟨by rw [h j _ (Array.getElem?_eq_getElem hj)];rfl,free_at hC _⟩
def AAt (F:Nat->Prop) (w:World) (u:Value):Prop:=∃ a m c,u=.slice a m c/\SAC F w u
/-- a body can be spoiled -/
def SBC (F:Nat->Prop) (w:World) (u:Value):Prop:=∀ (wv:World),Sp F w wv->Calls Tryz.prog 41 #[u] wv (SpR F wv)
def BAt (F:Nat->Prop) (w:World) (u:Value):Prop:=∃ a m c,u=.slice a m c/\SBC F w u
def LSl (F:Nat->Prop) (w:World) (U:LU):Prop:=AAt F w U.t/\XAt F w U.l/\XAt F w U.r/\XAt F w U.o/\BAt F w U.b
set_option maxHeartbeats 8000000 in
theorem sbc_row {F:Nat->Prop} {w:World} (hFw:∀ k,F k->k<w.heap.size) (a:Option Addr) (m c:Nat) (hm:m<=134217728)
  (h0:LSl F w goneU\/m=0)
  (h:∀ i,i<m->∃ g,a=some ⟨g,0,none⟩/\F g/\TyAt w g 49/\∃ y U,CellsAt w g (i * 30) (liV y U)/\LSl F w U):SBC F w (.slice a m c):=by
 intro wv hs
 have HS:=Lib.hid hs;have HH:=Lib.hid h;have HF:=Lib.hid hFw;have HZ:=Lib.hid h0
 clear hs h hFw h0
 go_enter Tryz.func41,Tryz.ntmps41
 go_wp2_with fail
 go_loopw [2] (fun iv wr=>∃ (i:Nat),iv=.int .i64 (i:Nat)/\i<=m/\Sp F wv wr) (fun iv _=>m - (intOf iv).toNat)
 case atStart=>exact ⟨0,rfl,Nat.zero_le _,Sp.refl F wv⟩
 case round =>
  obtain ⟨i,rfl,hi,hI⟩:=hrel
  by_cases hlt:i<m
  ·have hjI:(i:Int)<(m:Int):=by omega
   have hj0:(0:Int)<=(i:Int):=by omega
   obtain ⟨g,rfl,hFg,hT,y,U,hc,hx⟩:=HH.out i hlt
   have key:Hid (∀ ws,Sp F w ws->TyAt ws g 49/\∃ y U,CellsAt ws g (i * 30) (liV y U)/\LSl F w U):=Hxq (fun ws hw=>⟨hw.ty hT,by
    rcases hw.cells hT (cs:=liV y U) (by rw [goneOf_L,liV_sz,liV_sz]) (by rw [liV_sz];exact hc) with h | h
    ·exact ⟨y,U,by rwa [liV_sz] at h,hx⟩
    ·exact ⟨goneL,goneU,by rw [goneOf_L,liV_sz] at h;exact h,by rcases HZ.out with h | h;exact h;omega⟩⟩)
   have H0:=Lib.hid hI
   clear hc hT hx hI
   obtain ⟨-,y',U',hc',⟨at_,mt,ct,et,hxt⟩,⟨al,ml,cl_,el,hxl⟩,⟨ar,mr,cr,er,hxr⟩,⟨ao,mo,co,eo,hxo⟩,⟨ab,mb,cb,eb,hxb⟩⟩:=key.out wr (HS.out.trans H0.out)
   obtain ⟨k',⟨rel',ts'⟩,op',le',re',fn',av',of',body',ln',cl'⟩:=y'
   obtain ⟨t',l',r',o',b'⟩:=U'
   dsimp only at et el er eo eb
   subst et;subst el;subst er;subst eo;subst eb
   have HX:=Hxq (hxt rel' wr (HS.out.trans H0.out))
   have d1:=hc' 1 _ rfl;have d2:=hc' 2 _ rfl
   clear hc' hxt hxl hxr hxo hxb
   go_upto_region 4 with fail
   refine HX.out.mono ?_
   rintro e0 w1 ⟨rfl,h1⟩
   have H1:=Hxq (H0.out.trans h1)
   clear h1 HX d1 d2
   obtain ⟨-,y',U',hc',⟨at_,mt,ct,et,hxt⟩,⟨al,ml,cl_,el,hxl⟩,⟨ar,mr,cr,er,hxr⟩,⟨ao,mo,co,eo,hxo⟩,⟨ab,mb,cb,eb,hxb⟩⟩:=key.out w1 (HS.out.trans H1.out)
   obtain ⟨k',⟨rel',ts'⟩,op',le',re',fn',av',of',body',ln',cl'⟩:=y'
   obtain ⟨t',l',r',o',b'⟩:=U'
   dsimp only at et el er eo eb
   subst et;subst el;subst er;subst eo;subst eb
   have HX:=Hxq (hxl le' w1 (HS.out.trans H1.out))
   have d4:=hc' 4 _ rfl;have d5:=hc' 5 _ rfl;have d6:=hc' 6 _ rfl;have d7:=hc' 7 _ rfl;have d8:=hc' 8 _ rfl;have d9:=hc' 9 _ rfl;have d10:=hc' 10 _ rfl
   clear hc' hxt hxl hxr hxo hxb
   unfold exV at HX
   go_upto_region 5 with fail
   refine HX.out.mono ?_
   rintro e1 w2 ⟨rfl,h1⟩
   have H2:=Hxq (H1.out.trans h1)
   clear h1 HX d4 d5 d6 d7 d8 d9 d10
   obtain ⟨-,y',U',hc',⟨at_,mt,ct,et,hxt⟩,⟨al,ml,cl_,el,hxl⟩,⟨ar,mr,cr,er,hxr⟩,⟨ao,mo,co,eo,hxo⟩,⟨ab,mb,cb,eb,hxb⟩⟩:=key.out w2 (HS.out.trans H2.out)
   obtain ⟨k',⟨rel',ts'⟩,op',le',re',fn',av',of',body',ln',cl'⟩:=y'
   obtain ⟨t',l',r',o',b'⟩:=U'
   dsimp only at et el er eo eb
   subst et;subst el;subst er;subst eo;subst eb
   have HX:=Hxq (hxr re' w2 (HS.out.trans H2.out))
   have d11:=hc' 11 _ rfl;have d12:=hc' 12 _ rfl;have d13:=hc' 13 _ rfl;have d14:=hc' 14 _ rfl;have d15:=hc' 15 _ rfl;have d16:=hc' 16 _ rfl;have d17:=hc' 17 _ rfl
   clear hc' hxt hxl hxr hxo hxb
   unfold exV at HX
   go_upto_region 6 with fail
   refine HX.out.mono ?_
   rintro e2 w3 ⟨rfl,h1⟩
   have H3:=Hxq (H2.out.trans h1)
   clear h1 HX d11 d12 d13 d14 d15 d16 d17
   obtain ⟨-,y',U',hc',⟨at_,mt,ct,et,hxt⟩,⟨al,ml,cl_,el,hxl⟩,⟨ar,mr,cr,er,hxr⟩,⟨ao,mo,co,eo,hxo⟩,⟨ab,mb,cb,eb,hxb⟩⟩:=key.out w3 (HS.out.trans H3.out)
   obtain ⟨k',⟨rel',ts'⟩,op',le',re',fn',av',of',body',ln',cl'⟩:=y'
   obtain ⟨t',l',r',o',b'⟩:=U'
   dsimp only at et el er eo eb
   subst et;subst el;subst er;subst eo;subst eb
   have HX:=Hxq (hxo of' w3 (HS.out.trans H3.out))
   have d20:=hc' 20 _ rfl;have d21:=hc' 21 _ rfl;have d22:=hc' 22 _ rfl;have d23:=hc' 23 _ rfl;have d24:=hc' 24 _ rfl;have d25:=hc' 25 _ rfl;have d26:=hc' 26 _ rfl
   clear hc' hxt hxl hxr hxo hxb
   unfold exV at HX
   go_upto_region 7 with fail
   refine HX.out.mono ?_
   rintro e3 w4 ⟨rfl,h1⟩
   have H4:=Hxq (H3.out.trans h1)
   clear h1 HX d20 d21 d22 d23 d24 d25 d26
   obtain ⟨-,y',U',hc',⟨at_,mt,ct,et,hxt⟩,⟨al,ml,cl_,el,hxl⟩,⟨ar,mr,cr,er,hxr⟩,⟨ao,mo,co,eo,hxo⟩,⟨ab,mb,cb,eb,hxb⟩⟩:=key.out w4 (HS.out.trans H4.out)
   obtain ⟨k',⟨rel',ts'⟩,op',le',re',fn',av',of',body',ln',cl'⟩:=y'
   obtain ⟨t',l',r',o',b'⟩:=U'
   dsimp only at et el er eo eb
   subst et;subst el;subst er;subst eo;subst eb
   have HX:=Hxq (hxb w4 (HS.out.trans H4.out))
   have d27:=hc' 27 _ rfl
   clear hc' hxt hxl hxr hxo hxb
   go_upto_region 8 with fail
   refine HX.out.mono ?_
   rintro e4 w5 ⟨rfl,h1⟩
   have H5:=Hxq (H4.out.trans h1)
   clear h1 HX d27
   obtain ⟨hTq,y',U',hc',-⟩:=key.out w5 (HS.out.trans H5.out)
   have hset:Sp F w5 (setCs w5 g (i * 30) (liV goneL goneU).toList):=by
    have:=Sp.set (F:=F) (i:=i) (cs:=liV y' U') hFg hTq (by rw [goneOf_L,liV_sz,liV_sz]) (by rw [liV_sz];exact hc') (by rw [liV_sz];omega)
    rwa [goneOf_L,liV_sz] at this
   have HT:=Lib.hid hset
   have hth:=Hxq (there_of hc' hTq 30 (liV_sz _ _))
   have hi30:Hid ((Tryz.prog.info? 49).map (·.size)=some 30):=Hxq (by kernel_rfl)
   have hone:Hid ((liV goneL goneU).all (·.oneCell')=true):=Hxq (by decide +kernel)
   clear hset hc' hTq
   go_upto_region 2 with (first | refine wpList_store_mid rfl 49 _ _ rfl g (i * 30) (liV goneL goneU) rfl rfl hth.out hi30.out hone.out ?_)
   rw [setCells_setCs]
   generalize setCs w5 g (i * 30) (liV goneL goneU).toList=w8 at *
   clear hth hi30 hone
   go_wp2_with fail
   go_roundw
   case rel=>exact ⟨i+1,by go_num,by omega,H5.out.trans HT.out⟩
   case measure=>simp [intOf];omega
  ·obtain rfl:i=m:=by omega
   have hjI:¬ (i:Int)<(i:Int):=by omega
   have HI:=Lib.hid hI
   clear hI
   go_wp2_with fail
   go_end0
   exact ⟨rfl,HI.out⟩
section
variable {F:Nat->Prop} {w:World}
theorem XAt.nil (hFw:∀ k,F k->k<w.heap.size) (a:Option Addr) (c:Nat):XAt F w (.slice a 0 c):=⟨a,0,c,rfl,sxc_row hFw a 0 c (by omega) (.inr rfl) (fun i h=>absurd h (by omega))⟩
theorem AAt.nil (hFw:∀ k,F k->k<w.heap.size) (a:Option Addr) (c:Nat):AAt F w (.slice a 0 c):=⟨a,0,c,rfl,sac_row hFw a 0 c (by omega) (fun i h=>absurd h (by omega))⟩
theorem BAt.nil (hFw:∀ k,F k->k<w.heap.size) (a:Option Addr) (c:Nat):BAt F w (.slice a 0 c):=⟨a,0,c,rfl,sbc_row hFw a 0 c (by omega) (.inr rfl) (fun i h=>absurd h (by omega))⟩
theorem LSl.gone (hFw:∀ k,F k->k<w.heap.size):LSl F w goneU:=⟨AAt.nil hFw none 0,XAt.nil hFw none 0,XAt.nil hFw none 0,XAt.nil hFw none 0,BAt.nil hFw none 0⟩
theorem ET.spoil (hFw:∀ k,F k->k<w.heap.size) {e:Pr.Ex} {u:Value} (h:ET F w e u):exM e<=134217728->XAt F w u:=by
 induction h with
 | nil=>exact fun _=>XAt.nil hFw _ _
 | @row k v x op args b c us hF hT h1 h2 ih =>
  intro hM
  simp only [exM] at hM
  exact ⟨_,_,_,rfl,sxc_row hFw _ _ _ (by omega) (.inl (XAt.nil hFw none 0)) (fun i hi=>⟨b,rfl,hF,hT,args[i],us i,h1 i hi,ih i hi (by have:=exMs_mem args i hi;omega)⟩)⟩
theorem RowT.spoil (hFw:∀ k,F k->k<w.heap.size) {l:List Pr.Term} {u:Value} (h:RowT F w 88 5 tmV l u) (hl:l.length<=134217728):AAt F w u:=by
 cases h with
 | nil=>exact AAt.nil hFw _ _
 | row hF hT h1 hc=>exact ⟨_,_,_,rfl,sac_row hFw _ _ _ hl (fun i hi=>⟨_,rfl,hF,hT,l[i],h1 i hi⟩)⟩
theorem LT.spoil (hFw:∀ k,F k->k<w.heap.size) {x:Pr.Li} {U:LU} (h:LT F w x U):liM x<=134217728->LSl F w U:=by
 induction h with
 | @mk k a op l r fn av of body ln cl U ub cb us ht hl hr ho hb h1 h2 hcap ih =>
  intro hM
  simp only [liM] at hM
  refine ⟨ht.spoil hFw (by omega),hl.spoil hFw (by omega),hr.spoil hFw (by omega),ho.spoil hFw (by omega),ub,body.length,cb,hb,?_⟩
  rw [hb]
  refine sbc_row hFw _ _ _ (by omega) (.inl (LSl.gone hFw)) (fun i hi=>?_)
  obtain ⟨g,hu,hF,hT,hc⟩:=h1 i hi
  exact ⟨g,hu,hF,hT,body[i],us i,hc,ih i hi (by have:=liMs_mem body i hi;omega)⟩
theorem BT.spoil (hFw:∀ k,F k->k<w.heap.size) {l:List Pr.Li} {u:Value} (h:BT F w l u) (hl:l.length<=134217728) (hM:liMs l<=134217728):BAt F w u:=by
 obtain ⟨ub,cb,us,rfl,h1,h2,hcap⟩:=h
 refine ⟨ub,l.length,cb,rfl,sbc_row hFw _ _ _ hl (.inl (LSl.gone hFw)) (fun i hi=>?_)⟩
 obtain ⟨g,hu,hF,hT,hc⟩:=h1 i hi
 exact ⟨g,hu,hF,hT,l[i],us i,hc,(h2 i hi).spoil hFw (by have:=liMs_mem l i hi;omega)⟩
end
/-- a row of numbers -/
def IAt (F:Nat->Prop) (w:World) (u:Value):Prop:=∃ a m c,u=.slice a m c/\m<=134217728/\∀ i,i<m->∃ g,a=some ⟨g,0,none⟩/\F g/\TyAt w g 3/\∃ x,CellsAt w g (i * 1) (intC x)
theorem RelT.spoil {F:Nat->Prop} {w:World} {p:RelU} (h:RelT F w p) (hl:p.1.types.length<=134217728):IAt F w p.2:=by
 obtain ⟨r,u⟩:=p
 unfold RelT at h
 dsimp only at h hl ⊢
 generalize r.types=ty at *
 cases h with
 | nil=>exact ⟨_,0,_,rfl,by omega,fun i h=>absurd h (by omega)⟩
 | row hF hT h1 hc=>exact ⟨_,_,_,rfl,hl,fun i hi=>⟨_,rfl,hF,hT,ty[i],h1 i hi⟩⟩
open Go.RowKit
set_option linter.unusedVariables false
set_option linter.unusedSimpArgs false
set_option maxRecDepth 100000
/-- what a program must be to be spoiled -/
structure SPg (F:Nat->Prop) (w:World) (a:Option Addr) (m:Nat) (b:Option Addr) (n:Nat):Prop where
 lt:∀ k,F k->k<w.heap.size
 hm:m<=134217728
 hn:n<=134217728
 rel:∀ i,i<m->∃ g,a=some ⟨g,0,none⟩/\F g/\TyAt w g 70/\∃ p,CellsAt w g (i * 4) (csR p)/\IAt F w p.2
 rul:∀ i,i<n->∃ g,b=some ⟨g,0,none⟩/\F g/\TyAt w g 63/\∃ p,CellsAt w g (i * 5) (csU p)/\AAt F w p.2.1/\BAt F w p.2.2
theorem IAt.nil (F:Nat->Prop) (w:World):IAt F w (.slice none 0 0):=⟨none,0,0,rfl,by omega,fun i h=>absurd h (by omega)⟩
set_option maxHeartbeats 8000000 in
theorem spoil_any {F:Nat->Prop} {w:World} (a:Option Addr) (m c:Nat) (b:Option Addr) (n d:Nat) (h:SPg F w a m b n) (wv:World) (hs:Sp F w wv) :
  Calls Tryz.prog 14 #[.agg #[.slice a m c,.slice b n d]] wv (SpR F wv):=by
 have HS:=Lib.hid hs;have HH:=Lib.hid h
 have hm:=h.hm;have hn:=h.hn
 have mA:=(Mod.refl [] wv).alloc (Obj.cells #[.slice a m c,.slice b n d] 25)
 have bA:=heap_alloc_new wv (Obj.cells #[.slice a m c,.slice b n d] 25)
 clear hs h
 go_enter Tryz.func14,Tryz.ntmps14
 go_upto_region 1 with fail
 generalize wv.alloc (Obj.cells _ 25)=w0 at *
 have M0:=Lib.hid mA;have E0:=Lib.hid bA
 have hnF:Hid (¬ F wv.heap.size):=Hxq (fun h=>by have:=HH.out.lt _ h;have:=HS.out.size;omega)
 clear mA bA
 generalize hpa:wv.heap.size=pa at *
 have x0:=cell_at E0.out 0
 simp only [List.getElem?_toArray,List.getElem?_cons_zero,List.getElem?_cons_succ] at x0
 go_wp2_with fail
 go_loopw [2] (fun iv wr=>∃ (i:Nat),iv=.int .i64 (i:Nat)/\i<=m/\Sp F w0 wr) (fun iv _=>m - (intOf iv).toNat)
 case atStart=>exact ⟨0,rfl,Nat.zero_le _,Sp.refl F w0⟩
 case round =>
  obtain ⟨i,rfl,hi,hI⟩:=hrel
  have EQ:=Hxq (hI.at E0.out hnF.out)
  have HI:=Lib.hid hI
  clear hI x0
  have x0:=cell_at EQ.out 0
  simp only [List.getElem?_toArray,List.getElem?_cons_zero,List.getElem?_cons_succ] at x0
  by_cases hlt:i<m
  ·have hjI:(i:Int)<(m:Int):=by omega
   have hj0:(0:Int)<=(i:Int):=by omega
   obtain ⟨g,rfl,hFg,hT,⟨r,u⟩,hc,mr,m3,c3,hu,hm3,hx⟩:=HH.out.rel i hlt
   dsimp only at hu
   subst hu
   have key:Hid (∀ ws,Sp F w ws->TyAt ws g 70/\(CellsAt ws g (i * 4) (reV r (.slice mr m3 c3))\/CellsAt ws g (i * 4) (reV goneR (.slice none 0 0)))):=Hxq (fun ws hw=>⟨hw.ty hT,by
    have:=hw.cells hT (cs:=csR (r,.slice mr m3 c3)) (by rw [goneOf_R];rfl) hc
    rw [goneOf_R] at this
    exact this⟩)
   have KX:=Lib.hid hx
   have HW:Hid (∀ ws,Sp F w0 ws->Sp F w ws):=Hxq (fun ws h=>(HS.out.trans (Sp.of_mod M0.out)).trans h)
   clear hc hT hx
   go_upto_region 5 with fail
   generalize hwq:wr=wo at *
   clear hwq
   go_loopw [3] (fun iv wr=>∃ (k:Nat),iv=.int .i64 (k:Nat)/\k<=m3/\Sp F w0 wr) (fun iv _=>m3 - (intOf iv).toNat)
   case atStart=>exact ⟨0,rfl,Nat.zero_le _,HI.out⟩
   case round =>
    obtain ⟨k,rfl,hk,hI2⟩:=hrel
    have EQ2:=Hxq (hI2.at E0.out hnF.out)
    have HI2:=Lib.hid hI2
    clear hI2 x0
    have x0:=cell_at EQ2.out 0
    simp only [List.getElem?_toArray,List.getElem?_cons_zero,List.getElem?_cons_succ] at x0
    obtain ⟨hTq,hcc⟩:=key.out wr (HW.out wr HI2.out)
    obtain ⟨p',a',m',c',hc',hm'⟩:∃ (p':Pr.Rel) (a':Option Addr) (m' c':Nat),CellsAt wr g (i * 4) (reV p' (.slice a' m' c'))/\(m'=0\/(a'=mr/\m'=m3)):=by
     rcases hcc with h | h
     ·exact ⟨_,_,_,_,h,.inr ⟨rfl,rfl⟩⟩
     ·exact ⟨_,_,_,_,h,.inl rfl⟩
    clear hcc
    have c1:=hc' 1 (.slice a' m' c') rfl
    by_cases hlk:k<m'
    ·have hjK:(k:Int)<(m':Int):=by omega
     have hk0:(0:Int)<=(k:Int):=by omega
     obtain ⟨rfl,rfl⟩:a'=mr/\m'=m3:=by rcases hm' with h | h;omega;exact h
     obtain ⟨g2,rfl,hFg2,hT2,x,hcx⟩:=KX.out k hlk
     have hw2:=HW.out wr HI2.out
     obtain ⟨x',hcy⟩:∃ x',CellsAt wr g2 (k * 1) (intC x'):=by
      rcases hw2.cells hT2 (cs:=intC x) (by rw [goneOf_I];rfl) hcx with h | h
      ·exact ⟨x,h⟩
      ·exact ⟨77,by rw [goneOf_I] at h;exact h⟩
     have hTy:=hw2.ty hT2
     have hset:Sp F wr (wr.setCell ⟨g2,k,none⟩ (.int .i64 77)):=by
      have:=Sp.set (F:=F) (i:=k) (cs:=intC x') hFg2 hTy (by rw [goneOf_I];rfl) hcy (Nat.succ_pos 0)
      rw [goneOf_I,show (intC x').size=1 from rfl,Nat.mul_one] at this
      exact this
     have HT:=Lib.hid hset
     have d0:=hcy 0 (.int .i64 x') rfl
     rw [Nat.mul_one,Nat.add_zero] at d0
     have fG:∀ j,wr.frozen? ⟨g2,j,none⟩=false:=fun j=>by obtain ⟨C,hC⟩:=hTy;exact free_at hC j
     clear hset hcx hcy hTy hT2 hw2 hTq hc' hm'
     go_upto_region 6 with fail
     generalize wr.setCell ⟨g2,k,none⟩ (.int .i64 77)=w8 at *
     clear d0 fG c1
     go_wp2_with fail
     go_roundw
     case rel=>exact ⟨k+1,by go_num,by omega,HI2.out.trans HT.out⟩
     case measure=>simp [intOf];omega
    ·have hjK:¬ (k:Int)<(m':Int):=by omega
     have hset:Sp F wr (setCs wr g (i * 4) (reV goneR (.slice none 0 0)).toList):=by
      have:=Sp.set (F:=F) (i:=i) (cs:=reV p' (.slice a' m' c')) hFg hTq (by rw [goneOf_R];rfl) hc' (Nat.succ_pos 3)
      rwa [goneOf_R] at this
     have HT:=Lib.hid hset
     have hth:=Hxq (there_of hc' hTq 4 rfl)
     have hi4:Hid ((Tryz.prog.info? 70).map (·.size)=some 4):=Hxq (by kernel_rfl)
     have hone:Hid ((reV goneR (.slice none 0 0)).all (·.oneCell')=true):=Hxq (by decide +kernel)
     clear hset hc' hTq hm'
     go_upto_region 3 with (first | refine wpList_store_mid rfl 70 _ _ rfl g (i * 4) (reV goneR (.slice none 0 0)) rfl rfl hth.out hi4.out hone.out ?_)
     rw [setCells_setCs]
     generalize setCs wr g (i * 4) (reV goneR (.slice none 0 0)).toList=w8 at *
     clear hth hi4 hone
     go_wp2_with fail
     go_roundw
     case rel=>exact ⟨i+1,by go_num,by omega,HI2.out.trans HT.out⟩
     case measure=>simp [intOf];omega
  ·obtain rfl:i=m:=by omega
   have hjI:¬ (i:Int)<(i:Int):=by omega
   go_upto_region 10 with fail
   generalize hwq:wr=wo at *
   clear hwq
   go_loopw [4] (fun iv wr=>∃ (k:Nat),iv=.int .i64 (k:Nat)/\k<=n/\Sp F w0 wr) (fun iv _=>n - (intOf iv).toNat)
   case atStart=>exact ⟨0,rfl,Nat.zero_le _,HI.out⟩
   case round =>
    obtain ⟨k,rfl,hk,hI2⟩:=hrel
    have EQ2:=Hxq (hI2.at E0.out hnF.out)
    have HI2:=Lib.hid hI2
    clear hI2 x0
    have x1:=cell_at EQ2.out 1
    simp only [List.getElem?_toArray,List.getElem?_cons_zero,List.getElem?_cons_succ] at x1
    by_cases hlk:k<n
    ·have hjK:(k:Int)<(n:Int):=by omega
     have hk0:(0:Int)<=(k:Int):=by omega
     obtain ⟨g,rfl,hFg,hT,⟨r,tu,bu⟩,hc,ha,hb⟩:=HH.out.rul k hlk
     dsimp only at ha hb
     have key:Hid (∀ ws,Sp F w0 ws->TyAt ws g 63/\∃ (r:Pr.Rul) (tu bu:Value),CellsAt ws g (k * 5) (ruV r tu bu)/\AAt F w tu/\BAt F w bu):=Hxq (fun ws hw=>by
      replace hw:=(HS.out.trans (Sp.of_mod M0.out)).trans hw
      refine ⟨hw.ty hT,?_⟩
      rcases hw.cells hT (cs:=csU (r,tu,bu)) (by rw [goneOf_U];rfl) hc with h | h
      ·exact ⟨r,tu,bu,h,ha,hb⟩
      ·exact ⟨goneRu,_,_,by rw [goneOf_U] at h;exact h,AAt.nil HH.out.lt none 0,BAt.nil HH.out.lt none 0⟩)
     have HW:Hid (∀ ws,Sp F w0 ws->Sp F w ws):=Hxq (fun ws h=>(HS.out.trans (Sp.of_mod M0.out)).trans h)
     clear hc hT ha hb
     obtain ⟨-,⟨⟨rl,hts⟩,rb,ln,cl⟩,tu,bu,hc',⟨at_,mt,ct,rfl,hat⟩,⟨ab,mb,cb,rfl,-⟩⟩:=key.out wr HI2.out
     have HX:=Hxq (hat rl wr (HW.out wr HI2.out))
     have c0:=hc' 0 (.string rl) rfl;have c1:=hc' 1 (.slice at_ mt ct) rfl
     rw [Nat.add_zero] at c0
     clear hc' hat
     go_upto_region 13 with fail
     refine HX.out.mono ?_
     rintro e1 w1 ⟨rfl,h1⟩
     have EQ3:=Hxq (h1.at EQ2.out hnF.out)
     have H1:=Hxq (HI2.out.trans h1)
     clear h1 HX c0 c1 x1
     have x1:=cell_at EQ3.out 1
     simp only [List.getElem?_toArray,List.getElem?_cons_zero,List.getElem?_cons_succ] at x1
     obtain ⟨-,⟨⟨rl,hts⟩,rb,ln,cl⟩,tu,bu,hc',⟨at_,mt,ct,rfl,-⟩,⟨ab,mb,cb,rfl,hat⟩⟩:=key.out w1 H1.out
     have HX:=Hxq (hat w1 (HW.out w1 H1.out))
     have c2:=hc' 2 (.slice ab mb cb) rfl
     clear hc' hat
     go_upto_region 14 with fail
     refine HX.out.mono ?_
     rintro e2 w2 ⟨rfl,h1⟩
     have EQ4:=Hxq (h1.at EQ3.out hnF.out)
     have H2:=Hxq (H1.out.trans h1)
     clear h1 HX c2 x1
     have x1:=cell_at EQ4.out 1
     simp only [List.getElem?_toArray,List.getElem?_cons_zero,List.getElem?_cons_succ] at x1
     obtain ⟨hTq,p',tu,bu,hc',-,-⟩:=key.out w2 H2.out
     have hset:Sp F w2 (setCs w2 g (k * 5) (ruV goneRu (.slice none 0 0) (.slice none 0 0)).toList):=by
      have:=Sp.set (F:=F) (i:=k) (cs:=ruV p' tu bu) hFg hTq (by rw [goneOf_U];rfl) hc' (Nat.succ_pos 4)
      rwa [goneOf_U] at this
     have HT:=Lib.hid hset
     have hth:=Hxq (there_of hc' hTq 5 rfl)
     have hi5:Hid ((Tryz.prog.info? 63).map (·.size)=some 5):=Hxq (by kernel_rfl)
     have hone:Hid ((ruV goneRu (.slice none 0 0) (.slice none 0 0)).all (·.oneCell')=true):=Hxq (by decide +kernel)
     clear hset hc' hTq
     go_upto_region 11 with (first | refine wpList_store_mid rfl 63 _ _ rfl g (k * 5) (ruV goneRu (.slice none 0 0) (.slice none 0 0)) rfl rfl hth.out hi5.out hone.out ?_)
     rw [setCells_setCs]
     generalize setCs w2 g (k * 5) (ruV goneRu (.slice none 0 0) (.slice none 0 0)).toList=w8 at *
     clear hth hi5 hone
     go_wp2_with fail
     go_roundw
     case rel=>exact ⟨k+1,by go_num,by omega,H2.out.trans HT.out⟩
     case measure=>simp [intOf];omega
    ·obtain rfl:k=n:=by omega
     have hjK:¬ (k:Int)<(k:Int):=by omega
     go_wp2_with fail
     go_end0
     exact ⟨rfl,(Sp.of_mod M0.out).trans HI2.out⟩
mutual
def exWt:Pr.Ex->Nat
 | .mk _ v _ _ args=>v.size+300+exWts args
def exWts:List Pr.Ex->Nat
 | []=>0
 | e :: r=>exWt e+exWts r
end
def tsWt (ts:List Pr.Term):Nat:=(ts.map fun t=>t.v.size+300).sum
def aWt (a:Pr.Atom):Nat:=a.rel.size+300+tsWt a.terms
mutual
def lWt:Pr.Li->Nat
 | .mk k a op l r fn av of body ln cl=>aWt a+exWt l+exWt r+exWt of+av.size+1000+lsWt body
def lsWt:List Pr.Li->Nat
 | []=>0
 | e :: r=>lWt e+lsWt r
end
def rWt (r:Pr.Rul):Nat:=aWt r.head+lsWt r.body+10
def dWt (x:Pr.Rel):Nat:=x.name.size+30+10 * x.types.length
def dsWt (l:List Pr.Rel):Nat:=(l.map fun x=>dWt x+2).sum
def rsWt (l:List Pr.Rul):Nat:=(l.map fun x=>rWt x+2).sum
open Go.RowKit
set_option linter.unusedVariables false
set_option linter.unusedSimpArgs false
set_option maxRecDepth 100000
theorem byteCells_str (s:ByteArray):byteCells s=toCells (Cod.str s):=by
 simp [byteCells,toCells,Cod.str,List.map_map,Function.comp_def]
end Go.Proofs.YtohnmnfhmbmoaaaGreatDoor
