/- THE TEXTS MERGED: SyEx SyMem2 SyBody. -/
import Derived.Test.YtbfaclljbbfknaaGreatDoorKP10
namespace Go.Proofs.YtbfaclljbbfknaaGreatDoor
open Go.RowKit
set_option linter.unusedVariables false
set_option linter.unusedSimpArgs false
set_option maxRecDepth 100000
theorem chainF_eq (v:Sy.Env) (line:Nat) (sub:Nat->Nat->Sy.PR (Pr.Ex × Nat)) (above k:Nat) (e:Pr.Ex) (d i:Nat):Sy.chainF v line sub above (k+1) e d i =
  if (Sy.level (v.tk i)).1≠line then .ok (e,d) i
  else if 16<above+d+1 then .err (v.give 41 i)
  else (sub (above+1) (i+1)).bind fun r j=>Sy.chainF v line sub above k (.mk 4 (Sy.txt []) Va.zero (Sy.level (v.tk i)).2 [e,r.1]) (1+max d r.2) j:=by rw [Sy.chainF]
theorem exprF_ex (v:Sy.Env) (k line above i:Nat) (h:line≠3):Sy.exprF v (k+1) line above i=(Sy.exprF v k (line+1) above i).bind fun r j=>Sy.chainF v line (Sy.exprF v k (line+1)) above (v.ws.length+1) r.1 r.2 j:=by
 rw [Sy.exprF,if_neg h]
set_option maxHeartbeats 8000000 in
theorem ex_of3 (b:Nat) (ra:Option Addr) (rc:Nat) (f:Value) (v:Sy.Env) (k:Nat) (hv:EnvOk v) (hU:UnC b ra rc f v (k+1)) (above i:Nat) (w:World) (h:RdP w b ra rc f v i) (hi:i<=v.ws.length) (ha:above<=16) (hk:3 * (17 - above)+1<=k+1) :
  Calls Tryz.prog 39 #[.pointer (some ⟨b,0,none⟩),.int .i64 3,.int .i64 (above:Nat)] w (PRes b ra rc f v (Sy.exprF v (k+1) 3 above i) (valX w.heap.size) w):=by
 have hlen:=hv.len
 have mA:=(Mod.refl [] w).alloc (Obj.cells #[Value.int IntKind.i64 0,Value.string ⟨#[]⟩,Value.int IntKind.i64 0,Value.int IntKind.i64 0,Value.string ⟨#[]⟩,Value.int IntKind.i64 0,Value.slice none 0 0] 26)
 have hA:=h.past mA (by simp)
 have eA:=heap_alloc_new w (Obj.cells #[Value.int IntKind.i64 0,Value.string ⟨#[]⟩,Value.int IntKind.i64 0,Value.int IntKind.i64 0,Value.string ⟨#[]⟩,Value.int IntKind.i64 0,Value.slice none 0 0] 26)
 have zA:(w.alloc (Obj.cells #[Value.int IntKind.i64 0,Value.string ⟨#[]⟩,Value.int IntKind.i64 0,Value.int IntKind.i64 0,Value.string ⟨#[]⟩,Value.int IntKind.i64 0,Value.slice none 0 0] 26)).heap.size=w.heap.size+1:=by simp
 have HX:=Hxq (hU above i _ hA hi (.inl ha) hk)
 have HLo:=Lib.hid h.low
 have hbl:=h.lt
 have HA:=Lib.hid hA;have EA:=Lib.hid eA;have MA:=Lib.hid mA
 clear h hA eA mA hU
 go_enter Tryz.func39,Tryz.ntmps39
 go_upto_region 1 with fail
 generalize w.alloc (Obj.cells #[Value.int IntKind.i64 0,Value.string ⟨#[]⟩,Value.int IntKind.i64 0,Value.int IntKind.i64 0,Value.string ⟨#[]⟩,Value.int IntKind.i64 0,Value.slice none 0 0] 26)=wA at *
 generalize Sy.exprF v (k+1) 3 above i=q at *
 have hnb:w.heap.size∉[b]:=by simp;omega
 cases q with
 | err g =>
  go_wp2_with fail
  refine HX.out.mono ?_
  rintro e6 w6 ⟨rfl,m6⟩
  have M6:=Hxq ((MA.out.mono (T:=[b]) (by simp)).trans m6 (by simp))
  clear m6
  unfold stopE
  go_wp2_with fail
  exact ⟨rfl,rfl,M6.out⟩
 | ok r n =>
  obtain ⟨ex,dd⟩:=r
  go_wp2_with fail
  refine HX.out.mono ?_
  rintro e6 w6 ⟨y6,rfl,⟨u6,rfl,hb6⟩,h6,m6⟩
  obtain ⟨a6,c6,rfl⟩:=hb6.lit
  have M6:=Hxq ((MA.out.mono (T:=[b]) (by simp)).trans m6 (by simp));have A6:=Hxq (m6.at EA.out hnb);have H6:=Lib.hid h6;have B6:=Lib.hid hb6
  obtain ⟨y0,y1,y2,y3,y4,y5,y6⟩:=cells7 A6.out
  have fA:∀ j,w6.frozen? ⟨w.heap.size,j,none⟩=false:=fun j=>free_at A6.out j
  clear h6 m6 hb6
  unfold exV at *
  simp only at *
  go_wp2_with fail
  have mR:=setCs_mod w.heap.size [.int .i64 ex.k,.string ex.v,.int .i64 ex.x.k,.int .i64 ex.x.n,.string (Lx.ofS ex.x.s),.int .i64 ex.op,.slice a6 ex.args.length c6] 0 w6
  refine bodyPost_ret (res_ex rfl _ _ _ _ _ _ _ rfl rfl (setCs_row (vs:=[.int .i64 ex.k,.string ex.v,.int .i64 ex.x.k,.int .i64 ex.x.n,.string (Lx.ofS ex.x.s),.int .i64 ex.op,.slice a6 ex.args.length c6]) A6.out rfl) rfl) rfl ⟨_,rfl,⟨.slice a6 ex.args.length c6,rfl,((B6.out.keep mR (fun s hs=>by rw [Msq] at hs;omega)).mono (fun k hk _=>by omega))⟩,H6.out.new HLo.out mR (by simp),M6.out.trans mR (by simp)⟩
set_option maxHeartbeats 8000000 in
theorem ex_of12 (b:Nat) (ra:Option Addr) (rc:Nat) (f:Value) (v:Sy.Env) (k:Nat) (hv:EnvOk v) (hE:ExC b ra rc f v k) (line above i:Nat) (w:World) (h:RdP w b ra rc f v i) (hi:i<=v.ws.length) (hl1:1<=line) (hl2:line<=2) (ha:above<=16) (hk:3 * (17 - above)+(3 - line)+1<=k+1) :
  Calls Tryz.prog 39 #[.pointer (some ⟨b,0,none⟩),.int .i64 (line:Nat),.int .i64 (above:Nat)] w (PRes b ra rc f v (Sy.exprF v (k+1) line above i) (valX w.heap.size) w):=by
 have hlen:=hv.len
 have mA:=(Mod.refl [] w).alloc (Obj.cells #[Value.int IntKind.i64 0,Value.string ⟨#[]⟩,Value.int IntKind.i64 0,Value.int IntKind.i64 0,Value.string ⟨#[]⟩,Value.int IntKind.i64 0,Value.slice none 0 0] 26)
 have hA:=h.past mA (by simp)
 have eA:=heap_alloc_new w (Obj.cells #[Value.int IntKind.i64 0,Value.string ⟨#[]⟩,Value.int IntKind.i64 0,Value.int IntKind.i64 0,Value.string ⟨#[]⟩,Value.int IntKind.i64 0,Value.slice none 0 0] 26)
 have zA:(w.alloc (Obj.cells #[Value.int IntKind.i64 0,Value.string ⟨#[]⟩,Value.int IntKind.i64 0,Value.int IntKind.i64 0,Value.string ⟨#[]⟩,Value.int IntKind.i64 0,Value.slice none 0 0] 26)).heap.size=w.heap.size+1:=by simp
 have HX:=Hxq (hE (line+1) above i _ hA hi (by omega) (by omega) (by omega) (by omega))
 have HLo:=Lib.hid h.low
 have HR:=Hxq (exprF_ex v k line above i (by omega))
 have HA1:=Hxq (Sy.adv_exprF v k (line+1) above (by omega) i)
 have HD1:=Hxq (Sy.expr_deep v k (line+1) above i)
 have hbl:=h.lt
 have HA:=Lib.hid hA;have EA:=Lib.hid eA;have MA:=Lib.hid mA
 have hL3:((line:Int) == 3)=false:=by rw [beq_eq_false_iff_ne];omega
 clear h hA eA mA
 generalize hq:Sy.exprF v (k+1) line above i=q at *
 clear hq
 have hnb:w.heap.size∉[b]:=by simp;omega
 go_enter Tryz.func39,Tryz.ntmps39
 go_upto_region 1 with fail
 generalize w.alloc (Obj.cells #[Value.int IntKind.i64 0,Value.string ⟨#[]⟩,Value.int IntKind.i64 0,Value.int IntKind.i64 0,Value.string ⟨#[]⟩,Value.int IntKind.i64 0,Value.slice none 0 0] 26)=wA at *
 generalize Sy.exprF v k (line+1) above i=px at *
 cases px with
 | err g =>
  obtain rfl:q=.err g:=HR.out
  clear HR
  go_wp2_with fail
  refine HX.out.mono ?_
  rintro e6 w6 ⟨rfl,m6⟩
  have M6:=Hxq ((MA.out.mono (T:=[b]) (by simp)).trans m6 (by simp))
  clear m6
  unfold stopE
  go_wp2_with fail
  exact ⟨rfl,rfl,M6.out⟩
 | ok r n =>
  obtain ⟨ex,dd⟩:=r
  have HQ:Hid (q=Sy.chainF v line (Sy.exprF v k (line+1)) above (v.ws.length+1) ex dd n):=Lib.hid HR.out
  have hn:=(HA1.out _ n hi rfl).2
  have hdd:=HD1.out _ n ha rfl
  simp only at hdd
  clear HR HA1 HD1
  go_wp2_with fail
  refine HX.out.mono ?_
  rintro e6 w6 ⟨y6,rfl,⟨u6,rfl,hb6⟩,h6,m6⟩
  obtain ⟨a6,c6,rfl⟩:=hb6.lit
  have z6:=m6.size
  have M6:=Hxq ((MA.out.mono (T:=[b]) (by simp)).trans m6 (by simp));have A6:=Hxq (m6.at EA.out hnb)
  have mD:=(Mod.refl [] w6).alloc (Obj.cells (exV ex (.slice a6 ex.args.length c6)) 26)
  have dD:=heap_alloc_new w6 (Obj.cells (exV ex (.slice a6 ex.args.length c6)) 26)
  have HD:=Hxq (h6.past mD (by simp));have MD:=Hxq (M6.out.trans mD (by simp));have AD:=Hxq (mD.at A6.out (by simp));have DD:=Lib.hid dD;have BD:=Hxq ((hb6.mono (F':=fun k=>w.heap.size<k/\k≠w6.heap.size) (fun k hk hk2=>by omega)).keep mD (by simp))
  clear mD dD hb6 h6 m6
  unfold exV at *
  simp only at *
  go_upto_region 4 with fail
  generalize w6.alloc (Obj.cells _ 26)=wD at *
  have z0:w.heap.size<w6.heap.size:=by omega
  clear zA z6 HX
  go_loopg [9] (v.ws.length+1) (fun gk dv wr=>∃ (j d:Nat) (e:Pr.Ex) (a:Option Addr) (c:Nat),dv=.int .i64 (d:Nat)/\RdP wr b ra rc f v j/\j<=v.ws.length/\v.ws.length+1<=gk+j/\above+d<=16/\wr.heap[w.heap.size]?=some (.cells #[Value.int IntKind.i64 0,Value.string ⟨#[]⟩,Value.int IntKind.i64 0,Value.int IntKind.i64 0,Value.string ⟨#[]⟩,Value.int IntKind.i64 0,Value.slice none 0 0] 26 (0,0))/\wr.heap[w6.heap.size]?=some (.cells #[.int .i64 e.k,.string e.v,.int .i64 e.x.k,.int .i64 e.x.n,.string (Lx.ofS e.x.s),.int .i64 e.op,.slice a e.args.length c] 26 (0,0))/\EB (fun k=>w.heap.size<k/\k≠w6.heap.size) wr e (.slice a e.args.length c)/\Mod [b] w wr/\q=Sy.chainF v line (Sy.exprF v k (line+1)) above gk e d j)
  case atStart=>exact ⟨n,dd,ex,a6,c6,rfl,HD.out,hn,by omega,hdd,AD.out,DD.out,BD.out,MD.out,HQ.out⟩
  case round =>
   obtain ⟨j,d,e,a,c,rfl,hr,hj,hgk,had,ha0,he0,hb0,hm0,hq⟩:=hrel
   obtain ⟨g',rfl⟩:∃ g',gk=g'+1:=⟨gk - 1,by omega⟩
   rw [chainF_eq] at hq
   have hlv:=fun h=>Sy.level_lt (v:=v) (i:=j) h
   have HP:=Hxq (peek0 b ra rc f v j wr hr hv (by omega))
   have HLv:=Hxq (fun w=>level_any (v.tk j) w (hv.tbyte j))
   have HRd:=Lib.hid hr;have A0:=Lib.hid ha0;have E0:=Lib.hid he0;have B0:=Lib.hid hb0;have M0:=Lib.hid hm0;have HQ2:=Lib.hid hq
   have zr:=lt_of_block he0
   clear hr ha0 he0 hb0 hm0 hq HQ A6 AD DD BD MD HD M6
   generalize Sy.level (v.tk j)=lv at *
   obtain ⟨l,op⟩:=lv
   simp only at hlv
   go_wp2_with fail
   refine HP.out.mono ?_
   rintro e1 w1 ⟨rfl,m1⟩
   have H1:=Hxq (HRd.out.past m1 (by simp));have A1:=Hxq (m1.at A0.out (by simp));have E1:=Hxq (m1.at E0.out (by simp));have B1:=Hxq (B0.out.keep m1 (by simp));have M1:=Hxq (M0.out.trans m1 (by simp))
   clear m1 HRd A0 E0 B0 M0 HP
   go_wp2_with fail
   refine (HLv.out w1).mono ?_
   rintro e2 w2 ⟨rfl,m2⟩
   have H2:=Hxq (H1.out.past m2 (by simp));have A2:=Hxq (m2.at A1.out (by simp));have E2:=Hxq (m2.at E1.out (by simp));have B2:=Hxq (B1.out.keep m2 (by simp));have M2:=Hxq (M1.out.trans m2 (by simp))
   clear m2 H1 A1 E1 B1 M1 HLv
   have hnb6:w6.heap.size∉[b]:=by simp;omega
   by_cases hc:l=line
   ·subst hc
    have hjl:=hlv (by omega)
    have hcI:((l:Int) != (l:Int))=false:=by simp
    by_cases hdp:16<above+d+1
    ·have hq:q=.err (v.give 41 j):=by rw [HQ2.out,if_neg (by simp),if_pos hdp]
     subst hq
     have hI:(16:Int)<(above:Int)+(d:Int)+1:=by omega
     clear HQ2 hdp
     go_wp2_with fail
     refine (give_any b ra rc f v j 41 w2 H2.out hv (by omega)).mono ?_
     rintro e3 w3 ⟨rfl,m3⟩
     have M3:=Hxq (M2.out.trans m3 (by simp))
     clear m3
     unfold stopE
     go_wp2_with fail
     exact ⟨rfl,rfl,M3.out⟩
    ·have hI:¬ (16:Int)<(above:Int)+(d:Int)+1:=by omega
     have HQ3:Hid (q=(Sy.exprF v k (l+1) (above+1) (j+1)).bind fun r j=>Sy.chainF v l (Sy.exprF v k (l+1)) above g' (.mk 4 (Sy.txt []) Va.zero op [e,r.1]) (1+max d r.2) j):=Hxq (by rw [HQ2.out,if_neg (by simp),if_neg hdp])
     have HE2:=Hxq (fun w hr=>hE (l+1) (above+1) (j+1) w hr (by omega) (by omega) (by omega) (by omega) (by omega))
     have HA2:=Hxq (Sy.adv_exprF v k (l+1) (above+1) (by omega) (j+1))
     have HD2:=Hxq (Sy.expr_deep v k (l+1) (above+1) (j+1))
     obtain ⟨c0,c1,c2,c3,c4,c5,fz⟩:=H2.out.cells
     have hT:=H2.out.to (j+1)
     have A3:=Hxq (hT.2.at A2.out hnb);have E3:=Hxq (hT.2.at E2.out hnb6);have B3:=Hxq (B2.out.keep hT.2 (fun s hs=>by rw [Msq] at hs;omega));have M3:=Hxq (M2.out.trans hT.2 (by simp));have H3:=Lib.hid hT.1
     clear hT HQ2 A2 E2 B2 M2 H2
     go_upto_region 10 with fail
     have hcast:((j+1:Nat):Int)=(j:Int)+1:=by omega
     rw [hcast] at A3 E3 B3 M3 H3
     generalize w2.setCell ⟨b,1,none⟩ (.int .i64 ((j:Int)+1))=w3 at *
     clear c0 c1 c2 c3 c4 c5 fz hcast
     generalize Sy.exprF v k (l+1) (above+1) (j+1)=px2 at *
     cases px2 with
     | err g =>
      have hq:q=.err g:=HQ3.out
      subst hq
      clear HQ3 HA2 HD2
      go_wp2_with fail
      refine (HE2.out w3 H3.out).mono ?_
      rintro e4 w4 ⟨rfl,m4⟩
      have M4:=Hxq (M3.out.trans m4 (by simp))
      clear m4
      unfold stopE
      go_wp2_with fail
      exact ⟨rfl,rfl,M4.out⟩
     | ok r2 n2 =>
      obtain ⟨ex2,d2⟩:=r2
      have hn2:=(HA2.out _ n2 (by omega) rfl)
      have hd2:=HD2.out _ n2 (by omega) rfl
      simp only at hd2
      have HQ4:Hid (q=Sy.chainF v l (Sy.exprF v k (l+1)) above g' (.mk 4 (Sy.txt []) Va.zero op [e,ex2]) (1+max d d2) n2):=Lib.hid HQ3.out
      clear HQ3 HA2 HD2
      go_wp2_with fail
      refine (HE2.out w3 H3.out).mono ?_
      rintro e4 w4 ⟨y4,rfl,⟨u4,rfl,hb4⟩,h4,m4⟩
      obtain ⟨a4,c4,rfl⟩:=hb4.lit
      have z4:=m4.size
      have z3:=lt_of_block E3.out
      have M4:=Hxq (M3.out.trans m4 (by simp));have A4:=Hxq (m4.at A3.out hnb);have E4:=Hxq (m4.at E3.out hnb6);have B4:=Hxq (B3.out.keep m4 (fun s hs=>by rw [Msq] at hs;omega))
      have mF:=(Mod.refl [] w4).alloc (Obj.cells (exV ex2 (.slice a4 ex2.args.length c4)) 26)
      have dF:=heap_alloc_new w4 (Obj.cells (exV ex2 (.slice a4 ex2.args.length c4)) 26)
      have HF:=Hxq (h4.past mF (by simp));have MF:=Hxq (M4.out.trans mF (by simp));have AF:=Hxq (mF.at A4.out (by simp));have EF:=Hxq (mF.at E4.out (by simp));have DF:=Lib.hid dF;have BF:=Hxq (B4.out.keep mF (by simp));have CF:=Hxq ((hb4.mono (F':=fun k=>w.heap.size<k/\k≠w6.heap.size) (fun k hk hk2=>by omega)).keep mF (by simp))
      have zF:(w4.alloc (Obj.cells (exV ex2 (.slice a4 ex2.args.length c4)) 26)).heap.size=w4.heap.size+1:=by simp
      clear mF dF hb4 h4 m4 M3 A3 E3 B3 H3 M4 A4 E4 B4
      unfold exV at *
      simp only at *
      go_upto_region 11 with fail
      generalize w4.alloc (Obj.cells _ 26)=wF at *
      obtain ⟨x0,x1,x2,x3,x4,x5,x6⟩:=cells7 EF.out
      obtain ⟨v0,v1,v2,v3,v4,v5,v6⟩:=cells7 DF.out
      have mG:=(Mod.refl [] wF).alloc (Obj.cells #[.int .i64 e.k,.string e.v,.int .i64 e.x.k,.int .i64 e.x.n,.string (Lx.ofS e.x.s),.int .i64 e.op,.slice a e.args.length c,.int .i64 ex2.k,.string ex2.v,.int .i64 ex2.x.k,.int .i64 ex2.x.n,.string (Lx.ofS ex2.x.s),.int .i64 ex2.op,.slice a4 ex2.args.length c4] 26)
      have eG:=heap_alloc_new wF (Obj.cells #[.int .i64 e.k,.string e.v,.int .i64 e.x.k,.int .i64 e.x.n,.string (Lx.ofS e.x.s),.int .i64 e.op,.slice a e.args.length c,.int .i64 ex2.k,.string ex2.v,.int .i64 ex2.x.k,.int .i64 ex2.x.n,.string (Lx.ofS ex2.x.s),.int .i64 ex2.op,.slice a4 ex2.args.length c4] 26)
      have aG:=mG.at EF.out (by simp)
      obtain ⟨y0,y1,y2,y3,y4,y5,y6⟩:=cells7 aG
      have fA:∀ j,(wF.alloc (Obj.cells #[.int .i64 e.k,.string e.v,.int .i64 e.x.k,.int .i64 e.x.n,.string (Lx.ofS e.x.s),.int .i64 e.op,.slice a e.args.length c,.int .i64 ex2.k,.string ex2.v,.int .i64 ex2.x.k,.int .i64 ex2.x.n,.string (Lx.ofS ex2.x.s),.int .i64 ex2.op,.slice a4 ex2.args.length c4] 26)).frozen? ⟨w6.heap.size,j,none⟩=false:=fun j=>free_at aG j
      have HG:=Hxq (HF.out.past mG (by simp));have MG:=Hxq (MF.out.trans mG (by simp));have AG:=Hxq (mG.at AF.out (by simp));have EG:=Lib.hid aG;have BG:=Hxq (BF.out.keep mG (by simp));have CG:=Hxq (CF.out.keep mG (by simp))
      have zG:=lt_of_block DF.out
      rw [zF] at eG zG
      have GG:=Lib.hid eG
      clear mG eG aG
      go_upto_region 12 with fail
      generalize (wF.alloc (Obj.cells #[.int .i64 e.k,.string e.v,.int .i64 e.x.k,.int .i64 e.x.n,.string (Lx.ofS e.x.s),.int .i64 e.op,.slice a e.args.length c,.int .i64 ex2.k,.string ex2.v,.int .i64 ex2.x.k,.int .i64 ex2.x.n,.string (Lx.ofS ex2.x.s),.int .i64 ex2.op,.slice a4 ex2.args.length c4] 26))=wG at *
      have mR:=setCs_mod w6.heap.size [.int .i64 4,.string ⟨#[]⟩,.int .i64 0,.int .i64 0,.string ⟨#[]⟩,.int .i64 (op:Nat),.slice (some ⟨w4.heap.size+1,0,none⟩) 2 2] 0 wG
      have hgR:=setCs_row (vs:=[.int .i64 4,.string ⟨#[]⟩,.int .i64 0,.int .i64 0,.string ⟨#[]⟩,.int .i64 (op:Nat),.slice (some ⟨w4.heap.size+1,0,none⟩) 2 2]) EG.out rfl
      have HH:=Hxq (HG.out.new HLo.out mR (by simp;omega));have MH:=Hxq (MG.out.trans mR (by simp;omega));have AH:=Hxq (mR.at AG.out (by simp;omega));have EH:=Lib.hid hgR
      have hg:(setCs wG w6.heap.size 0 [.int .i64 4,.string ⟨#[]⟩,.int .i64 0,.int .i64 0,.string ⟨#[]⟩,.int .i64 (op:Nat),.slice (some ⟨w4.heap.size+1,0,none⟩) 2 2]).heap[w4.heap.size+1]?=_:=mR.at GG.out (by simp;omega)
      have BH:=Hxq (EB.two (k:=4) (v:=Sy.txt []) (x:=Va.zero) (op:=(op:Nat)) (F:=fun k=>w.heap.size<k/\k≠w6.heap.size) (a:=e) (b:=ex2) (u:=.slice a e.args.length c) (u':=.slice a4 ex2.args.length c4) hg (by omega) (BG.out.keep mR (fun s hs=>by rw [Msq] at hs;omega)) (CG.out.keep mR (fun s hs=>by rw [Msq] at hs;omega)) 2)
      clear mR hgR hg x0 x1 x2 x3 x4 x5 x6 v0 v1 v2 v3 v4 v5 v6 y0 y1 y2 y3 y4 y5 y6 fA
      go_wp2_with fail
      go_roundg g'
      case measure=>omega
      case rel=>exact ⟨n2,1+max d d2,.mk 4 (Sy.txt []) Va.zero (op:Nat) [e,ex2],_,2,by simp;omega,HH.out,hn2.2,by omega,by omega,AH.out,EH.out,BH.out,MH.out,HQ4.out⟩
   ·have hq:q=.ok (e,d) j:=by rw [HQ2.out,if_pos hc]
    subst hq
    have hcI:((l:Int) != (line:Int))=true:=by simp;omega
    clear HQ2 hlv
    obtain ⟨x0,x1,x2,x3,x4,x5,x6⟩:=cells7 E2.out
    obtain ⟨y0,y1,y2,y3,y4,y5,y6⟩:=cells7 A2.out
    have fA:∀ j,w2.frozen? ⟨w.heap.size,j,none⟩=false:=fun j=>free_at A2.out j
    go_wp2_with fail
    have mR:=setCs_mod w.heap.size [.int .i64 e.k,.string e.v,.int .i64 e.x.k,.int .i64 e.x.n,.string (Lx.ofS e.x.s),.int .i64 e.op,.slice a e.args.length c] 0 w2
    refine bodyPost_ret (res_ex rfl _ _ _ _ _ _ _ rfl rfl (setCs_row (vs:=[.int .i64 e.k,.string e.v,.int .i64 e.x.k,.int .i64 e.x.n,.string (Lx.ofS e.x.s),.int .i64 e.op,.slice a e.args.length c]) A2.out rfl) rfl) rfl ⟨_,rfl,⟨.slice a e.args.length c,rfl,((B2.out.keep mR (fun s hs=>by rw [Msq] at hs;omega)).mono (fun k hk _=>by omega))⟩,H2.out.new HLo.out mR (by simp),M2.out.trans mR (by simp)⟩
theorem exun (b:Nat) (ra:Option Addr) (rc:Nat) (f:Value) (v:Sy.Env) (hv:EnvOk v):∀ k,ExC b ra rc f v k/\UnC b ra rc f v k
 | 0=>⟨fun _ _ _ _ _ _ _ _ _ h=>by omega,fun _ _ _ _ _ _ h=>by omega⟩
 | k+1=>by
  have ih:=exun b ra rc f v hv k
  have hU:=un_of b ra rc f v k hv ih.2 ih.1
  refine ⟨?_,hU⟩
  intro line above i w h hi h1 h3 ha hk
  rcases Nat.lt_or_ge line 3 with hl | hl
  ·exact ex_of12 b ra rc f v k hv ih.1 line above i w h hi h1 (by omega) ha hk
  ·obtain rfl:line=3:=by omega
   exact ex_of3 b ra rc f v k hv hU above i w h hi ha (by omega)
/-- an expression, from its highest line -/
theorem expr_any (b:Nat) (ra:Option Addr) (rc:Nat) (f:Value) (v:Sy.Env) (i:Nat) (w:World) (h:RdP w b ra rc f v i) (hv:EnvOk v) (hi:i<=v.ws.length) :
  Calls Tryz.prog 39 #[.pointer (some ⟨b,0,none⟩),.int .i64 1,.int .i64 0] w (PRes b ra rc f v (Sy.exprF v 60 1 0 i) (valX w.heap.size) w) :=
 (exun b ra rc f v hv 60).1 1 0 i w h hi (by omega) (by omega) (by omega) (by omega)
/-- a literal's slices -/
structure LU where
 t:Value
 l:Value
 r:Value
 o:Value
 b:Value
def liV:Pr.Li->LU->Array Value
 | .mk k a op l r fn av of body ln cl,U=>#[.int .i64 k,.string a.rel,U.t,.int .i64 op,.int .i64 l.k,.string l.v,.int .i64 l.x.k,.int .i64 l.x.n,.string (Lx.ofS l.x.s),.int .i64 l.op,U.l,.int .i64 r.k,.string r.v,.int .i64 r.x.k,.int .i64 r.x.n,.string (Lx.ofS r.x.s),.int .i64 r.op,U.r,.int .i64 fn,.string av,.int .i64 of.k,.string of.v,.int .i64 of.x.k,.int .i64 of.x.n,.string (Lx.ofS of.x.s),.int .i64 of.op,U.o,U.b,.int .i64 ln,.int .i64 cl]
inductive LB (F:Nat->Prop) (w:World):Pr.Li->LU->Prop
 | mk {k:Int} {a:Pr.Atom} {op:Int} {l r:Pr.Ex} {fn:Int} {av:ByteArray} {of:Pr.Ex} {body:List Pr.Li} {ln cl:Int} {U:LU} {ub:Option Addr} {cb:Nat} {us:Nat->LU}
   (ht:RowB F w 5 tmV a.terms U.t) (hl:EB F w l U.l) (hr:EB F w r U.r) (ho:EB F w of U.o) (hb:U.b=.slice ub body.length cb)
   (h1:∀ i (h:i<body.length),∃ g off,ub=some ⟨g,off,none⟩/\F g/\g<w.heap.size/\CellsAt w g (off+i * 30) (liV body[i] (us i)))
   (h2:∀ i (h:i<body.length),LB F w body[i] (us i)) (hcap:body.length<=cb:=by first | assumption | omega | simp):LB F w (.mk k a op l r fn av of body ln cl) U
/-- a body -/
def BB (F:Nat->Prop) (w:World) (body:List Pr.Li) (u:Value):Prop:=∃ (ub:Option Addr) (cb:Nat) (us:Nat->LU),u=.slice ub body.length cb /\
 (∀ i (h:i<body.length),∃ g off,ub=some ⟨g,off,none⟩/\F g/\g<w.heap.size/\CellsAt w g (off+i * 30) (liV body[i] (us i)))/\(∀ i (h:i<body.length),LB F w body[i] (us i))/\body.length<=cb
theorem LB.parts {F:Nat->Prop} {w:World} {k:Int} {a:Pr.Atom} {op:Int} {l r:Pr.Ex} {fn:Int} {av:ByteArray} {of:Pr.Ex} {body:List Pr.Li} {ln cl:Int} {U:LU} (h:LB F w (.mk k a op l r fn av of body ln cl) U) :
  RowB F w 5 tmV a.terms U.t/\EB F w l U.l/\EB F w r U.r/\EB F w of U.o/\BB F w body U.b:=by
 cases h with
 | mk ht hl hr ho hb h1 h2 hcap=>exact ⟨ht,hl,hr,ho,_,_,_,hb,h1,h2,hcap⟩
theorem LB.of {F:Nat->Prop} {w:World} {k:Int} {a:Pr.Atom} {op:Int} {l r:Pr.Ex} {fn:Int} {av:ByteArray} {of:Pr.Ex} {body:List Pr.Li} {ln cl:Int} {U:LU} (ht:RowB F w 5 tmV a.terms U.t) (hl:EB F w l U.l) (hr:EB F w r U.r) (ho:EB F w of U.o) (hb:BB F w body U.b) :
  LB F w (.mk k a op l r fn av of body ln cl) U:=by
 obtain ⟨ub,cb,us,hu,h1,h2,hcap⟩:=hb
 exact .mk ht hl hr ho hu h1 h2 hcap
theorem LB.keep {F:Nat->Prop} {S:List Nat} {w w':World} {e:Pr.Li} {U:LU} (h:LB F w e U) (hm:Mod S w w') (hS:∀ s∈S,¬ F s):LB F w' e U:=by
 induction h with
 | mk ht hl hr ho hb h1 h2 hcap ih =>
  refine .mk (ht.keep hm hS) (hl.keep hm hS) (hr.keep hm hS) (ho.keep hm hS) hb (fun i h=>?_) ih hcap
  obtain ⟨g,off,hu,hF,hg,hc⟩:=h1 i h
  exact ⟨g,off,hu,hF,Nat.lt_of_lt_of_le hg hm.size,hc.keep hm (fun hs=>hS _ hs hF)⟩
theorem LB.mono {F F':Nat->Prop} {w:World} {e:Pr.Li} {U:LU} (h:LB F w e U) (hF:∀ k,F k->k<w.heap.size->F' k):LB F' w e U:=by
 induction h with
 | mk ht hl hr ho hb h1 h2 hcap ih =>
  refine .mk (ht.mono hF) (hl.mono hF) (hr.mono hF) (ho.mono hF) hb (fun i h=>?_) ih hcap
  obtain ⟨g,off,hu,hf,hg,hc⟩:=h1 i h
  exact ⟨g,off,hu,hF _ hf hg,hg,hc⟩
theorem BB.keep {F:Nat->Prop} {S:List Nat} {w w':World} {l:List Pr.Li} {u:Value} (h:BB F w l u) (hm:Mod S w w') (hS:∀ s∈S,¬ F s):BB F w' l u:=by
 obtain ⟨ub,cb,us,hu,h1,h2,hcap⟩:=h
 refine ⟨ub,cb,us,hu,fun i h=>?_,fun i h=>(h2 i h).keep hm hS,hcap⟩
 obtain ⟨g,off,hu,hF,hg,hc⟩:=h1 i h
 exact ⟨g,off,hu,hF,Nat.lt_of_lt_of_le hg hm.size,hc.keep hm (fun hs=>hS _ hs hF)⟩
theorem BB.mono {F F':Nat->Prop} {w:World} {l:List Pr.Li} {u:Value} (h:BB F w l u) (hF:∀ k,F k->k<w.heap.size->F' k):BB F' w l u:=by
 obtain ⟨ub,cb,us,hu,h1,h2,hcap⟩:=h
 refine ⟨ub,cb,us,hu,fun i h=>?_,fun i h=>(h2 i h).mono hF,hcap⟩
 obtain ⟨g,off,hu,hf,hg,hc⟩:=h1 i h
 exact ⟨g,off,hu,hF _ hf hg,hg,hc⟩
theorem BB.lit {F:Nat->Prop} {w:World} {l:List Pr.Li} {u:Value} (h:BB F w l u):∃ a c,u=.slice a l.length c:=by
 obtain ⟨ub,cb,us,hu,-⟩:=h
 exact ⟨_,_,hu⟩
theorem BB.at {F:Nat->Prop} {w:World} {l:List Pr.Li} {a:Option Addr} {c:Nat} (h:BB F w l (.slice a l.length c)) (i:Nat) (hi:i<l.length):∃ g off U,a=some ⟨g,off,none⟩/\CellsAt w g (off+i * 30) (liV l[i] U)/\LB F w l[i] U:=by
 obtain ⟨ub,cb,us,hu,h1,h2,-⟩:=h
 obtain ⟨g,off,hu2,hF,hg,hc⟩:=h1 i hi
 simp only [Value.slice.injEq] at hu
 exact ⟨g,off,us i,hu.1.trans hu2,hc,h2 i hi⟩
theorem BB.nil {F:Nat->Prop} {w:World} {a:Option Addr} {c:Nat}:BB F w [] (.slice a 0 c):=⟨a,c,fun _=>⟨.slice none 0 0,.slice none 0 0,.slice none 0 0,.slice none 0 0,.slice none 0 0⟩,rfl,fun i h=>absurd h (by simp),fun i h=>absurd h (by simp),Nat.zero_le _⟩
theorem BB.cap {F:Nat->Prop} {w:World} {l:List Pr.Li} {a:Option Addr} {c:Nat} (h:BB F w l (.slice a l.length c)):l.length<=c:=by
 obtain ⟨ub,cb,us,hu,-,-,hcap⟩:=h
 simp only [Value.slice.injEq] at hu
 omega
/-- out of a row of literals with their slices -/
theorem BB.of_row {F:Nat->Prop} {w:World} {u:Value} (l:List (Pr.Li × LU)) (h:RowB F w 30 (fun p:Pr.Li × LU=>liV p.1 p.2) l u) (hs:∀ p∈l,LB F w p.1 p.2):BB F w (l.map (·.1)) u:=by
 cases h with
 | nil=>exact BB.nil
 | row hF hb h1 hcap =>
  rename_i g off c
  refine ⟨some ⟨g,off,none⟩,c,fun i=>if h:i<l.length then l[i].2 else ⟨.slice none 0 0,.slice none 0 0,.slice none 0 0,.slice none 0 0,.slice none 0 0⟩,by simp,fun i hi=>?_,fun i hi=>?_,by simpa using hcap⟩
  ·rw [List.length_map] at hi
   refine ⟨_,_,rfl,hF,hb,?_⟩
   simp only [dif_pos hi,List.getElem_map]
   exact h1 i hi
  ·rw [List.length_map] at hi
   simp only [dif_pos hi,List.getElem_map]
   exact hs _ (List.getElem_mem hi)
theorem liV_size (p:Pr.Li × LU):(liV p.1 p.2).size=30:=by
 obtain ⟨⟨k,a,op,l,r,fn,av,of,body,ln,cl⟩,U⟩:=p
 rfl
def valL (n:Nat):Pr.Li->World->Value->Prop:=fun l w x=>∃ U,x=.agg (liV l U)/\LB (fun k=>n<=k) w l U
def valB (n:Nat):List Pr.Li->World->Value->Prop:=fun l w x=>BB (fun k=>n<=k) w l x
/-- an aggregate in memory -/
def agV (g:Sy.Ag) (uo ub:Value):Array Value:=#[.int .i64 g.fn,.string g.av,.int .i64 g.of.k,.string g.of.v,.int .i64 g.of.x.k,.int .i64 g.of.x.n,.string (Lx.ofS g.of.x.s),.int .i64 g.of.op,uo,ub]
def valG (n:Nat):Sy.Ag->World->Value->Prop:=fun g w x=>∃ uo ub,x=.agg (agV g uo ub)/\EB (fun k=>n<=k) w g.of uo/\BB (fun k=>n<=k) w g.body ub
def LiC (b:Nat) (ra:Option Addr) (rc:Nat) (f:Value) (v:Sy.Env) (k br:Nat):Prop:=∀ (i:Nat) (w:World),RdP w b ra rc f v i->i<=v.ws.length ->
 Calls Tryz.prog 18 #[.pointer (some ⟨b,0,none⟩),.int .i64 (br:Nat)] w (PRes b ra rc f v (Sy.litF v k br i) (valL w.heap.size) w)
def BoC (b:Nat) (ra:Option Addr) (rc:Nat) (f:Value) (v:Sy.Env) (k br:Nat):Prop:=∀ (i:Nat) (w:World),RdP w b ra rc f v i->i<=v.ws.length ->
 Calls Tryz.prog 63 #[.pointer (some ⟨b,0,none⟩),.int .i64 (br:Nat)] w (PRes b ra rc f v (Sy.bodyOf v (Sy.litF v k br) i) (valB w.heap.size) w)
theorem bodyF_eq (v:Sy.Env) (one:Nat->Sy.PR Pr.Li) (k:Nat) (acc:List Pr.Li) (i:Nat):Sy.bodyF v one (k+1) acc i =
  if Sy.sign (v.tk i) [44]=true then (one (i+1)).bind fun a j=>Sy.bodyF v one k (acc++[a]) j else .ok acc i:=by rw [Sy.bodyF]
/-- literals read so far: their row, their slices in other blocks -/
structure BI (w0 W:World) (b:Nat) (acc:List (Pr.Li × LU)) (va:Option Addr) (vc:Nat):Prop where
 row:W.ownsRow 0 40 30 (.slice va acc.length vc) acc.length (rowCells (fun p:Pr.Li × LU=>liV p.1 p.2) acc)
 new:∀ k∈fp (.slice va acc.length vc),w0.heap.size<=k
 sub:∀ p∈acc,LB (fun k=>w0.heap.size<=k/\k∉fp (.slice va acc.length vc)) W p.1 p.2
 bl:b<w0.heap.size
 mod:Mod [b] w0 W
theorem BI.keep {w0 W W':World} {b:Nat} {acc:List (Pr.Li × LU)} {va:Option Addr} {vc:Nat} (h:BI w0 W b acc va vc) (hm:Mod [b] W W'):BI w0 W' b acc va vc:=by
 have hb:=h.bl
 refine ⟨hm.owns h.row (fun k hk=>?_),h.new,fun p hp=>(h.sub p hp).keep hm (fun s hs=>?_),h.bl,h.mod.trans hm (by simp)⟩
 ·have:=h.new k hk
  simp;omega
 ·rw [Msq] at hs
  omega
theorem BI.grow {w0 W W':World} {b:Nat} {acc:List (Pr.Li × LU)} {va va':Option Addr} {vc vc':Nat} {p:Pr.Li × LU} {n:Nat} (h:BI w0 W b acc va vc) (hm:Mod (fp (.slice va acc.length vc)) W W') (hp:LB (fun k=>n<=k) W p.1 p.2) (hn:∀ k∈fp (.slice va acc.length vc),k<n) (hn0:w0.heap.size<=n)
  (hown:W'.ownsRow 0 40 30 (.slice va' (acc.length+1) vc') (acc.length+1) (rowCells (fun p:Pr.Li × LU=>liV p.1 p.2) acc++(liV p.1 p.2).toList)) (hf:∀ k∈fp (.slice va' (acc.length+1) vc'),k∈fp (.slice va acc.length vc)\/W.heap.size<=k) :
  BI w0 W' b (acc++[p]) va' vc':=by
 have e1:(acc++[p]).length=acc.length+1:=by simp
 have hnew:=h.new
 have hsz:=h.mod.size
 have hnew':∀ k∈fp (.slice va' (acc.length+1) vc'),w0.heap.size<=k:=fun k hk=>by
  rcases hf k hk with hh | hh
  ·exact hnew k hh
  ·omega
 refine ⟨?_,by rw [e1];exact hnew',?_,h.bl,h.mod.trans hm (fun k hk=>.inr (hnew k hk))⟩
 ·rw [e1,rowCells_snoc]
  exact hown
 ·intro q hq
  rw [e1]
  rcases List.mem_append.1 hq with hq | hq
  ·refine ((h.sub q hq).mono (F':=fun k=>w0.heap.size<=k/\k∉fp (.slice va acc.length vc)/\k<W.heap.size) (fun k hk hk2=>⟨hk.1,hk.2,hk2⟩)).keep hm (fun s hs hh=>hh.2.1 hs) |>.mono (fun k hk hk2=>⟨hk.1,fun hh=>?_⟩)
   rcases hf k hh with h1 | h1
   ·exact hk.2.1 h1
   ·have:=hk.2.2;omega
  ·rw [Msq] at hq
   subst hq
   refine (hp.mono (F':=fun k=>n<=k/\k<W.heap.size) (fun k hk hk2=>⟨hk,hk2⟩)).keep hm (fun s hs hh=>by have:=hn s hs;omega) |>.mono (fun k hk hk2=>⟨by omega,fun hh=>?_⟩)
   rcases hf k hh with h1 | h1
   ·have:=hn k h1;omega
   ·have:=hk.2;omega
theorem BI.body {w0 W:World} {b:Nat} {acc:List (Pr.Li × LU)} {va:Option Addr} {vc:Nat} (h:BI w0 W b acc va vc):BB (fun k=>w0.heap.size<=k) W (acc.map (·.1)) (.slice va acc.length vc) :=
 BB.of_row acc (RowB.of_owns liV_size h.row h.new) (fun p hp=>(h.sub p hp).mono (fun k hk _=>hk.1))
theorem liV_one (p:Pr.Li × LU) {F:Nat->Prop} {w:World} (h:LB F w p.1 p.2):∀ u∈(liV p.1 p.2).toList,u.oneCell'=true:=by
 obtain ⟨e,U⟩:=p
 cases h with
 | mk ht hl hr ho hb h1 h2 =>
  rename_i U'
  obtain ⟨t,l,r,o,b⟩:=U
  obtain ⟨a1,c1,rfl⟩:=ht.lit
  obtain ⟨a2,c2,rfl⟩:=hl.lit
  obtain ⟨a3,c3,rfl⟩:=hr.lit
  obtain ⟨a4,c4,rfl⟩:=ho.lit
  subst hb
  intro u hu
  simp only [liV,List.mem_cons,List.not_mem_nil,or_false] at hu
  rcases hu with rfl | rfl | rfl | rfl | rfl | rfl | rfl | rfl | rfl | rfl | rfl | rfl | rfl | rfl | rfl | rfl | rfl | rfl | rfl | rfl | rfl | rfl | rfl | rfl | rfl | rfl | rfl | rfl | rfl | rfl <;> rfl
theorem Tryz.infoLit:(Tryz.prog.info? 40).map (fun i=>(i.zero,i.size,i.bytes))=some (some (.agg #[Value.int IntKind.i64 0,Value.string ⟨#[]⟩,Value.slice none 0 0,Value.int IntKind.i64 0,Value.int IntKind.i64 0,Value.string ⟨#[]⟩,Value.int IntKind.i64 0,Value.int IntKind.i64 0,Value.string ⟨#[]⟩,Value.int IntKind.i64 0,Value.slice none 0 0,Value.int IntKind.i64 0,Value.string ⟨#[]⟩,Value.int IntKind.i64 0,Value.int IntKind.i64 0,Value.string ⟨#[]⟩,Value.int IntKind.i64 0,Value.slice none 0 0,Value.int IntKind.i64 0,Value.string ⟨#[]⟩,Value.int IntKind.i64 0,Value.string ⟨#[]⟩,Value.int IntKind.i64 0,Value.int IntKind.i64 0,Value.string ⟨#[]⟩,Value.int IntKind.i64 0,Value.slice none 0 0,Value.slice none 0 0,Value.int IntKind.i64 0,Value.int IntKind.i64 0]),30,384):=by kernel_rfl
set_option maxHeartbeats 4000000 in
theorem body_of (b:Nat) (ra:Option Addr) (rc:Nat) (f:Value) (v:Sy.Env) (k br:Nat) (hv:EnvOk v) (hL:LiC b ra rc f v k br):BoC b ra rc f v k br:=by
 intro i w h hi
 have hlen:=hv.len
 have HL:=Lib.hid hL
 have HR:Hid (Sy.bodyOf v (Sy.litF v k br) i=(Sy.litF v k br i).bind fun a j=>Sy.bodyF v (Sy.litF v k br) (v.ws.length+1) [a] j):=Lib.hid rfl
 have HA:=Hxq (Sy.adv_litF v k br)
 have H0:=Lib.hid h
 have hbl:=h.lt
 have HLo:=Lib.hid h.low
 clear h hL
 generalize hq:Sy.bodyOf v (Sy.litF v k br) i=q at *
 clear hq
 cases ho:Sy.litF v k br i with
 | err g =>
  have hq:=HR.out
  rw [ho] at hq
  have hq2:q=.err g:=hq
  subst hq2
  have HHo:=Lib.hid ho
  clear hq ho HR
  go_enter Tryz.func63,Tryz.ntmps63
  go_wp2_with fail
  refine (HL.out i w H0.out hi).mono ?_
  rw [HHo.out]
  rintro e2 w2 ⟨rfl,m2⟩
  have M2:=Lib.hid m2
  clear m2
  unfold stopE
  go_wp2_with fail
  exact ⟨rfl,rfl,M2.out⟩
 | ok a0 j0 =>
  have hq:=HR.out
  rw [ho] at hq
  have HQ:Hid (q=Sy.bodyF v (Sy.litF v k br) (v.ws.length+1) [a0] j0):=Lib.hid hq
  have hj0:=HA.out i a0 j0 hi ho
  have HHo:=Lib.hid ho
  clear hq ho HR
  go_enter Tryz.func63,Tryz.ntmps63
  go_wp2_with fail
  refine (HL.out i w H0.out hi).mono ?_
  rw [HHo.out]
  rintro e2 w2 ⟨y2,rfl,⟨U2,rfl,hb2⟩,h2,m2⟩
  have z2:=m2.size
  have FB:Hid (∀ wX,wX=w2.alloc (Obj.cells (liV a0 U2) 40)->BI w wX b [(a0,U2)] (some ⟨w2.heap.size,0,none⟩) 1/\RdP wX b ra rc f v j0):=Hxq (fun wX e=>by
   subst e
   have mA:=(Mod.refl [] w2).alloc (Obj.cells (liV a0 U2) 40)
   refine ⟨⟨?_,fun k hk=>by simp [fp] at hk;omega,fun p hp=>?_,hbl,m2.trans mA (by simp)⟩,h2.past mA (by simp)⟩
   ·have:=World.ownsRow_lit (base:=0) (e:=40) (size:=30) w2 (liV a0 U2) 1 (by omega) (by unfold maxLen;omega) (by rw [liV_size (a0,U2)])
    simpa [rowCells] using this
   ·rw [Msq] at hp
    subst hp
    refine (hb2.mono (F':=fun k=>w.heap.size<=k/\k∉fp (.slice (some ⟨w2.heap.size,0,none⟩) 1 1)) (fun k hk hk2=>⟨hk,by simp [fp];omega⟩)).keep mA (by simp))
  clear h2 m2 hb2
  obtain ⟨c1,c2,c3,c4,c5,c6,c7,c8,c9,c10,c11⟩:=a0
  obtain ⟨U2t,U2l,U2r,U2o,U2b⟩:=U2
  unfold liV
  simp only
  go_upto_region 2 with fail
  generalize hwX:w2.alloc (Obj.cells _ 40)=wX
  obtain ⟨BX,HX⟩:=FB.out wX hwX.symm
  have BX:=Lib.hid BX;have HX:=Lib.hid HX
  clear FB hwX
  obtain ⟨iL,hinf,hz0,hz1,hz2⟩:=info_parts Tryz.infoLit
  go_loopg [5] (v.ws.length+1) (fun gk lv wr=>∃ (j:Nat) (acc:List (Pr.Li × LU)) (va:Option Addr) (vc:Nat),lv=.slice va acc.length vc/\BI w wr b acc va vc/\RdP wr b ra rc f v j/\j<=v.ws.length/\v.ws.length+1<=gk+j/\acc.length<=j+1/\q=Sy.bodyF v (Sy.litF v k br) gk (acc.map (·.1)) j)
  case atStart=>exact ⟨j0,_,_,_,rfl,BX.out,HX.out,hj0.2,by omega,by simp,HQ.out⟩
  case round =>
   obtain ⟨j,acc,va,vc,rfl,hI,hr,hj,hgk,hal,hq⟩:=hrel
   obtain ⟨g',rfl⟩:∃ g',gk=g'+1:=⟨gk - 1,by omega⟩
   rw [bodyF_eq] at hq
   have HI:=Lib.hid hI;have HQ2:=Lib.hid hq
   have HMy:=Hxq (may_any b ra rc f v j [44] { data:=#[44] } wr hr hv (by omega) rfl (by decide))
   have hslt:=fun h=>Sy.sign_lt (v:=v) (i:=j) (s:=[44]) h
   clear hI hr hq HQ BX HX
   generalize Sy.sign (v.tk j) [44]=sg at *
   cases sg
   ·have hq:q=.ok (acc.map (·.1)) j:=HQ2.out
    subst hq
    clear HQ2 hslt
    go_wp2_with fail
    refine HMy.out.mono ?_
    rintro e3 w3 ⟨rfl,h3,m3⟩
    have I3:=Hxq (HI.out.keep m3);have H3:=Hxq (show RdP w3 b ra rc f v j from h3)
    clear h3 m3
    go_wp2_with fail
    go_ret
    exact ⟨_,rfl,by have:=I3.out.body;unfold valB;simpa using this,H3.out,I3.out.mod⟩
   ·have hq:q=(Sy.litF v k br (j+1)).bind fun a j=>Sy.bodyF v (Sy.litF v k br) g' (acc.map (·.1)++[a]) j:=HQ2.out
    have hjl:j<v.ws.length:=hslt rfl
    clear HQ2 hslt
    cases ho:Sy.litF v k br (j+1) with
    | err g =>
     rw [ho] at hq
     have hq2:q=.err g:=hq
     subst hq2
     have HHo2:=Lib.hid ho
     clear hq ho
     go_wp2_with fail
     refine HMy.out.mono ?_
     rintro e3 w3 ⟨rfl,h3,m3⟩
     have I3:=Hxq (HI.out.keep m3);have H3:=Hxq (show RdP w3 b ra rc f v (j+1) from h3)
     clear h3 m3
     go_wp2_with fail
     refine (HL.out (j+1) w3 H3.out (by omega)).mono ?_
     rw [HHo2.out]
     rintro e4 w4 ⟨rfl,m4⟩
     have M4:=Hxq (I3.out.mod.trans m4 (by simp))
     clear m4
     unfold stopE
     go_wp2_with fail
     exact ⟨rfl,rfl,M4.out⟩
    | ok a1 j1 =>
     rw [ho] at hq
     have HQ3:Hid (q=Sy.bodyF v (Sy.litF v k br) g' (acc.map (·.1)++[a1]) j1):=Lib.hid hq
     have hj1:=HA.out (j+1) a1 j1 (by omega) ho
     have HHo2:=Lib.hid ho
     clear hq ho
     go_wp2_with fail
     refine HMy.out.mono ?_
     rintro e3 w3 ⟨rfl,h3,m3⟩
     have I3:=Hxq (HI.out.keep m3);have H3:=Hxq (show RdP w3 b ra rc f v (j+1) from h3)
     clear h3 m3
     go_wp2_with fail
     refine (HL.out (j+1) w3 H3.out (by omega)).mono ?_
     rw [HHo2.out]
     rintro e4 w4 ⟨y4,rfl,⟨U4,rfl,hb4⟩,h4,m4⟩
     have I4:=Hxq (I3.out.keep m4)
     have hn4:=Hxq (fun k hk=>fp_lt I3.out.row k hk)
     have hz3:=Lib.hid I3.out.mod.size
     have FB:Hid (∀ wX,wX=w4.alloc (Obj.cells (liV a1 U4) 40)->BI w wX b acc va vc/\RdP wX b ra rc f v j1/\LB (fun k=>w3.heap.size<=k) wX a1 U4/\Src Tryz.prog 30 34 (.slice (some ⟨w4.heap.size,0,none⟩) 1 1) 1 (liV a1 U4).toList wX):=Hxq (fun wX e=>by
      subst e
      have mA:=(Mod.refl [] w4).alloc (Obj.cells (liV a1 U4) 40)
      exact ⟨I4.out.keep (mA.mono (by simp)),h4.past mA (by simp),hb4.keep mA (by simp),src_one Tryz.underlying34 (heap_alloc_new w4 (Obj.cells (liV a1 U4) 40)) (liV_size (a1,U4)) (liV_one (a1,U4) hb4)⟩)
     clear h4 m4 hb4
     obtain ⟨d1,d2,d3,d4,d5,d6,d7,d8,d9,d10,d11⟩:=a1
     obtain ⟨U4t,U4l,U4r,U4o,U4b⟩:=U4
     unfold liV
     simp only
     go_wp2_with (at_builtin;refine wpList_append_src _ rfl _ _ 34 34 rfl 40 iL (.agg #[Value.int IntKind.i64 0,Value.string ⟨#[]⟩,Value.slice none 0 0,Value.int IntKind.i64 0,Value.int IntKind.i64 0,Value.string ⟨#[]⟩,Value.int IntKind.i64 0,Value.int IntKind.i64 0,Value.string ⟨#[]⟩,Value.int IntKind.i64 0,Value.slice none 0 0,Value.int IntKind.i64 0,Value.string ⟨#[]⟩,Value.int IntKind.i64 0,Value.int IntKind.i64 0,Value.string ⟨#[]⟩,Value.int IntKind.i64 0,Value.slice none 0 0,Value.int IntKind.i64 0,Value.string ⟨#[]⟩,Value.int IntKind.i64 0,Value.string ⟨#[]⟩,Value.int IntKind.i64 0,Value.int IntKind.i64 0,Value.string ⟨#[]⟩,Value.int IntKind.i64 0,Value.slice none 0 0,Value.slice none 0 0,Value.int IntKind.i64 0,Value.int IntKind.i64 0]) 30 384 Tryz.underlying34 hinf hz0 hz1 hz2 rfl (.slice va acc.length vc) acc.length (rowCells (fun p:Pr.Li × LU=>liV p.1 p.2) acc) rfl (FB.out _ rfl).1.row _ 1 (liV (.mk d1 d2 d3 d4 d5 d6 d7 d8 d9 d10 d11) ⟨U4t,U4l,U4r,U4o,U4b⟩).toList rfl (FB.out _ rfl).2.2.2 (by unfold maxLen;omega) (by omega) ?_)
     intro v' w5 hown5 hm5 hf5 hn5
     obtain ⟨va5,vc5,rfl⟩:=owns_slice hown5
     obtain ⟨BX,HX,LX,SX⟩:=FB.out _ rfl
     have G5:=Hxq (BX.grow (p:=(.mk d1 d2 d3 d4 d5 d6 d7 d8 d9 d10 d11,⟨U4t,U4l,U4r,U4o,U4b⟩)) hm5 LX hn4.out hz3.out hown5 (fun k hk=>by
      rcases hf5 k hk with hh | hh
      ·exact .inl hh
      ·exact .inr (by simpa using hh)))
     have H5:=Hxq (HX.new HLo.out hm5 BX.new)
     clear hown5 hm5 hf5 hn5 BX HX LX SX FB
     go_wp2_with fail
     go_roundg g'
     case measure=>omega
     case rel=>exact ⟨j1,_,va5,vc5,by simp,G5.out,H5.out,hj1.2,by omega,by simp;omega,by rw [HQ3.out];simp⟩
end Go.Proofs.YtbfaclljbbfknaaGreatDoor
