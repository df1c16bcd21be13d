/- THE TEXTS MERGED: RpRel. -/
import Derived.Test.YtppigckioalhhaaGreatDoorRKS1
import Derived.Test.YtppigckioalhhaaGreatDoorRKS37
import Derived.Test.YtppigckioalhhaaGreatDoorRKS20
namespace Go.Proofs.YtppigckioalhhaaGreatDoorR
open Go.RowKit
set_option linter.unusedVariables false
set_option linter.unusedSimpArgs false
set_option maxRecDepth 100000
def BY (F:Nat->Prop) (w:World) (x:Int):Prop:=True
theorem bearsY:Bears 1 intC BY:=⟨intC_size,fun _ _ _=>trivial,fun _ _=>trivial⟩
def badR (x:Value):Prop:=∃ (s:ByteArray) (a:Option Addr) (n c:Nat) (l k:Int),x=.agg #[.string s,.slice a n c,.int .i64 l,.int .i64 k]
theorem Tryz.sizeRe:(Tryz.prog.info? 81).map (·.size)=some 4:=by kernel_rfl
theorem load_re {w:World} {b:Nat} {C:Array Value} {T:TypeId} {fr:Nat × Nat} (hg:w.heap[b]?=some (.cells C T fr)) (hc:C.size=4):(loadVar 81 ⟨b,0,none⟩).run Tryz.prog w=.ok (.agg C) w :=
 run_loadVar_row (P:=Tryz.prog) w b T 81 C fr _ hg Tryz.underlying81 rfl (by rw [Tryz.sizeRe,hc])
theorem ty_cases (t:Lx.Tok):Sy.tyOf t=if Sy.sign t [110,117,109]=true then 1 else if Sy.sign t [115,121,109]=true then 2 else 0:=by
 unfold Sy.tyOf Sy.place
 rw [Sy.placeF,Sy.placeF,Sy.placeF]
set_option maxHeartbeats 16000000 in
theorem rrelation_any (b:Nat) (ra:Option Addr) (rc:Nat) (L:LX) (v:Sy.Env) (i:Nat) (w:World) (h:RpP w b ra rc L v i nf0) (hk:EnvK v) (hi:i<v.ws.length) :
  Calls Tryz.prog 34 #[.pointer (some ⟨b,0,none⟩)] w (RRes b ra rc L v (Sy.relation v (i+1)) (valRel w.heap.size) badR w):=by
 obtain ⟨i0,hinf,hz0,hz1,hz2⟩:=info_parts Tryz.infoInt
 have hv:=hk.ok
 have hlen:=hv.len
 have mA:=(Mod.refl [] w).alloc (Obj.cells #[.string ⟨#[]⟩,.slice none 0 0,.int .i64 0,.int .i64 0] 81)
 have hA:=h.past mA (by simp)
 have eA:=heap_alloc_new w (Obj.cells #[.string ⟨#[]⟩,.slice none 0 0,.int .i64 0,.int .i64 0] 81)
 have hsA:(w.alloc (Obj.cells #[.string ⟨#[]⟩,.slice none 0 0,.int .i64 0,.int .i64 0] 81)).heap.size=w.heap.size+1:=by simp
 have HR:Hid (Sy.relation v (i+1)=if Sy.plain (v.tk (i+1))=true then (Sy.must v [40] (i+2)).bind fun _ j=>(Sy.list v [41] (Sy.ty v) j).bind fun l j=>.ok ⟨Sy.txt (v.tk (i+1)).text,l,(v.tk (i+1)).line,(v.tk (i+1)).col⟩ j else .err (v.give 40 (i+1))):=Hxq (by
  unfold Sy.relation Sy.name
  split <;> rfl)
 have HW:=Hxq (fun w h=>rword0 b ra rc L v (i+1) nf0 w h hv (by omega))
 have HN:=Hxq (fun w=>rname_any (v.tk (i+1)) w (hv.tbyte (i+1)))
 have HS:=Hxq (fun j w h hj=>rstop_any b ra rc L v j 40 w h hv hj)
 have hlt:=fun h=>Sy.plain_lt (v:=v) (i:=i+1) h
 have HIs1:=Hxq (fun j w h hj=>ris_any b ra rc L v j nf0 [41] { data:=#[41] } w h hv hj rfl (by decide))
 have HIs2:=Hxq (fun j w h hj=>ris_any b ra rc L v j nf0 [44] { data:=#[44] } w h hv hj rfl (by decide))
 have HIn:=Hxq (fun j w h hj=>ris_any b ra rc L v j nf0 [110,117,109] { data:=#[110,117,109] } w h hv hj rfl (by decide))
 have HIy:=Hxq (fun j w h hj=>ris_any b ra rc L v j nf0 [115,121,109] { data:=#[115,121,109] } w h hv hj rfl (by decide))
 have HTk1:=Hxq (rtake_any b ra rc L v (i+2) [40] { data:=#[40] })
 have HTk2:=Hxq (fun j w h hj=>rtake_any b ra rc L v j [41] { data:=#[41] } w h hv hj rfl (by decide))
 have HLo:=Lib.hid h.low
 have hbl:=h.lt
 have HH:=Lib.hid hA;have EA:=Lib.hid eA;have MA:=Lib.hid mA
 clear h hA eA mA
 generalize hrp:Sy.plain (v.tk (i+1))=rp at *
 generalize v.tk (i+1)=t at *
 generalize Sy.relation v (i+1)=q at *
 go_enter Tryz.func34,Tryz.ntmps34
 go_upto_region 1 with fail
 generalize w.alloc (Obj.cells #[.string ⟨#[]⟩,.slice none 0 0,.int .i64 0,.int .i64 0] 81)=wA at *
 obtain ⟨c0,c1,c2,c3,c4,c5,c6,c7,c8,c9,fz⟩:=HH.out.cells
 have hT:=HH.out.to (i+1)
 have a0:(wA.setCell ⟨b,6,none⟩ (.int .i64 ((i:Int)+1))).heap[w.heap.size]?=_:=hT.2.at EA.out (by simp;omega)
 have H0:Hid (RpP (wA.setCell ⟨b,6,none⟩ (.int .i64 ((i:Int)+1))) b ra rc L v (i+1) nf0):=Lib.hid hT.1
 have M0:Hid (Mod [b] w (wA.setCell ⟨b,6,none⟩ (.int .i64 ((i:Int)+1)))):=Hxq ((MA.out.mono (T:=[b]) (by simp)).trans hT.2 (by simp))
 clear hT
 go_upto_region 2 with fail
 generalize wA.setCell ⟨b,6,none⟩ (.int .i64 ((i:Int)+1))=w0 at *
 clear c0 c1 c2 c3 c4 c5 c6 c7 c8 c9 fz
 have A0:=Lib.hid a0
 clear a0
 go_wp2_with fail
 refine (HW.out w0 H0.out).mono ?_
 rintro e1 w1 ⟨rfl,m1⟩
 have z1:=m1.size
 have mT:=(Mod.refl [] w1).alloc (Obj.cells (tokC t) 74)
 have eT:=heap_alloc_new w1 (Obj.cells (tokC t) 74)
 have HB:=Hxq ((H0.out.past m1 (by simp)).past mT (by simp));have MB:=Hxq ((M0.out.trans m1 (by simp)).trans mT (by simp));have AB:=Hxq (mT.at (m1.at A0.out (by simp)) (by have:=lt_of_block (m1.at A0.out (by simp));simp));have TB:=Lib.hid eT
 have zT0:=lt_of_block (m1.at A0.out (by simp))
 have zb1:=(H0.out.past m1 (by simp)).lt
 clear m1 mT eT HW
 unfold tokC at *
 go_upto_region 3 with fail
 generalize w1.alloc (Obj.cells _ 74)=wB at *
 obtain ⟨x0,x1,x2,x3,x4,x5,x6⟩:=tok_cells (t:=t) TB.out
 go_wp2_with fail
 refine (HN.out wB).mono ?_
 rintro e3 w3 ⟨rfl,m3⟩
 have A3:=Hxq (m3.at AB.out (by simp));have T3:=Hxq (m3.at TB.out (by simp));have H3:=Hxq (HB.out.past m3 (by simp));have M3:=Hxq (MB.out.trans m3 (by simp));have z3':=m3.size
 clear m3 x0 x1 x2 x3 x4 x5 x6
 cases rp
 ·have hq:q=.err (v.give 40 (i+1)):=HR.out
  subst hq
  clear HR
  go_wp2_with fail
  refine (HS.out (i+1) w3 H3.out (by omega)).mono ?_
  rintro e4 w4 ⟨rfl,h4,m4⟩
  have H4:=Lib.hid h4;have M4:=Hxq (M3.out.trans m4 (by simp));have A4:=Hxq (m4.at A3.out (by simp;omega))
  clear h4 m4
  obtain ⟨r0,r1,r2,r3⟩:=cells4 A4.out
  have fA:∀ j,w4.frozen? ⟨w.heap.size,j,none⟩=false:=fun j=>free_at A4.out j
  go_wp2_with fail
  have mR:=setCs_mod w.heap.size [.string ⟨#[]⟩,.slice none 0 0,.int .i64 0,.int .i64 0] 0 w4
  refine bodyPost_ret (res_ct rfl _ _ _ _ _ rfl rfl (load_re (setCs_row (vs:=[.string ⟨#[]⟩,.slice none 0 0,.int .i64 0,.int .i64 0]) A4.out rfl) rfl)) rfl ⟨_,rfl,⟨_,_,_,_,_,_,rfl⟩,⟨_,H4.out.new HLo.out mR (by simp)⟩,M4.out.trans mR (by simp)⟩
 ·have HR2:Hid (q=(Sy.must v [40] (i+2)).bind fun _ j=>(Sy.list v [41] (Sy.ty v) j).bind fun l j=>.ok ⟨Sy.txt t.text,l,t.line,t.col⟩ j):=Lib.hid HR.out
  have hil:=hlt rfl
  clear HR hlt
  obtain ⟨c0,c1,c2,c3,c4,c5,c6,c7,c8,c9,fz⟩:=H3.out.cells
  have hT:=H3.out.to (i+2)
  have aC:(w3.setCell ⟨b,6,none⟩ (.int .i64 ((i:Int)+1+1))).heap[w.heap.size]?=_:=hT.2.at A3.out (by simp;omega)
  have tC:(w3.setCell ⟨b,6,none⟩ (.int .i64 ((i:Int)+1+1))).heap[w1.heap.size]?=_:=hT.2.at T3.out (by simp;omega)
  have HCC:Hid (RpP (w3.setCell ⟨b,6,none⟩ (.int .i64 ((i:Int)+1+1))) b ra rc L v (i+2) nf0):=Lib.hid hT.1
  have MC:Hid (Mod [b] w (w3.setCell ⟨b,6,none⟩ (.int .i64 ((i:Int)+1+1)))):=Hxq ((M3.out.mono (T:=[b]) (by simp)).trans hT.2 (by simp))
  clear hT
  go_upto_region 6 with fail
  generalize w3.setCell ⟨b,6,none⟩ (.int .i64 ((i:Int)+1+1))=wC at *
  clear c0 c1 c2 c3 c4 c5 c6 c7 c8 c9 fz
  obtain ⟨x0,x1,x2,x3,x4,x5,x6⟩:=tok_cells (t:=t) tC
  have AC:=Lib.hid aC;have zC:=MC.out.size
  clear aC tC
  go_upto_region 7 with fail
  have mX:=(Mod.refl [] wC).alloc (Obj.cells #[.string (Lx.ofS t.text),.slice none 0 0,.int .i64 (t.line:Nat),.int .i64 (t.col:Nat)] 81)
  have eX:=heap_alloc_new wC (Obj.cells #[.string (Lx.ofS t.text),.slice none 0 0,.int .i64 (t.line:Nat),.int .i64 (t.col:Nat)] 81)
  have HX:=Hxq (HCC.out.past mX (by simp));have MX:=Hxq (MC.out.trans mX (by simp));have AX:=Hxq (mX.at AC.out (by simp));have BX:=Lib.hid eX
  have zX:(wC.alloc (Obj.cells #[.string (Lx.ofS t.text),.slice none 0 0,.int .i64 (t.line:Nat),.int .i64 (t.col:Nat)] 81)).heap.size=wC.heap.size+1:=by simp
  clear mX eX x0 x1 x2 x3 x4 x5 x6
  generalize wC.alloc (Obj.cells _ 81)=wX at *
  have zAC:=lt_of_block AC.out
  generalize hpa:wC.heap.size=pa at *
  have HTK:=Hxq (HTk1.out wX HX.out hv (by omega) rfl (by decide))
  have hadv:=fun u j h=>Sy.adv_must v [40] (i+2) u j (by omega) h
  clear HTk1
  generalize Sy.must v [40] (i+2)=mu at *
  have hnb:w.heap.size∉[b]:=by simp;omega
  have hpb:pa∉[b]:=by have:=HCC.out.lt;simp;omega
  cases mu with
  | err g =>
   have hq:q=.err g:=HR2.out
   subst hq
   clear HR2 hadv
   go_wp2_with fail
   refine HTK.out.mono ?_
   rintro e4 w4 ⟨rfl,⟨jj,h4⟩,m4⟩
   have H4:=Lib.hid h4;have M4:=Hxq (MX.out.trans m4 (by simp));have A4:=Hxq (m4.at AX.out hnb);have B4:=Hxq (m4.at BX.out hpb)
   clear h4 m4
   obtain ⟨y0,y1,y2,y3⟩:=cells4 B4.out
   obtain ⟨r0,r1,r2,r3⟩:=cells4 A4.out
   have fA:∀ j,w4.frozen? ⟨w.heap.size,j,none⟩=false:=fun j=>free_at A4.out j
   go_wp2_with fail
   have mR:=setCs_mod w.heap.size [.string (Lx.ofS t.text),.slice none 0 0,.int .i64 (t.line:Nat),.int .i64 (t.col:Nat)] 0 w4
   refine bodyPost_ret (res_ct rfl _ _ _ _ _ rfl rfl (load_re (setCs_row (vs:=[.string (Lx.ofS t.text),.slice none 0 0,.int .i64 (t.line:Nat),.int .i64 (t.col:Nat)]) A4.out rfl) rfl)) rfl ⟨_,rfl,⟨_,_,_,_,_,_,rfl⟩,⟨jj,H4.out.new HLo.out mR (by simp)⟩,M4.out.trans mR (by simp)⟩
  | ok u j =>
   have HR3:Hid (q=(Sy.list v [41] (Sy.ty v) j).bind fun l j=>.ok ⟨Sy.txt t.text,l,t.line,t.col⟩ j):=Lib.hid HR2.out
   have hj:=hadv u j rfl
   clear HR2 hadv
   go_wp2_with fail
   refine HTK.out.mono ?_
   rintro e4 w4 ⟨rfl,h4,m4⟩
   have H4:=Lib.hid h4;have M4:=Hxq (MX.out.trans m4 (by simp));have A4:=Hxq (m4.at AX.out hnb);have B4:=Hxq (m4.at BX.out hpb);have z4:=m4.size
   clear h4 m4 HTK
   have HIs:=Hxq (HIs1.out j w4 H4.out (by omega))
   have HL0:Hid (Sy.list v [41] (Sy.ty v) j=if Sy.sign (v.tk j) [41]=true then .ok [] (j+1) else (Sy.ty v j).bind fun a j=>Sy.listF v [41] (Sy.ty v) (v.ws.length+1) [a] j):=Lib.hid rfl
   clear HIs1
   generalize Sy.sign (v.tk j) [41]=rs at *
   generalize Sy.list v [41] (Sy.ty v) j=ql at *
   go_wp2_with fail
   refine HIs.out.mono ?_
   rintro e5 w5 ⟨rfl,m5⟩
   have H5:=Hxq (H4.out.past m5 (by simp));have M5:=Hxq (M4.out.trans m5 (by simp));have A5:=Hxq (m5.at A4.out (by simp));have B5:=Hxq (m5.at B4.out (by simp));have z5:=m5.size
   clear m5 HIs
   cases rs
   ·have HL1:Hid (ql=(Sy.ty v j).bind fun a j=>Sy.listF v [41] (Sy.ty v) (v.ws.length+1) [a] j):=Lib.hid HL0.out
    clear HL0
    go_wp2_with fail
    go_loopg [] (v.ws.length+1) (fun gk wr=>∃ (j:Nat) (acc:List Int) (va:Option Addr) (vc:Nat),GI 3 1 intC BY [b,pa] w5 wr acc va vc/\RpP wr b ra rc L v j nf0/\wr.heap[w.heap.size]?=some (.cells #[.string ⟨#[]⟩,.slice none 0 0,.int .i64 0,.int .i64 0] 81 (0,0))/\wr.heap[pa]?=some (.cells #[.string (Lx.ofS t.text),.slice va acc.length vc,.int .i64 (t.line:Nat),.int .i64 (t.col:Nat)] 81 (0,0))/\j<=v.ws.length/\v.ws.length+1<=gk+j/\acc.length<=j/\ql=(Sy.ty v j).bind fun a j=>Sy.listF v [41] (Sy.ty v) gk (acc++[a]) j)
    case atStart=>exact ⟨j,[],none,0,.nil (by simp;omega),H5.out,A5.out,B5.out,hj.2,by omega,by simp,HL1.out⟩
    case round =>
     clear HL1
     obtain ⟨j,acc,va,vc,hG,hr,ha,hb,hj,hgk,hal,hql⟩:=hrel
     have G0:=Lib.hid hG;have R0:=Lib.hid hr;have A0:=Lib.hid ha;have B0:=Lib.hid hb
     have HNm:=Hxq (HIn.out j wr hr (by omega));have HSm:=Hxq (fun w h=>HIy.out j w h (by omega))
     have hsn:=fun h=>Sy.sign_lt (v:=v) (i:=j) (s:=[110,117,109]) h
     have hss:=fun h=>Sy.sign_lt (v:=v) (i:=j) (s:=[115,121,109]) h
     have z6:=hG.mod.size
     rw [ty_eq,ty_cases] at hql
     have HQ:=Lib.hid hql
     clear hG hr ha hb hql HIn HIy
     generalize Sy.sign (v.tk j) [110,117,109]=rn at *
     generalize Sy.sign (v.tk j) [115,121,109]=ry at *
     go_wp2_with fail
     refine HNm.out.mono ?_
     rintro e6 w6 ⟨rfl,m6⟩
     have G6:=Hxq (G0.out.keep bearsY (m6.mono (by simp)));have A6:=Hxq (m6.at A0.out (by simp));have B6:=Hxq (m6.at B0.out (by simp));have H6:=Hxq (R0.out.past m6 (by simp));have zz6:=m6.size
     clear m6 G0 A0 B0 R0 HNm
     cases rn
     ·go_wp2_with fail
      refine (HSm.out w6 H6.out).mono ?_
      rintro e7 w7 ⟨rfl,m7⟩
      have G7:=Hxq (G6.out.keep bearsY (m7.mono (by simp)));have A7:=Hxq (m7.at A6.out (by simp));have B7:=Hxq (m7.at B6.out (by simp));have H7:=Hxq (H6.out.past m7 (by simp));have zz7:=m7.size
      clear m7 G6 A6 B6 H6 HSm
      cases ry
      ·have hq:q=.err (v.give 40 j):=by rw [HR3.out,HQ.out];rfl
       subst hq
       clear HR3 HQ hsn hss
       have mD:=(Mod.refl [] w7).drew
       have HK:=Hxq (HS.out j w7.drew (H7.out.past mD (by simp)) (by omega))
       clear mD
       go_upto_region 12 with fail
       have Q0:=Hxq (show w7.cell? ⟨pa,0,none⟩=some (.string (Lx.ofS t.text)) from cell_at B7.out 0)
       have Q1:=Hxq (show w7.cell? ⟨pa,1,none⟩=some (.slice va acc.length vc) from cell_at B7.out 1)
       have Q2:=Hxq (show w7.cell? ⟨pa,2,none⟩=some (.int .i64 (t.line:Nat)) from cell_at B7.out 2)
       have Q3:=Hxq (show w7.cell? ⟨pa,3,none⟩=some (.int .i64 (t.col:Nat)) from cell_at B7.out 3)
       refine wp_region_held_drew (S:=(fun w':World=>Mod [b,w.heap.size] w7 w')) (by kernel_rfl) (by (try dsimp only);exact (Mod.refl [b,w.heap.size] w7).drew) (fun hHeld=>?_)
       refine Tkq 0 (v:=?_) (by assumption) ?_ ?_ ?_
       rotate_left 1
       ·refine .inl ⟨by rfl,?_⟩;intro w hSw;have s0:=hSw.cell Q0.out (by simp;omega);have s1:=hSw.cell Q1.out (by simp;omega);have s2:=hSw.cell Q2.out (by simp;omega);have s3:=hSw.cell Q3.out (by simp;omega);clear hSw;go_simp
        all_goals with_reducible rfl
       ·exact fun _ _ _ h=>h
       try simp only [Act.put,Lq1,Lq2,Lq3]
       refine Tkq 1 (v:=?_) (by assumption) ?_ ?_ ?_
       rotate_left 1
       ·refine .inl ⟨by rfl,?_⟩;intro w hSw;have s0:=hSw.cell Q0.out (by simp;omega);have s1:=hSw.cell Q1.out (by simp;omega);have s2:=hSw.cell Q2.out (by simp;omega);have s3:=hSw.cell Q3.out (by simp;omega);clear hSw;go_simp
        all_goals with_reducible rfl
       ·exact fun _ _ _ h=>h
       try simp only [Act.put,Lq1,Lq2,Lq3]
       refine wpAnyH_ready (rs:=[2]) (by kernel_rfl) (by simp) ?_
       refine AllReadyH.cons (o:=?_) ?_ ?_ AllReadyH.nil
       rotate_left 1
       ·(simp only [Gq1,Gq2,Gq3])<;>rfl
       intro K hK
       go_simp
       refine HK.out.mono ?_
       rintro e8 w8 ⟨rfl,h8,m8⟩
       have N8:=Hxq ((Mod.refl [b] w7).drew.trans m8 (by simp));have H8:=Lib.hid h8
       clear m8 h8
       refine hK.out _ _ (by (try dsimp only);exact N8.out.mono (by simp)) (fun hHeld=>?_)
       clear hK K
       try simp only [Act.put,Lq1,Lq2,Lq3]
       refine wpAnyH_ready (rs:=[3]) (by kernel_rfl) (by simp) ?_
       refine AllReadyH.cons (o:=?_) ?_ ?_ AllReadyH.nil
       rotate_left 1
       ·(simp only [Gq1,Gq2,Gq3])<;>rfl
       intro K hK
       have Aw8:=Hxq (N8.out.at A7.out (by simp;omega))
       obtain ⟨r0,r1,r2,r3⟩:=cells4 Aw8.out
       have fA:∀ j,w8.frozen? ⟨w.heap.size,j,none⟩=false:=fun j=>free_at Aw8.out j
       have mR:=setCs_mod w.heap.size [.string (Lx.ofS t.text),.slice va acc.length vc,.int .i64 (t.line:Nat),.int .i64 (t.col:Nat)] 0 w8
       have NR:=Hxq ((N8.out.mono (T:=[b,w.heap.size]) (by simp)).trans (mR.mono (T:=[b,w.heap.size]) (by simp)) (by simp))
       clear mR
       go_simp
       refine hK.out _ _ (by (try dsimp only);exact NR.out) (fun hHeld=>?_)
       clear hK K
       try simp only [Act.put,Lq1,Lq2,Lq3]
       refine Tkq 4 (v:=?_) (by assumption) ?_ ?_ ?_
       rotate_left 1
       ·refine .inl ⟨by rfl,?_⟩;intro w hSw;have s0:=hSw.cell Q0.out (by simp;omega);have s1:=hSw.cell Q1.out (by simp;omega);have s2:=hSw.cell Q2.out (by simp;omega);have s3:=hSw.cell Q3.out (by simp;omega);clear hSw;go_simp
        all_goals with_reducible rfl
       ·exact fun _ _ _ h=>h
       try simp only [Act.put,Lq1,Lq2,Lq3]
       refine wpAnyH_done (by kernel_rfl) ?_ _
       clear r0 r1 r2 r3 fA
       go_wp2_with fail
       have mR:=setCs_mod w.heap.size [.string (Lx.ofS t.text),.slice va acc.length vc,.int .i64 (t.line:Nat),.int .i64 (t.col:Nat)] 0 w8
       have M8:=Hxq (G7.out.mod.trans (N8.out.mono (T:=[b,pa]) (by simp)) (by simp))
       refine bodyPost_ret (res_ct rfl _ _ _ _ _ rfl rfl (load_re (setCs_row (vs:=[.string (Lx.ofS t.text),.slice va acc.length vc,.int .i64 (t.line:Nat),.int .i64 (t.col:Nat)]) Aw8.out rfl) rfl)) rfl ⟨_,rfl,⟨_,_,_,_,_,_,rfl⟩,⟨_,H8.out.new HLo.out mR (by simp)⟩,fin_mod M5.out M8.out mR (by omega) (by omega)⟩
      ·have HQ2:Hid (ql=Sy.listF v [41] (Sy.ty v) gk (acc++[2]) (j+1)):=Hxq (by rw [HQ.out];rfl)
       have hjl:=hss rfl
       clear HQ hsn hss
       have e1:=cell_at B7.out 1
       simp only [List.getElem?_toArray,List.getElem?_cons_zero,List.getElem?_cons_succ] at e1
       have FB:Hid (∀ wZ,wZ=w7.alloc (Obj.cells #[.int .i64 2] 3)->GI 3 1 intC BY [b,pa] w5 wZ acc va vc/\Src Tryz.prog 1 36 (.slice (some ⟨w7.heap.size,0,none⟩) 1 1) 1 (intC 2).toList wZ/\Mod [] w7 wZ/\wZ.cell? ⟨pa,1,none⟩=some (.slice va acc.length vc)):=Hxq (fun wZ e=>by
        subst e
        have mZ:=(Mod.refl [] w7).alloc (Obj.cells #[.int .i64 2] 3)
        exact ⟨G7.out.keep bearsY (mZ.mono (by simp)),src_one (cs:=intC 2) Tryz.underlying36 (heap_alloc_new w7 _) rfl (intC_one 2),mZ,cell_at (mZ.at B7.out (by simp)) 1⟩)
       go_wp2_with (at_builtin;refine wpList_append_src _ rfl _ _ 36 36 rfl 3 i0 (.int .i64 0) 1 8 Tryz.underlying36 hinf hz0 hz1 hz2 rfl (.slice va acc.length vc) acc.length (rowCells intC acc) rfl (FB.out _ rfl).1.row _ 1 (intC 2).toList rfl (FB.out _ rfl).2.1 (by unfold maxLen;omega) (by omega) ?_)
       intro v' w8 hown8 hm8 hf8 hn8
       obtain ⟨va8,vc8,rfl⟩:=owns_slice hown8
       obtain ⟨GX,SX,MX2,CX⟩:=FB.out _ rfl
       have hnew:=GX.new
       have hna:pa∉fp (.slice va acc.length vc):=fun hk=>by have:=hnew pa hk;omega
       have hnr:w.heap.size∉fp (.slice va acc.length vc):=fun hk=>by have:=hnew _ hk;omega
       have hlp:=lt_of_block B7.out
       have G8:=Hxq (GX.grow (m:=w7.heap.size+1) bearsY hm8 (p:=(2:Int)) trivial (fun k hk=>by have:=fp_lt G7.out.row k hk;omega) (by omega) hown8 (fun k hk=>by
        rcases hf8 k hk with hh | hh
        ·exact .inl hh
        ·exact .inr (by simpa using hh)))
       have B8:=hm8.at (MX2.at B7.out (by simp)) hna
       have A8:=Hxq (hm8.at (MX2.at A7.out (by simp)) hnr)
       have H8:=Hxq ((H7.out.past MX2 (by simp)).new HLo.out hm8 (fun k hk=>by have:=hnew k hk;omega))
       have q8:w8.cell? ⟨pa,1,none⟩=some (.slice va acc.length vc):=hm8.cell (p:=⟨pa,1,none⟩) CX hna
       have f8:w8.frozen? ⟨pa,1,none⟩=false:=free_at B8 1
       have mP:Mod [pa] w8 (w8.setCell ⟨pa,1,none⟩ (.slice va8 (acc.length+1) vc8)):=(Mod.refl [pa] w8).setCell (p:=⟨pa,1,none⟩) (.inl (by simp)) _
       have B9:Hid ((w8.setCell ⟨pa,1,none⟩ (.slice va8 (acc.length+1) vc8)).heap[pa]?=some (.cells #[.string (Lx.ofS t.text),.slice va8 (acc.length+1) vc8,.int .i64 (t.line:Nat),.int .i64 (t.col:Nat)] 81 (0,0))):=Hxq (by
        have:=setCell_at B8 1 (.slice va8 (acc.length+1) vc8)
        simpa using this)
       have G9:=Hxq (G8.out.keep bearsY (mP.mono (by simp)))
       have A9:=Hxq (mP.at A8.out (by simp;omega))
       have H9:=Hxq (H8.out.new HLo.out mP (by simp;omega))
       clear hnew hna hnr hown8 hm8 hf8 hn8 GX SX MX2 CX FB e1 G8 B8 A8 H8 G7 H7 A7 B7 mP
       go_upto_region 17 with fail
       generalize w8.setCell ⟨pa,1,none⟩ (.slice va8 (acc.length+1) vc8)=w9 at *
       clear q8 f8
       obtain ⟨c0,c1,c2,c3,c4,c5,c6,c7,c8,c9,fz⟩:=H9.out.cells
       have hT:=H9.out.to (j+1)
       have hcast:((j+1:Nat):Int)=(j:Int)+1:=by omega
       rw [hcast] at hT
       have A10:=Hxq (hT.2.at A9.out hnb);have B10:=Hxq (hT.2.at B9.out hpb);have G10:=Hxq (G9.out.keep bearsY (hT.2.mono (by simp)));have H10:=Lib.hid hT.1
       clear hT hcast A9 B9 G9
       go_upto_region 18 with fail
       generalize w9.setCell ⟨b,6,none⟩ (.int .i64 ((j:Int)+1))=w10 at *
       clear c0 c1 c2 c3 c4 c5 c6 c7 c8 c9 fz H9
       have HI2:=Hxq (HIs2.out (j+1) w10 H10.out (by omega))
       obtain ⟨g',rfl⟩:∃ g',gk=g'+1:=⟨gk - 1,by omega⟩
       have hs1:=fun h=>Sy.sign_lt (v:=v) (i:=j+1) (s:=[44]) h
       have hL2:=Sy.listF_eq2 v [41] (Sy.ty v) g' (acc++[2]) (j+1)
       have hL3:=Sy.listF_eq3 v [41] (Sy.ty v) g' (acc++[2]) (j+1)
       generalize Sy.sign (v.tk (j+1)) [44]=rc2 at *
       cases rc2
       ·have HQ3:Hid (ql=(Sy.must v [41] (j+1)).bind fun _ j=>.ok (acc++[2]) j):=Hxq (by rw [HQ2.out,hL3 rfl])
        clear hL2 hL3 HQ2 hs1
        go_wp2_with fail
        refine HI2.out.mono ?_
        rintro e11 w11 ⟨rfl,m11⟩
        have G11:=Hxq (G10.out.keep bearsY (m11.mono (by simp)));have A11:=Hxq (m11.at A10.out (by simp));have B11:=Hxq (m11.at B10.out (by simp));have H11:=Hxq (H10.out.past m11 (by simp))
        clear m11 G10 A10 B10 H10 HI2
        have mD:=(Mod.refl [] w11).drew
        have HK:=Hxq (HTk2.out (j+1) w11.drew (H11.out.past mD (by simp)) (by omega))
        clear mD
        have hmu:∀ (mu:Sy.PR Unit),Sy.must v [41] (j+1)=mu->q=mu.bind fun _ j=>.ok ⟨Sy.txt t.text,acc++[2],t.line,t.col⟩ j:=fun mu e=>by
         rw [HR3.out,HQ3.out,e];cases mu <;> rfl
        have HMu:=Lib.hid hmu
        clear hmu HR3 HQ3
        generalize hmm:Sy.must v [41] (j+1)=mu at *
        have hq:=HMu.out mu rfl
        clear HMu hmm
        go_upto_region 19 with fail
        cases mu with
        | err g =>
         have hq2:q=.err g:=hq
         clear hq
         subst hq2
         have Q0:=Hxq (show w11.cell? ⟨pa,0,none⟩=some (.string (Lx.ofS t.text)) from cell_at B11.out 0)
         have Q1:=Hxq (show w11.cell? ⟨pa,1,none⟩=some (.slice va8 (acc.length+1) vc8) from cell_at B11.out 1)
         have Q2:=Hxq (show w11.cell? ⟨pa,2,none⟩=some (.int .i64 (t.line:Nat)) from cell_at B11.out 2)
         have Q3:=Hxq (show w11.cell? ⟨pa,3,none⟩=some (.int .i64 (t.col:Nat)) from cell_at B11.out 3)
         refine wp_region_held_drew (S:=(fun w':World=>Mod [b,w.heap.size] w11 w')) (by kernel_rfl) (by (try dsimp only);exact (Mod.refl [b,w.heap.size] w11).drew) (fun hHeld=>?_)
         refine Tkq 0 (v:=?_) (by assumption) ?_ ?_ ?_
         rotate_left 1
         ·refine .inl ⟨by rfl,?_⟩;intro w hSw;have s0:=hSw.cell Q0.out (by simp;omega);have s1:=hSw.cell Q1.out (by simp;omega);have s2:=hSw.cell Q2.out (by simp;omega);have s3:=hSw.cell Q3.out (by simp;omega);clear hSw;go_simp
          all_goals with_reducible rfl
         ·exact fun _ _ _ h=>h
         try simp only [Act.put,Lq1,Lq2,Lq3]
         refine Tkq 1 (v:=?_) (by assumption) ?_ ?_ ?_
         rotate_left 1
         ·refine .inl ⟨by rfl,?_⟩;intro w hSw;have s0:=hSw.cell Q0.out (by simp;omega);have s1:=hSw.cell Q1.out (by simp;omega);have s2:=hSw.cell Q2.out (by simp;omega);have s3:=hSw.cell Q3.out (by simp;omega);clear hSw;go_simp
          all_goals with_reducible rfl
         ·exact fun _ _ _ h=>h
         try simp only [Act.put,Lq1,Lq2,Lq3]
         refine wpAnyH_ready (rs:=[2]) (by kernel_rfl) (by simp) ?_
         refine AllReadyH.cons (o:=?_) ?_ ?_ AllReadyH.nil
         rotate_left 1
         ·(simp only [Gq1,Gq2,Gq3])<;>rfl
         intro K hK
         go_simp
         refine HK.out.mono ?_
         rintro e12 w12 ⟨rfl,⟨jj,h12⟩,m12⟩
         have N12:=Hxq ((Mod.refl [b] w11).drew.trans m12 (by simp));have H12:=Lib.hid h12
         clear m12 h12
         refine hK.out _ _ (by (try dsimp only);exact N12.out.mono (by simp)) (fun hHeld=>?_)
         clear hK K
         try simp only [Act.put,Lq1,Lq2,Lq3]
         refine wpAnyH_ready (rs:=[3]) (by kernel_rfl) (by simp) ?_
         refine AllReadyH.cons (o:=?_) ?_ ?_ AllReadyH.nil
         rotate_left 1
         ·(simp only [Gq1,Gq2,Gq3])<;>rfl
         intro K hK
         have Aw12:=Hxq (N12.out.at A11.out (by simp;omega))
         obtain ⟨r0,r1,r2,r3⟩:=cells4 Aw12.out
         have fA:∀ j,w12.frozen? ⟨w.heap.size,j,none⟩=false:=fun j=>free_at Aw12.out j
         have mR:=setCs_mod w.heap.size [.string (Lx.ofS t.text),.slice va8 (acc.length+1) vc8,.int .i64 (t.line:Nat),.int .i64 (t.col:Nat)] 0 w12
         have NR:=Hxq ((N12.out.mono (T:=[b,w.heap.size]) (by simp)).trans (mR.mono (T:=[b,w.heap.size]) (by simp)) (by simp))
         clear mR
         go_simp
         refine hK.out _ _ (by (try dsimp only);exact NR.out) (fun hHeld=>?_)
         clear hK K
         try simp only [Act.put,Lq1,Lq2,Lq3]
         refine Tkq 4 (v:=?_) (by assumption) ?_ ?_ ?_
         rotate_left 1
         ·refine .inl ⟨by rfl,?_⟩;intro w hSw;have s0:=hSw.cell Q0.out (by simp;omega);have s1:=hSw.cell Q1.out (by simp;omega);have s2:=hSw.cell Q2.out (by simp;omega);have s3:=hSw.cell Q3.out (by simp;omega);clear hSw;go_simp
          all_goals with_reducible rfl
         ·exact fun _ _ _ h=>h
         try simp only [Act.put,Lq1,Lq2,Lq3]
         refine wpAnyH_done (by kernel_rfl) ?_ _
         clear r0 r1 r2 r3 fA
         go_wp2_with fail
         have mR:=setCs_mod w.heap.size [.string (Lx.ofS t.text),.slice va8 (acc.length+1) vc8,.int .i64 (t.line:Nat),.int .i64 (t.col:Nat)] 0 w12
         have M12:=Hxq (G11.out.mod.trans (N12.out.mono (T:=[b,pa]) (by simp)) (by simp))
         refine bodyPost_ret (res_ct rfl _ _ _ _ _ rfl rfl (load_re (setCs_row (vs:=[.string (Lx.ofS t.text),.slice va8 (acc.length+1) vc8,.int .i64 (t.line:Nat),.int .i64 (t.col:Nat)]) Aw12.out rfl) rfl)) rfl ⟨_,rfl,⟨_,_,_,_,_,_,rfl⟩,⟨jj,H12.out.new HLo.out mR (by simp)⟩,fin_mod M5.out M12.out mR (by omega) (by omega)⟩
        | ok u k2 =>
         have hq2:q=.ok ⟨Sy.txt t.text,acc++[2],t.line,t.col⟩ k2:=hq
         clear hq
         subst hq2
         have Q0:=Hxq (show w11.cell? ⟨pa,0,none⟩=some (.string (Lx.ofS t.text)) from cell_at B11.out 0)
         have Q1:=Hxq (show w11.cell? ⟨pa,1,none⟩=some (.slice va8 (acc.length+1) vc8) from cell_at B11.out 1)
         have Q2:=Hxq (show w11.cell? ⟨pa,2,none⟩=some (.int .i64 (t.line:Nat)) from cell_at B11.out 2)
         have Q3:=Hxq (show w11.cell? ⟨pa,3,none⟩=some (.int .i64 (t.col:Nat)) from cell_at B11.out 3)
         refine wp_region_held_drew (S:=(fun w':World=>Mod [b,w.heap.size] w11 w')) (by kernel_rfl) (by (try dsimp only);exact (Mod.refl [b,w.heap.size] w11).drew) (fun hHeld=>?_)
         refine Tkq 0 (v:=?_) (by assumption) ?_ ?_ ?_
         rotate_left 1
         ·refine .inl ⟨by rfl,?_⟩;intro w hSw;have s0:=hSw.cell Q0.out (by simp;omega);have s1:=hSw.cell Q1.out (by simp;omega);have s2:=hSw.cell Q2.out (by simp;omega);have s3:=hSw.cell Q3.out (by simp;omega);clear hSw;go_simp
          all_goals with_reducible rfl
         ·exact fun _ _ _ h=>h
         try simp only [Act.put,Lq1,Lq2,Lq3]
         refine Tkq 1 (v:=?_) (by assumption) ?_ ?_ ?_
         rotate_left 1
         ·refine .inl ⟨by rfl,?_⟩;intro w hSw;have s0:=hSw.cell Q0.out (by simp;omega);have s1:=hSw.cell Q1.out (by simp;omega);have s2:=hSw.cell Q2.out (by simp;omega);have s3:=hSw.cell Q3.out (by simp;omega);clear hSw;go_simp
          all_goals with_reducible rfl
         ·exact fun _ _ _ h=>h
         try simp only [Act.put,Lq1,Lq2,Lq3]
         refine wpAnyH_ready (rs:=[2]) (by kernel_rfl) (by simp) ?_
         refine AllReadyH.cons (o:=?_) ?_ ?_ AllReadyH.nil
         rotate_left 1
         ·(simp only [Gq1,Gq2,Gq3])<;>rfl
         intro K hK
         go_simp
         refine HK.out.mono ?_
         rintro e12 w12 ⟨rfl,h12,m12⟩
         have N12:=Hxq ((Mod.refl [b] w11).drew.trans m12 (by simp));have H12:=Lib.hid h12
         clear m12 h12
         refine hK.out _ _ (by (try dsimp only);exact N12.out.mono (by simp)) (fun hHeld=>?_)
         clear hK K
         try simp only [Act.put,Lq1,Lq2,Lq3]
         refine wpAnyH_ready (rs:=[3]) (by kernel_rfl) (by simp) ?_
         refine AllReadyH.cons (o:=?_) ?_ ?_ AllReadyH.nil
         rotate_left 1
         ·(simp only [Gq1,Gq2,Gq3])<;>rfl
         intro K hK
         have Aw12:=Hxq (N12.out.at A11.out (by simp;omega))
         obtain ⟨r0,r1,r2,r3⟩:=cells4 Aw12.out
         have fA:∀ j,w12.frozen? ⟨w.heap.size,j,none⟩=false:=fun j=>free_at Aw12.out j
         have mR:=setCs_mod w.heap.size [.string (Lx.ofS t.text),.slice va8 (acc.length+1) vc8,.int .i64 (t.line:Nat),.int .i64 (t.col:Nat)] 0 w12
         have NR:=Hxq ((N12.out.mono (T:=[b,w.heap.size]) (by simp)).trans (mR.mono (T:=[b,w.heap.size]) (by simp)) (by simp))
         clear mR
         go_simp
         refine hK.out _ _ (by (try dsimp only);exact NR.out) (fun hHeld=>?_)
         clear hK K
         try simp only [Act.put,Lq1,Lq2,Lq3]
         refine Tkq 4 (v:=?_) (by assumption) ?_ ?_ ?_
         rotate_left 1
         ·refine .inl ⟨by rfl,?_⟩;intro w hSw;have s0:=hSw.cell Q0.out (by simp;omega);have s1:=hSw.cell Q1.out (by simp;omega);have s2:=hSw.cell Q2.out (by simp;omega);have s3:=hSw.cell Q3.out (by simp;omega);clear hSw;go_simp
          all_goals with_reducible rfl
         ·exact fun _ _ _ h=>h
         try simp only [Act.put,Lq1,Lq2,Lq3]
         refine wpAnyH_done (by kernel_rfl) ?_ _
         clear r0 r1 r2 r3 fA
         go_wp2_with fail
         have mR:=setCs_mod w.heap.size [.string (Lx.ofS t.text),.slice va8 (acc.length+1) vc8,.int .i64 (t.line:Nat),.int .i64 (t.col:Nat)] 0 w12
         have M12:=Hxq (G11.out.mod.trans (N12.out.mono (T:=[b,pa]) (by simp)) (by simp))
         have RW:=Hxq (RowB.of_owns (F:=fun k=>w.heap.size<k) intC_size (G11.out.keep bearsY (N12.out.mono (by simp))).row (fun k hk=>by have:=G11.out.new k hk;omega))
         refine bodyPost_ret (res_ct rfl _ _ _ _ _ rfl rfl (load_re (setCs_row (vs:=[.string (Lx.ofS t.text),.slice va8 (acc.length+1) vc8,.int .i64 (t.line:Nat),.int .i64 (t.col:Nat)]) Aw12.out rfl) rfl)) rfl ⟨_,rfl,?_,H12.out.new HLo.out mR (by simp),fin_mod M5.out M12.out mR (by omega) (by omega)⟩
         have hRW:=(RW.out.keep mR (fun s hs=>by rw [Msq] at hs;omega)).mono (F':=fun k=>w.heap.size<=k) (fun k hk _=>Nat.le_of_lt hk)
         rw [List.length_append] at hRW
         exact ⟨_,rfl,hRW⟩
       ·have HQ3:Hid (ql=(Sy.ty v (j+1+1)).bind fun a' j=>Sy.listF v [41] (Sy.ty v) g' (acc++[2]++[a']) j):=Hxq (by rw [HQ2.out,hL2 rfl])
        have hkl:=hs1 rfl
        clear hL2 hL3 HQ2 hs1
        go_wp2_with fail
        refine HI2.out.mono ?_
        rintro e11 w11 ⟨rfl,m11⟩
        have G11:=Hxq (G10.out.keep bearsY (m11.mono (by simp)));have A11:=Hxq (m11.at A10.out (by simp));have B11:=Hxq (m11.at B10.out (by simp));have H11:=Hxq (H10.out.past m11 (by simp))
        clear m11 G10 A10 B10 H10 HI2
        obtain ⟨c0,c1,c2,c3,c4,c5,c6,c7,c8,c9,fz⟩:=H11.out.cells
        have hT:=H11.out.to (j+1+1)
        have hcast:((j+1+1:Nat):Int)=((j+1:Nat):Int)+1:=by omega
        rw [hcast] at hT
        have A12:=Hxq (hT.2.at A11.out hnb);have B12:=Hxq (hT.2.at B11.out hpb);have G12:=Hxq (G11.out.keep bearsY (hT.2.mono (by simp)));have H12:=Lib.hid hT.1
        clear hT hcast
        go_wp2_with fail
        go_roundg g'
        case measure=>omega
        case rel=>exact ⟨j+1+1,acc++[2],va8,vc8,G12.out,H12.out,A12.out,by rw [List.length_append];exact B12.out,by omega,by omega,by simp;omega,HQ3.out⟩
     ·have HQ2:Hid (ql=Sy.listF v [41] (Sy.ty v) gk (acc++[1]) (j+1)):=Hxq (by rw [HQ.out];rfl)
      have hjl:=hsn rfl
      clear HQ hsn hss HSm
      have e1:=cell_at B6.out 1
      simp only [List.getElem?_toArray,List.getElem?_cons_zero,List.getElem?_cons_succ] at e1
      have FB:Hid (∀ wZ,wZ=w6.alloc (Obj.cells #[.int .i64 1] 3)->GI 3 1 intC BY [b,pa] w5 wZ acc va vc/\Src Tryz.prog 1 36 (.slice (some ⟨w6.heap.size,0,none⟩) 1 1) 1 (intC 1).toList wZ/\Mod [] w6 wZ/\wZ.cell? ⟨pa,1,none⟩=some (.slice va acc.length vc)):=Hxq (fun wZ e=>by
       subst e
       have mZ:=(Mod.refl [] w6).alloc (Obj.cells #[.int .i64 1] 3)
       exact ⟨G6.out.keep bearsY (mZ.mono (by simp)),src_one (cs:=intC 1) Tryz.underlying36 (heap_alloc_new w6 _) rfl (intC_one 1),mZ,cell_at (mZ.at B6.out (by simp)) 1⟩)
      go_wp2_with (at_builtin;refine wpList_append_src _ rfl _ _ 36 36 rfl 3 i0 (.int .i64 0) 1 8 Tryz.underlying36 hinf hz0 hz1 hz2 rfl (.slice va acc.length vc) acc.length (rowCells intC acc) rfl (FB.out _ rfl).1.row _ 1 (intC 1).toList rfl (FB.out _ rfl).2.1 (by unfold maxLen;omega) (by omega) ?_)
      intro v' w8 hown8 hm8 hf8 hn8
      obtain ⟨va8,vc8,rfl⟩:=owns_slice hown8
      obtain ⟨GX,SX,MX2,CX⟩:=FB.out _ rfl
      have hnew:=GX.new
      have hna:pa∉fp (.slice va acc.length vc):=fun hk=>by have:=hnew pa hk;omega
      have hnr:w.heap.size∉fp (.slice va acc.length vc):=fun hk=>by have:=hnew _ hk;omega
      have hlp:=lt_of_block B6.out
      have G8:=Hxq (GX.grow (m:=w6.heap.size+1) bearsY hm8 (p:=(1:Int)) trivial (fun k hk=>by have:=fp_lt G6.out.row k hk;omega) (by omega) hown8 (fun k hk=>by
       rcases hf8 k hk with hh | hh
       ·exact .inl hh
       ·exact .inr (by simpa using hh)))
      have B8:=hm8.at (MX2.at B6.out (by simp)) hna
      have A8:=Hxq (hm8.at (MX2.at A6.out (by simp)) hnr)
      have H8:=Hxq ((H6.out.past MX2 (by simp)).new HLo.out hm8 (fun k hk=>by have:=hnew k hk;omega))
      have q8:w8.cell? ⟨pa,1,none⟩=some (.slice va acc.length vc):=hm8.cell (p:=⟨pa,1,none⟩) CX hna
      have f8:w8.frozen? ⟨pa,1,none⟩=false:=free_at B8 1
      have mP:Mod [pa] w8 (w8.setCell ⟨pa,1,none⟩ (.slice va8 (acc.length+1) vc8)):=(Mod.refl [pa] w8).setCell (p:=⟨pa,1,none⟩) (.inl (by simp)) _
      have B9:Hid ((w8.setCell ⟨pa,1,none⟩ (.slice va8 (acc.length+1) vc8)).heap[pa]?=some (.cells #[.string (Lx.ofS t.text),.slice va8 (acc.length+1) vc8,.int .i64 (t.line:Nat),.int .i64 (t.col:Nat)] 81 (0,0))):=Hxq (by
       have:=setCell_at B8 1 (.slice va8 (acc.length+1) vc8)
       simpa using this)
      have G9:=Hxq (G8.out.keep bearsY (mP.mono (by simp)))
      have A9:=Hxq (mP.at A8.out (by simp;omega))
      have H9:=Hxq (H8.out.new HLo.out mP (by simp;omega))
      clear hnew hna hnr hown8 hm8 hf8 hn8 GX SX MX2 CX FB e1 G8 B8 A8 H8 G6 H6 A6 B6 mP
      go_upto_region 17 with fail
      generalize w8.setCell ⟨pa,1,none⟩ (.slice va8 (acc.length+1) vc8)=w9 at *
      clear q8 f8
      obtain ⟨c0,c1,c2,c3,c4,c5,c6,c7,c8,c9,fz⟩:=H9.out.cells
      have hT:=H9.out.to (j+1)
      have hcast:((j+1:Nat):Int)=(j:Int)+1:=by omega
      rw [hcast] at hT
      have A10:=Hxq (hT.2.at A9.out hnb);have B10:=Hxq (hT.2.at B9.out hpb);have G10:=Hxq (G9.out.keep bearsY (hT.2.mono (by simp)));have H10:=Lib.hid hT.1
      clear hT hcast A9 B9 G9
      go_upto_region 18 with fail
      generalize w9.setCell ⟨b,6,none⟩ (.int .i64 ((j:Int)+1))=w10 at *
      clear c0 c1 c2 c3 c4 c5 c6 c7 c8 c9 fz H9
      have HI2:=Hxq (HIs2.out (j+1) w10 H10.out (by omega))
      obtain ⟨g',rfl⟩:∃ g',gk=g'+1:=⟨gk - 1,by omega⟩
      have hs1:=fun h=>Sy.sign_lt (v:=v) (i:=j+1) (s:=[44]) h
      have hL2:=Sy.listF_eq2 v [41] (Sy.ty v) g' (acc++[1]) (j+1)
      have hL3:=Sy.listF_eq3 v [41] (Sy.ty v) g' (acc++[1]) (j+1)
      generalize Sy.sign (v.tk (j+1)) [44]=rc2 at *
      cases rc2
      ·have HQ3:Hid (ql=(Sy.must v [41] (j+1)).bind fun _ j=>.ok (acc++[1]) j):=Hxq (by rw [HQ2.out,hL3 rfl])
       clear hL2 hL3 HQ2 hs1
       go_wp2_with fail
       refine HI2.out.mono ?_
       rintro e11 w11 ⟨rfl,m11⟩
       have G11:=Hxq (G10.out.keep bearsY (m11.mono (by simp)));have A11:=Hxq (m11.at A10.out (by simp));have B11:=Hxq (m11.at B10.out (by simp));have H11:=Hxq (H10.out.past m11 (by simp))
       clear m11 G10 A10 B10 H10 HI2
       have mD:=(Mod.refl [] w11).drew
       have HK:=Hxq (HTk2.out (j+1) w11.drew (H11.out.past mD (by simp)) (by omega))
       clear mD
       have hmu:∀ (mu:Sy.PR Unit),Sy.must v [41] (j+1)=mu->q=mu.bind fun _ j=>.ok ⟨Sy.txt t.text,acc++[1],t.line,t.col⟩ j:=fun mu e=>by
        rw [HR3.out,HQ3.out,e];cases mu <;> rfl
       have HMu:=Lib.hid hmu
       clear hmu HR3 HQ3
       generalize hmm:Sy.must v [41] (j+1)=mu at *
       have hq:=HMu.out mu rfl
       clear HMu hmm
       go_upto_region 19 with fail
       cases mu with
       | err g =>
        have hq2:q=.err g:=hq
        clear hq
        subst hq2
        have Q0:=Hxq (show w11.cell? ⟨pa,0,none⟩=some (.string (Lx.ofS t.text)) from cell_at B11.out 0)
        have Q1:=Hxq (show w11.cell? ⟨pa,1,none⟩=some (.slice va8 (acc.length+1) vc8) from cell_at B11.out 1)
        have Q2:=Hxq (show w11.cell? ⟨pa,2,none⟩=some (.int .i64 (t.line:Nat)) from cell_at B11.out 2)
        have Q3:=Hxq (show w11.cell? ⟨pa,3,none⟩=some (.int .i64 (t.col:Nat)) from cell_at B11.out 3)
        refine wp_region_held_drew (S:=(fun w':World=>Mod [b,w.heap.size] w11 w')) (by kernel_rfl) (by (try dsimp only);exact (Mod.refl [b,w.heap.size] w11).drew) (fun hHeld=>?_)
        refine Tkq 0 (v:=?_) (by assumption) ?_ ?_ ?_
        rotate_left 1
        ·refine .inl ⟨by rfl,?_⟩;intro w hSw;have s0:=hSw.cell Q0.out (by simp;omega);have s1:=hSw.cell Q1.out (by simp;omega);have s2:=hSw.cell Q2.out (by simp;omega);have s3:=hSw.cell Q3.out (by simp;omega);clear hSw;go_simp
         all_goals with_reducible rfl
        ·exact fun _ _ _ h=>h
        try simp only [Act.put,Lq1,Lq2,Lq3]
        refine Tkq 1 (v:=?_) (by assumption) ?_ ?_ ?_
        rotate_left 1
        ·refine .inl ⟨by rfl,?_⟩;intro w hSw;have s0:=hSw.cell Q0.out (by simp;omega);have s1:=hSw.cell Q1.out (by simp;omega);have s2:=hSw.cell Q2.out (by simp;omega);have s3:=hSw.cell Q3.out (by simp;omega);clear hSw;go_simp
         all_goals with_reducible rfl
        ·exact fun _ _ _ h=>h
        try simp only [Act.put,Lq1,Lq2,Lq3]
        refine wpAnyH_ready (rs:=[2]) (by kernel_rfl) (by simp) ?_
        refine AllReadyH.cons (o:=?_) ?_ ?_ AllReadyH.nil
        rotate_left 1
        ·(simp only [Gq1,Gq2,Gq3])<;>rfl
        intro K hK
        go_simp
        refine HK.out.mono ?_
        rintro e12 w12 ⟨rfl,⟨jj,h12⟩,m12⟩
        have N12:=Hxq ((Mod.refl [b] w11).drew.trans m12 (by simp));have H12:=Lib.hid h12
        clear m12 h12
        refine hK.out _ _ (by (try dsimp only);exact N12.out.mono (by simp)) (fun hHeld=>?_)
        clear hK K
        try simp only [Act.put,Lq1,Lq2,Lq3]
        refine wpAnyH_ready (rs:=[3]) (by kernel_rfl) (by simp) ?_
        refine AllReadyH.cons (o:=?_) ?_ ?_ AllReadyH.nil
        rotate_left 1
        ·(simp only [Gq1,Gq2,Gq3])<;>rfl
        intro K hK
        have Aw12:=Hxq (N12.out.at A11.out (by simp;omega))
        obtain ⟨r0,r1,r2,r3⟩:=cells4 Aw12.out
        have fA:∀ j,w12.frozen? ⟨w.heap.size,j,none⟩=false:=fun j=>free_at Aw12.out j
        have mR:=setCs_mod w.heap.size [.string (Lx.ofS t.text),.slice va8 (acc.length+1) vc8,.int .i64 (t.line:Nat),.int .i64 (t.col:Nat)] 0 w12
        have NR:=Hxq ((N12.out.mono (T:=[b,w.heap.size]) (by simp)).trans (mR.mono (T:=[b,w.heap.size]) (by simp)) (by simp))
        clear mR
        go_simp
        refine hK.out _ _ (by (try dsimp only);exact NR.out) (fun hHeld=>?_)
        clear hK K
        try simp only [Act.put,Lq1,Lq2,Lq3]
        refine Tkq 4 (v:=?_) (by assumption) ?_ ?_ ?_
        rotate_left 1
        ·refine .inl ⟨by rfl,?_⟩;intro w hSw;have s0:=hSw.cell Q0.out (by simp;omega);have s1:=hSw.cell Q1.out (by simp;omega);have s2:=hSw.cell Q2.out (by simp;omega);have s3:=hSw.cell Q3.out (by simp;omega);clear hSw;go_simp
         all_goals with_reducible rfl
        ·exact fun _ _ _ h=>h
        try simp only [Act.put,Lq1,Lq2,Lq3]
        refine wpAnyH_done (by kernel_rfl) ?_ _
        clear r0 r1 r2 r3 fA
        go_wp2_with fail
        have mR:=setCs_mod w.heap.size [.string (Lx.ofS t.text),.slice va8 (acc.length+1) vc8,.int .i64 (t.line:Nat),.int .i64 (t.col:Nat)] 0 w12
        have M12:=Hxq (G11.out.mod.trans (N12.out.mono (T:=[b,pa]) (by simp)) (by simp))
        refine bodyPost_ret (res_ct rfl _ _ _ _ _ rfl rfl (load_re (setCs_row (vs:=[.string (Lx.ofS t.text),.slice va8 (acc.length+1) vc8,.int .i64 (t.line:Nat),.int .i64 (t.col:Nat)]) Aw12.out rfl) rfl)) rfl ⟨_,rfl,⟨_,_,_,_,_,_,rfl⟩,⟨jj,H12.out.new HLo.out mR (by simp)⟩,fin_mod M5.out M12.out mR (by omega) (by omega)⟩
       | ok u k2 =>
        have hq2:q=.ok ⟨Sy.txt t.text,acc++[1],t.line,t.col⟩ k2:=hq
        clear hq
        subst hq2
        have Q0:=Hxq (show w11.cell? ⟨pa,0,none⟩=some (.string (Lx.ofS t.text)) from cell_at B11.out 0)
        have Q1:=Hxq (show w11.cell? ⟨pa,1,none⟩=some (.slice va8 (acc.length+1) vc8) from cell_at B11.out 1)
        have Q2:=Hxq (show w11.cell? ⟨pa,2,none⟩=some (.int .i64 (t.line:Nat)) from cell_at B11.out 2)
        have Q3:=Hxq (show w11.cell? ⟨pa,3,none⟩=some (.int .i64 (t.col:Nat)) from cell_at B11.out 3)
        refine wp_region_held_drew (S:=(fun w':World=>Mod [b,w.heap.size] w11 w')) (by kernel_rfl) (by (try dsimp only);exact (Mod.refl [b,w.heap.size] w11).drew) (fun hHeld=>?_)
        refine Tkq 0 (v:=?_) (by assumption) ?_ ?_ ?_
        rotate_left 1
        ·refine .inl ⟨by rfl,?_⟩;intro w hSw;have s0:=hSw.cell Q0.out (by simp;omega);have s1:=hSw.cell Q1.out (by simp;omega);have s2:=hSw.cell Q2.out (by simp;omega);have s3:=hSw.cell Q3.out (by simp;omega);clear hSw;go_simp
         all_goals with_reducible rfl
        ·exact fun _ _ _ h=>h
        try simp only [Act.put,Lq1,Lq2,Lq3]
        refine Tkq 1 (v:=?_) (by assumption) ?_ ?_ ?_
        rotate_left 1
        ·refine .inl ⟨by rfl,?_⟩;intro w hSw;have s0:=hSw.cell Q0.out (by simp;omega);have s1:=hSw.cell Q1.out (by simp;omega);have s2:=hSw.cell Q2.out (by simp;omega);have s3:=hSw.cell Q3.out (by simp;omega);clear hSw;go_simp
         all_goals with_reducible rfl
        ·exact fun _ _ _ h=>h
        try simp only [Act.put,Lq1,Lq2,Lq3]
        refine wpAnyH_ready (rs:=[2]) (by kernel_rfl) (by simp) ?_
        refine AllReadyH.cons (o:=?_) ?_ ?_ AllReadyH.nil
        rotate_left 1
        ·(simp only [Gq1,Gq2,Gq3])<;>rfl
        intro K hK
        go_simp
        refine HK.out.mono ?_
        rintro e12 w12 ⟨rfl,h12,m12⟩
        have N12:=Hxq ((Mod.refl [b] w11).drew.trans m12 (by simp));have H12:=Lib.hid h12
        clear m12 h12
        refine hK.out _ _ (by (try dsimp only);exact N12.out.mono (by simp)) (fun hHeld=>?_)
        clear hK K
        try simp only [Act.put,Lq1,Lq2,Lq3]
        refine wpAnyH_ready (rs:=[3]) (by kernel_rfl) (by simp) ?_
        refine AllReadyH.cons (o:=?_) ?_ ?_ AllReadyH.nil
        rotate_left 1
        ·(simp only [Gq1,Gq2,Gq3])<;>rfl
        intro K hK
        have Aw12:=Hxq (N12.out.at A11.out (by simp;omega))
        obtain ⟨r0,r1,r2,r3⟩:=cells4 Aw12.out
        have fA:∀ j,w12.frozen? ⟨w.heap.size,j,none⟩=false:=fun j=>free_at Aw12.out j
        have mR:=setCs_mod w.heap.size [.string (Lx.ofS t.text),.slice va8 (acc.length+1) vc8,.int .i64 (t.line:Nat),.int .i64 (t.col:Nat)] 0 w12
        have NR:=Hxq ((N12.out.mono (T:=[b,w.heap.size]) (by simp)).trans (mR.mono (T:=[b,w.heap.size]) (by simp)) (by simp))
        clear mR
        go_simp
        refine hK.out _ _ (by (try dsimp only);exact NR.out) (fun hHeld=>?_)
        clear hK K
        try simp only [Act.put,Lq1,Lq2,Lq3]
        refine Tkq 4 (v:=?_) (by assumption) ?_ ?_ ?_
        rotate_left 1
        ·refine .inl ⟨by rfl,?_⟩;intro w hSw;have s0:=hSw.cell Q0.out (by simp;omega);have s1:=hSw.cell Q1.out (by simp;omega);have s2:=hSw.cell Q2.out (by simp;omega);have s3:=hSw.cell Q3.out (by simp;omega);clear hSw;go_simp
         all_goals with_reducible rfl
        ·exact fun _ _ _ h=>h
        try simp only [Act.put,Lq1,Lq2,Lq3]
        refine wpAnyH_done (by kernel_rfl) ?_ _
        clear r0 r1 r2 r3 fA
        go_wp2_with fail
        have mR:=setCs_mod w.heap.size [.string (Lx.ofS t.text),.slice va8 (acc.length+1) vc8,.int .i64 (t.line:Nat),.int .i64 (t.col:Nat)] 0 w12
        have M12:=Hxq (G11.out.mod.trans (N12.out.mono (T:=[b,pa]) (by simp)) (by simp))
        have RW:=Hxq (RowB.of_owns (F:=fun k=>w.heap.size<k) intC_size (G11.out.keep bearsY (N12.out.mono (by simp))).row (fun k hk=>by have:=G11.out.new k hk;omega))
        refine bodyPost_ret (res_ct rfl _ _ _ _ _ rfl rfl (load_re (setCs_row (vs:=[.string (Lx.ofS t.text),.slice va8 (acc.length+1) vc8,.int .i64 (t.line:Nat),.int .i64 (t.col:Nat)]) Aw12.out rfl) rfl)) rfl ⟨_,rfl,?_,H12.out.new HLo.out mR (by simp),fin_mod M5.out M12.out mR (by omega) (by omega)⟩
        have hRW:=(RW.out.keep mR (fun s hs=>by rw [Msq] at hs;omega)).mono (F':=fun k=>w.heap.size<=k) (fun k hk _=>Nat.le_of_lt hk)
        rw [List.length_append] at hRW
        exact ⟨_,rfl,hRW⟩
      ·have HQ3:Hid (ql=(Sy.ty v (j+1+1)).bind fun a' j=>Sy.listF v [41] (Sy.ty v) g' (acc++[1]++[a']) j):=Hxq (by rw [HQ2.out,hL2 rfl])
       have hkl:=hs1 rfl
       clear hL2 hL3 HQ2 hs1
       go_wp2_with fail
       refine HI2.out.mono ?_
       rintro e11 w11 ⟨rfl,m11⟩
       have G11:=Hxq (G10.out.keep bearsY (m11.mono (by simp)));have A11:=Hxq (m11.at A10.out (by simp));have B11:=Hxq (m11.at B10.out (by simp));have H11:=Hxq (H10.out.past m11 (by simp))
       clear m11 G10 A10 B10 H10 HI2
       obtain ⟨c0,c1,c2,c3,c4,c5,c6,c7,c8,c9,fz⟩:=H11.out.cells
       have hT:=H11.out.to (j+1+1)
       have hcast:((j+1+1:Nat):Int)=((j+1:Nat):Int)+1:=by omega
       rw [hcast] at hT
       have A12:=Hxq (hT.2.at A11.out hnb);have B12:=Hxq (hT.2.at B11.out hpb);have G12:=Hxq (G11.out.keep bearsY (hT.2.mono (by simp)));have H12:=Lib.hid hT.1
       clear hT hcast
       go_wp2_with fail
       go_roundg g'
       case measure=>omega
       case rel=>exact ⟨j+1+1,acc++[1],va8,vc8,G12.out,H12.out,A12.out,by rw [List.length_append];exact B12.out,by omega,by omega,by simp;omega,HQ3.out⟩
   ·have hql:ql=.ok [] (j+1):=HL0.out
    subst hql
    have hq:q=.ok ⟨Sy.txt t.text,[],t.line,t.col⟩ (j+1):=HR3.out
    subst hq
    clear HR3 HL0
    obtain ⟨c0,c1,c2,c3,c4,c5,c6,c7,c8,c9,fz⟩:=H5.out.cells
    have hT:=H5.out.to (j+1)
    have aD:(w5.setCell ⟨b,6,none⟩ (.int .i64 ((j:Int)+1))).heap[w.heap.size]?=_:=hT.2.at A5.out (by simp;omega)
    have bD:(w5.setCell ⟨b,6,none⟩ (.int .i64 ((j:Int)+1))).heap[pa]?=_:=hT.2.at B5.out (by simp;omega)
    have HD2:Hid (RpP (w5.setCell ⟨b,6,none⟩ (.int .i64 ((j:Int)+1))) b ra rc L v (j+1) nf0):=Lib.hid hT.1
    have MD2:Hid (Mod [b] w (w5.setCell ⟨b,6,none⟩ (.int .i64 ((j:Int)+1)))):=Hxq ((M5.out.mono (T:=[b]) (by simp)).trans hT.2 (by simp))
    clear hT
    go_upto_region 11 with fail
    generalize w5.setCell ⟨b,6,none⟩ (.int .i64 ((j:Int)+1))=wD at *
    clear c0 c1 c2 c3 c4 c5 c6 c7 c8 c9 fz
    have AD:=Lib.hid aD;have BD:=Lib.hid bD
    clear aD bD
    obtain ⟨y0,y1,y2,y3⟩:=cells4 BD.out
    obtain ⟨r0,r1,r2,r3⟩:=cells4 AD.out
    have fA:∀ j,wD.frozen? ⟨w.heap.size,j,none⟩=false:=fun j=>free_at AD.out j
    go_wp2_with fail
    have mR:=setCs_mod w.heap.size [.string (Lx.ofS t.text),.slice none 0 0,.int .i64 (t.line:Nat),.int .i64 (t.col:Nat)] 0 wD
    refine bodyPost_ret (res_ct rfl _ _ _ _ _ rfl rfl (load_re (setCs_row (vs:=[.string (Lx.ofS t.text),.slice none 0 0,.int .i64 (t.line:Nat),.int .i64 (t.col:Nat)]) AD.out rfl) rfl)) rfl ⟨_,rfl,?_,HD2.out.new HLo.out mR (by simp),MD2.out.trans mR (by simp)⟩
    exact ⟨_,rfl,.nil⟩
end Go.Proofs.YtppigckioalhhaaGreatDoorR
