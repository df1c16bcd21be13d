/- THE TEXTS MERGED: RpRule RfFn RfNum RfPart. -/
import Derived.Test.YtppigckioalhhaaGreatDoorRKT1
import Derived.Test.YtppigckioalhhaaGreatDoorRKT29
import Derived.Test.YtppigckioalhhaaGreatDoorRKT15
import Derived.Test.YtppigckioalhhaaGreatDoorRKT5
namespace Go.Proofs.YtppigckioalhhaaGreatDoorR
open Go.RowKit
set_option linter.unusedVariables false
set_option linter.unusedSimpArgs false
set_option maxRecDepth 100000
theorem rlit_all (b:Nat) (ra:Option Addr) (rc:Nat) (L:LX) (v:Sy.Env) (hk:EnvK v):∀ k br,br<=16->17 - br<=k->RlC b ra rc L v k br
 | 0,br,h,hq=>by omega
 | k+1,br,h,hq=>rl_of b ra rc L v k br hk (ra_of b ra rc L v k br hk h (fun hb=>rb_of b ra rc L v k (br+1) hk (rlit_all b ra rc L v hk k (br+1) (by omega) (by omega))))
theorem rlit_any (b:Nat) (ra:Option Addr) (rc:Nat) (L:LX) (v:Sy.Env) (i:Nat) (w:World) (h:RpP w b ra rc L v i nf0) (hk:EnvK v) (hi:i<=v.ws.length) :
  Calls Tryz.prog 44 #[.pointer (some ⟨b,0,none⟩),.int .i64 0] w (RRes b ra rc L v (Sy.lit v 0 i) (valL w.heap.size) badL w):=rlit_all b ra rc L v hk 18 0 (by omega) (by omega) i w h hi
theorem rbody_any (b:Nat) (ra:Option Addr) (rc:Nat) (L:LX) (v:Sy.Env) (i:Nat) (w:World) (h:RpP w b ra rc L v i nf0) (hk:EnvK v) (hi:i<=v.ws.length) :
  Calls Tryz.prog 67 #[.pointer (some ⟨b,0,none⟩),.int .i64 0] w (RRes b ra rc L v (Sy.body v i) (valB w.heap.size) (fun x=>x=.slice none 0 0) w):=rb_of b ra rc L v 18 0 hk (rlit_all b ra rc L v hk 18 0 (by omega) (by omega)) i w h hi
def badU (x:Value):Prop:=∃ (s:ByteArray) (a:Option Addr) (n c:Nat) (a2:Option Addr) (n2 c2:Nat) (l k:Int),x=.agg #[.string s,.slice a n c,.slice a2 n2 c2,.int .i64 l,.int .i64 k]
theorem Tryz.sizeRu:(Tryz.prog.info? 55).map (·.size)=some 5:=by kernel_rfl
theorem load_ru {w:World} {b:Nat} {C:Array Value} {T:TypeId} {fr:Nat × Nat} (hg:w.heap[b]?=some (.cells C T fr)) (hc:C.size=5):(loadVar 55 ⟨b,0,none⟩).run Tryz.prog w=.ok (.agg C) w :=
 run_loadVar_row (P:=Tryz.prog) w b T 55 C fr _ hg Tryz.underlying55 rfl (by rw [Tryz.sizeRu,hc])
set_option maxHeartbeats 16000000 in
theorem rrule_any (b:Nat) (ra:Option Addr) (rc:Nat) (L:LX) (v:Sy.Env) (i:Nat) (w:World) (h:RpP w b ra rc L v i nf0) (hk:EnvK v) (hi:i<=v.ws.length) :
  Calls Tryz.prog 35 #[.pointer (some ⟨b,0,none⟩)] w (RRes b ra rc L v (Sy.rule v i) (valR w.heap.size) badU w):=by
 have hv:=hk.ok
 have hlen:=hv.len
 have mA:=(Mod.refl [] w).alloc (Obj.cells #[.string ⟨#[]⟩,.slice none 0 0,.slice none 0 0,.int .i64 0,.int .i64 0] 55)
 have hA:=h.past mA (by simp)
 have eA:=heap_alloc_new w (Obj.cells #[.string ⟨#[]⟩,.slice none 0 0,.slice none 0 0,.int .i64 0,.int .i64 0] 55)
 have HP:=Hxq (rword0 b ra rc L v i nf0 _ hA hv (by omega))
 have HR:=Hxq (rule_eq v i)
 have HAt:=Hxq (fun w h=>ratom_any b ra rc L v false i w h hk hi)
 have HIs:=Hxq (fun j w h hj=>ris_any b ra rc L v j nf0 [58,45] { data:=#[58,45] } w h hv hj rfl (by decide))
 have HBo:=Hxq (fun j w h hj=>rbody_any b ra rc L v j w h hk hj)
 have hadvA:=Sy.adv_atom v i
 have HLo:=Lib.hid h.low
 have hbl:=h.lt
 have HA:=Lib.hid hA;have EA:=Lib.hid eA;have MA:=Lib.hid mA
 have hnb:w.heap.size∉[b]:=by simp;omega
 clear h hA eA mA
 rw [Sy.atomB_false] at HAt
 generalize hq:Sy.rule v i=q at *
 generalize Sy.atom v i=pa at *
 generalize v.tk i=t at *
 clear hq
 go_enter Tryz.func35,Tryz.ntmps35
 go_upto_region 1 with fail
 generalize w.alloc (Obj.cells #[.string ⟨#[]⟩,.slice none 0 0,.slice none 0 0,.int .i64 0,.int .i64 0] 55)=wA at *
 go_wp2_with fail
 refine HP.out.mono ?_
 rintro e1 w1 ⟨rfl,m1⟩
 have A1:=Hxq (m1.at EA.out (by simp));have H1:=Hxq (HA.out.past m1 (by simp));have M1:=Hxq ((MA.out.mono (T:=[b]) (by simp)).trans m1 (by simp))
 have z1:=lt_of_block A1.out
 have mD:=(Mod.refl [] w1).alloc (Obj.cells #[.string ⟨#[]⟩,.slice none 0 0,.slice none 0 0,.int .i64 (t.line:Nat),.int .i64 (t.col:Nat)] 55)
 have dD:=heap_alloc_new w1 (Obj.cells #[.string ⟨#[]⟩,.slice none 0 0,.slice none 0 0,.int .i64 (t.line:Nat),.int .i64 (t.col:Nat)] 55)
 have H2:=Hxq (H1.out.past mD (by simp));have M2:=Hxq (M1.out.trans mD (by simp));have A2:=Hxq (mD.at A1.out (by simp));have G2:=Lib.hid dD
 clear m1 HP mD dD A1 H1 M1 HA EA MA
 have hfd:=fun w=>field_pos t w
 unfold tokC
 go_upto_region 2 with fail
 generalize w1.alloc (Obj.cells _ 55)=w2 at *
 clear hfd
 generalize hgg:w1.heap.size=g at *
 have hgb:g∉[b]:=by simp;omega
 have HAt2:=Hxq (HAt.out w2 H2.out)
 clear HAt
 cases pa with
 | err g1 =>
  have hq:q=.err g1:=HR.out
  subst hq
  clear HR hadvA
  go_wp2_with fail
  refine HAt2.out.mono ?_
  rintro e30 w30 ⟨x30,rfl,⟨sa,ua,na,ca,rfl⟩,⟨jj,h30⟩,m30⟩
  have z30:=m30.size
  have zz30:=lt_of_block G2.out
  have A30:=Hxq (m30.at A2.out hnb);have G30:=Hxq (m30.at G2.out hgb);have M30:=Hxq (M2.out.trans m30 (by simp));have H30:=Lib.hid h30
  clear h30 m30
  have m31:=(Mod.refl [] w30).alloc (Obj.cells #[.string sa,.slice ua na ca] 40)
  have D31:=Hxq (heap_alloc_new w30 (Obj.cells #[.string sa,.slice ua na ca] 40))
  have A31:=Hxq (m31.at A30.out (by simp));have G31:=Hxq (m31.at G30.out (by simp));have M31:=Hxq (M30.out.trans m31 (by simp));have H31:=Hxq (H30.out.past m31 (by simp))
  clear m31 A30 G30 M30 H30
  go_upto_region 3 with fail
  generalize w30.alloc (Obj.cells _ 40)=w31 at *
  obtain ⟨d0,d1⟩:=cells2 D31.out
  have mS:Mod [g] w31 ((w31.setCell ⟨g,0,none⟩ (.string sa)).setCell ⟨g,1,none⟩ (.slice ua na ca)):=setCs_mod g [.string sa,.slice ua na ca] 0 w31
  have G32:Hid (((w31.setCell ⟨g,0,none⟩ (.string sa)).setCell ⟨g,1,none⟩ (.slice ua na ca)).heap[g]?=some (.cells #[.string sa,.slice ua na ca,.slice none 0 0,.int .i64 (t.line:Nat),.int .i64 (t.col:Nat)] 55 (0,0))):=Hxq (setCs_heap [.string sa,.slice ua na ca] 0 [.string ⟨#[]⟩,.slice none 0 0,.slice none 0 0,.int .i64 (t.line:Nat),.int .i64 (t.col:Nat)] w31 G31.out)
  have H32:=Hxq (H31.out.new HLo.out mS (by simp;omega));have A32:=Hxq (mS.at A31.out (by simp;omega));have M32:=Hxq (M31.out.trans mS (by simp;omega))
  have k0:w31.cell? ⟨g,0,none⟩=some (.string ⟨#[]⟩):=cell_at G31.out 0
  have k1:w31.cell? ⟨g,1,none⟩=some (.slice none 0 0):=cell_at G31.out 1
  have fg:∀ j,w31.frozen? ⟨g,j,none⟩=false:=fun j=>free_at G31.out j
  clear mS
  go_upto_region 4 with fail
  generalize ((w31.setCell ⟨g,0,none⟩ (.string sa)).setCell ⟨g,1,none⟩ (.slice ua na ca))=w32 at *
  clear k0 k1 fg A31 G31 M31 H31
  clear d0 d1
  obtain ⟨x0,x1,x2,x3,x4⟩:=cells5 G32.out
  obtain ⟨y0,y1,y2,y3,y4⟩:=cells5 A32.out
  have fA:∀ j,w32.frozen? ⟨w.heap.size,j,none⟩=false:=fun j=>free_at A32.out j
  go_wp2_with fail
  have mR:=setCs_mod w.heap.size [.string sa,.slice ua na ca,.slice none 0 0,.int .i64 (t.line:Nat),.int .i64 (t.col:Nat)] 0 w32
  refine bodyPost_ret (res_ct rfl _ _ _ _ _ rfl rfl (load_ru (setCs_row (vs:=[.string sa,.slice ua na ca,.slice none 0 0,.int .i64 (t.line:Nat),.int .i64 (t.col:Nat)]) A32.out rfl) rfl)) rfl ⟨_,rfl,⟨_,_,_,_,_,_,_,_,_,rfl⟩,⟨jj,H32.out.new HLo.out mR (by simp)⟩,M32.out.trans mR (by simp)⟩
 | ok a j =>
  have hj:=hadvA a j hi rfl
  have HR2:Hid (q=(if Sy.sign (v.tk j) [58,45]=true then Sy.body v (j+1) else .ok [] j).bind fun b j=>.ok ⟨a,b,t.line,t.col⟩ j):=Lib.hid HR.out
  clear HR hadvA
  go_wp2_with fail
  refine HAt2.out.mono ?_
  rintro e30 w30 ⟨x30,rfl,⟨ua0,rfl,hb30⟩,h30,m30⟩
  obtain ⟨ua,ca,rfl⟩:=hb30.lit
  have z30:=m30.size
  have zz30:=lt_of_block G2.out
  have A30:=Hxq (m30.at A2.out hnb);have G30:=Hxq (m30.at G2.out hgb);have M30:=Hxq (M2.out.trans m30 (by simp));have H30:=Lib.hid h30
  have Q30:=Hxq (hb30.mono (F':=(fun k=>w.heap.size<k/\k≠g)) (fun k hk hk2=>by omega))
  clear h30 m30 hb30
  have m31:=(Mod.refl [] w30).alloc (Obj.cells #[.string a.rel,.slice ua a.terms.length ca] 40)
  have D31:=Hxq (heap_alloc_new w30 (Obj.cells #[.string a.rel,.slice ua a.terms.length ca] 40))
  have Q31:=Hxq (Q30.out.keep m31 (by simp))
  have A31:=Hxq (m31.at A30.out (by simp));have G31:=Hxq (m31.at G30.out (by simp));have M31:=Hxq (M30.out.trans m31 (by simp));have H31:=Hxq (H30.out.past m31 (by simp))
  clear m31 A30 G30 M30 H30
  go_upto_region 3 with fail
  generalize w30.alloc (Obj.cells _ 40)=w31 at *
  obtain ⟨d0,d1⟩:=cells2 D31.out
  have mS:Mod [g] w31 ((w31.setCell ⟨g,0,none⟩ (.string a.rel)).setCell ⟨g,1,none⟩ (.slice ua a.terms.length ca)):=setCs_mod g [.string a.rel,.slice ua a.terms.length ca] 0 w31
  have G32:Hid (((w31.setCell ⟨g,0,none⟩ (.string a.rel)).setCell ⟨g,1,none⟩ (.slice ua a.terms.length ca)).heap[g]?=some (.cells #[.string a.rel,.slice ua a.terms.length ca,.slice none 0 0,.int .i64 (t.line:Nat),.int .i64 (t.col:Nat)] 55 (0,0))):=Hxq (setCs_heap [.string a.rel,.slice ua a.terms.length ca] 0 [.string ⟨#[]⟩,.slice none 0 0,.slice none 0 0,.int .i64 (t.line:Nat),.int .i64 (t.col:Nat)] w31 G31.out)
  have H32:=Hxq (H31.out.new HLo.out mS (by simp;omega));have A32:=Hxq (mS.at A31.out (by simp;omega));have M32:=Hxq (M31.out.trans mS (by simp;omega))
  have Q32:=Hxq (Q31.out.keep mS (fun s hs=>by rw [Msq] at hs;omega))
  have k0:w31.cell? ⟨g,0,none⟩=some (.string ⟨#[]⟩):=cell_at G31.out 0
  have k1:w31.cell? ⟨g,1,none⟩=some (.slice none 0 0):=cell_at G31.out 1
  have fg:∀ j,w31.frozen? ⟨g,j,none⟩=false:=fun j=>free_at G31.out j
  clear mS
  go_upto_region 4 with fail
  generalize ((w31.setCell ⟨g,0,none⟩ (.string a.rel)).setCell ⟨g,1,none⟩ (.slice ua a.terms.length ca))=w32 at *
  clear k0 k1 fg A31 G31 M31 H31
  clear d0 d1
  have HI:=Hxq (HIs.out j w32 H32.out (by omega))
  have hsl:=fun h=>Sy.sign_lt (v:=v) (i:=j) (s:=[58,45]) h
  generalize Sy.sign (v.tk j) [58,45]=rs at *
  go_wp2_with fail
  refine HI.out.mono ?_
  rintro e33 w33 ⟨rfl,m33⟩
  have Q33:=Hxq (Q32.out.keep m33 (by simp))
  have A33:=Hxq (m33.at A32.out (by simp));have G33:=Hxq (m33.at G32.out (by simp));have M33:=Hxq (M32.out.trans m33 (by simp));have H33:=Hxq (H32.out.past m33 (by simp))
  clear m33 A32 G32 M32 H32
  cases rs
  ·have hq:q=.ok ⟨a,[],(t.line:Nat),(t.col:Nat)⟩ j:=HR2.out
   subst hq
   clear HR2 hsl
   obtain ⟨x0,x1,x2,x3,x4⟩:=cells5 G33.out
   obtain ⟨y0,y1,y2,y3,y4⟩:=cells5 A33.out
   have fA:∀ j,w33.frozen? ⟨w.heap.size,j,none⟩=false:=fun j=>free_at A33.out j
   go_wp2_with fail
   have mR:=setCs_mod w.heap.size [.string a.rel,.slice ua a.terms.length ca,.slice none 0 0,.int .i64 (t.line:Nat),.int .i64 (t.col:Nat)] 0 w33
   refine bodyPost_ret (res_ct rfl _ _ _ _ _ rfl rfl (load_ru (setCs_row (vs:=[.string a.rel,.slice ua a.terms.length ca,.slice none 0 0,.int .i64 (t.line:Nat),.int .i64 (t.col:Nat)]) A33.out rfl) rfl)) rfl ⟨_,rfl,⟨.slice ua a.terms.length ca,.slice none 0 0,rfl,(Q33.out.keep mR (fun s hs=>by rw [Msq] at hs;omega)).mono (fun k hk _=>Nat.le_of_lt hk.1),BB.nil⟩,H33.out.new HLo.out mR (by simp),M33.out.trans mR (by simp)⟩
  ·have HR3:Hid (q=(Sy.body v (j+1)).bind fun b j=>.ok ⟨a,b,t.line,t.col⟩ j):=Lib.hid HR2.out
   have hjl:=hsl rfl
   clear HR2 hsl
   obtain ⟨c0,c1,c2,c3,c4,c5,c6,c7,c8,c9,fz⟩:=H33.out.cells
   have hT:=H33.out.to (j+1)
   have hcast:((j+1:Nat):Int)=(j:Int)+1:=by omega
   rw [hcast] at hT
   have zG:=lt_of_block G33.out
   have A34:=Hxq (hT.2.at A33.out hnb);have G34:=Hxq (hT.2.at G33.out hgb);have M34:=Hxq (M33.out.trans hT.2 (by simp));have H34:=Lib.hid hT.1;have Q34:=Hxq (Q33.out.keep hT.2 (fun s hs=>by rw [Msq] at hs;omega))
   clear hT hcast
   go_upto_region 7 with fail
   generalize w33.setCell ⟨b,6,none⟩ (.int .i64 ((j:Int)+1))=w34 at *
   clear c0 c1 c2 c3 c4 c5 c6 c7 c8 c9 fz A33 G33 M33 H33 Q33
   have HB:=Hxq (HBo.out (j+1) w34 H34.out (by omega))
   clear HBo
   generalize Sy.body v (j+1)=pb at *
   cases pb with
   | err g1 =>
    have hq:q=.err g1:=HR3.out
    subst hq
    clear HR3
    go_wp2_with fail
    refine HB.out.mono ?_
    rintro e35 w35 ⟨x35,rfl,rfl,⟨jj,h35⟩,m35⟩
    have z35:=m35.size
    have zz35:=lt_of_block G34.out
    have A35:=Hxq (m35.at A34.out hnb);have G35:=Hxq (m35.at G34.out hgb);have M35:=Hxq (M34.out.trans m35 (by simp));have H35:=Lib.hid h35
    have Q35:=Hxq (Q34.out.keep m35 (fun s hs=>by rw [Msq] at hs;omega))
    clear h35 m35
    have mS:Mod [g] w35 (w35.setCell ⟨g,2,none⟩ (.slice none 0 0)):=setCs_mod g [.slice none 0 0] 2 w35
    have G36:Hid ((w35.setCell ⟨g,2,none⟩ (.slice none 0 0)).heap[g]?=some (.cells #[.string a.rel,.slice ua a.terms.length ca,.slice none 0 0,.int .i64 (t.line:Nat),.int .i64 (t.col:Nat)] 55 (0,0))):=Hxq (setCs_heap [.slice none 0 0] 2 [.string a.rel,.slice ua a.terms.length ca,.slice none 0 0,.int .i64 (t.line:Nat),.int .i64 (t.col:Nat)] w35 G35.out)
    have H36:=Hxq (H35.out.new HLo.out mS (by simp;omega));have A36:=Hxq (mS.at A35.out (by simp;omega));have M36:=Hxq (M35.out.trans mS (by simp;omega))
    have Q36:=Hxq (Q35.out.keep mS (fun s hs=>by rw [Msq] at hs;omega))
    have k0:w35.cell? ⟨g,2,none⟩=some (.slice none 0 0):=cell_at G35.out 2
    have fg:∀ j,w35.frozen? ⟨g,j,none⟩=false:=fun j=>free_at G35.out j
    clear mS
    go_upto_region 9 with fail
    generalize (w35.setCell ⟨g,2,none⟩ (.slice none 0 0))=w36 at *
    clear k0 fg A35 G35 M35 H35
    obtain ⟨x0,x1,x2,x3,x4⟩:=cells5 G36.out
    obtain ⟨y0,y1,y2,y3,y4⟩:=cells5 A36.out
    have fA:∀ j,w36.frozen? ⟨w.heap.size,j,none⟩=false:=fun j=>free_at A36.out j
    go_wp2_with fail
    have mR:=setCs_mod w.heap.size [.string a.rel,.slice ua a.terms.length ca,.slice none 0 0,.int .i64 (t.line:Nat),.int .i64 (t.col:Nat)] 0 w36
    refine bodyPost_ret (res_ct rfl _ _ _ _ _ rfl rfl (load_ru (setCs_row (vs:=[.string a.rel,.slice ua a.terms.length ca,.slice none 0 0,.int .i64 (t.line:Nat),.int .i64 (t.col:Nat)]) A36.out rfl) rfl)) rfl ⟨_,rfl,⟨_,_,_,_,_,_,_,_,_,rfl⟩,⟨jj,H36.out.new HLo.out mR (by simp)⟩,M36.out.trans mR (by simp)⟩
   | ok bd n =>
    have hq:q=.ok ⟨a,bd,(t.line:Nat),(t.col:Nat)⟩ n:=HR3.out
    subst hq
    clear HR3
    go_wp2_with fail
    refine HB.out.mono ?_
    rintro e35 w35 ⟨x35,rfl,hb35,h35,m35⟩
    unfold valB at hb35
    obtain ⟨ub,cb,rfl⟩:=hb35.lit
    have z35:=m35.size
    have zz35:=lt_of_block G34.out
    have A35:=Hxq (m35.at A34.out hnb);have G35:=Hxq (m35.at G34.out hgb);have M35:=Hxq (M34.out.trans m35 (by simp));have H35:=Lib.hid h35
    have zz:=lt_of_block A34.out
    have Q35:=Hxq (Q34.out.keep m35 (fun s hs=>by rw [Msq] at hs;omega));have B35:=Hxq (hb35.mono (F':=(fun k=>w.heap.size<k/\k≠g)) (fun k hk hk2=>by omega))
    clear h35 m35 hb35
    have mS:Mod [g] w35 (w35.setCell ⟨g,2,none⟩ (.slice ub bd.length cb)):=setCs_mod g [.slice ub bd.length cb] 2 w35
    have G36:Hid ((w35.setCell ⟨g,2,none⟩ (.slice ub bd.length cb)).heap[g]?=some (.cells #[.string a.rel,.slice ua a.terms.length ca,.slice ub bd.length cb,.int .i64 (t.line:Nat),.int .i64 (t.col:Nat)] 55 (0,0))):=Hxq (setCs_heap [.slice ub bd.length cb] 2 [.string a.rel,.slice ua a.terms.length ca,.slice none 0 0,.int .i64 (t.line:Nat),.int .i64 (t.col:Nat)] w35 G35.out)
    have H36:=Hxq (H35.out.new HLo.out mS (by simp;omega));have A36:=Hxq (mS.at A35.out (by simp;omega));have M36:=Hxq (M35.out.trans mS (by simp;omega))
    have Q36:=Hxq (Q35.out.keep mS (fun s hs=>by rw [Msq] at hs;omega))
    have B36:=Hxq (B35.out.keep mS (fun s hs=>by rw [Msq] at hs;omega))
    have k0:w35.cell? ⟨g,2,none⟩=some (.slice none 0 0):=cell_at G35.out 2
    have fg:∀ j,w35.frozen? ⟨g,j,none⟩=false:=fun j=>free_at G35.out j
    clear mS
    go_upto_region 9 with fail
    generalize (w35.setCell ⟨g,2,none⟩ (.slice ub bd.length cb))=w36 at *
    clear k0 fg A35 G35 M35 H35
    obtain ⟨x0,x1,x2,x3,x4⟩:=cells5 G36.out
    obtain ⟨y0,y1,y2,y3,y4⟩:=cells5 A36.out
    have fA:∀ j,w36.frozen? ⟨w.heap.size,j,none⟩=false:=fun j=>free_at A36.out j
    go_wp2_with fail
    have mR:=setCs_mod w.heap.size [.string a.rel,.slice ua a.terms.length ca,.slice ub bd.length cb,.int .i64 (t.line:Nat),.int .i64 (t.col:Nat)] 0 w36
    refine bodyPost_ret (res_ct rfl _ _ _ _ _ rfl rfl (load_ru (setCs_row (vs:=[.string a.rel,.slice ua a.terms.length ca,.slice ub bd.length cb,.int .i64 (t.line:Nat),.int .i64 (t.col:Nat)]) A36.out rfl) rfl)) rfl ⟨_,rfl,⟨.slice ua a.terms.length ca,.slice ub bd.length cb,rfl,(Q36.out.keep mR (fun s hs=>by rw [Msq] at hs;omega)).mono (fun k hk _=>Nat.le_of_lt hk.1),(B36.out.keep mR (fun s hs=>by rw [Msq] at hs;omega)).mono (fun k hk _=>Nat.le_of_lt hk.1)⟩,H36.out.new HLo.out mR (by simp),M36.out.trans mR (by simp)⟩
theorem rSmall_any (c:Int) (b:Bool) (hb:smallI c=b) (w:World) :
  Calls Tryz.prog 148 #[.int .u8 c] w fun e w'=>e=.returned (.bool b)/\w=w':=by
 subst hb
 unfold smallI
 by_cases h1:97<=c
 ·go_enter Tryz.func148,Tryz.ntmps148
  go_wp2
  all_goals go_ret
  all_goals exact ⟨ret_bool (by rw [Bool.eq_iff_iff];simp <;> omega),rfl⟩
 ·go_enter Tryz.func148,Tryz.ntmps148
  go_wp2
  all_goals go_ret
  all_goals exact ⟨ret_bool (by rw [Bool.eq_iff_iff];simp <;> omega),rfl⟩
theorem rCapital_any (c:Int) (b:Bool) (hb:capitalI c=b) (w:World) :
  Calls Tryz.prog 149 #[.int .u8 c] w fun e w'=>e=.returned (.bool b)/\w=w':=by
 subst hb
 unfold capitalI
 by_cases h1:65<=c
 ·go_enter Tryz.func149,Tryz.ntmps149
  go_wp2
  all_goals go_ret
  all_goals exact ⟨ret_bool (by rw [Bool.eq_iff_iff];simp <;> omega),rfl⟩
 ·go_enter Tryz.func149,Tryz.ntmps149
  go_wp2
  all_goals go_ret
  all_goals exact ⟨ret_bool (by rw [Bool.eq_iff_iff];simp <;> omega),rfl⟩
theorem rDigit_any (c:Int) (b:Bool) (hb:digitI c=b) (w:World) :
  Calls Tryz.prog 150 #[.int .u8 c] w fun e w'=>e=.returned (.bool b)/\w=w':=by
 subst hb
 unfold digitI
 by_cases h1:48<=c
 ·go_enter Tryz.func150,Tryz.ntmps150
  go_wp2
  all_goals go_ret
  all_goals exact ⟨ret_bool (by rw [Bool.eq_iff_iff];simp <;> omega),rfl⟩
 ·go_enter Tryz.func150,Tryz.ntmps150
  go_wp2
  all_goals go_ret
  all_goals exact ⟨ret_bool (by rw [Bool.eq_iff_iff];simp <;> omega),rfl⟩
theorem rGoes_any (c:Nat) (w:World) :
  Calls Tryz.prog 164 #[.int .u8 (c:Int)] w fun e w'=>e=.returned (.bool (Lx.goes c))/\w=w':=by
 have H1:=fun b hb w=>rSmall_any (c:Int) b hb w
 have H2:=fun b hb w=>rCapital_any (c:Int) b hb w
 have H3:=fun b hb w=>rDigit_any (c:Int) b hb w
 rw [small_nat] at H1
 rw [capital_nat] at H2
 rw [digit_nat] at H3
 have hg:Lx.goes c=(Lx.small c || (Lx.capital c || (Lx.digit c || c == 95))):=rfl
 have h95:((c:Int) == 95)=(c == 95):=by rw [Bool.eq_iff_iff];simp;omega
 have HG:=Lib.hid hg
 clear hg
 generalize Lx.goes c=g at *
 cases b1:Lx.small c
 all_goals cases b2:Lx.capital c
 all_goals cases b3:Lx.digit c
 all_goals
  have K1:=Hxq (H1 _ b1);have K2:=Hxq (H2 _ b2);have K3:=Hxq (H3 _ b3)
  have hgo:=HG.out
  rw [b1,b2,b3] at hgo
  have HGO:=Lib.hid hgo
  have H95:=Lib.hid h95
  clear H1 H2 H3 b1 b2 b3 hgo HG h95
  go_enter Tryz.func164,Tryz.ntmps164
  go_wp2_with fail
  refine (K1.out _).mono ?_
  rintro e w2 ⟨rfl,rfl⟩
  go_wp2_with fail
  refine (K2.out _).mono ?_
  rintro e w2 ⟨rfl,rfl⟩
  go_wp2_with fail
  refine (K3.out _).mono ?_
  rintro e w2 ⟨rfl,rfl⟩
  go_wp2_with fail
  go_ret
  exact ⟨ret_bool (by rw [HGO.out];simp [H95.out]),rfl⟩
theorem digit_goes {c:Nat} (h:Lx.goes c=false):Lx.digit c=false:=by
 cases hd:Lx.digit c
 ·rfl
 ·rw [Lx.goes_of_digit hd] at h;cases h
def runP (d:Bool):Nat->Bool:=if d then Lx.digit else Lx.goes
set_option maxHeartbeats 1000000 in
theorem rRun_any (s:ByteArray) (hs:s.size<=9223372036854775806) (d:Bool) (w:World) :
  Calls Tryz.prog 151 #[.string s,.bool d] w fun e w'=>e=.returned (.int .i64 (Lx.run (runP d) (Cod.str s):Nat))/\w=w':=by
 have hrl:=Lx.run_le (runP d) (Cod.str s)
 have hll:=Cod.str_len s
 rw [hll] at hrl
 have HLL:=Lib.hid hll
 clear hll
 go_enter Tryz.func151,Tryz.ntmps151
 go_wp2_with fail
 go_loopw [5] (fun i wr=>∃ n:Nat,i=.int .i64 (n:Int)/\n<=Lx.run (runP d) (Cod.str s)/\wr=w) (fun i _=>s.size - (intOf i).toNat)
 case atStart=>exact ⟨0,rfl,Nat.zero_le _,rfl⟩
 case round =>
  obtain ⟨n,rfl,hn,rfl⟩:=hrel
  by_cases hlt:n<s.size
  ·have hc0:=Lx.get_str s n hlt
   have hst:=Lx.run_stop (runP d) (Cod.str s) n hn (by rw [HLL.out];exact hlt)
   have hgo:=Lx.run_ge_succ (runP d) (Cod.str s) n hn (by rw [HLL.out];exact hlt)
   generalize (Cod.str s).getD n 0=c at *
   have K1:=fun b hb w=>rDigit_any (c:Int) b hb w
   rw [digit_nat] at K1
   have K2:=rGoes_any c
   rw [hc0] at K1 K2
   have HC:=Lib.hid hc0
   clear hc0
   cases b2:Lx.goes c
   ·have b1:=digit_goes b2
    have hrun:=Hxq (hst (by unfold runP;cases d <;> simp [b1,b2]))
    have H1:=Hxq (K1 false (by rw [<-HC.out];exact b1))
    rw [<-HC.out,b2] at K2
    rw [HC.out] at K2
    have H2:=Lib.hid K2
    clear K1 K2 b1 b2 hst hgo
    cases d
    all_goals
     go_wp2_with fail
     refine (H1.out _).mono ?_
     rintro e w2 ⟨rfl,rfl⟩
     go_wp2_with fail
     refine (H2.out _).mono ?_
     rintro e w2 ⟨rfl,rfl⟩
     go_wp2_with fail
     go_ret
     exact ⟨by rw [hrun.out];rfl,rfl⟩
   ·cases b1:Lx.digit c
    ·cases d
     ·have hrun:=hgo (by simp [runP,b2])
      have H1:=Hxq (K1 false (by rw [<-HC.out];exact b1))
      rw [<-HC.out,b2] at K2
      rw [HC.out] at K2
      have H2:=Lib.hid K2
      clear K1 K2 b1 b2 hst hgo
      go_wp2_with fail
      refine (H1.out _).mono ?_
      rintro e w2 ⟨rfl,rfl⟩
      go_wp2_with fail
      refine (H2.out _).mono ?_
      rintro e w2 ⟨rfl,rfl⟩
      go_wp2_with fail
      go_roundw
      case rel=>exact ⟨n+1,by go_num,hrun,trivial⟩
      case measure=>simp [intOf];omega
     ·have hrun:=Hxq (hst (by simp [runP,b1]))
      have H1:=Hxq (K1 false (by rw [<-HC.out];exact b1))
      rw [<-HC.out,b2] at K2
      rw [HC.out] at K2
      have H2:=Lib.hid K2
      clear K1 K2 b1 b2 hst hgo
      go_wp2_with fail
      refine (H1.out _).mono ?_
      rintro e w2 ⟨rfl,rfl⟩
      go_wp2_with fail
      refine (H2.out _).mono ?_
      rintro e w2 ⟨rfl,rfl⟩
      go_wp2_with fail
      go_ret
      exact ⟨by rw [hrun.out];rfl,rfl⟩
    ·have hrun:=hgo (by unfold runP;cases d <;> simp [b1,b2])
     have H1:=Hxq (K1 true (by rw [<-HC.out];exact b1))
     rw [<-HC.out,b2] at K2
     rw [HC.out] at K2
     have H2:=Lib.hid K2
     clear K1 K2 b1 b2 hst hgo
     cases d
     all_goals
      go_wp2_with fail
      refine (H1.out _).mono ?_
      rintro e w2 ⟨rfl,rfl⟩
      go_wp2_with fail
      refine (H2.out _).mono ?_
      rintro e w2 ⟨rfl,rfl⟩
      go_wp2_with fail
      go_roundw
      case rel=>exact ⟨n+1,by go_num,hrun,trivial⟩
      case measure=>simp [intOf];omega
  ·go_wp2_with fail
   go_ret
   exact ⟨ret_int (by omega),rfl⟩
theorem num_step (l:List Nat) (c:Nat):Lx.numv (l++[c])=10 * Lx.numv l+(c - 48):=by
 unfold Lx.numv;rw [List.foldl_append];rfl
theorem num_lt:∀ (l:List Nat),(∀ c∈l,Lx.digit c=true)->Lx.numv l<10 ^ l.length:=by
 intro l
 have key:∀ (l:List Nat) (acc:Nat),(∀ c∈l,Lx.digit c=true)->l.foldl (fun a c=>10 * a+(c - 48)) acc<(acc+1) * 10 ^ l.length:=by
  intro l
  induction l with
  | nil=>intro acc _;simp
  | cons c r ih =>
   intro acc h
   have hc:=h c (by simp)
   simp only [Lx.digit,Bool.and_eq_true,decide_eq_true_eq] at hc
   have:=ih (10 * acc+(c - 48)) (fun x hx=>h x (by simp [hx]))
   rw [List.foldl_cons,List.length_cons,Nat.pow_succ]
   refine Nat.lt_of_lt_of_le this ?_
   rw [Nat.mul_comm (10 ^ r.length) 10,<-Nat.mul_assoc]
   exact Nat.mul_le_mul_right _ (by omega)
 intro h
 have:=key l 0 h
 simpa [Lx.numv] using this
theorem num_big {l:List Nat} (h0:l.headD 0≠48) (hd:∀ c∈l,Lx.digit c=true) (hl:10<l.length):2147483647<Lx.numv l:=by
 have key:∀ (l:List Nat) (acc:Nat),acc * 10 ^ l.length<=l.foldl (fun a c=>10 * a+(c - 48)) acc:=by
  intro l
  induction l with
  | nil=>intro acc;simp
  | cons c r ih =>
   intro acc
   have:=ih (10 * acc+(c - 48))
   rw [List.foldl_cons,List.length_cons,Nat.pow_succ]
   refine Nat.le_trans ?_ this
   rw [Nat.mul_comm (10 ^ r.length) 10,<-Nat.mul_assoc]
   exact Nat.mul_le_mul_right _ (by omega)
 cases l with
 | nil=>simp at hl
 | cons c r =>
  have hc:=hd c (by simp)
  simp only [Lx.digit,Bool.and_eq_true,decide_eq_true_eq] at hc
  simp at h0 hl
  have h1:=key r (c - 48)
  have h2:10 ^ 10<=10 ^ r.length:=Nat.pow_le_pow_right (by decide) (by omega)
  have h3:1 * 10 ^ 10<=(c - 48) * 10 ^ r.length:=Nat.mul_le_mul (by omega) h2
  have e:Lx.numv (c :: r)=r.foldl (fun a c=>10 * a+(c - 48)) (10 * 0+(c - 48)):=rfl
  rw [e,Nat.mul_zero,Nat.zero_add]
  have h4:(10:Nat) ^ 10=10000000000:=rfl
  omega
/-- what the reference's number answers of digits -/
def numZ (l:List Nat):Int:=if (1<l.length/\l.headD 0=48)\/2147483647<Lx.numv l then -1 else (Lx.numv l:Nat)
set_option maxHeartbeats 2000000 in
theorem rNumber_any (s:ByteArray) (hs:s.size<=65536) (h0:0<s.size) (hd:∀ c∈Cod.str s,Lx.digit c=true) (w:World) :
  Calls Tryz.prog 152 #[.string s] w fun e w'=>e=.returned (.int .i64 (numZ (Cod.str s)))/\w=w':=by
 have hc0:s[0].toNat=(Cod.str s).headD 0:=by
  rw [<-Lx.get_str s 0 h0]
  cases Cod.str s <;> rfl
 have hll:=Cod.str_len s
 by_cases hz:1<s.size/\(Cod.str s).headD 0=48
 ·have e:Hid (numZ (Cod.str s)=-1):=Hxq (by unfold numZ;rw [hll,if_pos (.inl hz)])
  have h1:(1:Int)<(s.size:Int):=by omega
  have p48:(s[0].toNat:Int)=48:=by rw [hc0,hz.2];rfl
  clear hz hc0 hll hd
  go_enter Tryz.func152,Tryz.ntmps152
  go_wp2_with fail
  go_ret
  exact ⟨by rw [e.out];rfl,rfl⟩
 ·by_cases h10:10<s.size
  ·have hne:(Cod.str s).headD 0≠48:=fun h=>hz ⟨by omega,h⟩
   have hbig:=num_big hne hd (by rw [hll];exact h10)
   have e:Hid (numZ (Cod.str s)=-1):=Hxq (by unfold numZ;rw [if_pos (.inr hbig)])
   have h1:(1:Int)<(s.size:Int):=by omega
   have h10I:(10:Int)<(s.size:Int):=by omega
   have p48:((s[0].toNat:Int) == 48)=false:=by rw [hc0,beq_eq_false_iff_ne];omega
   have a48:¬ (s[0].toNat:Int)=48:=by rw [hc0];omega
   clear hz hc0 hll hd hne hbig h10
   go_enter Tryz.func152,Tryz.ntmps152
   go_wp2_with fail
   go_ret
   exact ⟨by rw [e.out];rfl,rfl⟩
  ·have hcase:s.size<=1\/(1<s.size/\(Cod.str s).headD 0≠48):=by omega
   have h10I:(s.size:Int)<=10:=by omega
   have hlow:=fun k (hk:k<=s.size)=>num_lt ((Cod.str s).take k) (fun c hc=>hd c (List.mem_of_mem_take hc))
   have hpow:∀ k,k<=10->10 ^ k<=10000000000:=fun k hk=>Nat.le_trans (Nat.pow_le_pow_right (by decide) hk) (by decide)
   have hnum:∀ k,k<=s.size->Lx.numv ((Cod.str s).take k)<10000000000:=fun k hk=>by
    have h1:=hlow k hk
    rw [List.length_take,hll] at h1
    have h2:=hpow (min k s.size) (by omega)
    omega
   have hR:Hid (numZ (Cod.str s)=if 2147483647<Lx.numv (Cod.str s) then (-1:Int) else ((Lx.numv (Cod.str s):Nat):Int)):=Hxq (by
    unfold numZ
    rw [hll]
    by_cases hb:2147483647<Lx.numv (Cod.str s)
    ·rw [if_pos (.inr hb),if_pos hb]
    ·rw [if_neg (by rintro (h | h);exact hz h;exact hb h),if_neg hb])
   have hstep:Hid (∀ k (hk:k<s.size),Lx.numv ((Cod.str s).take (k+1))=10 * Lx.numv ((Cod.str s).take k)+(s[k].toNat - 48)/\48<=s[k].toNat/\s[k].toNat<=57):=Hxq (fun k hk=>by
    have h1:=take_snoc (Cod.str s) 0 k (by rw [hll];exact hk)
    rw [h1,num_step,Lx.get_str s k hk]
    have h2:=hd ((Cod.str s).getD k 0) (by
     rw [List.getD_eq_getElem?_getD,List.getElem?_eq_getElem (by rw [hll];exact hk)];exact List.getElem_mem _)
    rw [Lx.get_str s k hk] at h2
    simp only [Lx.digit,Bool.and_eq_true,decide_eq_true_eq] at h2
    exact ⟨rfl,h2⟩)
   have hfull:Hid ((Cod.str s).take s.size=Cod.str s):=Hxq (by rw [List.take_of_length_le (by rw [hll];exact Nat.le_refl _)])
   have HN:=Lib.hid hnum
   clear hz hlow hpow hd hll
   clear hnum
   rcases hcase with hc | ⟨hc,hc48⟩
   ·have hcI:(s.size:Int)<=1:=by omega
    clear hc0
    go_enter Tryz.func152,Tryz.ntmps152
    go_wp2_with fail
    go_loop [3,4] (fun a i=>∃ k:Nat,k<=s.size/\i=.int .i64 (k:Int)/\a=.int .i64 (Lx.numv ((Cod.str s).take k):Nat)) (fun _ i=>s.size - (intOf i).toNat)
    case atStart=>exact ⟨0,Nat.zero_le _,rfl,rfl⟩
    case round =>
     obtain ⟨k,hk,rfl,rfl⟩:=hrel
     have hb:=HN.out k hk
     by_cases hlt:k<s.size
     ·have hs1:=hstep.out k hlt
      obtain ⟨e1,e2,e3⟩:=hs1
      have E1:=Lib.hid e1
      clear e1
      generalize Lx.numv ((Cod.str s).take k)=v at *
      go_wp2_with fail
      go_round
      case rel =>
       refine ⟨k+1,by omega,by go_num,?_⟩
       rw [E1.out]
       congr 1
       omega
      case measure=>simp [intOf];omega
     ·obtain rfl:k=s.size:=by omega
      rw [hfull.out] at hb ⊢
      generalize Lx.numv (Cod.str s)=v at *
      by_cases hm:2147483647<v
      ·have hmI:(2147483647:Int)<(v:Int):=by omega
       have e:Hid (numZ (Cod.str s)=-1):=Hxq (by rw [hR.out,if_pos hm])
       clear hm
       go_wp2_with fail
       go_ret
       exact ⟨by rw [e.out];rfl,rfl⟩
      ·have hmI:(v:Int)<=2147483647:=by omega
       have e:Hid (numZ (Cod.str s)=(v:Nat)):=Hxq (by rw [hR.out,if_neg hm])
       clear hm
       go_wp2_with fail
       go_ret
       exact ⟨by rw [e.out];rfl,rfl⟩
   ·have p48:((s[0].toNat:Int) == 48)=false:=by rw [hc0,beq_eq_false_iff_ne];omega
    have a48:¬ (s[0].toNat:Int)=48:=by rw [hc0];omega
    have hcI:(1:Int)<(s.size:Int):=by omega
    clear hc0 hc48
    go_enter Tryz.func152,Tryz.ntmps152
    go_wp2_with fail
    go_loop [3,4] (fun a i=>∃ k:Nat,k<=s.size/\i=.int .i64 (k:Int)/\a=.int .i64 (Lx.numv ((Cod.str s).take k):Nat)) (fun _ i=>s.size - (intOf i).toNat)
    case atStart=>exact ⟨0,Nat.zero_le _,rfl,rfl⟩
    case round =>
     obtain ⟨k,hk,rfl,rfl⟩:=hrel
     have hb:=HN.out k hk
     by_cases hlt:k<s.size
     ·have hs1:=hstep.out k hlt
      obtain ⟨e1,e2,e3⟩:=hs1
      have E1:=Lib.hid e1
      clear e1
      generalize Lx.numv ((Cod.str s).take k)=v at *
      go_wp2_with fail
      go_round
      case rel =>
       refine ⟨k+1,by omega,by go_num,?_⟩
       rw [E1.out]
       congr 1
       omega
      case measure=>simp [intOf];omega
     ·obtain rfl:k=s.size:=by omega
      rw [hfull.out] at hb ⊢
      generalize Lx.numv (Cod.str s)=v at *
      by_cases hm:2147483647<v
      ·have hmI:(2147483647:Int)<(v:Int):=by omega
       have e:Hid (numZ (Cod.str s)=-1):=Hxq (by rw [hR.out,if_pos hm])
       clear hm
       go_wp2_with fail
       go_ret
       exact ⟨by rw [e.out];rfl,rfl⟩
      ·have hmI:(v:Int)<=2147483647:=by omega
       have e:Hid (numZ (Cod.str s)=(v:Nat)):=Hxq (by rw [hR.out,if_neg hm])
       clear hm
       go_wp2_with fail
       go_ret
       exact ⟨by rw [e.out];rfl,rfl⟩
def hexZ (o:Option Nat):Int:=match o with | some x=>(x:Int) | none=>-1
theorem rHex_any (c:Nat) (hc:c<256) (w:World) :
  Calls Tryz.prog 171 #[.int .u8 (c:Int)] w fun e w'=>e=.returned (.int .i64 (hexZ (Lx.hexv c)))/\w=w':=by
 have hI:(0:Int)<=(c:Int):=by omega
 have hI2:(c:Int)<256:=by omega
 by_cases h1:48<=c/\c<=57
 ·have e:Hid (hexZ (Lx.hexv c)=(c:Int) - 48):=Hxq (by unfold Lx.hexv hexZ;rw [if_pos h1];simp only;omega)
  have a1:(48:Int)<=(c:Int):=by omega
  have a2:(c:Int)<=57:=by omega
  clear h1
  go_enter Tryz.func171,Tryz.ntmps171
  go_wp2_with fail
  go_ret
  exact ⟨by rw [e.out];rfl,rfl⟩
 ·by_cases h2:97<=c/\c<=102
  ·have e:Hid (hexZ (Lx.hexv c)=(c:Int) - 97+10):=Hxq (by unfold Lx.hexv hexZ;rw [if_neg h1,if_pos h2];simp only;omega)
   have a1:(97:Int)<=(c:Int):=by omega
   have a2:(c:Int)<=102:=by omega
   clear h1 h2
   go_enter Tryz.func171,Tryz.ntmps171
   go_wp2_with fail
   go_ret
   exact ⟨by rw [e.out];rfl,rfl⟩
  ·by_cases h3:65<=c/\c<=70
   ·have e:Hid (hexZ (Lx.hexv c)=(c:Int) - 65+10):=Hxq (by unfold Lx.hexv hexZ;rw [if_neg h1,if_neg h2,if_pos h3];simp only;omega)
    have a1:(65:Int)<=(c:Int):=by omega
    have a2:(c:Int)<=70:=by omega
    clear h1 h2 h3
    go_enter Tryz.func171,Tryz.ntmps171
    go_wp2_with fail
    go_ret
    exact ⟨by rw [e.out];rfl,rfl⟩
   ·have e:Hid (hexZ (Lx.hexv c)=-1):=Hxq (by unfold Lx.hexv hexZ;rw [if_neg h1,if_neg h2,if_neg h3])
    have hc4:(c:Int)<48\/(57<(c:Int)/\(c:Int)<65)\/(70<(c:Int)/\(c:Int)<97)\/102<(c:Int):=by omega
    clear h1 h2 h3
    rcases hc4 with h | ⟨h,h'⟩ | ⟨h,h'⟩ | h
    all_goals
     go_enter Tryz.func171,Tryz.ntmps171
     go_wp2_with fail
     go_ret
     exact ⟨by rw [e.out];rfl,rfl⟩
theorem ones_iff (a:Nat):Lx.ones.contains a=true ↔ (a=40\/a=41\/a=123\/a=125\/a=44\/a=46\/a=58\/a=61\/a=60\/a=62\/a=43\/a=45\/a=42\/a=47\/a=95):=by simp [Lx.ones]
theorem two_lit (s:ByteArray) (a b:Nat) (r:List Nat) (hl:Cod.str s=a :: b :: r) (x y:UInt8):((s.extract 0 2).toList == [x,y])=(a == x.toNat && b == y.toNat):=by
 rw [ByteArray.toList_eq]
 have h:(s.extract 0 2).data.toList.map UInt8.toNat=[a,b]:=by
  have:=Lx.str_extract s 0 2
  rw [hl] at this
  simpa [Cod.str] using this
 match hd:(s.extract 0 2).data.toList,h with
 | [p,q],h =>
  simp at h
  obtain ⟨rfl,rfl⟩:=h
  rw [Bool.eq_iff_iff]
  simp [UInt8.toNat_inj]
theorem rMark_any (s:ByteArray) (h0:0<s.size) (hs:s.size<=9223372036854775807) (w:World) :
  Calls Tryz.prog 154 #[.string s] w fun e w'=>e=.returned (.int .i64 (Lx.mark (Cod.str s):Nat))/\w=w':=by
 have hll:=Cod.str_len s
 have hc0:s[0].toNat=(Cod.str s).headD 0:=by
  rw [<-Lx.get_str s 0 h0]
  cases Cod.str s <;> rfl
 cases hl:Cod.str s with
 | nil=>rw [hl] at hll;simp at hll;omega
 | cons a r =>
  rw [hl] at hc0 hll
  simp only [List.headD_cons] at hc0
  cases r with
  | nil =>
   have h1:(s.size:Int)<2:=by simp at hll;omega
   have hm:Lx.mark [a]=if Lx.ones.contains a then 1 else 0:=rfl
   have HM:=Lib.hid hm;have HC:=Lib.hid hc0
   clear hl hll hm hc0
   go_enter Tryz.func154,Tryz.ntmps154
   go_wp2_with fail
   all_goals go_ret
   all_goals refine ⟨ret_int ?_,rfl⟩
   all_goals rw [HM.out,<-HC.out]
   all_goals simp only [beq_iff_eq,beq_eq_false_iff_ne,ne_eq] at *
   all_goals first
    | (rw [if_pos ((ones_iff _).2 (by omega))];rfl)
    | (rw [if_neg (fun h=>by have:=(ones_iff _).1 h;omega)];rfl)
  | cons b r =>
   have h1:(2:Int)<=(s.size:Int):=by simp at hll;omega
   have hm:Lx.mark (a :: b :: r)=if Lx.two a b then 2 else if Lx.ones.contains a then 1 else 0:=rfl
   have t1:=two_lit s a b r hl 58 45
   have t2:=two_lit s a b r hl 33 61
   have t3:=two_lit s a b r hl 60 61
   have t4:=two_lit s a b r hl 62 61
   have h2:Lx.two a b=((a == 58 && b == 45) || ((a == 33 && b == 61) || ((a == 60 && b == 61) || (a == 62 && b == 61)))):=rfl
   rw [show UInt8.toNat 58=58 from rfl,show UInt8.toNat 45=45 from rfl] at t1
   rw [show UInt8.toNat 33=33 from rfl,show UInt8.toNat 61=61 from rfl] at t2
   rw [show UInt8.toNat 60=60 from rfl,show UInt8.toNat 61=61 from rfl] at t3
   rw [show UInt8.toNat 62=62 from rfl,show UInt8.toNat 61=61 from rfl] at t4
   generalize (a == 58 && b == 45)=b1 at *
   generalize (a == 33 && b == 61)=b2 at *
   generalize (a == 60 && b == 61)=b3 at *
   generalize (a == 62 && b == 61)=b4 at *
   have HM:=Lib.hid hm;have HC:=Lib.hid hc0;have H2:=Lib.hid h2
   clear hl hll hm hc0 h2
   by_cases hany:b1=true\/b2=true\/b3=true\/b4=true
   ·have e:Hid (Lx.mark (a :: b :: r)=2):=Hxq (by rw [HM.out,H2.out,if_pos];rcases hany with h | h | h | h <;> simp [h])
    have hcs:b1=true\/(b1=false/\b2=true)\/(b1=false/\b2=false/\b3=true)\/(b1=false/\b2=false/\b3=false/\b4=true):=by
     cases b1 <;> cases b2 <;> cases b3 <;> cases b4 <;> simp_all
    clear hany H2 HM
    rcases hcs with rfl | ⟨rfl,rfl⟩ | ⟨rfl,rfl,rfl⟩ | ⟨rfl,rfl,rfl,rfl⟩
    all_goals
     go_enter Tryz.func154,Tryz.ntmps154
     go_wp2_with fail
     go_ret
     exact ⟨by rw [e.out];rfl,rfl⟩
   ·have e:Hid (Lx.mark (a :: b :: r)=if Lx.ones.contains a then 1 else 0):=Hxq (by
     rw [HM.out,H2.out,if_neg]
     intro h
     apply hany
     simpa [Bool.or_eq_true] using h)
    have hcs:b1=false/\b2=false/\b3=false/\b4=false:=by
     cases b1 <;> cases b2 <;> cases b3 <;> cases b4 <;> simp_all
    clear hany H2 HM
    obtain ⟨rfl,rfl,rfl,rfl⟩:=hcs
    go_enter Tryz.func154,Tryz.ntmps154
    go_wp2_with fail
    all_goals go_ret
    all_goals refine ⟨ret_int ?_,rfl⟩
    all_goals rw [e.out,<-HC.out]
    all_goals simp only [beq_iff_eq,beq_eq_false_iff_ne,ne_eq] at *
    all_goals first
     | (rw [if_pos ((ones_iff _).2 (by omega))];rfl)
     | (rw [if_neg (fun h=>by have:=(ones_iff _).1 h;omega)];rfl)
end Go.Proofs.YtppigckioalhhaaGreatDoorR
