/- THE TEXTS MERGED: SyRule SyRel SyProg. -/
import Derived.Test.YtohnmnfhmbmoaaaGreatDoorKQ1
import Derived.Test.YtohnmnfhmbmoaaaGreatDoorKQ14
namespace Go.Proofs.YtohnmnfhmbmoaaaGreatDoor
open Go.RowKit
set_option linter.unusedVariables false
set_option linter.unusedSimpArgs false
set_option maxRecDepth 100000
theorem lit_all (b:Nat) (ra:Option Addr) (rc:Nat) (f:Value) (v:Sy.Env) (hv:EnvOk v):∀ k br,br<=16->17 - br<=k->LiC b ra rc f v k br
 | 0,br,h,hk=>by omega
 | k+1,br,h,hk=>lit_of b ra rc f v k br hv (agg_of b ra rc f v k br hv h (fun hb=>body_of b ra rc f v k (br+1) hv (lit_all b ra rc f v hv k (br+1) (by omega) (by omega))))
theorem body_any (b:Nat) (ra:Option Addr) (rc:Nat) (f:Value) (v:Sy.Env) (i:Nat) (w:World) (h:RdP w b ra rc f v i) (hv:EnvOk v) (hi:i<=v.ws.length) :
  Calls Tryz.prog 84 #[.pointer (some ⟨b,0,none⟩),.int .i64 0] w (PRes b ra rc f v (Sy.body v i) (valB w.heap.size) w):=body_of b ra rc f v 18 0 hv (lit_all b ra rc f v hv 18 0 (by omega) (by omega)) i w h hi
def ruV (r:Pr.Rul) (tu ub:Value):Array Value:=#[.string r.head.rel,tu,ub,.int .i64 r.line,.int .i64 r.col]
def valR (n:Nat):Pr.Rul->World->Value->Prop:=fun r w x=>∃ tu ub,x=.agg (ruV r tu ub)/\RowB (fun k=>n<=k) w 5 tmV r.head.terms tu/\BB (fun k=>n<=k) w r.body ub
theorem rule_eq (v:Sy.Env) (i:Nat):Sy.rule v i=(Sy.atom v i).bind fun h j=>(if Sy.sign (v.tk j) [58,45]=true then Sy.body v (j+1) else .ok [] j).bind fun b j=>.ok ⟨h,b,(v.tk i).line,(v.tk i).col⟩ j:=rfl
set_option maxHeartbeats 8000000 in
theorem rule_any (b:Nat) (ra:Option Addr) (rc:Nat) (f:Value) (v:Sy.Env) (i:Nat) (w:World) (h:RdP w b ra rc f v i) (hv:EnvOk v) (hi:i<=v.ws.length) :
  Calls Tryz.prog 49 #[.pointer (some ⟨b,0,none⟩)] w (PRes b ra rc f v (Sy.rule v i) (valR w.heap.size) w):=by
 have hlen:=hv.len
 have mA:=(Mod.refl [] w).alloc (Obj.cells #[.string ⟨#[]⟩,.slice none 0 0,.slice none 0 0,.int .i64 0,.int .i64 0] 63)
 have hA:=h.past mA (by simp)
 have eA:=heap_alloc_new w (Obj.cells #[.string ⟨#[]⟩,.slice none 0 0,.slice none 0 0,.int .i64 0,.int .i64 0] 63)
 have HP:=Hxq (peek0 b ra rc f v i _ hA hv (by omega))
 have HR:=Hxq (rule_eq v i)
 have HAt:=Hxq (fun w h=>atom_any b ra rc f v i w h hv hi)
 have hadvA:=Sy.adv_atom v i
 have HLo:=Lib.hid h.low
 have hbl:=h.lt
 have HA:=Lib.hid hA;have EA:=Lib.hid eA;have MA:=Lib.hid mA
 have hnb:w.heap.size∉[b]:=by simp;omega
 clear h hA eA mA
 generalize hq:Sy.rule v i=q at *
 generalize Sy.atom v i=pa at *
 generalize v.tk i=t at *
 clear hq
 go_enter Tryz.func49,Tryz.ntmps49
 go_upto_region 1 with fail
 generalize w.alloc (Obj.cells #[.string ⟨#[]⟩,.slice none 0 0,.slice none 0 0,.int .i64 0,.int .i64 0] 63)=wA at *
 go_wp2_with fail
 refine HP.out.mono ?_
 rintro e1 w1 ⟨rfl,m1⟩
 have A1:=Hxq (m1.at EA.out (by simp));have H1:=Hxq (HA.out.past m1 (by simp));have M1:=Hxq ((MA.out.mono (T:=[b]) (by simp)).trans m1 (by simp))
 have z1:=lt_of_block A1.out
 have mD:=(Mod.refl [] w1).alloc (Obj.cells #[.string ⟨#[]⟩,.slice none 0 0,.slice none 0 0,.int .i64 (t.line:Nat),.int .i64 (t.col:Nat)] 63)
 have dD:=heap_alloc_new w1 (Obj.cells #[.string ⟨#[]⟩,.slice none 0 0,.slice none 0 0,.int .i64 (t.line:Nat),.int .i64 (t.col:Nat)] 63)
 have H2:=Hxq (H1.out.past mD (by simp));have M2:=Hxq (M1.out.trans mD (by simp));have A2:=Hxq (mD.at A1.out (by simp));have G2:=Lib.hid dD
 clear m1 HP mD dD A1 H1 M1 HA EA MA
 have hfd:=fun w=>field_pos t w
 unfold tokC
 go_upto_region 2 with fail
 generalize w1.alloc (Obj.cells _ 63)=w2 at *
 clear hfd
 generalize hgg:w1.heap.size=g at *
 have hgb:g∉[b]:=by simp;omega
 cases pa with
 | err g1 =>
  have hq:q=.err g1:=HR.out
  subst hq
  clear HR hadvA
  go_wp2_with fail
  refine (HAt.out w2 H2.out).mono ?_
  rintro e3 w3 ⟨rfl,m3⟩
  have M3:=Hxq (M2.out.trans m3 (by simp))
  clear m3
  unfold stopE
  go_wp2_with fail
  exact ⟨rfl,rfl,M3.out⟩
 | ok a j =>
  have hj:=hadvA a j hi rfl
  have HQ:Hid (q=(if Sy.sign (v.tk j) [58,45]=true then Sy.body v (j+1) else .ok [] j).bind fun b j=>.ok ⟨a,b,t.line,t.col⟩ j):=Lib.hid HR.out
  clear HR hadvA
  go_wp2_with fail
  refine (HAt.out w2 H2.out).mono ?_
  rintro e4 w4 ⟨y4,rfl,⟨ua0,rfl,hb4⟩,h4,m4⟩
  obtain ⟨ua,ca,rfl⟩:=hb4.lit
  have zz4:=lt_of_block G2.out
  have z4:=m4.size
  have A4:=Hxq (m4.at A2.out hnb);have G4:=Hxq (m4.at G2.out hgb);have M4:=Hxq (M2.out.trans m4 (by simp))
  have Q4:=Hxq (hb4.mono (F':=fun k=>w.heap.size<k/\k≠g) (fun k hk hk2=>by omega))
  have mS:Mod [g] w4 ((w4.setCell ⟨g,0,none⟩ (.string a.rel)).setCell ⟨g,1,none⟩ (.slice ua a.terms.length ca)):=setCs_mod g [.string a.rel,.slice ua a.terms.length ca] 0 w4
  have G5:Hid (((w4.setCell ⟨g,0,none⟩ (.string a.rel)).setCell ⟨g,1,none⟩ (.slice ua a.terms.length ca)).heap[g]?=some (.cells #[.string a.rel,.slice ua a.terms.length ca,.slice none 0 0,.int .i64 (t.line:Nat),.int .i64 (t.col:Nat)] 63 (0,0))):=Hxq (setCs_heap [.string a.rel,.slice ua a.terms.length ca] 0 [.string ⟨#[]⟩,.slice none 0 0,.slice none 0 0,.int .i64 (t.line:Nat),.int .i64 (t.col:Nat)] w4 G4.out)
  have H5:=Hxq (h4.new HLo.out mS (by simp;omega));have A5:=Hxq (mS.at A4.out (by simp;omega));have Q5:=Hxq (Q4.out.keep mS (fun s hs=>by rw [Msq] at hs;omega));have M5:=Hxq (M4.out.trans mS (by simp;omega))
  obtain ⟨k0,k1,-,-,-⟩:=cells5 G4.out
  have fg:∀ j,w4.frozen? ⟨g,j,none⟩=false:=fun j=>free_at G4.out j
  clear mS h4 m4 hb4 HAt
  go_upto_region 3 with fail
  generalize ((w4.setCell ⟨g,0,none⟩ (.string a.rel)).setCell ⟨g,1,none⟩ (.slice ua a.terms.length ca))=w5 at *
  clear k0 k1 fg A4 G4 Q4 M4 A2 G2 M2 H2
  have HMy:=Hxq (may_any b ra rc f v j [58,45] { data:=#[58,45] } w5 H5.out hv (by omega) rfl (by decide))
  have hslt:=fun h=>Sy.sign_lt (v:=v) (i:=j) (s:=[58,45]) h
  generalize Sy.sign (v.tk j) [58,45]=rs at *
  go_wp2_with fail
  refine HMy.out.mono ?_
  rintro e6 w6 ⟨rfl,h6,m6⟩
  have A6:=Hxq (m6.at A5.out hnb);have G6:=Hxq (m6.at G5.out hgb);have M6:=Hxq (M5.out.trans m6 (by simp));have Q6:=Hxq (Q5.out.keep m6 (fun s hs=>by rw [Msq] at hs;omega))
  have zz5:=lt_of_block G5.out
  have z6:=m6.size
  cases rs
  ·have H6:=Hxq (show RdP w6 b ra rc f v j from h6)
   have hq:q=.ok ⟨a,[],t.line,t.col⟩ j:=HQ.out
   subst hq
   clear HQ hslt h6 m6 HMy A5 G5 M5 Q5 H5
   obtain ⟨x0,x1,x2,x3,x4⟩:=cells5 G6.out
   obtain ⟨y0,y1,y2,y3,y4⟩:=cells5 A6.out
   have fA:∀ j,w6.frozen? ⟨w.heap.size,j,none⟩=false:=fun j=>free_at A6.out j
   go_wp2_with fail
   have mR:=setCs_mod w.heap.size [.string a.rel,.slice ua a.terms.length ca,.slice none 0 0,.int .i64 (t.line:Nat),.int .i64 (t.col:Nat)] 0 w6
   refine bodyPost_ret (results_cell_row rfl _ _ _ _ _ _ _ rfl (setCs_row (vs:=[.string a.rel,.slice ua a.terms.length ca,.slice none 0 0,.int .i64 (t.line:Nat),.int .i64 (t.col:Nat)]) A6.out rfl) Tryz.underlying63 rfl (by kernel_rfl)) rfl ⟨_,rfl,⟨.slice ua a.terms.length ca,.slice none 0 0,rfl,(Q6.out.keep mR (fun s hs=>by rw [Msq] at hs;omega)).mono (fun k hk _=>by omega),BB.nil⟩,H6.out.new HLo.out mR (by simp),M6.out.trans mR (by simp)⟩
  ·have H6:=Hxq (show RdP w6 b ra rc f v (j+1) from h6)
   have hjl:=hslt rfl
   have HQ2:Hid (q=(Sy.body v (j+1)).bind fun b j=>.ok ⟨a,b,t.line,t.col⟩ j):=Lib.hid HQ.out
   clear HQ hslt h6 m6 HMy A5 G5 M5 Q5 H5
   have HB:=Hxq (body_any b ra rc f v (j+1) w6 H6.out hv (by omega))
   generalize Sy.body v (j+1)=pb at *
   cases pb with
   | err g1 =>
    have hq:q=.err g1:=HQ2.out
    subst hq
    clear HQ2
    go_wp2_with fail
    refine HB.out.mono ?_
    rintro e7 w7 ⟨rfl,m7⟩
    have M7:=Hxq (M6.out.trans m7 (by simp))
    clear m7
    unfold stopE
    go_wp2_with fail
    exact ⟨rfl,rfl,M7.out⟩
   | ok bd n =>
    have hq:q=.ok ⟨a,bd,t.line,t.col⟩ n:=HQ2.out
    subst hq
    clear HQ2
    go_wp2_with fail
    refine HB.out.mono ?_
    rintro e7 w7 ⟨y7,rfl,hb7,h7,m7⟩
    unfold valB at hb7
    obtain ⟨ub,cb,rfl⟩:=hb7.lit
    have z7:=m7.size
    have zz6:=lt_of_block G6.out
    have A7:=Hxq (m7.at A6.out hnb);have G7:=Hxq (m7.at G6.out hgb);have M7:=Hxq (M6.out.trans m7 (by simp));have Q7:=Hxq (Q6.out.keep m7 (fun s hs=>by rw [Msq] at hs;omega))
    have B7:=Hxq (hb7.mono (F':=fun k=>w.heap.size<k/\k≠g) (fun k hk hk2=>by omega))
    have mS:Mod [g] w7 (w7.setCell ⟨g,2,none⟩ (.slice ub bd.length cb)):=setCs_mod g [.slice ub bd.length cb] 2 w7
    have G8:Hid ((w7.setCell ⟨g,2,none⟩ (.slice ub bd.length cb)).heap[g]?=some (.cells #[.string a.rel,.slice ua a.terms.length ca,.slice ub bd.length cb,.int .i64 (t.line:Nat),.int .i64 (t.col:Nat)] 63 (0,0))):=Hxq (setCs_heap [.slice ub bd.length cb] 2 [.string a.rel,.slice ua a.terms.length ca,.slice none 0 0,.int .i64 (t.line:Nat),.int .i64 (t.col:Nat)] w7 G7.out)
    have H8:=Hxq (h7.new HLo.out mS (by simp;omega));have A8:=Hxq (mS.at A7.out (by simp;omega));have Q8:=Hxq (Q7.out.keep mS (fun s hs=>by rw [Msq] at hs;omega));have B8:=Hxq (B7.out.keep mS (fun s hs=>by rw [Msq] at hs;omega));have M8:=Hxq (M7.out.trans mS (by simp;omega))
    have k2:w7.cell? ⟨g,2,none⟩=some (.slice none 0 0):=cell_at G7.out 2
    have fg:∀ j,w7.frozen? ⟨g,j,none⟩=false:=fun j=>free_at G7.out j
    clear mS h7 m7 hb7 HB
    go_upto_region 5 with fail
    generalize (w7.setCell ⟨g,2,none⟩ (.slice ub bd.length cb))=w8 at *
    clear k2 fg A7 G7 Q7 B7 M7 A6 G6 M6 Q6 H6
    obtain ⟨x0,x1,x2,x3,x4⟩:=cells5 G8.out
    obtain ⟨y0,y1,y2,y3,y4⟩:=cells5 A8.out
    have fA:∀ j,w8.frozen? ⟨w.heap.size,j,none⟩=false:=fun j=>free_at A8.out j
    go_wp2_with fail
    have mR:=setCs_mod w.heap.size [.string a.rel,.slice ua a.terms.length ca,.slice ub bd.length cb,.int .i64 (t.line:Nat),.int .i64 (t.col:Nat)] 0 w8
    refine bodyPost_ret (results_cell_row rfl _ _ _ _ _ _ _ rfl (setCs_row (vs:=[.string a.rel,.slice ua a.terms.length ca,.slice ub bd.length cb,.int .i64 (t.line:Nat),.int .i64 (t.col:Nat)]) A8.out rfl) Tryz.underlying63 rfl (by kernel_rfl)) rfl ⟨_,rfl,⟨.slice ua a.terms.length ca,.slice ub bd.length cb,rfl,(Q8.out.keep mR (fun s hs=>by rw [Msq] at hs;omega)).mono (fun k hk _=>by omega),(B8.out.keep mR (fun s hs=>by rw [Msq] at hs;omega)).mono (fun k hk _=>by omega)⟩,H8.out.new HLo.out mR (by simp),M8.out.trans mR (by simp)⟩
theorem cells4 {w:World} {b:Nat} {a0 a1 a2 a3:Value} {T:TypeId} {fr:Nat × Nat} (h:w.heap[b]?=some (.cells #[a0,a1,a2,a3] T fr)) :
  w.cell? ⟨b,0,none⟩=some a0/\w.cell? ⟨b,1,none⟩=some a1/\w.cell? ⟨b,2,none⟩=some a2/\w.cell? ⟨b,3,none⟩=some a3 :=
 ⟨cell_at h 0,cell_at h 1,cell_at h 2,cell_at h 3⟩
def intC (x:Int):Array Value:=#[.int .i64 x]
theorem intC_size (x:Int):(intC x).size=1:=rfl
theorem intC_one (x:Int):∀ u∈(intC x).toList,u.oneCell'=true:=by
 intro u hu
 simp [intC] at hu
 subst hu;rfl
theorem Tryz.infoInt:(Tryz.prog.info? 3).map (fun i=>(i.zero,i.size,i.bytes))=some (some (.int .i64 0),1,8):=by kernel_rfl
def AInvY (x:Value) (ys:List Value) (w0:World) (b ab rb:Nat) (acc:List Int) (W:World):Prop:=∃ va vc,AI 3 1 intC 70 99 x ys w0 b ab rb acc W va vc
theorem ty_eq (v:Sy.Env) (i:Nat):Sy.ty v i=if Sy.tyOf (v.tk i)=0 then .err (v.give 40 i) else .ok (Sy.tyOf (v.tk i):Nat) (i+1):=rfl
set_option maxHeartbeats 4000000 in
theorem relation1_any (b:Nat) (ra:Option Addr) (rc:Nat) (f:Value) (v:Sy.Env) (x:Value) (ys:List Value) (w0:World) (ab rb:Nat) (acc:List Int) (j:Nat) (w:World) (hI:AInvY x ys w0 b ab rb acc w) (h:RdP w b ra rc f v j) (hL:RdL b ra rc f v w0.heap.size) (hv:EnvOk v) (hj:j<=65536) (hn:acc.length<=65537) :
  Calls Tryz.prog 112 #[.pointer (some ⟨rb,0,none⟩),.pointer (some ⟨ab,0,none⟩)] w (ORes b ra rc f v (Sy.ty v j) acc (AInvY x ys w0 b ab rb) (fun w'=>Mod [b] w0 w')):=by
 obtain ⟨i0,hinf,hz0,hz1,hz2⟩:=info_parts Tryz.infoInt
 obtain ⟨va,vc,hA⟩:=hI
 have HP:=Hxq (peek0 b ra rc f v j w h hv (by omega))
 have HPc:=Hxq (fun g w hc=>place_any (v.tk j) g 2 [[110,117,109],[115,121,109]] w (hv.tbyte j) (by decide) (by decide) hc)
 have hcm:Sy.place (v.tk j) [[110,117,109],[115,121,109]]=Sy.tyOf (v.tk j):=rfl
 rw [hcm] at HPc
 have hlt:Sy.tyOf (v.tk j)≠0->j<v.ws.length:=fun hh=>Sy.kind_lt (Sy.placeF_pos _ _ (Nat.pos_of_ne_zero hh))
 have HR:=Hxq (ty_eq v j)
 have hlen:=hv.len
 have HA:=Lib.hid hA;have HH:=Lib.hid h
 have q0:=cell_at hA.rbx 0
 simp only [List.getElem?_toArray,List.getElem?_cons_zero] at q0
 have hbl:=hA.bl
 have hal:=lt_of_block hA.box
 clear hA h hcm
 generalize hq:Sy.ty v j=q at *
 clear hq
 generalize Sy.tyOf (v.tk j)=tn at *
 generalize v.tk j=t at *
 go_enter Tryz.func112,Tryz.ntmps112
 go_wp2_with fail
 refine HP.out.mono ?_
 rintro e3 w3 ⟨rfl,m3⟩
 have HA3:=Hxq (HA.out.keep (m3.mono (by simp)));have H3:=Hxq (HH.out.past m3 (by simp))
 clear m3 q0 HP
 go_wp2_with fail
 have mS0:=(Mod.refl [] w3).alloc (Obj.cells #[Value.string { data:=#[110,117,109] },Value.string { data:=#[115,121,109] }] 9)
 have e3b:=heap_alloc_new w3 (Obj.cells #[Value.string { data:=#[110,117,109] },Value.string { data:=#[115,121,109] }] 9)
 generalize w3.alloc (Obj.cells _ 9)=wS at *
 refine (HPc.out _ _ (fun i hi=>?_)).mono ?_
 ·have:i=0\/i=1:=by simp at hi;omega
  rcases this with rfl | rfl
  ·exact cell_at e3b 0
  ·exact cell_at e3b 1
 ·rintro e4 w4 ⟨rfl,m4a⟩
  have m4:=mS0.trans m4a (by simp)
  have HA4:=Hxq (HA3.out.keep (m4.mono (by simp)));have H4:=Hxq (H3.out.past m4 (by simp))
  have q0:=cell_at HA4.out.rbx 0
  simp only [List.getElem?_toArray,List.getElem?_cons_zero] at q0
  clear m4 m4a mS0 e3b HA3 H3 HA HH
  by_cases ht:tn=0
  ·have hq:q=.err (v.give 40 j):=by rw [HR.out,if_pos ht]
   subst hq
   have hI:((tn:Int) == 0)=true:=by simp;omega
   clear HR ht
   go_wp2_with fail
   refine (give_any b ra rc f v j 40 w4 H4.out hv (by omega)).mono ?_
   rintro e5 w5 ⟨rfl,m5⟩
   have M5:=Hxq (HA4.out.mod.trans m5 (by simp))
   clear m5
   unfold stopE
   go_wp2_with fail
   exact ⟨rfl,rfl,M5.out⟩
  ·have hq:q=.ok (tn:Nat) (j+1):=by rw [HR.out,if_neg ht]
   subst hq
   have hI:((tn:Int) == 0)=false:=by rw [beq_eq_false_iff_ne];omega
   have hjl:=hlt ht
   clear HR ht hlt
   obtain ⟨c0,c1,c2,c3,c4,c5,fz⟩:=H4.out.cells
   have hT:=H4.out.to (j+1)
   have hcast:((j+1:Nat):Int)=(j:Int)+1:=by omega
   rw [hcast] at hT
   have HA5:=Hxq (HA4.out.keep hT.2);have H5:=Lib.hid hT.1
   clear hT hcast
   go_upto_region 4 with fail
   generalize w4.setCell ⟨b,1,none⟩ (.int .i64 ((j:Int)+1))=w5 at *
   clear c0 c1 c2 c3 c4 c5 fz q0 HA4 H4 hI
   have q1:=(cell_at HA5.out.box 1).trans (by simp:_=some (Value.slice va acc.length vc))
   have mB:=(Mod.refl [b] w5).alloc (Obj.cells (intC (tn:Nat)) 3)
   have HA6:=Hxq (HA5.out.keep mB);have H6:=Hxq (H5.out.past ((Mod.refl [] w5).alloc (Obj.cells (intC (tn:Nat)) 3)) (by simp))
   have HS6:=Hxq (src_one (TS:=68) Tryz.underlying68 (heap_alloc_new w5 (Obj.cells (intC (tn:Nat)) 3)) rfl (intC_one (tn:Nat)))
   clear mB
   unfold intC at HA6 H6 HS6
   go_wp2_with (at_builtin;refine wpList_append_src _ rfl _ _ 68 68 rfl 3 i0 (.int .i64 0) 1 8 Tryz.underlying68 hinf hz0 hz1 hz2 rfl (.slice va acc.length vc) acc.length (rowCells intC acc) rfl HA6.out.row _ 1 (intC (tn:Nat)).toList rfl HS6.out (by unfold maxLen;omega) (by omega) ?_)
   intro v' w7 hown7 hm7 hf7 hn7
   obtain ⟨va7,vc7,rfl⟩:=owns_slice hown7
   have hf7':∀ k∈fp (.slice va7 (acc.length+1) vc7),k∈fp (.slice va acc.length vc)\/(w5.alloc (Obj.cells #[.int .i64 (tn:Nat)] 3)).heap.size<=k:=fun k hk=>by
    rcases hf7 k hk with hh | hh
    ·exact .inl hh
    ·exact .inr (by simpa using hh)
   have HG7:=Hxq (AI.grow (a:=((tn:Nat):Int)) (va':=va7) (vc':=vc7) (acc:=acc) (W:=w5.alloc (Obj.cells #[.int .i64 (tn:Nat)] 3)) HA6.out hm7 hown7 hf7')
   have hna:ab∉fp (.slice va acc.length vc):=fun hk=>(HA6.out.new ab hk).2.1 rfl
   have q5:w7.cell? ⟨ab,1,none⟩=some (.slice va acc.length vc):=hm7.cell (p:=⟨ab,1,none⟩) ((cell_at HA6.out.box 1).trans (by simp)) hna
   have f5:w7.frozen? ⟨ab,1,none⟩=false:=(World.frozen?_of_block (hm7.block ab (lt_of_block HA6.out.box) hna)).trans (free_at HA6.out.box 1)
   have MR7:=Hxq ((hm7.mono (T:=ab :: fp (.slice va acc.length vc)) (fun t ht=>.inl (List.mem_cons_of_mem _ ht))).setCell (p:=⟨ab,1,none⟩) (.inl (by simp)) (.slice va7 (acc.length+1) vc7))
   have HNw:=Lib.hid HA6.out.new
   have HAb:=Lib.hid HA6.out.abn
   clear hown7 hm7 hf7 hf7' hn7 HS6
   go_wp2_with fail
   go_end0
   refine ⟨rfl,⟨va7,vc7,HG7.out⟩,H6.out.new hL MR7.out (fun t ht=>?_)⟩
   rcases List.mem_cons.1 ht with rfl | ht
   ·exact HAb.out
   ·exact (HNw.out t ht).1
def reV (r:Pr.Rel) (u:Value):Array Value:=#[.string r.name,u,.int .i64 r.line,.int .i64 r.col]
def valRel (n:Nat):Pr.Rel->World->Value->Prop:=fun r w x=>∃ u,x=.agg (reV r u)/\RowB (fun k=>n<=k) w 1 intC r.types u
set_option maxHeartbeats 4000000 in
theorem relation_any (b:Nat) (ra:Option Addr) (rc:Nat) (f:Value) (v:Sy.Env) (i:Nat) (w:World) (h:RdP w b ra rc f v i) (hv:EnvOk v) (hi:i<=v.ws.length) :
  Calls Tryz.prog 81 #[.pointer (some ⟨b,0,none⟩)] w (PRes b ra rc f v (Sy.relation v i) (valRel w.heap.size) w):=by
 have hlen:=hv.len
 have mA:=((Mod.refl [] w).alloc (Obj.cells #[Value.pointer (some ⟨b,0,none⟩)] 99)).alloc (Obj.cells #[Value.string ⟨#[]⟩,Value.slice none 0 0,Value.int .i64 0,Value.int .i64 0] 70)
 have rA:=((Mod.refl [] (w.alloc (Obj.cells #[Value.pointer (some ⟨b,0,none⟩)] 99))).alloc (Obj.cells #[Value.string ⟨#[]⟩,Value.slice none 0 0,Value.int .i64 0,Value.int .i64 0] 70)).at (heap_alloc_new w (Obj.cells #[Value.pointer (some ⟨b,0,none⟩)] 99)) (by simp)
 have eA:=alloc_at (w0:=w.alloc (Obj.cells #[Value.pointer (some ⟨b,0,none⟩)] 99)) (n:=w.heap.size+1) (Obj.cells #[Value.string ⟨#[]⟩,Value.slice none 0 0,Value.int .i64 0,Value.int .i64 0] 70) (by simp)
 have hA:=h.past mA (by simp)
 have HN:=Hxq (name_any b ra rc f v i _ hA hv (by omega))
 have hN1:=Sy.adv_name v i
 have HR:Hid (Sy.relation v i=(Sy.name v i).bind fun t j=>(Sy.must v [40] j).bind fun _ j=>(Sy.list v [41] (Sy.ty v) j).bind fun l j=>.ok ⟨Sy.txt t.text,l,t.line,t.col⟩ j):=Lib.hid rfl
 have HLo:=Lib.hid h.low
 have hbl:=h.lt
 have RA:=Lib.hid rA;have EA:=Lib.hid eA;have MA:=Lib.hid mA
 have hmf:=makeFunc_any
 clear h hA eA mA rA
 generalize Sy.name v i=p at *
 generalize hq:Sy.relation v i=q at *
 clear hq
 go_enter Tryz.func81,Tryz.ntmps81
 go_upto_region 1 with fail
 have zA:((w.alloc (Obj.cells #[Value.pointer (some ⟨b,0,none⟩)] 99)).alloc (Obj.cells #[Value.string ⟨#[]⟩,Value.slice none 0 0,Value.int .i64 0,Value.int .i64 0] 70)).heap.size=w.heap.size+2:=by simp
 generalize (w.alloc (Obj.cells #[Value.pointer (some ⟨b,0,none⟩)] 99)).alloc (Obj.cells #[Value.string ⟨#[]⟩,Value.slice none 0 0,Value.int .i64 0,Value.int .i64 0] 70)=wA at *
 have r0:=cell_at RA.out 0
 simp only [List.getElem?_toArray,List.getElem?_cons_zero] at r0
 have hnb:w.heap.size∉[b]:=by simp;omega
 have hnb1:w.heap.size+1∉[b]:=by simp;omega
 cases p with
 | err g =>
  have hq:q=.err g:=HR.out
  subst hq
  clear HR hN1
  go_wp2_with fail
  refine HN.out.mono ?_
  rintro e1 w1 ⟨rfl,m1⟩
  have M1:=Hxq ((MA.out.mono (T:=[b]) (by simp)).trans m1 (by simp))
  clear m1
  unfold stopE
  go_wp2_with fail
  exact ⟨rfl,rfl,M1.out⟩
 | ok t j =>
  have hj:=hN1 t j hi rfl
  have HR2:Hid (q=(Sy.must v [40] j).bind fun _ j=>(Sy.list v [41] (Sy.ty v) j).bind fun l j=>.ok ⟨Sy.txt t.text,l,t.line,t.col⟩ j):=Lib.hid HR.out
  clear HR hN1
  have HMu:=Hxq (fun w h=>must_any b ra rc f v j [40] { data:=#[40] } w h hv (by omega) rfl (by decide))
  have hM1:=Sy.adv_must v [40] j
  generalize Sy.must v [40] j=p2 at *
  go_wp2_with fail
  refine HN.out.mono ?_
  rintro e1 w1 ⟨x1,rfl,hx1,h1,m1⟩
  unfold valT at hx1
  subst hx1
  have z1:=m1.size
  have M1:=Hxq ((MA.out.mono (T:=[b]) (by simp)).trans m1 (by simp));have R1:=Hxq (m1.at RA.out hnb);have E1:=Hxq (m1.at EA.out hnb1);have H1:=Lib.hid h1
  clear m1 h1 r0 HN
  have mT:=(Mod.refl [] w1).alloc (Obj.cells (tokC t) 131)
  have bT:=heap_alloc_new w1 (Obj.cells (tokC t) 131)
  have HT:=Hxq (H1.out.past mT (by simp));have RT:=Hxq (mT.at R1.out (by simp));have ET:=Hxq (mT.at E1.out (by simp));have TT:=Lib.hid bT;have MT:=Hxq (M1.out.trans mT (by simp))
  have zT:(w1.alloc (Obj.cells (tokC t) 131)).heap.size=w1.heap.size+1:=by simp
  clear mT bT
  unfold tokC at *
  go_upto_region 2 with fail
  generalize w1.alloc (Obj.cells _ 131)=wT at *
  obtain ⟨x0,x1,x2,x3,x4,x5,x6⟩:=tok_cells TT.out
  have mB:=(Mod.refl [] wT).alloc (Obj.cells #[Value.string (Lx.ofS t.text),Value.slice none 0 0,Value.int .i64 (t.line:Nat),Value.int .i64 (t.col:Nat)] 70)
  have bB:=heap_alloc_new wT (Obj.cells #[Value.string (Lx.ofS t.text),Value.slice none 0 0,Value.int .i64 (t.line:Nat),Value.int .i64 (t.col:Nat)] 70)
  have HB:=Hxq (HT.out.past mB (by simp));have RB:=Hxq (mB.at RT.out (by simp));have EB:=Hxq (mB.at ET.out (by simp));have BB:=Lib.hid bB;have MB:=Lib.hid mB
  have zB:(wT.alloc (Obj.cells #[Value.string (Lx.ofS t.text),Value.slice none 0 0,Value.int .i64 (t.line:Nat),Value.int .i64 (t.col:Nat)] 70)).heap.size=wT.heap.size+1:=by simp
  clear mB bB
  go_upto_region 3 with fail
  generalize wT.alloc (Obj.cells _ 70)=wB at *
  clear x0 x1 x2 x3 x4 x5 x6
  have r0:=cell_at RB.out 0
  simp only [List.getElem?_toArray,List.getElem?_cons_zero] at r0
  rw [zT] at BB zB
  have hnb2:w1.heap.size+1∉[b]:=by simp;omega
  cases p2 with
  | err g =>
   have hq:q=.err g:=HR2.out
   subst hq
   clear HR2 hM1
   go_wp2_with fail
   refine (HMu.out wB HB.out).mono ?_
   rintro e2 w2 ⟨rfl,m2⟩
   have M2:=Hxq ((MT.out.trans MB.out (by simp)).trans m2 (by simp))
   clear m2
   unfold stopE
   go_wp2_with fail
   exact ⟨rfl,rfl,M2.out⟩
  | ok u k =>
   have hk:=hM1 u k hj.2 rfl
   have HR3:Hid (q=(Sy.list v [41] (Sy.ty v) k).bind fun l j=>.ok ⟨Sy.txt t.text,l,t.line,t.col⟩ j):=Lib.hid HR2.out
   clear HR2 hM1
   go_wp2_with fail
   refine (HMu.out wB HB.out).mono ?_
   rintro e2 w2 ⟨x2,rfl,hx2,h2,m2⟩
   unfold valU at hx2
   subst hx2
   have z2:=m2.size
   have R2:=Hxq (m2.at RB.out hnb);have E2:=Hxq (m2.at EB.out hnb1);have B2:=Hxq (m2.at BB.out hnb2);have H2:=Lib.hid h2;have M2:=Hxq ((MB.out.mono (T:=[b]) (by simp)).trans m2 (by simp))
   have hTb:b<wT.heap.size:=by omega
   clear m2 h2 r0
   have r0:=cell_at R2.out 0
   simp only [List.getElem?_toArray,List.getElem?_cons_zero] at r0
   have hI:AInvY (.string (Lx.ofS t.text)) [.int .i64 (t.line:Nat),.int .i64 (t.col:Nat)] wT b (w1.heap.size+1) w.heap.size [] w2 :=
    ⟨none,0,B2.out,World.ownsRow_nil _ _ _ _,by simp [fp],R2.out,by omega,by simp at hnb;omega,by omega,by omega,M2.out⟩
   have hLL:RdL b ra rc f v wT.heap.size:=⟨by have:=HLo.out.1;omega,fun k hk=>by have:=HLo.out.2 k hk;omega⟩
   have HLs:=Hxq (list_any b ra rc f v [41] { data:=#[41] } rfl (by decide) (Sy.ty v) (Sy.adv_ty v) 112 #[.pointer (some ⟨w.heap.size,0,none⟩),.pointer (some ⟨w1.heap.size+1,0,none⟩)]
    (enter_of Tryz.func112 (by kernel_rfl) rfl) (AInvY (.string (Lx.ofS t.text)) [.int .i64 (t.line:Nat),.int .i64 (t.col:Nat)] wT b (w1.heap.size+1) w.heap.size) (fun w'=>Mod [b] wT w')
    (fun acc j W hI h hj hn=>relation1_any b ra rc f v _ _ wT _ _ acc j W hI h hLL hv hj hn) (fun acc W W' hI hm=>by obtain ⟨va,vc,hh⟩:=hI;exact ⟨va,vc,hh.keep hm⟩) (fun acc W hI=>by obtain ⟨va,vc,hh⟩:=hI;exact hh.mod)
    k w2 H2.out hI hv hk.2)
   clear hI
   generalize Sy.list v [41] (Sy.ty v) k=p3 at *
   cases p3 with
   | err g =>
    have hq:q=.err g:=HR3.out
    subst hq
    clear HR3
    go_wp2_with fail
    refine HLs.out.mono ?_
    rintro e3 w3 ⟨rfl,m3⟩
    have M3:=Hxq (MT.out.trans m3 (by simp))
    clear m3
    unfold stopE
    go_wp2_with fail
    exact ⟨rfl,rfl,M3.out⟩
   | ok l n =>
    have hq:q=.ok ⟨Sy.txt t.text,l,t.line,t.col⟩ n:=HR3.out
    subst hq
    clear HR3
    go_wp2_with fail
    refine HLs.out.mono ?_
    rintro e3 w3 ⟨rfl,⟨va,vc,hI⟩,h3⟩
    have HI:=Lib.hid hI;have H3:=Lib.hid h3;have E3:=Hxq (hI.mod.at ET.out hnb1)
    have B3:Hid (w3.heap[w1.heap.size+1]?=some (.cells #[.string (Lx.ofS t.text),.slice va l.length vc,.int .i64 (t.line:Nat),.int .i64 (t.col:Nat)] 70 (0,0))):=Hxq (by have:=hI.box;simpa using this)
    obtain ⟨x0,x1,x2,x3⟩:=cells4 B3.out
    obtain ⟨y0,y1,y2,y3⟩:=cells4 E3.out
    have fA:∀ j,w3.frozen? ⟨w.heap.size+1,j,none⟩=false:=fun j=>free_at E3.out j
    clear hI h3 r0
    go_wp2_with fail
    have mR:=setCs_mod (w.heap.size+1) [.string (Lx.ofS t.text),.slice va l.length vc,.int .i64 (t.line:Nat),.int .i64 (t.col:Nat)] 0 w3
    refine bodyPost_ret (results_cell_row rfl _ _ _ _ _ _ _ rfl (setCs_row (vs:=[.string (Lx.ofS t.text),.slice va l.length vc,.int .i64 (t.line:Nat),.int .i64 (t.col:Nat)]) E3.out rfl) Tryz.underlying70 rfl (by kernel_rfl)) rfl ⟨_,rfl,⟨_,rfl,?_⟩,H3.out.new HLo.out mR (by simp),(MT.out.trans HI.out.mod (by simp)).trans mR (by simp)⟩
    refine (RowB.of_owns (F:=fun k=>wT.heap.size<=k) intC_size HI.out.row (fun k hk=>(HI.out.new k hk).1)).keep mR (fun s hs=>?_) |>.mono (fun k hk _=>by omega)
    rw [Msq] at hs
    omega
abbrev RelU:=Pr.Rel × Value
abbrev RulU:=Pr.Rul × Value × Value
def csR (p:RelU):Array Value:=reV p.1 p.2
def csU (p:RulU):Array Value:=ruV p.1 p.2.1 p.2.2
theorem csR_size (p:RelU):(csR p).size=4:=rfl
theorem csU_size (p:RulU):(csU p).size=5:=rfl
def RelB (F:Nat->Prop) (w:World) (p:RelU):Prop:=RowB F w 1 intC p.1.types p.2
def RulB (F:Nat->Prop) (w:World) (p:RulU):Prop:=RowB F w 5 tmV p.1.head.terms p.2.1/\BB F w p.1.body p.2.2
theorem RelB.keep {F:Nat->Prop} {S:List Nat} {w w':World} {p:RelU} (h:RelB F w p) (hm:Mod S w w') (hS:∀ s∈S,¬ F s):RelB F w' p:=RowB.keep h hm hS
theorem RelB.mono {F F':Nat->Prop} {w:World} {p:RelU} (h:RelB F w p) (hF:∀ k,F k->k<w.heap.size->F' k):RelB F' w p:=RowB.mono h hF
theorem RulB.keep {F:Nat->Prop} {S:List Nat} {w w':World} {p:RulU} (h:RulB F w p) (hm:Mod S w w') (hS:∀ s∈S,¬ F s):RulB F w' p:=⟨h.1.keep hm hS,h.2.keep hm hS⟩
theorem RulB.mono {F F':Nat->Prop} {w:World} {p:RulU} (h:RulB F w p) (hF:∀ k,F k->k<w.heap.size->F' k):RulB F' w p:=⟨h.1.mono hF,h.2.mono hF⟩
theorem csR_one {F:Nat->Prop} {w:World} {p:RelU} (h:RelB F w p):∀ u∈(csR p).toList,u.oneCell'=true:=by
 obtain ⟨r,u⟩:=p
 obtain ⟨a,c,hu⟩:=RowB.lit h
 simp only at hu
 subst hu
 intro x hx
 simp [csR,reV] at hx
 rcases hx with rfl | rfl | rfl | rfl <;> rfl
theorem csU_one {F:Nat->Prop} {w:World} {p:RulU} (h:RulB F w p):∀ u∈(csU p).toList,u.oneCell'=true:=by
 obtain ⟨r,u1,u2⟩:=p
 obtain ⟨a,c,hu⟩:=RowB.lit h.1
 obtain ⟨a2,c2,hu2⟩:=BB.lit h.2
 simp only at hu hu2
 subst hu;subst hu2
 intro x hx
 simp [csU,ruV] at hx
 rcases hx with rfl | rfl | rfl | rfl | rfl <;> rfl
/-- what of blocks the elements' own rows lie in -/
def PF (w0:World) (pb:Nat) (sr su:Value) (k:Nat):Prop:=w0.heap.size<=k/\k≠pb/\k∉fp sr/\k∉fp su
structure PI (w0:World) (b pb:Nat) (rels:List RelU) (rus:List RulU) (W:World) (va:Option Addr) (vc:Nat) (ua:Option Addr) (uc:Nat):Prop where
 box:W.heap[pb]?=some (.cells #[.slice va rels.length vc,.slice ua rus.length uc] 25 (0,0))
 rowR:W.ownsRow 0 70 4 (.slice va rels.length vc) rels.length (rowCells csR rels)
 rowU:W.ownsRow 0 63 5 (.slice ua rus.length uc) rus.length (rowCells csU rus)
 newR:∀ k∈fp (.slice va rels.length vc),w0.heap.size<=k/\k≠pb
 newU:∀ k∈fp (.slice ua rus.length uc),w0.heap.size<=k/\k≠pb
 dis:∀ k∈fp (.slice va rels.length vc),k∉fp (.slice ua rus.length uc)
 subR:∀ p∈rels,RelB (PF w0 pb (.slice va rels.length vc) (.slice ua rus.length uc)) W p
 subU:∀ p∈rus,RulB (PF w0 pb (.slice va rels.length vc) (.slice ua rus.length uc)) W p
 pbn:w0.heap.size<=pb
 bl:b<w0.heap.size
 mod:Mod [b] w0 W
section
variable {w0:World} {b pb:Nat} {rels:List RelU} {rus:List RulU} {W W':World} {va:Option Addr} {vc:Nat} {ua:Option Addr} {uc:Nat}
theorem PI.keep (h:PI w0 b pb rels rus W va vc ua uc) (hm:Mod [b] W W'):PI w0 b pb rels rus W' va vc ua uc:=by
 have h1:=h.pbn
 have h3:=h.bl
 refine ⟨hm.at h.box (by simp;omega),hm.owns h.rowR (fun k hk=>?_),hm.owns h.rowU (fun k hk=>?_),h.newR,h.newU,h.dis,fun p hp=>(h.subR p hp).keep hm (fun s hs=>?_),fun p hp=>(h.subU p hp).keep hm (fun s hs=>?_),h.pbn,h.bl,h.mod.trans hm (by simp)⟩
 ·have:=(h.newR k hk).1;simp;omega
 ·have:=(h.newU k hk).1;simp;omega
 all_goals (rw [Msq] at hs;subst hs;rintro ⟨h4,-⟩;omega)
/-- a relation more -/
theorem PI.growR {va':Option Addr} {vc':Nat} {p:RelU} {n:Nat} (h:PI w0 b pb rels rus W va vc ua uc) (hm:Mod (fp (.slice va rels.length vc)) W W') (hp:RelB (fun k=>n<=k) W p) (hpb:pb<n) (hR:∀ k∈fp (.slice va rels.length vc),k<n) (hU:∀ k∈fp (.slice ua rus.length uc),k<n)
  (hown:W'.ownsRow 0 70 4 (.slice va' (rels.length+1) vc') (rels.length+1) (rowCells csR rels++(csR p).toList))
  (hf:∀ k∈fp (.slice va' (rels.length+1) vc'),k∈fp (.slice va rels.length vc)\/W.heap.size<=k) :
  PI w0 b pb (rels++[p]) rus (W'.setCell ⟨pb,0,none⟩ (.slice va' (rels.length+1) vc')) va' vc' ua uc:=by
 have e1:(rels++[p]).length=rels.length+1:=by simp
 have hnR:=h.newR
 have hnU:=h.newU
 have hdis:=h.dis
 have hpbn:=h.pbn
 have hbx:=lt_of_block h.box
 have hUl:=fun k hk=>fp_lt h.rowU k hk
 have hsz:=h.mod.size
 have hna:pb∉fp (.slice va rels.length vc):=fun hk=>(hnR pb hk).2 rfl
 have hnR':∀ k∈fp (.slice va' (rels.length+1) vc'),w0.heap.size<=k/\k≠pb:=fun k hk=>by
  rcases hf k hk with hh | hh
  ·exact hnR k hh
  ·exact ⟨by omega,by omega⟩
 have hdis':∀ k∈fp (.slice va' (rels.length+1) vc'),k∉fp (.slice ua rus.length uc):=fun k hk hu=>by
  rcases hf k hk with hh | hh
  ·exact hdis k hh hu
  ·have:=hUl k hu;omega
 have hm2:Mod [pb] W' (W'.setCell ⟨pb,0,none⟩ (.slice va' (rels.length+1) vc')):=(Mod.refl [pb] W').setCell (p:=⟨pb,0,none⟩) (.inl (by simp)) _
 have hstep:∀ k,PF w0 pb (.slice va rels.length vc) (.slice ua rus.length uc) k->k<W.heap.size->PF w0 pb (.slice va' (rels.length+1) vc') (.slice ua rus.length uc) k:=fun k hk hk2 =>
  ⟨hk.1,hk.2.1,fun hh=>by
   rcases hf k hh with h1 | h1
   ·exact hk.2.2.1 h1
   ·omega,hk.2.2.2⟩
 have hmm:Mod (pb :: fp (.slice va rels.length vc)) W (W'.setCell ⟨pb,0,none⟩ (.slice va' (rels.length+1) vc')):=(hm.mono (fun t ht=>.inl (List.mem_cons_of_mem _ ht))).trans hm2 (by simp)
 have hkeep:∀ s∈pb :: fp (.slice va rels.length vc),¬ (PF w0 pb (.slice va rels.length vc) (.slice ua rus.length uc) s/\s<W.heap.size):=fun s hs hh=>by
  rcases List.mem_cons.1 hs with rfl | hs
  ·exact hh.1.2.1 rfl
  ·exact hh.1.2.2.1 hs
 refine ⟨?_,?_,?_,by rw [e1];exact hnR',hnU,by rw [e1];exact hdis',?_,?_,h.pbn,h.bl,?_⟩
 ·have:=setCell_at (hm.at h.box hna) 0 (.slice va' (rels.length+1) vc')
  rw [this,e1]
  simp
 ·rw [e1,rowCells_snoc]
  exact hm2.owns hown (fun k hk=>by have:=(hnR' k hk).2;simp;omega)
 ·exact hm2.owns (hm.owns h.rowU (fun k hk hk2=>hdis k hk2 hk)) (fun k hk=>by have:=(hnU k hk).2;simp;omega)
 ·intro q hq
  rw [e1]
  rcases List.mem_append.1 hq with hq | hq
  ·refine (((h.subR q hq).mono (F':=fun k=>PF w0 pb (.slice va rels.length vc) (.slice ua rus.length uc) k/\k<W.heap.size) (fun k hk hk2=>⟨hk,hk2⟩)).keep hmm hkeep).mono (fun k hk _=>hstep k hk.1 hk.2)
  ·rw [Msq] at hq
   subst hq
   refine ((hp.mono (F':=fun k=>n<=k/\k<W.heap.size) (fun k hk hk2=>⟨hk,hk2⟩)).keep hmm (fun s hs hh=>?_)).mono (fun k hk _=>⟨by omega,by omega,fun hh=>?_,fun hh=>?_⟩)
   ·rcases List.mem_cons.1 hs with rfl | hs
    ·omega
    ·have:=hR s hs;omega
   ·rcases hf k hh with h1 | h1
    ·have:=hR k h1;omega
    ·omega
   ·have:=hU k hh;omega
 ·intro q hq
  rw [e1]
  exact (((h.subU q hq).mono (F':=fun k=>PF w0 pb (.slice va rels.length vc) (.slice ua rus.length uc) k/\k<W.heap.size) (fun k hk hk2=>⟨hk,hk2⟩)).keep hmm hkeep).mono (fun k hk _=>hstep k hk.1 hk.2)
 ·refine h.mod.trans hmm (fun k hk=>?_)
  rcases List.mem_cons.1 hk with rfl | hk
  ·exact .inr hpbn
  ·exact .inr (hnR k hk).1
/-- a rule more -/
theorem PI.growU {ua':Option Addr} {uc':Nat} {p:RulU} {n:Nat} (h:PI w0 b pb rels rus W va vc ua uc) (hm:Mod (fp (.slice ua rus.length uc)) W W') (hp:RulB (fun k=>n<=k) W p) (hpb:pb<n) (hR:∀ k∈fp (.slice ua rus.length uc),k<n) (hU:∀ k∈fp (.slice va rels.length vc),k<n)
  (hown:W'.ownsRow 0 63 5 (.slice ua' (rus.length+1) uc') (rus.length+1) (rowCells csU rus++(csU p).toList))
  (hf:∀ k∈fp (.slice ua' (rus.length+1) uc'),k∈fp (.slice ua rus.length uc)\/W.heap.size<=k) :
  PI w0 b pb rels (rus++[p]) (W'.setCell ⟨pb,1,none⟩ (.slice ua' (rus.length+1) uc')) va vc ua' uc':=by
 have e1:(rus++[p]).length=rus.length+1:=by simp
 have hnR:=h.newU
 have hnU:=h.newR
 have hdis:∀ k∈fp (.slice ua rus.length uc),k∉fp (.slice va rels.length vc):=fun k hk hk2=>h.dis k hk2 hk
 have hpbn:=h.pbn
 have hbx:=lt_of_block h.box
 have hUl:=fun k hk=>fp_lt h.rowR k hk
 have hsz:=h.mod.size
 have hna:pb∉fp (.slice ua rus.length uc):=fun hk=>(hnR pb hk).2 rfl
 have hnR':∀ k∈fp (.slice ua' (rus.length+1) uc'),w0.heap.size<=k/\k≠pb:=fun k hk=>by
  rcases hf k hk with hh | hh
  ·exact hnR k hh
  ·exact ⟨by omega,by omega⟩
 have hdis':∀ k∈fp (.slice ua' (rus.length+1) uc'),k∉fp (.slice va rels.length vc):=fun k hk hu=>by
  rcases hf k hk with hh | hh
  ·exact hdis k hh hu
  ·have:=hUl k hu;omega
 have hm2:Mod [pb] W' (W'.setCell ⟨pb,1,none⟩ (.slice ua' (rus.length+1) uc')):=(Mod.refl [pb] W').setCell (p:=⟨pb,1,none⟩) (.inl (by simp)) _
 have hstep:∀ k,PF w0 pb (.slice va rels.length vc) (.slice ua rus.length uc) k->k<W.heap.size->PF w0 pb (.slice va rels.length vc) (.slice ua' (rus.length+1) uc') k:=fun k hk hk2 =>
  ⟨hk.1,hk.2.1,hk.2.2.1,fun hh=>by
   rcases hf k hh with h1 | h1
   ·exact hk.2.2.2 h1
   ·omega⟩
 have hmm:Mod (pb :: fp (.slice ua rus.length uc)) W (W'.setCell ⟨pb,1,none⟩ (.slice ua' (rus.length+1) uc')):=(hm.mono (fun t ht=>.inl (List.mem_cons_of_mem _ ht))).trans hm2 (by simp)
 have hkeep:∀ s∈pb :: fp (.slice ua rus.length uc),¬ (PF w0 pb (.slice va rels.length vc) (.slice ua rus.length uc) s/\s<W.heap.size):=fun s hs hh=>by
  rcases List.mem_cons.1 hs with rfl | hs
  ·exact hh.1.2.1 rfl
  ·exact hh.1.2.2.2 hs
 refine ⟨?_,?_,?_,hnU,by rw [e1];exact hnR',by rw [e1];exact fun k hk hk2=>hdis' k hk2 hk,?_,?_,h.pbn,h.bl,?_⟩
 ·have:=setCell_at (hm.at h.box hna) 1 (.slice ua' (rus.length+1) uc')
  rw [this,e1]
  simp
 ·exact hm2.owns (hm.owns h.rowR (fun k hk hk2=>hdis k hk2 hk)) (fun k hk=>by have:=(hnU k hk).2;simp;omega)
 ·rw [e1,rowCells_snoc]
  exact hm2.owns hown (fun k hk=>by have:=(hnR' k hk).2;simp;omega)
 ·intro q hq
  rw [e1]
  exact (((h.subR q hq).mono (F':=fun k=>PF w0 pb (.slice va rels.length vc) (.slice ua rus.length uc) k/\k<W.heap.size) (fun k hk hk2=>⟨hk,hk2⟩)).keep hmm hkeep).mono (fun k hk _=>hstep k hk.1 hk.2)
 ·intro q hq
  rw [e1]
  rcases List.mem_append.1 hq with hq | hq
  ·refine (((h.subU q hq).mono (F':=fun k=>PF w0 pb (.slice va rels.length vc) (.slice ua rus.length uc) k/\k<W.heap.size) (fun k hk hk2=>⟨hk,hk2⟩)).keep hmm hkeep).mono (fun k hk _=>hstep k hk.1 hk.2)
  ·rw [Msq] at hq
   subst hq
   refine ((hp.mono (F':=fun k=>n<=k/\k<W.heap.size) (fun k hk hk2=>⟨hk,hk2⟩)).keep hmm (fun s hs hh=>?_)).mono (fun k hk _=>⟨by omega,by omega,fun hh=>?_,fun hh=>?_⟩)
   ·rcases List.mem_cons.1 hs with rfl | hs
    ·omega
    ·have:=hR s hs;omega
   ·have:=hU k hh;omega
   ·rcases hf k hh with h1 | h1
    ·have:=hR k h1;omega
    ·omega
 ·refine h.mod.trans hmm (fun k hk=>?_)
  rcases List.mem_cons.1 hk with rfl | hk
  ·exact .inr hpbn
  ·exact .inr (hnR k hk).1
end
end Go.Proofs.YtohnmnfhmbmoaaaGreatDoor
