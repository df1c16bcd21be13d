/- THE TEXTS MERGED: SyBody. -/
import Derived.Test.YtppigckioalhhaaGreatDoorRKS1
import Derived.Test.YtppigckioalhhaaGreatDoorRKS16
namespace Go.Proofs.YtppigckioalhhaaGreatDoorR
open Go.RowKit
set_option linter.unusedVariables false
set_option linter.unusedSimpArgs false
set_option maxRecDepth 100000
def LiC (b:Nat) (ra:Option Addr) (rc:Nat) (f:Value) (v:Sy.Env) (k br:Nat):Prop:=∀ (i:Nat) (w:World),RdP w b ra rc f v i->i<=v.ws.length ->
 Calls Tryz.prog 41 #[.pointer (some ⟨b,0,none⟩),.int .i64 (br:Nat)] w (PRes b ra rc f v (Sy.litF v k br i) (valL w.heap.size) w)
def BoC (b:Nat) (ra:Option Addr) (rc:Nat) (f:Value) (v:Sy.Env) (k br:Nat):Prop:=∀ (i:Nat) (w:World),RdP w b ra rc f v i->i<=v.ws.length ->
 Calls Tryz.prog 79 #[.pointer (some ⟨b,0,none⟩),.int .i64 (br:Nat)] w (PRes b ra rc f v (Sy.bodyOf v (Sy.litF v k br) i) (valB w.heap.size) w)
theorem bodyF_eq (v:Sy.Env) (one:Nat->Sy.PR Pr.Li) (k:Nat) (acc:List Pr.Li) (i:Nat):Sy.bodyF v one (k+1) acc i =
  if Sy.sign (v.tk i) [44]=true then (one (i+1)).bind fun a j=>Sy.bodyF v one k (acc++[a]) j else .ok acc i:=by rw [Sy.bodyF]
/-- literals read so far: their row, their slices in other blocks -/
structure BI (w0 W:World) (b:Nat) (acc:List (Pr.Li × LU)) (va:Option Addr) (vc:Nat):Prop where
 row:W.ownsRow 0 50 30 (.slice va acc.length vc) acc.length (rowCells (fun p:Pr.Li × LU=>liV p.1 p.2) acc)
 new:∀ k∈fp (.slice va acc.length vc),w0.heap.size<=k
 sub:∀ p∈acc,LB (fun k=>w0.heap.size<=k/\k∉fp (.slice va acc.length vc)) W p.1 p.2
 bl:b<w0.heap.size
 mod:Mod [b] w0 W
theorem BI.keep {w0 W W':World} {b:Nat} {acc:List (Pr.Li × LU)} {va:Option Addr} {vc:Nat} (h:BI w0 W b acc va vc) (hm:Mod [b] W W'):BI w0 W' b acc va vc:=by
 have hb:=h.bl
 refine ⟨hm.owns h.row (fun k hk=>?_),h.new,fun p hp=>(h.sub p hp).keep hm (fun s hs=>?_),h.bl,h.mod.trans hm (by simp)⟩
 ·have:=h.new k hk
  simp;omega
 ·rw [Msq] at hs
  omega
theorem BI.grow {w0 W W':World} {b:Nat} {acc:List (Pr.Li × LU)} {va va':Option Addr} {vc vc':Nat} {p:Pr.Li × LU} {n:Nat} (h:BI w0 W b acc va vc) (hm:Mod (fp (.slice va acc.length vc)) W W') (hp:LB (fun k=>n<=k) W p.1 p.2) (hn:∀ k∈fp (.slice va acc.length vc),k<n) (hn0:w0.heap.size<=n)
  (hown:W'.ownsRow 0 50 30 (.slice va' (acc.length+1) vc') (acc.length+1) (rowCells (fun p:Pr.Li × LU=>liV p.1 p.2) acc++(liV p.1 p.2).toList)) (hf:∀ k∈fp (.slice va' (acc.length+1) vc'),k∈fp (.slice va acc.length vc)\/W.heap.size<=k) :
  BI w0 W' b (acc++[p]) va' vc':=by
 have e1:(acc++[p]).length=acc.length+1:=by simp
 have hnew:=h.new
 have hsz:=h.mod.size
 have hnew':∀ k∈fp (.slice va' (acc.length+1) vc'),w0.heap.size<=k:=fun k hk=>by
  rcases hf k hk with hh | hh
  ·exact hnew k hh
  ·omega
 refine ⟨?_,by rw [e1];exact hnew',?_,h.bl,h.mod.trans hm (fun k hk=>.inr (hnew k hk))⟩
 ·rw [e1,rowCells_snoc]
  exact hown
 ·intro q hq
  rw [e1]
  rcases List.mem_append.1 hq with hq | hq
  ·refine ((h.sub q hq).mono (F':=fun k=>w0.heap.size<=k/\k∉fp (.slice va acc.length vc)/\k<W.heap.size) (fun k hk hk2=>⟨hk.1,hk.2,hk2⟩)).keep hm (fun s hs hh=>hh.2.1 hs) |>.mono (fun k hk hk2=>⟨hk.1,fun hh=>?_⟩)
   rcases hf k hh with h1 | h1
   ·exact hk.2.1 h1
   ·have:=hk.2.2;omega
  ·rw [Msq] at hq
   subst hq
   refine (hp.mono (F':=fun k=>n<=k/\k<W.heap.size) (fun k hk hk2=>⟨hk,hk2⟩)).keep hm (fun s hs hh=>by have:=hn s hs;omega) |>.mono (fun k hk hk2=>⟨by omega,fun hh=>?_⟩)
   rcases hf k hh with h1 | h1
   ·have:=hn k h1;omega
   ·have:=hk.2;omega
theorem BI.body {w0 W:World} {b:Nat} {acc:List (Pr.Li × LU)} {va:Option Addr} {vc:Nat} (h:BI w0 W b acc va vc):BB (fun k=>w0.heap.size<=k) W (acc.map (·.1)) (.slice va acc.length vc) :=
 BB.of_row acc (RowB.of_owns liV_size h.row h.new) (fun p hp=>(h.sub p hp).mono (fun k hk _=>hk.1))
theorem liV_one (p:Pr.Li × LU) {F:Nat->Prop} {w:World} (h:LB F w p.1 p.2):∀ u∈(liV p.1 p.2).toList,u.oneCell'=true:=by
 obtain ⟨e,U⟩:=p
 cases h with
 | mk ht hl hr ho hb h1 h2 =>
  rename_i U'
  obtain ⟨t,l,r,o,b⟩:=U
  obtain ⟨a1,c1,rfl⟩:=ht.lit
  obtain ⟨a2,c2,rfl⟩:=hl.lit
  obtain ⟨a3,c3,rfl⟩:=hr.lit
  obtain ⟨a4,c4,rfl⟩:=ho.lit
  subst hb
  intro u hu
  simp only [liV,List.mem_cons,List.not_mem_nil,or_false] at hu
  rcases hu with rfl | rfl | rfl | rfl | rfl | rfl | rfl | rfl | rfl | rfl | rfl | rfl | rfl | rfl | rfl | rfl | rfl | rfl | rfl | rfl | rfl | rfl | rfl | rfl | rfl | rfl | rfl | rfl | rfl | rfl <;> rfl
theorem Tryz.infoLit:(Tryz.prog.info? 50).map (fun i=>(i.zero,i.size,i.bytes))=some (some (.agg #[Value.int IntKind.i64 0,Value.string ⟨#[]⟩,Value.slice none 0 0,Value.int IntKind.i64 0,Value.int IntKind.i64 0,Value.string ⟨#[]⟩,Value.int IntKind.i64 0,Value.int IntKind.i64 0,Value.string ⟨#[]⟩,Value.int IntKind.i64 0,Value.slice none 0 0,Value.int IntKind.i64 0,Value.string ⟨#[]⟩,Value.int IntKind.i64 0,Value.int IntKind.i64 0,Value.string ⟨#[]⟩,Value.int IntKind.i64 0,Value.slice none 0 0,Value.int IntKind.i64 0,Value.string ⟨#[]⟩,Value.int IntKind.i64 0,Value.string ⟨#[]⟩,Value.int IntKind.i64 0,Value.int IntKind.i64 0,Value.string ⟨#[]⟩,Value.int IntKind.i64 0,Value.slice none 0 0,Value.slice none 0 0,Value.int IntKind.i64 0,Value.int IntKind.i64 0]),30,384):=by kernel_rfl
set_option maxHeartbeats 4000000 in
theorem body_of (b:Nat) (ra:Option Addr) (rc:Nat) (f:Value) (v:Sy.Env) (k br:Nat) (hv:EnvOk v) (hL:LiC b ra rc f v k br):BoC b ra rc f v k br:=by
 intro i w h hi
 have hlen:=hv.len
 have HL:=Lib.hid hL
 have HR:Hid (Sy.bodyOf v (Sy.litF v k br) i=(Sy.litF v k br i).bind fun a j=>Sy.bodyF v (Sy.litF v k br) (v.ws.length+1) [a] j):=Lib.hid rfl
 have HA:=Hxq (Sy.adv_litF v k br)
 have H0:=Lib.hid h
 have hbl:=h.lt
 have HLo:=Lib.hid h.low
 clear h hL
 generalize hq:Sy.bodyOf v (Sy.litF v k br) i=q at *
 clear hq
 cases ho:Sy.litF v k br i with
 | err g =>
  have hq:=HR.out
  rw [ho] at hq
  have hq2:q=.err g:=hq
  subst hq2
  have HHo:=Lib.hid ho
  clear hq ho HR
  go_enter Tryz.func79,Tryz.ntmps79
  go_wp2_with fail
  refine (HL.out i w H0.out hi).mono ?_
  rw [HHo.out]
  rintro e2 w2 ⟨rfl,m2⟩
  have M2:=Lib.hid m2
  clear m2
  unfold stopE
  go_wp2_with fail
  exact ⟨rfl,rfl,M2.out⟩
 | ok a0 j0 =>
  have hq:=HR.out
  rw [ho] at hq
  have HQ:Hid (q=Sy.bodyF v (Sy.litF v k br) (v.ws.length+1) [a0] j0):=Lib.hid hq
  have hj0:=HA.out i a0 j0 hi ho
  have HHo:=Lib.hid ho
  clear hq ho HR
  go_enter Tryz.func79,Tryz.ntmps79
  go_wp2_with fail
  refine (HL.out i w H0.out hi).mono ?_
  rw [HHo.out]
  rintro e2 w2 ⟨y2,rfl,⟨U2,rfl,hb2⟩,h2,m2⟩
  have z2:=m2.size
  have FB:Hid (∀ wX,wX=w2.alloc (Obj.cells (liV a0 U2) 50)->BI w wX b [(a0,U2)] (some ⟨w2.heap.size,0,none⟩) 1/\RdP wX b ra rc f v j0):=Hxq (fun wX e=>by
   subst e
   have mA:=(Mod.refl [] w2).alloc (Obj.cells (liV a0 U2) 50)
   refine ⟨⟨?_,fun k hk=>by simp [fp] at hk;omega,fun p hp=>?_,hbl,m2.trans mA (by simp)⟩,h2.past mA (by simp)⟩
   ·have:=World.ownsRow_lit (base:=0) (e:=50) (size:=30) w2 (liV a0 U2) 1 (by omega) (by unfold maxLen;omega) (by rw [liV_size (a0,U2)])
    simpa [rowCells] using this
   ·rw [Msq] at hp
    subst hp
    refine (hb2.mono (F':=fun k=>w.heap.size<=k/\k∉fp (.slice (some ⟨w2.heap.size,0,none⟩) 1 1)) (fun k hk hk2=>⟨hk,by simp [fp];omega⟩)).keep mA (by simp))
  clear h2 m2 hb2
  obtain ⟨c1,c2,c3,c4,c5,c6,c7,c8,c9,c10,c11⟩:=a0
  obtain ⟨U2t,U2l,U2r,U2o,U2b⟩:=U2
  unfold liV
  simp only
  go_upto_region 2 with fail
  generalize hwX:w2.alloc (Obj.cells _ 50)=wX
  obtain ⟨BX,HX⟩:=FB.out wX hwX.symm
  have BX:=Lib.hid BX;have HX:=Lib.hid HX
  clear FB hwX
  obtain ⟨iL,hinf,hz0,hz1,hz2⟩:=info_parts Tryz.infoLit
  go_loopg [5] (v.ws.length+1) (fun gk lv wr=>∃ (j:Nat) (acc:List (Pr.Li × LU)) (va:Option Addr) (vc:Nat),lv=.slice va acc.length vc/\BI w wr b acc va vc/\RdP wr b ra rc f v j/\j<=v.ws.length/\v.ws.length+1<=gk+j/\acc.length<=j+1/\q=Sy.bodyF v (Sy.litF v k br) gk (acc.map (·.1)) j)
  case atStart=>exact ⟨j0,_,_,_,rfl,BX.out,HX.out,hj0.2,by omega,by simp,HQ.out⟩
  case round =>
   obtain ⟨j,acc,va,vc,rfl,hI,hr,hj,hgk,hal,hq⟩:=hrel
   obtain ⟨g',rfl⟩:∃ g',gk=g'+1:=⟨gk - 1,by omega⟩
   rw [bodyF_eq] at hq
   have HI:=Lib.hid hI;have HQ2:=Lib.hid hq
   have HMy:=Hxq (may_any b ra rc f v j [44] { data:=#[44] } wr hr hv (by omega) rfl (by decide))
   have hslt:=fun h=>Sy.sign_lt (v:=v) (i:=j) (s:=[44]) h
   clear hI hr hq HQ BX HX
   generalize Sy.sign (v.tk j) [44]=sg at *
   cases sg
   ·have hq:q=.ok (acc.map (·.1)) j:=HQ2.out
    subst hq
    clear HQ2 hslt
    go_wp2_with fail
    refine HMy.out.mono ?_
    rintro e3 w3 ⟨rfl,h3,m3⟩
    have I3:=Hxq (HI.out.keep m3);have H3:=Hxq (show RdP w3 b ra rc f v j from h3)
    clear h3 m3
    go_wp2_with fail
    go_ret
    exact ⟨_,rfl,by have:=I3.out.body;unfold valB;simpa using this,H3.out,I3.out.mod⟩
   ·have hq:q=(Sy.litF v k br (j+1)).bind fun a j=>Sy.bodyF v (Sy.litF v k br) g' (acc.map (·.1)++[a]) j:=HQ2.out
    have hjl:j<v.ws.length:=hslt rfl
    clear HQ2 hslt
    cases ho:Sy.litF v k br (j+1) with
    | err g =>
     rw [ho] at hq
     have hq2:q=.err g:=hq
     subst hq2
     have HHo2:=Lib.hid ho
     clear hq ho
     go_wp2_with fail
     refine HMy.out.mono ?_
     rintro e3 w3 ⟨rfl,h3,m3⟩
     have I3:=Hxq (HI.out.keep m3);have H3:=Hxq (show RdP w3 b ra rc f v (j+1) from h3)
     clear h3 m3
     go_wp2_with fail
     refine (HL.out (j+1) w3 H3.out (by omega)).mono ?_
     rw [HHo2.out]
     rintro e4 w4 ⟨rfl,m4⟩
     have M4:=Hxq (I3.out.mod.trans m4 (by simp))
     clear m4
     unfold stopE
     go_wp2_with fail
     exact ⟨rfl,rfl,M4.out⟩
    | ok a1 j1 =>
     rw [ho] at hq
     have HQ3:Hid (q=Sy.bodyF v (Sy.litF v k br) g' (acc.map (·.1)++[a1]) j1):=Lib.hid hq
     have hj1:=HA.out (j+1) a1 j1 (by omega) ho
     have HHo2:=Lib.hid ho
     clear hq ho
     go_wp2_with fail
     refine HMy.out.mono ?_
     rintro e3 w3 ⟨rfl,h3,m3⟩
     have I3:=Hxq (HI.out.keep m3);have H3:=Hxq (show RdP w3 b ra rc f v (j+1) from h3)
     clear h3 m3
     go_wp2_with fail
     refine (HL.out (j+1) w3 H3.out (by omega)).mono ?_
     rw [HHo2.out]
     rintro e4 w4 ⟨y4,rfl,⟨U4,rfl,hb4⟩,h4,m4⟩
     have I4:=Hxq (I3.out.keep m4)
     have hn4:=Hxq (fun k hk=>fp_lt I3.out.row k hk)
     have hz3:=Lib.hid I3.out.mod.size
     have FB:Hid (∀ wX,wX=w4.alloc (Obj.cells (liV a1 U4) 50)->BI w wX b acc va vc/\RdP wX b ra rc f v j1/\LB (fun k=>w3.heap.size<=k) wX a1 U4/\Src Tryz.prog 30 46 (.slice (some ⟨w4.heap.size,0,none⟩) 1 1) 1 (liV a1 U4).toList wX):=Hxq (fun wX e=>by
      subst e
      have mA:=(Mod.refl [] w4).alloc (Obj.cells (liV a1 U4) 50)
      exact ⟨I4.out.keep (mA.mono (by simp)),h4.past mA (by simp),hb4.keep mA (by simp),src_one Tryz.underlying46 (heap_alloc_new w4 (Obj.cells (liV a1 U4) 50)) (liV_size (a1,U4)) (liV_one (a1,U4) hb4)⟩)
     clear h4 m4 hb4
     obtain ⟨d1,d2,d3,d4,d5,d6,d7,d8,d9,d10,d11⟩:=a1
     obtain ⟨U4t,U4l,U4r,U4o,U4b⟩:=U4
     unfold liV
     simp only
     go_wp2_with (at_builtin;refine wpList_append_src _ rfl _ _ 46 46 rfl 50 iL (.agg #[Value.int IntKind.i64 0,Value.string ⟨#[]⟩,Value.slice none 0 0,Value.int IntKind.i64 0,Value.int IntKind.i64 0,Value.string ⟨#[]⟩,Value.int IntKind.i64 0,Value.int IntKind.i64 0,Value.string ⟨#[]⟩,Value.int IntKind.i64 0,Value.slice none 0 0,Value.int IntKind.i64 0,Value.string ⟨#[]⟩,Value.int IntKind.i64 0,Value.int IntKind.i64 0,Value.string ⟨#[]⟩,Value.int IntKind.i64 0,Value.slice none 0 0,Value.int IntKind.i64 0,Value.string ⟨#[]⟩,Value.int IntKind.i64 0,Value.string ⟨#[]⟩,Value.int IntKind.i64 0,Value.int IntKind.i64 0,Value.string ⟨#[]⟩,Value.int IntKind.i64 0,Value.slice none 0 0,Value.slice none 0 0,Value.int IntKind.i64 0,Value.int IntKind.i64 0]) 30 384 Tryz.underlying46 hinf hz0 hz1 hz2 rfl (.slice va acc.length vc) acc.length (rowCells (fun p:Pr.Li × LU=>liV p.1 p.2) acc) rfl (FB.out _ rfl).1.row _ 1 (liV (.mk d1 d2 d3 d4 d5 d6 d7 d8 d9 d10 d11) ⟨U4t,U4l,U4r,U4o,U4b⟩).toList rfl (FB.out _ rfl).2.2.2 (by unfold maxLen;omega) (by omega) ?_)
     intro v' w5 hown5 hm5 hf5 hn5
     obtain ⟨va5,vc5,rfl⟩:=owns_slice hown5
     obtain ⟨BX,HX,LX,SX⟩:=FB.out _ rfl
     have G5:=Hxq (BX.grow (p:=(.mk d1 d2 d3 d4 d5 d6 d7 d8 d9 d10 d11,⟨U4t,U4l,U4r,U4o,U4b⟩)) hm5 LX hn4.out hz3.out hown5 (fun k hk=>by
      rcases hf5 k hk with hh | hh
      ·exact .inl hh
      ·exact .inr (by simpa using hh)))
     have H5:=Hxq (HX.new HLo.out hm5 BX.new)
     clear hown5 hm5 hf5 hn5 BX HX LX SX FB
     go_wp2_with fail
     go_roundg g'
     case measure=>omega
     case rel=>exact ⟨j1,_,va5,vc5,by simp,G5.out,H5.out,hj1.2,by omega,by simp;omega,by rw [HQ3.out];simp⟩
end Go.Proofs.YtppigckioalhhaaGreatDoorR
