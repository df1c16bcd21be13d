/- THE TEXTS MERGED: SySlice RpBody. -/
import Derived.Test.YtppigckioalhhaaGreatDoorRKT1
import Derived.Test.YtppigckioalhhaaGreatDoorRKT26
import Derived.Deep.RegionLaw
import Derived.Great.BuildSlice
import Derived.Test.YtppigckioalhhaaGreatDoorRKT27
import Derived.Test.YtppigckioalhhaaGreatDoorRKT13
namespace Go.Proofs.YtppigckioalhhaaGreatDoorR
open Go.RowKit
set_option linter.unusedVariables false
section
variable {P:Program} {ops:Array Oper} {rest:List Oper} {o:Oper} {a:Act} {w:World} {Q:Exit->Act->World->Prop}
theorem slice_one_fill (cells:Array Value) (s:Nat) (X:Array Value) (h0:0<s) (hs:cells.size=s) (hX:X.size=1 * s) :
  Instr.fill (fun i=>some (i * s,s)) X [(0,.agg cells)]=some cells:=by
 have:=Go.Great.fill_whole h0 [.agg cells] X (fun v hv=>by rw [Msq] at hv;subst hv;exact hs) (by simpa using hX.symm)
 simpa [Value.cells] using this
theorem wpList_slice_one (hgd:o.guard=none) (t e:TypeId) (x:Operand) (ho:o.op=.buildSlice t 1 #[(0,x)]) (cells:Array Value) (ie:TypeInfo) (z:Value) (hx:a.eval x=.agg cells)
  (hu:P.underlying t=some (.slice e)) (hie:P.info? e=some ie) (hz:ie.zero=some z) (hs:cells.size=ie.size) (h0:0<ie.size) (hsm:ie.size<=1000)
  (h:wpList P ops Q rest (a.put o.dst (.slice (some ⟨w.heap.size,0,none⟩) 1 1)) (w.alloc (.cells cells e))):wpList P ops Q (o :: rest) a w :=
 wpList_buildSlice hgd t e 1 #[(0,x)] ho cells ie z hu hie hz (by omega) (by omega) (by
  have:=slice_one_fill cells ie.size ((Array.range (1 * ie.size)).map (z.cells[· % z.cells.size]!)) h0 hs (by simp)
  simpa [hx] using this) h
end
open Go.RowKit
set_option linter.unusedVariables false
set_option linter.unusedSimpArgs false
set_option maxRecDepth 100000
theorem res_tt {fn:Func} {u q:Tmp} (h:fn.results=#[.tmp u,.tmp q]) (tmps:Array Value) (w:World) (x y:Value) (hx:tmps.getD u undef=x) (hy:tmps.getD q undef=y) :
  (results fn tmps).run Tryz.prog w=.ok (.tuple #[x,y]) w:=by
 have hx':tmps[u]?.getD undef=x:=by simpa using hx
 have hy':tmps[q]?.getD undef=y:=by simpa using hy
 simp [results,h,hx',hy']
set_option maxHeartbeats 16000000 in
theorem rb_of (b:Nat) (ra:Option Addr) (rc:Nat) (L:LX) (v:Sy.Env) (k br:Nat) (hk:EnvK v) (hL:RlC b ra rc L v k br):RbC b ra rc L v k br:=by
 intro i w h hi
 obtain ⟨iL,hinf,hz0,hz1,hz2⟩:=info_parts Tryz.infoLit
 have hv:=hk.ok
 have hlen:=hv.len
 have HL:=Lib.hid hL
 have HR:Hid (Sy.bodyOf v (Sy.litF v k br) i=(Sy.litF v k br i).bind fun a j=>Sy.bodyF v (Sy.litF v k br) (v.ws.length+1) [a] j):=Lib.hid rfl
 have HA:=Hxq (Sy.adv_litF v k br)
 have HIs:=Hxq (fun j w h hj=>ris_any b ra rc L v j nf0 [44] { data:=#[44] } w h hv hj rfl (by decide))
 have H0:=Lib.hid h
 have hbl:=h.lt
 have HLo:=Lib.hid h.low
 clear h hL hk
 generalize hq:Sy.bodyOf v (Sy.litF v k br) i=q at *
 clear hq
 go_enter Tryz.func67,Tryz.ntmps67
 go_wp2_with fail
 go_loopg [6] (v.ws.length+1) (fun gk ov wr=>∃ (j:Nat) (acc:List (Pr.Li × LU)) (va:Option Addr) (vc:Nat),ov=.slice va acc.length vc/\BI w wr b acc va vc/\RpP wr b ra rc L v j nf0/\j<=v.ws.length/\v.ws.length+1<=gk+j/\acc.length<=j/\q=(Sy.litF v k br j).bind fun a j=>Sy.bodyF v (Sy.litF v k br) gk (acc.map (·.1)++[a]) j)
 case atStart=>exact ⟨i,[],none,0,rfl,⟨World.ownsRow_nil _ _ _ _,by simp [fp],by simp,hbl,Mod.refl _ _⟩,H0.out,hi,by omega,by simp,HR.out⟩
 case round =>
  obtain ⟨j,acc,va,vc,rfl,hI,hr,hj,hgk,hal,hq⟩:=hrel
  have I0:=Lib.hid hI;have HQ:=Lib.hid hq
  have HX:=Hxq (HL.out j wr hr hj)
  have hadv:=fun a n h=>HA.out j a n hj h
  clear hI hr hq HR H0
  generalize Sy.litF v k br j=px at *
  cases px with
  | err g =>
   have hq:q=.err g:=HQ.out
   subst hq
   clear HQ hadv
   go_wp2_with fail
   refine HX.out.mono ?_
   rintro e6 w6 ⟨x6,rfl,⟨C,rfl,hC,hO⟩,⟨jj,h6⟩,m6⟩
   have mD:=(Mod.refl [] w6).alloc (Obj.cells C 50)
   have M7:=Hxq ((I0.out.mod.trans m6 (by simp)).trans mD (by simp));have H7:=Hxq (h6.past mD (by simp))
   have hsz:(Tryz.prog.info? 50).map (·.size)=some C.size:=by rw [hC];exact Tryz.sizeLit
   have HSZ:=Lib.hid hsz;have HO:=Lib.hid hO;have HC:=Hxq (show (#[Value.int .i64 0,Value.string ⟨#[]⟩,Value.slice none 0 0,Value.int .i64 0,Value.int .i64 0,Value.string ⟨#[]⟩,Value.int .i64 0,Value.int .i64 0,Value.string ⟨#[]⟩,Value.int .i64 0,Value.slice none 0 0,Value.int .i64 0,Value.string ⟨#[]⟩,Value.int .i64 0,Value.int .i64 0,Value.string ⟨#[]⟩,Value.int .i64 0,Value.slice none 0 0,Value.int .i64 0,Value.string ⟨#[]⟩,Value.int .i64 0,Value.string ⟨#[]⟩,Value.int .i64 0,Value.int .i64 0,Value.string ⟨#[]⟩,Value.int .i64 0,Value.slice none 0 0,Value.slice none 0 0,Value.int .i64 0,Value.int .i64 0]).size=C.size by rw [hC];rfl)
   clear h6 m6 mD hsz hO hC
   go_upto_region 3 with (refine wpList_store_new rfl 50 _ _ rfl w6 w6.heap.size C #[Value.int .i64 0,Value.string ⟨#[]⟩,Value.slice none 0 0,Value.int .i64 0,Value.int .i64 0,Value.string ⟨#[]⟩,Value.int .i64 0,Value.int .i64 0,Value.string ⟨#[]⟩,Value.int .i64 0,Value.slice none 0 0,Value.int .i64 0,Value.string ⟨#[]⟩,Value.int .i64 0,Value.int .i64 0,Value.string ⟨#[]⟩,Value.int .i64 0,Value.slice none 0 0,Value.int .i64 0,Value.string ⟨#[]⟩,Value.int .i64 0,Value.string ⟨#[]⟩,Value.int .i64 0,Value.int .i64 0,Value.string ⟨#[]⟩,Value.int .i64 0,Value.slice none 0 0,Value.slice none 0 0,Value.int .i64 0,Value.int .i64 0] 50 rfl rfl rfl rfl HSZ.out HC.out HO.out ?_)
   generalize w6.alloc (Obj.cells C 50)=w7 at *
   go_wp2_with fail
   exact bodyPost_ret (res_tt rfl _ _ _ _ rfl rfl) rfl ⟨_,rfl,rfl,⟨jj,H7.out⟩,M7.out⟩
  | ok a n =>
   have hn:=hadv a n rfl
   have HQ2:Hid (q=Sy.bodyF v (Sy.litF v k br) gk (acc.map (·.1)++[a]) n):=Lib.hid HQ.out
   clear HQ hadv
   go_wp2_with fail
   refine HX.out.mono ?_
   rintro e6 w6 ⟨x6,rfl,⟨U,rfl,hb6⟩,h6,m6⟩
   obtain ⟨C,hCe⟩:∃ C,liV a U=C:=⟨_,rfl⟩
   have hC:C.size=30:=by rw [<-hCe];exact liV_size (a,U)
   have hone:∀ u∈C.toList,u.oneCell'=true:=by rw [<-hCe];exact liV_one (a,U) hb6
   have hO:C.toList.all (·.oneCell')=true:=by rw [List.all_eq_true];exact hone
   have hsz:(Tryz.prog.info? 50).map (·.size)=some C.size:=by rw [hC];exact Tryz.sizeLit
   have HSZ:=Lib.hid hsz;have HO:=Lib.hid hO;have HC:=Hxq (show (#[Value.int .i64 0,Value.string ⟨#[]⟩,Value.slice none 0 0,Value.int .i64 0,Value.int .i64 0,Value.string ⟨#[]⟩,Value.int .i64 0,Value.int .i64 0,Value.string ⟨#[]⟩,Value.int .i64 0,Value.slice none 0 0,Value.int .i64 0,Value.string ⟨#[]⟩,Value.int .i64 0,Value.int .i64 0,Value.string ⟨#[]⟩,Value.int .i64 0,Value.slice none 0 0,Value.int .i64 0,Value.string ⟨#[]⟩,Value.int .i64 0,Value.string ⟨#[]⟩,Value.int .i64 0,Value.int .i64 0,Value.string ⟨#[]⟩,Value.int .i64 0,Value.slice none 0 0,Value.slice none 0 0,Value.int .i64 0,Value.int .i64 0]).size=C.size by rw [hC];rfl);have HC30:=Hxq (show C.size=iL.size by rw [hC,hz1])
   rw [hCe]
   have mD:=(Mod.refl [] w6).alloc (Obj.cells C 50)
   have eD:=heap_alloc_new w6 (Obj.cells C 50)
   have z6:=m6.size
   have I7:=Hxq ((I0.out.keep m6).keep (mD.mono (by simp)));have H7:=Hxq (h6.past mD (by simp));have D7:=Lib.hid eD
   have hlt7:=Hxq (fun k hk=>by have:=fp_lt I0.out.row k hk;omega:∀ k∈fp (.slice va acc.length vc),k<w6.heap.size)
   have FB:Hid (∀ wX,wX=(w6.alloc (Obj.cells C 50)).alloc (Obj.cells C 50)->BI w wX b acc va vc/\LB (fun k=>wr.heap.size<=k) wX a U/\Src Tryz.prog 30 46 (.slice (some ⟨(w6.alloc (Obj.cells C 50)).heap.size,0,none⟩) 1 1) 1 (liV a U).toList wX/\RpP wX b ra rc L v n nf0):=Hxq (fun wX e=>by
    subst e
    have mE:=(Mod.refl [] (w6.alloc (Obj.cells C 50))).alloc (Obj.cells C 50)
    refine ⟨I7.out.keep (mE.mono (by simp)),(hb6.keep mD (by simp)).keep mE (by simp),?_,H7.out.past mE (by simp)⟩
    rw [hCe]
    exact src_one (cs:=C) Tryz.underlying46 (heap_alloc_new _ _) hC hone)
   have hmw:=m6.size
   have hww:=I0.out.mod.size
   clear h6 m6 mD eD hsz hO hC hone hCe hb6
   go_upto_region 3 with (refine wpList_store_new rfl 50 _ _ rfl w6 w6.heap.size C #[Value.int .i64 0,Value.string ⟨#[]⟩,Value.slice none 0 0,Value.int .i64 0,Value.int .i64 0,Value.string ⟨#[]⟩,Value.int .i64 0,Value.int .i64 0,Value.string ⟨#[]⟩,Value.int .i64 0,Value.slice none 0 0,Value.int .i64 0,Value.string ⟨#[]⟩,Value.int .i64 0,Value.int .i64 0,Value.string ⟨#[]⟩,Value.int .i64 0,Value.slice none 0 0,Value.int .i64 0,Value.string ⟨#[]⟩,Value.int .i64 0,Value.string ⟨#[]⟩,Value.int .i64 0,Value.int .i64 0,Value.string ⟨#[]⟩,Value.int .i64 0,Value.slice none 0 0,Value.slice none 0 0,Value.int .i64 0,Value.int .i64 0] 50 rfl rfl rfl rfl HSZ.out HC.out HO.out ?_)
   generalize w6.alloc (Obj.cells C 50)=w7 at *
   go_wp2_with (first | refine wpList_load_row rfl 50 _ rfl w6.heap.size C 50 (0,0) rfl D7.out _ Tryz.underlying50 rfl HSZ.out ?_ | refine wpList_slice_one rfl 46 50 _ rfl C iL (.agg #[Value.int .i64 0,Value.string ⟨#[]⟩,Value.slice none 0 0,Value.int .i64 0,Value.int .i64 0,Value.string ⟨#[]⟩,Value.int .i64 0,Value.int .i64 0,Value.string ⟨#[]⟩,Value.int .i64 0,Value.slice none 0 0,Value.int .i64 0,Value.string ⟨#[]⟩,Value.int .i64 0,Value.int .i64 0,Value.string ⟨#[]⟩,Value.int .i64 0,Value.slice none 0 0,Value.int .i64 0,Value.string ⟨#[]⟩,Value.int .i64 0,Value.string ⟨#[]⟩,Value.int .i64 0,Value.int .i64 0,Value.string ⟨#[]⟩,Value.int .i64 0,Value.slice none 0 0,Value.slice none 0 0,Value.int .i64 0,Value.int .i64 0]) rfl Tryz.underlying46 hinf hz0 HC30.out (by rw [hz1];omega) (by rw [hz1];omega) ?_ | (at_builtin;refine wpList_append_src _ rfl _ _ 46 46 rfl 50 iL (.agg #[Value.int .i64 0,Value.string ⟨#[]⟩,Value.slice none 0 0,Value.int .i64 0,Value.int .i64 0,Value.string ⟨#[]⟩,Value.int .i64 0,Value.int .i64 0,Value.string ⟨#[]⟩,Value.int .i64 0,Value.slice none 0 0,Value.int .i64 0,Value.string ⟨#[]⟩,Value.int .i64 0,Value.int .i64 0,Value.string ⟨#[]⟩,Value.int .i64 0,Value.slice none 0 0,Value.int .i64 0,Value.string ⟨#[]⟩,Value.int .i64 0,Value.string ⟨#[]⟩,Value.int .i64 0,Value.int .i64 0,Value.string ⟨#[]⟩,Value.int .i64 0,Value.slice none 0 0,Value.slice none 0 0,Value.int .i64 0,Value.int .i64 0]) 30 384 Tryz.underlying46 hinf hz0 hz1 hz2 rfl (.slice va acc.length vc) acc.length (rowCells (fun p:Pr.Li × LU=>liV p.1 p.2) acc) rfl (FB.out _ rfl).1.row _ 1 (liV a U).toList rfl (FB.out _ rfl).2.2.1 (by unfold maxLen;omega) (by omega) ?_))
   intro v' w8 hown8 hm8 hf8 hn8
   obtain ⟨va8,vc8,rfl⟩:=owns_slice hown8
   obtain ⟨IX,LX',SX,HX8⟩:=FB.out _ rfl
   have I8:=Hxq (IX.grow (p:=(a,U)) hm8 LX' (fun k hk=>fp_lt I0.out.row k hk) hww hown8 (fun k hk=>by
    rcases hf8 k hk with hh | hh
    ·exact .inl hh
    ·exact .inr (by simpa using hh)))
   have H8:=Hxq (HX8.new HLo.out hm8 (fun k hk=>I0.out.new k hk))
   clear hown8 hm8 hf8 hn8 IX LX' SX HX8 FB D7 HC HC30 HO HSZ
   obtain ⟨g',rfl⟩:∃ g',gk=g'+1:=⟨gk - 1,by omega⟩
   rw [bodyF_eq] at HQ2
   have HI:=Hxq (HIs.out n w8 H8.out (by omega))
   have hslt:=fun h=>Sy.sign_lt (v:=v) (i:=n) (s:=[44]) h
   generalize Sy.sign (v.tk n) [44]=sg at *
   cases sg
   ·have hq:q=.ok ((acc++[(a,U)]).map (·.1)) n:=by rw [HQ2.out];simp
    subst hq
    clear HQ2 hslt
    go_wp2_with fail
    refine HI.out.mono ?_
    rintro e9 w9 ⟨rfl,m9⟩
    have I9:=Hxq (I8.out.keep (m9.mono (by simp)));have H9:=Hxq (H8.out.past m9 (by simp))
    clear m9
    go_wp2_with fail
    exact bodyPost_ret (res_tt rfl _ _ _ _ rfl rfl) rfl ⟨_,rfl,by have:=I9.out.body;unfold valB;simpa using this,H9.out,I9.out.mod⟩
   ·have hq:q=(Sy.litF v k br (n+1)).bind fun a' j=>Sy.bodyF v (Sy.litF v k br) g' ((acc++[(a,U)]).map (·.1)++[a']) j:=by rw [HQ2.out];simp
    have hnl:n<v.ws.length:=hslt rfl
    have HQ3:=Lib.hid hq
    clear HQ2 hslt hq
    go_wp2_with fail
    refine HI.out.mono ?_
    rintro e9 w9 ⟨rfl,m9⟩
    have I9:=Hxq (I8.out.keep (m9.mono (by simp)));have H9:=Hxq (H8.out.past m9 (by simp))
    clear m9
    obtain ⟨c0,c1,c2,c3,c4,c5,c6,c7,c8,c9,fz⟩:=H9.out.cells
    have hT:=H9.out.to (n+1)
    have I10:=Hxq (I9.out.keep hT.2);have H10:=Lib.hid hT.1
    clear hT
    go_wp2_with fail
    go_roundg g'
    case measure=>omega
    case rel=>exact ⟨n+1,acc++[(a,U)],va8,vc8,by simp,by simpa using I10.out,H10.out,by omega,by omega,by simp;omega,HQ3.out⟩
end Go.Proofs.YtppigckioalhhaaGreatDoorR
