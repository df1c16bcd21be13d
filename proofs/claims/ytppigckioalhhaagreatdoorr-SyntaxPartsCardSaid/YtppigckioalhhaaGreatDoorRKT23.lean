/- THE TEXTS MERGED: RpEx. -/
import Derived.Test.YtppigckioalhhaaGreatDoorRKT1
import Derived.Test.YtppigckioalhhaaGreatDoorRKT8
import Derived.Test.YtppigckioalhhaaGreatDoorRKT22
import Derived.Test.YtppigckioalhhaaGreatDoorRKT12
namespace Go.Proofs.YtppigckioalhhaaGreatDoorR
open Go.RowKit
set_option linter.unusedVariables false
set_option linter.unusedSimpArgs false
set_option maxRecDepth 100000
/-- what unary, operand, chain leave -/
def XRes (b:Nat) (ra:Option Addr) (rc:Nat) (L:LX) (v:Sy.Env) (r:Sy.PR (Pr.Ex × Nat)) (n:Nat) (w:World) (e:Ending) (w':World):Prop :=
 match r with
 | .ok a j=>∃ u,e=.returned (.tuple #[.agg (exV a.1 u),.int .i64 (a.2:Nat),.bool true])/\EB (fun k=>n<=k) w' a.1 u/\RpP w' b ra rc L v j nf0/\Mod [b] w w'
 | .err g=>e=.returned (.tuple #[.agg #[Value.int IntKind.i64 0,Value.string ⟨#[]⟩,Value.int IntKind.i64 0,Value.int IntKind.i64 0,Value.string ⟨#[]⟩,Value.int IntKind.i64 0,Value.slice none 0 0],.int .i64 0,.bool false])/\(∃ j,RpP w' b ra rc L v j g)/\Mod [b] w w'
theorem load_ex {w:World} {b:Nat} {C:Array Value} {T:TypeId} {fr:Nat × Nat} (hg:w.heap[b]?=some (.cells C T fr)) (hc:C.size=7):(loadVar 45 ⟨b,0,none⟩).run Tryz.prog w=.ok (.agg C) w :=
 run_loadVar_row (P:=Tryz.prog) w b T 45 C fr _ hg Tryz.underlying45 rfl (by rw [Tryz.sizeEx,hc])
def lineH (high:Bool):Nat:=if high=true then 2 else 1
def RcC (b:Nat) (ra:Option Addr) (rc:Nat) (L:LX) (v:Sy.Env) (k:Nat):Prop:=∀ (high:Bool) (above i:Nat) (w:World),RpP w b ra rc L v i nf0->i<=v.ws.length->above<=16->3 * (17 - above)+(3 - lineH high)+1<=k ->
 Calls Tryz.prog 110 #[.pointer (some ⟨b,0,none⟩),.int .i64 (above:Nat),.bool high] w (XRes b ra rc L v (Sy.exprF v k (lineH high) above i) w.heap.size w)
def RuC (b:Nat) (ra:Option Addr) (rc:Nat) (L:LX) (v:Sy.Env) (k:Nat):Prop:=∀ (above i:Nat) (w:World),RpP w b ra rc L v i nf0->i<=v.ws.length->(above<=16\/(above=17/\Sy.operand (v.tk i)=false))->3 * (17 - above)+1<=k ->
 Calls Tryz.prog 140 #[.pointer (some ⟨b,0,none⟩),.int .i64 (above:Nat)] w (XRes b ra rc L v (Sy.exprF v k 3 above i) w.heap.size w)
def RoC (b:Nat) (ra:Option Addr) (rc:Nat) (L:LX) (v:Sy.Env) (k:Nat):Prop:=∀ (high:Bool) (above i:Nat) (w:World),RpP w b ra rc L v i nf0->i<=v.ws.length->above<=16->3 * (17 - above)+(3 - lineH high)<=k ->
 Calls Tryz.prog 131 #[.pointer (some ⟨b,0,none⟩),.int .i64 (above:Nat),.bool high] w (XRes b ra rc L v (Sy.exprF v k (lineH high+1) above i) w.heap.size w)
set_option maxHeartbeats 8000000 in
theorem ro_of (b:Nat) (ra:Option Addr) (rc:Nat) (L:LX) (v:Sy.Env) (k:Nat) (hk:EnvK v) (hU:RuC b ra rc L v k) (hC:RcC b ra rc L v k):RoC b ra rc L v k:=by
 intro high above i w h hi ha hb
 have hv:=hk.ok
 have hlen:=hv.len
 have mA:=(Mod.refl [] w).alloc (Obj.cells #[Value.int IntKind.i64 0,Value.string ⟨#[]⟩,Value.int IntKind.i64 0,Value.int IntKind.i64 0,Value.string ⟨#[]⟩,Value.int IntKind.i64 0,Value.slice none 0 0] 45)
 have hA:=h.past mA (by simp)
 have eA:=heap_alloc_new w (Obj.cells #[Value.int IntKind.i64 0,Value.string ⟨#[]⟩,Value.int IntKind.i64 0,Value.int IntKind.i64 0,Value.string ⟨#[]⟩,Value.int IntKind.i64 0,Value.slice none 0 0] 45)
 have zA:(w.alloc (Obj.cells #[Value.int IntKind.i64 0,Value.string ⟨#[]⟩,Value.int IntKind.i64 0,Value.int IntKind.i64 0,Value.string ⟨#[]⟩,Value.int IntKind.i64 0,Value.slice none 0 0] 45)).heap.size=w.heap.size+1:=by simp
 have HLo:=Lib.hid h.low
 have hbl:=h.lt
 have hnb:w.heap.size∉[b]:=by simp;omega
 have HA:=Lib.hid hA;have EA:=Lib.hid eA;have MA:=Lib.hid mA
 have HU1:Hid (high=true->Calls Tryz.prog 140 #[.pointer (some ⟨b,0,none⟩),.int .i64 (above:Nat)] _ (XRes b ra rc L v (Sy.exprF v k (lineH high+1) above i) _ _)):=Hxq (fun e=>by subst e;exact hU above i _ hA hi (.inl ha) (by unfold lineH at hb;simp at hb;omega))
 have HC1:Hid (high=false->Calls Tryz.prog 110 #[.pointer (some ⟨b,0,none⟩),.int .i64 (above:Nat),.bool true] _ (XRes b ra rc L v (Sy.exprF v k (lineH high+1) above i) _ _)):=Hxq (fun e=>by subst e;exact hC true above i _ hA hi ha (by unfold lineH at hb ⊢;simp at hb ⊢;omega))
 clear h hA eA mA hU hC
 generalize Sy.exprF v k (lineH high+1) above i=q at *
 go_enter Tryz.func131,Tryz.ntmps131
 go_upto_region 1 with fail
 generalize w.alloc (Obj.cells #[Value.int IntKind.i64 0,Value.string ⟨#[]⟩,Value.int IntKind.i64 0,Value.int IntKind.i64 0,Value.string ⟨#[]⟩,Value.int IntKind.i64 0,Value.slice none 0 0] 45)=wA at *
 cases high
 ·have HX:=Hxq (HC1.out rfl)
  clear HC1 HU1
  go_wp2_with fail
  refine HX.out.mono ?_
  cases q with
  | err g =>
   rintro e6 w6 ⟨rfl,⟨jj,h6⟩,m6⟩
   have M6:=Hxq ((MA.out.mono (T:=[b]) (by simp)).trans m6 (by simp));have A6:=Hxq (m6.at EA.out hnb);have H6:=Lib.hid h6
   clear h6 m6
   obtain ⟨y0,y1,y2,y3,y4,y5,y6⟩:=cells7 A6.out
   have fA:∀ j,w6.frozen? ⟨w.heap.size,j,none⟩=false:=fun j=>free_at A6.out j
   go_wp2_with fail
   have mR:=setCs_mod w.heap.size [.int .i64 0,.string ⟨#[]⟩,.int .i64 0,.int .i64 0,.string ⟨#[]⟩,.int .i64 0,.slice none 0 0] 0 w6
   refine bodyPost_ret (res_ctt rfl _ _ _ _ _ _ rfl rfl rfl (load_ex (setCs_row (vs:=[.int .i64 0,.string ⟨#[]⟩,.int .i64 0,.int .i64 0,.string ⟨#[]⟩,.int .i64 0,.slice none 0 0]) A6.out rfl) rfl)) rfl ⟨rfl,⟨jj,H6.out.new HLo.out mR (by simp)⟩,M6.out.trans mR (by simp)⟩
  | ok r n =>
   obtain ⟨ex,dd⟩:=r
   rintro e6 w6 ⟨u6,rfl,hb6,h6,m6⟩
   simp only at hb6
   obtain ⟨a6,c6,rfl⟩:=hb6.lit
   have M6:=Hxq ((MA.out.mono (T:=[b]) (by simp)).trans m6 (by simp));have A6:=Hxq (m6.at EA.out hnb);have H6:=Lib.hid h6;have B6:=Lib.hid hb6
   clear h6 m6 hb6
   unfold exV at *
   simp only at *
   obtain ⟨y0,y1,y2,y3,y4,y5,y6⟩:=cells7 A6.out
   have fA:∀ j,w6.frozen? ⟨w.heap.size,j,none⟩=false:=fun j=>free_at A6.out j
   go_wp2_with fail
   have mR:=setCs_mod w.heap.size [.int .i64 ex.k,.string ex.v,.int .i64 ex.x.k,.int .i64 ex.x.n,.string (Lx.ofS ex.x.s),.int .i64 ex.op,.slice a6 ex.args.length c6] 0 w6
   refine bodyPost_ret (res_ctt rfl _ _ _ _ _ _ rfl rfl rfl (load_ex (setCs_row (vs:=[.int .i64 ex.k,.string ex.v,.int .i64 ex.x.k,.int .i64 ex.x.n,.string (Lx.ofS ex.x.s),.int .i64 ex.op,.slice a6 ex.args.length c6]) A6.out rfl) rfl)) rfl ⟨.slice a6 ex.args.length c6,rfl,((B6.out.keep mR (fun s hs=>by rw [Msq] at hs;omega)).mono (fun k hk _=>by omega)),H6.out.new HLo.out mR (by simp),M6.out.trans mR (by simp)⟩
 ·have HX:=Hxq (HU1.out rfl)
  clear HC1 HU1
  go_wp2_with fail
  refine HX.out.mono ?_
  cases q with
  | err g =>
   rintro e6 w6 ⟨rfl,⟨jj,h6⟩,m6⟩
   have M6:=Hxq ((MA.out.mono (T:=[b]) (by simp)).trans m6 (by simp));have A6:=Hxq (m6.at EA.out hnb);have H6:=Lib.hid h6
   clear h6 m6
   obtain ⟨y0,y1,y2,y3,y4,y5,y6⟩:=cells7 A6.out
   have fA:∀ j,w6.frozen? ⟨w.heap.size,j,none⟩=false:=fun j=>free_at A6.out j
   go_wp2_with fail
   have mR:=setCs_mod w.heap.size [.int .i64 0,.string ⟨#[]⟩,.int .i64 0,.int .i64 0,.string ⟨#[]⟩,.int .i64 0,.slice none 0 0] 0 w6
   refine bodyPost_ret (res_ctt rfl _ _ _ _ _ _ rfl rfl rfl (load_ex (setCs_row (vs:=[.int .i64 0,.string ⟨#[]⟩,.int .i64 0,.int .i64 0,.string ⟨#[]⟩,.int .i64 0,.slice none 0 0]) A6.out rfl) rfl)) rfl ⟨rfl,⟨jj,H6.out.new HLo.out mR (by simp)⟩,M6.out.trans mR (by simp)⟩
  | ok r n =>
   obtain ⟨ex,dd⟩:=r
   rintro e6 w6 ⟨u6,rfl,hb6,h6,m6⟩
   simp only at hb6
   obtain ⟨a6,c6,rfl⟩:=hb6.lit
   have M6:=Hxq ((MA.out.mono (T:=[b]) (by simp)).trans m6 (by simp));have A6:=Hxq (m6.at EA.out hnb);have H6:=Lib.hid h6;have B6:=Lib.hid hb6
   clear h6 m6 hb6
   unfold exV at *
   simp only at *
   obtain ⟨y0,y1,y2,y3,y4,y5,y6⟩:=cells7 A6.out
   have fA:∀ j,w6.frozen? ⟨w.heap.size,j,none⟩=false:=fun j=>free_at A6.out j
   go_wp2_with fail
   have mR:=setCs_mod w.heap.size [.int .i64 ex.k,.string ex.v,.int .i64 ex.x.k,.int .i64 ex.x.n,.string (Lx.ofS ex.x.s),.int .i64 ex.op,.slice a6 ex.args.length c6] 0 w6
   refine bodyPost_ret (res_ctt rfl _ _ _ _ _ _ rfl rfl rfl (load_ex (setCs_row (vs:=[.int .i64 ex.k,.string ex.v,.int .i64 ex.x.k,.int .i64 ex.x.n,.string (Lx.ofS ex.x.s),.int .i64 ex.op,.slice a6 ex.args.length c6]) A6.out rfl) rfl)) rfl ⟨.slice a6 ex.args.length c6,rfl,((B6.out.keep mR (fun s hs=>by rw [Msq] at hs;omega)).mono (fun k hk _=>by omega)),H6.out.new HLo.out mR (by simp),M6.out.trans mR (by simp)⟩
set_option maxHeartbeats 16000000 in
theorem rc_of (b:Nat) (ra:Option Addr) (rc:Nat) (L:LX) (v:Sy.Env) (k:Nat) (hk:EnvK v) (hO:RoC b ra rc L v k):RcC b ra rc L v (k+1):=by
 intro high above i w h hi ha hb
 have hv:=hk.ok
 have hlen:=hv.len
 have mA:=(Mod.refl [] w).alloc (Obj.cells #[Value.int IntKind.i64 0,Value.string ⟨#[]⟩,Value.int IntKind.i64 0,Value.int IntKind.i64 0,Value.string ⟨#[]⟩,Value.int IntKind.i64 0,Value.slice none 0 0] 45)
 have hA:=h.past mA (by simp)
 have eA:=heap_alloc_new w (Obj.cells #[Value.int IntKind.i64 0,Value.string ⟨#[]⟩,Value.int IntKind.i64 0,Value.int IntKind.i64 0,Value.string ⟨#[]⟩,Value.int IntKind.i64 0,Value.slice none 0 0] 45)
 have zA:(w.alloc (Obj.cells #[Value.int IntKind.i64 0,Value.string ⟨#[]⟩,Value.int IntKind.i64 0,Value.int IntKind.i64 0,Value.string ⟨#[]⟩,Value.int IntKind.i64 0,Value.slice none 0 0] 45)).heap.size=w.heap.size+1:=by simp
 have hln:1<=lineH high/\lineH high<=2:=by unfold lineH;cases high <;> simp
 have HX:=Hxq (hO high above i _ hA hi ha (by omega))
 have HO:=Hxq (fun j w h (hj:j<=v.ws.length) (h2:above+1<=16)=>hO high (above+1) j w h hj h2 (by omega))
 have HW:=Hxq (fun j w h hj=>rword0 b ra rc L v j nf0 w h hv hj)
 have HOp:=Hxq (fun j w=>roperation_any high (v.tk j) (hk.tk j) w (hv.tbyte j))
 have HS:=Hxq (fun j w h hj=>rstop_any b ra rc L v j 41 w h hv hj)
 have HLo:=Lib.hid h.low
 have hbl:=h.lt
 have HR:=Hxq (exprF_ex v k (lineH high) above i (by omega))
 have HA1:=Hxq (Sy.adv_exprF v k (lineH high+1) above (by omega) i)
 have HD1:=Hxq (Sy.expr_deep v k (lineH high+1) above i)
 have HA2:=Hxq (fun j=>Sy.adv_exprF v k (lineH high+1) (above+1) (by omega) j)
 have HD2:=Hxq (fun j=>Sy.expr_deep v k (lineH high+1) (above+1) j)
 have hnb:w.heap.size∉[b]:=by simp;omega
 have HA:=Lib.hid hA;have EA:=Lib.hid eA;have MA:=Lib.hid mA
 have HPos:Hid (∀ t,Sy.opOf high t=0 ↔ (Sy.level t).1≠lineH high):=Hxq (fun t=>Sy.opOf_pos high t)
 have HLev:Hid (∀ t,Sy.opOf high t=if (Sy.level t).1=lineH high then (Sy.level t).2 else 0):=Hxq (fun t=>Sy.opOf_level high t)
 clear h hA eA mA hO hk
 generalize lineH high=line at *
 generalize hq:Sy.exprF v (k+1) line above i=q at *
 clear hq
 go_enter Tryz.func110,Tryz.ntmps110
 go_upto_region 1 with fail
 generalize w.alloc (Obj.cells #[Value.int IntKind.i64 0,Value.string ⟨#[]⟩,Value.int IntKind.i64 0,Value.int IntKind.i64 0,Value.string ⟨#[]⟩,Value.int IntKind.i64 0,Value.slice none 0 0] 45)=wA at *
 generalize Sy.exprF v k (line+1) above i=px at *
 cases px with
 | err g =>
  obtain rfl:q=.err g:=HR.out
  clear HR HA1 HD1 HA2 HD2 HO HOp HS HPos HLev
  go_wp2_with fail
  refine HX.out.mono ?_
  rintro e6 w6 ⟨rfl,⟨jj,h6⟩,m6⟩
  have M6:=Hxq ((MA.out.mono (T:=[b]) (by simp)).trans m6 (by simp));have A6:=Hxq (m6.at EA.out hnb)
  have mD:=(Mod.refl [] w6).alloc (Obj.cells #[Value.int IntKind.i64 0,Value.string ⟨#[]⟩,Value.int IntKind.i64 0,Value.int IntKind.i64 0,Value.string ⟨#[]⟩,Value.int IntKind.i64 0,Value.slice none 0 0] 45)
  have HD:=Hxq (h6.past mD (by simp));have MD:=Hxq (M6.out.trans mD (by simp));have AD:=Hxq (mD.at A6.out (by simp))
  clear mD h6 m6 M6 A6 HX
  go_upto_region 2 with fail
  generalize w6.alloc (Obj.cells _ 45)=wD at *
  go_loopg [10,11] 1 (fun gk dv ov wr=>ov=.bool false/\wr=wD)
  case atStart=>exact ⟨rfl,rfl⟩
  case round =>
   obtain ⟨rfl,rfl⟩:=hrel
   obtain ⟨y0,y1,y2,y3,y4,y5,y6⟩:=cells7 AD.out
   have fA:∀ j,wr.frozen? ⟨w.heap.size,j,none⟩=false:=fun j=>free_at AD.out j
   go_wp2_with fail
   have mR:=setCs_mod w.heap.size [.int .i64 0,.string ⟨#[]⟩,.int .i64 0,.int .i64 0,.string ⟨#[]⟩,.int .i64 0,.slice none 0 0] 0 wr
   refine bodyPost_ret (res_ctt rfl _ _ _ _ _ _ rfl rfl rfl (load_ex (setCs_row (vs:=[.int .i64 0,.string ⟨#[]⟩,.int .i64 0,.int .i64 0,.string ⟨#[]⟩,.int .i64 0,.slice none 0 0]) AD.out rfl) rfl)) rfl ⟨rfl,⟨jj,HD.out.new HLo.out mR (by simp)⟩,MD.out.trans mR (by simp)⟩
 | ok r n =>
  obtain ⟨ex,dd⟩:=r
  have HQ:Hid (q=Sy.chainF v line (Sy.exprF v k (line+1)) above (v.ws.length+1) ex dd n):=Lib.hid HR.out
  have hn:=(HA1.out _ n hi rfl).2
  have hdd:=HD1.out _ n ha rfl
  simp only at hdd
  clear HR HA1 HD1
  go_wp2_with fail
  refine HX.out.mono ?_
  rintro e6 w6 ⟨u6,rfl,hb6,h6,m6⟩
  simp only at hb6
  obtain ⟨a6,c6,rfl⟩:=hb6.lit
  have z6:=m6.size
  have M6:=Hxq ((MA.out.mono (T:=[b]) (by simp)).trans m6 (by simp));have A6:=Hxq (m6.at EA.out hnb)
  have hb6:=hb6.mono (F':=fun k=>w.heap.size<k/\k≠w6.heap.size) (fun k hk hk2=>by omega)
  have mD:=(Mod.refl [] w6).alloc (Obj.cells (exV ex (.slice a6 ex.args.length c6)) 45)
  have dD:=heap_alloc_new w6 (Obj.cells (exV ex (.slice a6 ex.args.length c6)) 45)
  have zD:(w6.alloc (Obj.cells (exV ex (.slice a6 ex.args.length c6)) 45)).heap.size=w6.heap.size+1:=by simp
  have HD:=Hxq (h6.past mD (by simp));have MD:=Hxq (M6.out.trans mD (by simp));have DD:=Lib.hid dD;have BD:=Hxq (hb6.keep mD (by simp))
  have AD:=Hxq (mD.at A6.out (by simp))
  clear mD dD
  unfold exV at *
  simp only at *
  go_upto_region 2 with fail
  generalize w6.alloc (Obj.cells _ 45)=wD at *
  have z0:w.heap.size<w6.heap.size:=by omega
  clear zA z6 HX zD hb6 h6 m6 M6 A6
  go_loopg [10,11] (v.ws.length+2) (fun gk dv ov wr=>(∃ (j d:Nat) (e:Pr.Ex) (a:Option Addr) (c:Nat),dv=.int .i64 (d:Nat)/\ov=.bool true/\RpP wr b ra rc L v j nf0/\j<=v.ws.length/\v.ws.length+2<=gk+j/\above+d<=16/\wr.heap[w.heap.size]?=some (.cells #[Value.int IntKind.i64 0,Value.string ⟨#[]⟩,Value.int IntKind.i64 0,Value.int IntKind.i64 0,Value.string ⟨#[]⟩,Value.int IntKind.i64 0,Value.slice none 0 0] 45 (0,0))/\wr.heap[w6.heap.size]?=some (.cells #[.int .i64 e.k,.string e.v,.int .i64 e.x.k,.int .i64 e.x.n,.string (Lx.ofS e.x.s),.int .i64 e.op,.slice a e.args.length c] 45 (0,0)) /\
   EB (fun k=>w.heap.size<k/\k≠w6.heap.size) wr e (.slice a e.args.length c)/\Mod [b] w wr/\q=Sy.chainF v line (Sy.exprF v k (line+1)) above (gk - 1) e d j) \/
   (ov=.bool false/\wr.heap[w.heap.size]?=some (.cells #[Value.int IntKind.i64 0,Value.string ⟨#[]⟩,Value.int IntKind.i64 0,Value.int IntKind.i64 0,Value.string ⟨#[]⟩,Value.int IntKind.i64 0,Value.slice none 0 0] 45 (0,0))/\Mod [b] w wr/\∃ g jj,q=.err g/\RpP wr b ra rc L v jj g))
  case atStart=>exact .inl ⟨n,dd,ex,a6,c6,rfl,rfl,HD.out,hn,by omega,hdd,AD.out,DD.out,BD.out,MD.out,HQ.out⟩
  case round =>
   rcases hrel with ⟨j,d,e,a,c,rfl,rfl,hr,hj,hgk,had,ha0,he0,hb0,hm0,hq⟩ | ⟨rfl,ha0,hm0,g,jj,hq,hr⟩
   ·obtain ⟨g',rfl⟩:∃ g',gk=g'+2:=⟨gk - 2,by omega⟩
    rw [show g'+2 - 1=g'+1 by omega,chainF_eq] at hq
    have hlv:=fun h=>Sy.level_lt (v:=v) (i:=j) h
    have HRd:=Lib.hid hr;have A0:=Lib.hid ha0;have E0:=Lib.hid he0;have B0:=Lib.hid hb0;have M0:=Lib.hid hm0;have HQ2:=Lib.hid hq
    have zr:=lt_of_block he0
    have HW1:=Hxq (HW.out j wr hr (by omega))
    have HO1:=Hxq (fun w=>HOp.out j w)
    have hps:=HPos.out (v.tk j)
    have hle:=HLev.out (v.tk j)
    clear hr ha0 he0 hb0 hm0 hq HQ AD DD BD MD HD HW HOp
    generalize Sy.opOf high (v.tk j)=op at *
    generalize Sy.level (v.tk j)=lv at *
    obtain ⟨l,op'⟩:=lv
    simp only at hlv hps hle
    go_wp2_with fail
    refine HW1.out.mono ?_
    rintro e1 w1 ⟨rfl,m1⟩
    have H1:=Hxq (HRd.out.past m1 (by simp));have A1:=Hxq (m1.at A0.out (by simp));have E1:=Hxq (m1.at E0.out (by simp));have B1:=Hxq (B0.out.keep m1 (by simp));have M1:=Hxq (M0.out.trans m1 (by simp))
    clear m1 HRd A0 E0 B0 M0 HW1
    go_wp2_with fail
    refine (HO1.out w1).mono ?_
    rintro e2 w2 ⟨rfl,m2⟩
    have H2:=Hxq (H1.out.past m2 (by simp));have A2:=Hxq (m2.at A1.out (by simp));have E2:=Hxq (m2.at E1.out (by simp));have B2:=Hxq (B1.out.keep m2 (by simp));have M2:=Hxq (M1.out.trans m2 (by simp))
    clear m2 H1 A1 E1 B1 M1 HO1
    have hnb6:w6.heap.size∉[b]:=by simp;omega
    by_cases hc:l=line
    ·rw [if_pos hc] at hle
     have hop0:op≠0:=fun e=>absurd hc (hps.1 e)
     have hopI:((op:Int) == 0)=false:=by rw [beq_eq_false_iff_ne];omega
     subst hle
     have hjl:=hlv (by omega)
     clear hps
     by_cases hdp:16<above+d+1
     ·have hq:q=.err (v.give 41 j):=by rw [HQ2.out,if_neg (by simp [hc]),if_pos hdp]
      subst hq
      have hI:(above:Int)+(d:Int)+1 > 16:=by omega
      have hJ:(16:Int)<(above:Int)+(d:Int)+1:=by omega
      clear HQ2 hdp hc
      go_wp2_with fail
      refine (HS.out j w2 H2.out (by omega)).mono ?_
      rintro e3 w3 ⟨rfl,h3,m3⟩
      have M3:=Hxq (M2.out.trans m3 (by simp));have H3:=Lib.hid h3;have A3:=Hxq (m3.at A2.out hnb)
      clear m3 h3
      obtain ⟨y0,y1,y2,y3,y4,y5,y6⟩:=cells7 A3.out
      have fA:∀ j,w3.frozen? ⟨w.heap.size,j,none⟩=false:=fun j=>free_at A3.out j
      go_wp2_with fail
      have mR:=setCs_mod w.heap.size [.int .i64 0,.string ⟨#[]⟩,.int .i64 0,.int .i64 0,.string ⟨#[]⟩,.int .i64 0,.slice none 0 0] 0 w3
      refine bodyPost_ret (res_ctt rfl _ _ _ _ _ _ rfl rfl rfl (load_ex (setCs_row (vs:=[.int .i64 0,.string ⟨#[]⟩,.int .i64 0,.int .i64 0,.string ⟨#[]⟩,.int .i64 0,.slice none 0 0]) A3.out rfl) rfl)) rfl ⟨rfl,⟨_,H3.out.new HLo.out mR (by simp)⟩,M3.out.trans mR (by simp)⟩
     ·have hI:¬ (above:Int)+(d:Int)+1 > 16:=by omega
      have hJ:¬ (16:Int)<(above:Int)+(d:Int)+1:=by omega
      have HQ3:Hid (q=(Sy.exprF v k (line+1) (above+1) (j+1)).bind fun r j=>Sy.chainF v line (Sy.exprF v k (line+1)) above g' (.mk 4 (Sy.txt []) Va.zero op [e,r.1]) (1+max d r.2) j):=Hxq (by rw [HQ2.out,if_neg (by simp [hc]),if_neg hdp])
      have HE2:=Hxq (fun w hr=>HO.out (j+1) w hr (by omega) (by omega))
      have HA3:=Hxq (HA2.out (j+1))
      have HD3:=Hxq (HD2.out (j+1))
      obtain ⟨c0,c1,c2,c3,c4,c5,c6,c7,c8,c9,fz⟩:=H2.out.cells
      have hT:=H2.out.to (j+1)
      have A3:=Hxq (hT.2.at A2.out hnb);have E3:=Hxq (hT.2.at E2.out hnb6);have B3:=Hxq (B2.out.keep hT.2 (fun s hs=>by rw [Msq] at hs;omega));have M3:=Hxq (M2.out.trans hT.2 (by simp));have H3:=Lib.hid hT.1
      clear hT HQ2 A2 E2 B2 M2 H2 HA2 HD2 HO
      go_upto_region 9 with fail
      have hcast:((j+1:Nat):Int)=(j:Int)+1:=by omega
      rw [hcast] at A3 E3 B3 M3 H3
      generalize w2.setCell ⟨b,6,none⟩ (.int .i64 ((j:Int)+1))=w3 at *
      clear c0 c1 c2 c3 c4 c5 c6 c7 c8 c9 fz hcast
      generalize Sy.exprF v k (line+1) (above+1) (j+1)=px2 at *
      cases px2 with
      | err g =>
       have hq:q=.err g:=HQ3.out
       subst hq
       clear HQ3 HA3 HD3
       go_wp2_with fail
       refine (HE2.out w3 H3.out).mono ?_
       rintro e4 w4 ⟨rfl,⟨jj,h4⟩,m4⟩
       have z4:=m4.size
       have z3:=lt_of_block E3.out
       have M4:=Hxq (M3.out.trans m4 (by simp));have A4:=Hxq (m4.at A3.out hnb);have E4:=Hxq (m4.at E3.out hnb6)
       have mF:=(Mod.refl [] w4).alloc (Obj.cells #[Value.int IntKind.i64 0,Value.string ⟨#[]⟩,Value.int IntKind.i64 0,Value.int IntKind.i64 0,Value.string ⟨#[]⟩,Value.int IntKind.i64 0,Value.slice none 0 0] 45)
       have dF:=heap_alloc_new w4 (Obj.cells #[Value.int IntKind.i64 0,Value.string ⟨#[]⟩,Value.int IntKind.i64 0,Value.int IntKind.i64 0,Value.string ⟨#[]⟩,Value.int IntKind.i64 0,Value.slice none 0 0] 45)
       have HF:=Hxq (h4.past mF (by simp));have MF:=Hxq (M4.out.trans mF (by simp));have AF:=Hxq (mF.at A4.out (by simp));have EF:=Hxq (mF.at E4.out (by simp));have DF:=Lib.hid dF
       have zF:(w4.alloc (Obj.cells #[Value.int IntKind.i64 0,Value.string ⟨#[]⟩,Value.int IntKind.i64 0,Value.int IntKind.i64 0,Value.string ⟨#[]⟩,Value.int IntKind.i64 0,Value.slice none 0 0] 45)).heap.size=w4.heap.size+1:=by simp
       clear mF dF h4 m4 M3 A3 E3 B3 H3 M4 A4 E4
       have hcd:¬ (0:Int) > (d:Int):=by omega
       have hcd2:¬ (d:Int)<0:=by omega
       go_upto_region 13 with fail
       generalize w4.alloc (Obj.cells _ 45)=wF at *
       obtain ⟨x0,x1,x2,x3,x4,x5,x6⟩:=cells7 EF.out
       obtain ⟨v0,v1,v2,v3,v4,v5,v6⟩:=cells7 DF.out
       have mG:=(Mod.refl [] wF).alloc (Obj.cells #[.int .i64 e.k,.string e.v,.int .i64 e.x.k,.int .i64 e.x.n,.string (Lx.ofS e.x.s),.int .i64 e.op,.slice a e.args.length c,.int .i64 0,.string ⟨#[]⟩,.int .i64 0,.int .i64 0,.string ⟨#[]⟩,.int .i64 0,.slice none 0 0] 45)
       have eG:=heap_alloc_new wF (Obj.cells #[.int .i64 e.k,.string e.v,.int .i64 e.x.k,.int .i64 e.x.n,.string (Lx.ofS e.x.s),.int .i64 e.op,.slice a e.args.length c,.int .i64 0,.string ⟨#[]⟩,.int .i64 0,.int .i64 0,.string ⟨#[]⟩,.int .i64 0,.slice none 0 0] 45)
       have aG:=mG.at EF.out (by simp)
       obtain ⟨y0,y1,y2,y3,y4,y5,y6⟩:=cells7 aG
       have fA:∀ j,(wF.alloc (Obj.cells #[.int .i64 e.k,.string e.v,.int .i64 e.x.k,.int .i64 e.x.n,.string (Lx.ofS e.x.s),.int .i64 e.op,.slice a e.args.length c,.int .i64 0,.string ⟨#[]⟩,.int .i64 0,.int .i64 0,.string ⟨#[]⟩,.int .i64 0,.slice none 0 0] 45)).frozen? ⟨w6.heap.size,j,none⟩=false:=fun j=>free_at aG j
       have HG:=Hxq (HF.out.past mG (by simp));have MG:=Hxq (MF.out.trans mG (by simp));have AG:=Hxq (mG.at AF.out (by simp));have EG:=Lib.hid aG
       have zG:=lt_of_block DF.out
       rw [zF] at eG zG
       have GG:=Lib.hid eG
       clear mG eG aG
       go_upto_region 14 with fail
       generalize (wF.alloc (Obj.cells #[.int .i64 e.k,.string e.v,.int .i64 e.x.k,.int .i64 e.x.n,.string (Lx.ofS e.x.s),.int .i64 e.op,.slice a e.args.length c,.int .i64 0,.string ⟨#[]⟩,.int .i64 0,.int .i64 0,.string ⟨#[]⟩,.int .i64 0,.slice none 0 0] 45))=wG at *
       have mR:=setCs_mod w6.heap.size [.int .i64 4,.string ⟨#[]⟩,.int .i64 0,.int .i64 0,.string ⟨#[]⟩,.int .i64 (op:Nat),.slice (some ⟨w4.heap.size+1,0,none⟩) 2 2] 0 wG
       have hgR:=setCs_row (vs:=[.int .i64 4,.string ⟨#[]⟩,.int .i64 0,.int .i64 0,.string ⟨#[]⟩,.int .i64 (op:Nat),.slice (some ⟨w4.heap.size+1,0,none⟩) 2 2]) EG.out rfl
       have HH:=Hxq (HG.out.new HLo.out mR (by simp;omega));have MH:=Hxq (MG.out.trans mR (by simp;omega));have AH:=Hxq (mR.at AG.out (by simp;omega));have EH:=Lib.hid hgR
       clear mR hgR y0 y1 y2 y3 y4 y5 y6 fA
       clear x0 x1 x2 x3 x4 x5 x6 v0 v1 v2 v3 v4 v5 v6
       go_wp2_with fail
       go_roundg (g'+1)
       case measure=>omega
       case rel=>exact .inr ⟨rfl,AH.out,MH.out,g,jj,rfl,HH.out⟩
      | ok r2 n2 =>
       obtain ⟨ex2,d2⟩:=r2
       have hn2:=(HA3.out _ n2 (by omega) rfl)
       have hd2:=HD3.out _ n2 (by omega) rfl
       simp only at hd2
       have HQ4:Hid (q=Sy.chainF v line (Sy.exprF v k (line+1)) above g' (.mk 4 (Sy.txt []) Va.zero op [e,ex2]) (1+max d d2) n2):=Lib.hid HQ3.out
       clear HQ3 HA3 HD3
       go_wp2_with fail
       refine (HE2.out w3 H3.out).mono ?_
       rintro e4 w4 ⟨u4,rfl,hb4,h4,m4⟩
       simp only at hb4
       obtain ⟨a4,c4,rfl⟩:=hb4.lit
       have z4:=m4.size
       have z3:=lt_of_block E3.out
       have M4:=Hxq (M3.out.trans m4 (by simp));have A4:=Hxq (m4.at A3.out hnb);have E4:=Hxq (m4.at E3.out hnb6);have B4:=Hxq (B3.out.keep m4 (fun s hs=>by rw [Msq] at hs;omega))
       have mF:=(Mod.refl [] w4).alloc (Obj.cells (exV ex2 (.slice a4 ex2.args.length c4)) 45)
       have dF:=heap_alloc_new w4 (Obj.cells (exV ex2 (.slice a4 ex2.args.length c4)) 45)
       have HF:=Hxq (h4.past mF (by simp));have MF:=Hxq (M4.out.trans mF (by simp));have AF:=Hxq (mF.at A4.out (by simp));have EF:=Hxq (mF.at E4.out (by simp));have DF:=Lib.hid dF;have BF:=Hxq (B4.out.keep mF (by simp));have CF:=Hxq ((hb4.mono (F':=fun k=>w.heap.size<k/\k≠w6.heap.size) (fun k hk hk2=>by omega)).keep mF (by simp))
       have zF:(w4.alloc (Obj.cells (exV ex2 (.slice a4 ex2.args.length c4)) 45)).heap.size=w4.heap.size+1:=by simp
       clear mF dF hb4 h4 m4 M3 A3 E3 B3 H3 M4 A4 E4 B4
       unfold exV at *
       simp only at *
       go_upto_region 10 with fail
       generalize w4.alloc (Obj.cells _ 45)=wF at *
       by_cases hgt:d<d2
       ·have hcd:(d2:Int) > (d:Int):=by omega
        have hcd2:(d:Int)<(d2:Int):=by omega
        have hmx:1+max d d2=d2+1:=by omega
        rw [hmx] at HQ4
        clear hmx
        go_upto_region 13 with fail
        obtain ⟨x0,x1,x2,x3,x4,x5,x6⟩:=cells7 EF.out
        obtain ⟨v0,v1,v2,v3,v4,v5,v6⟩:=cells7 DF.out
        have mG:=(Mod.refl [] wF).alloc (Obj.cells #[.int .i64 e.k,.string e.v,.int .i64 e.x.k,.int .i64 e.x.n,.string (Lx.ofS e.x.s),.int .i64 e.op,.slice a e.args.length c,.int .i64 ex2.k,.string ex2.v,.int .i64 ex2.x.k,.int .i64 ex2.x.n,.string (Lx.ofS ex2.x.s),.int .i64 ex2.op,.slice a4 ex2.args.length c4] 45)
        have eG:=heap_alloc_new wF (Obj.cells #[.int .i64 e.k,.string e.v,.int .i64 e.x.k,.int .i64 e.x.n,.string (Lx.ofS e.x.s),.int .i64 e.op,.slice a e.args.length c,.int .i64 ex2.k,.string ex2.v,.int .i64 ex2.x.k,.int .i64 ex2.x.n,.string (Lx.ofS ex2.x.s),.int .i64 ex2.op,.slice a4 ex2.args.length c4] 45)
        have aG:=mG.at EF.out (by simp)
        obtain ⟨y0,y1,y2,y3,y4,y5,y6⟩:=cells7 aG
        have fA:∀ j,(wF.alloc (Obj.cells #[.int .i64 e.k,.string e.v,.int .i64 e.x.k,.int .i64 e.x.n,.string (Lx.ofS e.x.s),.int .i64 e.op,.slice a e.args.length c,.int .i64 ex2.k,.string ex2.v,.int .i64 ex2.x.k,.int .i64 ex2.x.n,.string (Lx.ofS ex2.x.s),.int .i64 ex2.op,.slice a4 ex2.args.length c4] 45)).frozen? ⟨w6.heap.size,j,none⟩=false:=fun j=>free_at aG j
        have HG:=Hxq (HF.out.past mG (by simp));have MG:=Hxq (MF.out.trans mG (by simp));have AG:=Hxq (mG.at AF.out (by simp));have EG:=Lib.hid aG
        have BG:=Hxq (BF.out.keep mG (by simp));have CG:=Hxq (CF.out.keep mG (by simp))
        have zG:=lt_of_block DF.out
        rw [zF] at eG zG
        have GG:=Lib.hid eG
        clear mG eG aG
        go_upto_region 14 with fail
        generalize (wF.alloc (Obj.cells #[.int .i64 e.k,.string e.v,.int .i64 e.x.k,.int .i64 e.x.n,.string (Lx.ofS e.x.s),.int .i64 e.op,.slice a e.args.length c,.int .i64 ex2.k,.string ex2.v,.int .i64 ex2.x.k,.int .i64 ex2.x.n,.string (Lx.ofS ex2.x.s),.int .i64 ex2.op,.slice a4 ex2.args.length c4] 45))=wG at *
        have mR:=setCs_mod w6.heap.size [.int .i64 4,.string ⟨#[]⟩,.int .i64 0,.int .i64 0,.string ⟨#[]⟩,.int .i64 (op:Nat),.slice (some ⟨w4.heap.size+1,0,none⟩) 2 2] 0 wG
        have hgR:=setCs_row (vs:=[.int .i64 4,.string ⟨#[]⟩,.int .i64 0,.int .i64 0,.string ⟨#[]⟩,.int .i64 (op:Nat),.slice (some ⟨w4.heap.size+1,0,none⟩) 2 2]) EG.out rfl
        have HH:=Hxq (HG.out.new HLo.out mR (by simp;omega));have MH:=Hxq (MG.out.trans mR (by simp;omega));have AH:=Hxq (mR.at AG.out (by simp;omega));have EH:=Lib.hid hgR
        have hg:(setCs wG w6.heap.size 0 [.int .i64 4,.string ⟨#[]⟩,.int .i64 0,.int .i64 0,.string ⟨#[]⟩,.int .i64 (op:Nat),.slice (some ⟨w4.heap.size+1,0,none⟩) 2 2]).heap[w4.heap.size+1]?=_:=mR.at GG.out (by simp;omega)
        have BH:=Hxq (EB.two (k:=4) (v:=Sy.txt []) (x:=Va.zero) (op:=(op:Nat)) (F:=fun k=>w.heap.size<k/\k≠w6.heap.size) (a:=e) (b:=ex2) (u:=.slice a e.args.length c) (u':=.slice a4 ex2.args.length c4) hg (by omega) (BG.out.keep mR (fun s hs=>by rw [Msq] at hs;omega)) (CG.out.keep mR (fun s hs=>by rw [Msq] at hs;omega)) 2)
        clear hg
        clear mR hgR y0 y1 y2 y3 y4 y5 y6 fA
        clear x0 x1 x2 x3 x4 x5 x6 v0 v1 v2 v3 v4 v5 v6
        go_wp2_with fail
        go_roundg (g'+1)
        case measure=>omega
        case rel=>exact .inl ⟨n2,d2+1,.mk 4 (Sy.txt []) Va.zero (op:Nat) [e,ex2],_,2,rfl,rfl,HH.out,hn2.2,by omega,by omega,AH.out,EH.out,BH.out,MH.out,HQ4.out⟩
       ·have hcd:¬ (d2:Int) > (d:Int):=by omega
        have hcd2:¬ (d:Int)<(d2:Int):=by omega
        have hmx:1+max d d2=d+1:=by omega
        rw [hmx] at HQ4
        clear hmx
        go_upto_region 13 with fail
        obtain ⟨x0,x1,x2,x3,x4,x5,x6⟩:=cells7 EF.out
        obtain ⟨v0,v1,v2,v3,v4,v5,v6⟩:=cells7 DF.out
        have mG:=(Mod.refl [] wF).alloc (Obj.cells #[.int .i64 e.k,.string e.v,.int .i64 e.x.k,.int .i64 e.x.n,.string (Lx.ofS e.x.s),.int .i64 e.op,.slice a e.args.length c,.int .i64 ex2.k,.string ex2.v,.int .i64 ex2.x.k,.int .i64 ex2.x.n,.string (Lx.ofS ex2.x.s),.int .i64 ex2.op,.slice a4 ex2.args.length c4] 45)
        have eG:=heap_alloc_new wF (Obj.cells #[.int .i64 e.k,.string e.v,.int .i64 e.x.k,.int .i64 e.x.n,.string (Lx.ofS e.x.s),.int .i64 e.op,.slice a e.args.length c,.int .i64 ex2.k,.string ex2.v,.int .i64 ex2.x.k,.int .i64 ex2.x.n,.string (Lx.ofS ex2.x.s),.int .i64 ex2.op,.slice a4 ex2.args.length c4] 45)
        have aG:=mG.at EF.out (by simp)
        obtain ⟨y0,y1,y2,y3,y4,y5,y6⟩:=cells7 aG
        have fA:∀ j,(wF.alloc (Obj.cells #[.int .i64 e.k,.string e.v,.int .i64 e.x.k,.int .i64 e.x.n,.string (Lx.ofS e.x.s),.int .i64 e.op,.slice a e.args.length c,.int .i64 ex2.k,.string ex2.v,.int .i64 ex2.x.k,.int .i64 ex2.x.n,.string (Lx.ofS ex2.x.s),.int .i64 ex2.op,.slice a4 ex2.args.length c4] 45)).frozen? ⟨w6.heap.size,j,none⟩=false:=fun j=>free_at aG j
        have HG:=Hxq (HF.out.past mG (by simp));have MG:=Hxq (MF.out.trans mG (by simp));have AG:=Hxq (mG.at AF.out (by simp));have EG:=Lib.hid aG
        have BG:=Hxq (BF.out.keep mG (by simp));have CG:=Hxq (CF.out.keep mG (by simp))
        have zG:=lt_of_block DF.out
        rw [zF] at eG zG
        have GG:=Lib.hid eG
        clear mG eG aG
        go_upto_region 14 with fail
        generalize (wF.alloc (Obj.cells #[.int .i64 e.k,.string e.v,.int .i64 e.x.k,.int .i64 e.x.n,.string (Lx.ofS e.x.s),.int .i64 e.op,.slice a e.args.length c,.int .i64 ex2.k,.string ex2.v,.int .i64 ex2.x.k,.int .i64 ex2.x.n,.string (Lx.ofS ex2.x.s),.int .i64 ex2.op,.slice a4 ex2.args.length c4] 45))=wG at *
        have mR:=setCs_mod w6.heap.size [.int .i64 4,.string ⟨#[]⟩,.int .i64 0,.int .i64 0,.string ⟨#[]⟩,.int .i64 (op:Nat),.slice (some ⟨w4.heap.size+1,0,none⟩) 2 2] 0 wG
        have hgR:=setCs_row (vs:=[.int .i64 4,.string ⟨#[]⟩,.int .i64 0,.int .i64 0,.string ⟨#[]⟩,.int .i64 (op:Nat),.slice (some ⟨w4.heap.size+1,0,none⟩) 2 2]) EG.out rfl
        have HH:=Hxq (HG.out.new HLo.out mR (by simp;omega));have MH:=Hxq (MG.out.trans mR (by simp;omega));have AH:=Hxq (mR.at AG.out (by simp;omega));have EH:=Lib.hid hgR
        have hg:(setCs wG w6.heap.size 0 [.int .i64 4,.string ⟨#[]⟩,.int .i64 0,.int .i64 0,.string ⟨#[]⟩,.int .i64 (op:Nat),.slice (some ⟨w4.heap.size+1,0,none⟩) 2 2]).heap[w4.heap.size+1]?=_:=mR.at GG.out (by simp;omega)
        have BH:=Hxq (EB.two (k:=4) (v:=Sy.txt []) (x:=Va.zero) (op:=(op:Nat)) (F:=fun k=>w.heap.size<k/\k≠w6.heap.size) (a:=e) (b:=ex2) (u:=.slice a e.args.length c) (u':=.slice a4 ex2.args.length c4) hg (by omega) (BG.out.keep mR (fun s hs=>by rw [Msq] at hs;omega)) (CG.out.keep mR (fun s hs=>by rw [Msq] at hs;omega)) 2)
        clear hg
        clear mR hgR y0 y1 y2 y3 y4 y5 y6 fA
        clear x0 x1 x2 x3 x4 x5 x6 v0 v1 v2 v3 v4 v5 v6
        go_wp2_with fail
        go_roundg (g'+1)
        case measure=>omega
        case rel=>exact .inl ⟨n2,d+1,.mk 4 (Sy.txt []) Va.zero (op:Nat) [e,ex2],_,2,rfl,rfl,HH.out,hn2.2,by omega,by omega,AH.out,EH.out,BH.out,MH.out,HQ4.out⟩
    ·have hop:op=0:=hps.2 hc
     subst hop
     have hq:q=.ok (e,d) j:=by rw [HQ2.out,if_pos hc]
     subst hq
     clear HQ2 hlv hps hle
     obtain ⟨x0,x1,x2,x3,x4,x5,x6⟩:=cells7 E2.out
     obtain ⟨y0,y1,y2,y3,y4,y5,y6⟩:=cells7 A2.out
     have fA:∀ j,w2.frozen? ⟨w.heap.size,j,none⟩=false:=fun j=>free_at A2.out j
     go_wp2_with fail
     have mR:=setCs_mod w.heap.size [.int .i64 e.k,.string e.v,.int .i64 e.x.k,.int .i64 e.x.n,.string (Lx.ofS e.x.s),.int .i64 e.op,.slice a e.args.length c] 0 w2
     refine bodyPost_ret (res_ctt rfl _ _ _ _ _ _ rfl rfl rfl (load_ex (setCs_row (vs:=[.int .i64 e.k,.string e.v,.int .i64 e.x.k,.int .i64 e.x.n,.string (Lx.ofS e.x.s),.int .i64 e.op,.slice a e.args.length c]) A2.out rfl) rfl)) rfl ⟨.slice a e.args.length c,rfl,((B2.out.keep mR (fun s hs=>by rw [Msq] at hs;omega)).mono (fun k hk _=>by omega)),H2.out.new HLo.out mR (by simp),M2.out.trans mR (by simp)⟩
   ·subst hq
    have A0:=Lib.hid ha0;have M0:=Lib.hid hm0;have H0:=Lib.hid hr
    clear ha0 hm0 hr HQ AD DD BD MD HD
    obtain ⟨y0,y1,y2,y3,y4,y5,y6⟩:=cells7 A0.out
    have fA:∀ j,wr.frozen? ⟨w.heap.size,j,none⟩=false:=fun j=>free_at A0.out j
    go_wp2_with fail
    have mR:=setCs_mod w.heap.size [.int .i64 0,.string ⟨#[]⟩,.int .i64 0,.int .i64 0,.string ⟨#[]⟩,.int .i64 0,.slice none 0 0] 0 wr
    refine bodyPost_ret (res_ctt rfl _ _ _ _ _ _ rfl rfl rfl (load_ex (setCs_row (vs:=[.int .i64 0,.string ⟨#[]⟩,.int .i64 0,.int .i64 0,.string ⟨#[]⟩,.int .i64 0,.slice none 0 0]) A0.out rfl) rfl)) rfl ⟨rfl,⟨jj,H0.out.new HLo.out mR (by simp)⟩,M0.out.trans mR (by simp)⟩
end Go.Proofs.YtppigckioalhhaaGreatDoorR
