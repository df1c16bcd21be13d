/- THE TEXTS MERGED: SyRule SyProg SyCatch SyWhole SyReadL SyNz SyEnv. -/
import Derived.Test.YtbfaclljbbfknaaGreatDoorKP13
import Derived.Recover
import Derived.Defers
import Derived.Laws.Pointers
import Derived.Deep.MidRow
namespace Go.Proofs.YtbfaclljbbfknaaGreatDoor
open Go.RowKit
set_option linter.unusedVariables false
set_option linter.unusedSimpArgs false
set_option maxRecDepth 100000
theorem lit_all (b:Nat) (ra:Option Addr) (rc:Nat) (f:Value) (v:Sy.Env) (hv:EnvOk v):∀ k br,br<=16->17 - br<=k->LiC b ra rc f v k br
 | 0,br,h,hk=>by omega
 | k+1,br,h,hk=>lit_of b ra rc f v k br hv (agg_of b ra rc f v k br hv h (fun hb=>body_of b ra rc f v k (br+1) hv (lit_all b ra rc f v hv k (br+1) (by omega) (by omega))))
/-- a literal that stands alone -/
theorem lit_any (b:Nat) (ra:Option Addr) (rc:Nat) (f:Value) (v:Sy.Env) (i:Nat) (w:World) (h:RdP w b ra rc f v i) (hv:EnvOk v) (hi:i<=v.ws.length) :
  Calls Tryz.prog 18 #[.pointer (some ⟨b,0,none⟩),.int .i64 0] w (PRes b ra rc f v (Sy.lit v 0 i) (valL w.heap.size) w):=lit_all b ra rc f v hv 18 0 (by omega) (by omega) i w h hi
def ruV (r:Pr.Rul) (tu ub:Value):Array Value:=#[.string r.head.rel,tu,ub,.int .i64 r.line,.int .i64 r.col]
abbrev RelU:=Pr.Rel × Value
abbrev RulU:=Pr.Rul × Value × Value
section
variable {w0:World} {b pb:Nat} {rels:List RelU} {rus:List RulU} {W W':World} {va:Option Addr} {vc:Nat} {ua:Option Addr} {uc:Nat}
end
open Go.RowKit
set_option linter.unusedVariables false
set_option linter.unusedSimpArgs false
set_option maxRecDepth 100000
theorem assert_stop (v:Value) (w:World):(Instr.typeAssert (.iface 125 v) 20 125 true).run Tryz.prog w=.ok (.tuple #[v,.bool true]) w:=by kernel_rfl
theorem assert_nil (w:World):(Instr.typeAssert .nilIface 20 125 true).run Tryz.prog w=.ok (.tuple #[.agg #[.int .i64 0,.int .i64 0,.int .i64 0],.bool false]) w:=by kernel_rfl
theorem catch_stop (p:Nat) (g:Sy.Flt) (w:World) (x0 x1 x2:Value) (hc:w.heap[p]?=some (.cells #[x0,x1,x2] 42 (0,0))) :
  CallsD Tryz.prog 55 #[.pointer (some ⟨p,0,none⟩)] (.panicking [{ v:=.iface 125 (.agg #[.int .i64 (g.1:Nat),.int .i64 (g.2.1:Nat),.int .i64 (g.2.2:Nat)]),recovered:=false }]) w fun e u' w' =>
   e=.returned (.tuple #[])/\u'=.panicking [{ v:=.iface 125 (.agg #[.int .i64 (g.1:Nat),.int .i64 (g.2.1:Nat),.int .i64 (g.2.2:Nat)]),recovered:=true }]/\w'.heap[p]?=some (.cells #[.int .i64 (g.1:Nat),.int .i64 (g.2.1:Nat),.int .i64 (g.2.2:Nat)] 42 (0,0))/\Mod [p] w w':=by
 refine callsD_of_wpS Tryz.func55 rfl fun c₀ cs hu=>?_
 apply wpS_seq
 apply wpS_region
 simp [wpOpsS,go_sem,recoverD,hu,Tryz.ntmps55,Exit.thenS,assert_stop,assert_nil]
 have mA:=(Mod.refl [] w).alloc (Obj.cells #[.int .i64 (g.1:Nat),.int .i64 (g.2.1:Nat),.int .i64 (g.2.2:Nat)] 125)
 have eA:=heap_alloc_new w (Obj.cells #[.int .i64 (g.1:Nat),.int .i64 (g.2.1:Nat),.int .i64 (g.2.2:Nat)] 125)
 have pA:=mA.at hc (by simp)
 obtain ⟨k0,k1,k2⟩:=cells3 eA
 obtain ⟨y0,y1,y2⟩:=cells3 pA
 have f0:=free_at pA 0
 have f1:=free_at pA 1
 have f2:=free_at pA 2
 apply wpS_seq
 apply wpS_region
 simp [wpOpsS,go_sem,Exit.thenS]
 refine wpS_cond (t:=true) (by simp [Act.eval,Array.replicate]) ?_
 simp only [if_true]
 apply wpS_region
 simp [wpOpsS,go_sem,k0,k1,k2,y0,y1,y2,f0,f1,f2,bodyPostS,results,Tryz.results55]
 exact ⟨setCs_row (vs:=[.int .i64 (g.1:Nat),.int .i64 (g.2.1:Nat),.int .i64 (g.2.2:Nat)]) pA rfl,(mA.mono (by simp)).trans (setCs_mod p [.int .i64 (g.1:Nat),.int .i64 (g.2.1:Nat),.int .i64 (g.2.2:Nat)] 0 _) (by simp)⟩
theorem catch_idle (p:Nat) (w:World) :
  CallsD Tryz.prog 55 #[.pointer (some ⟨p,0,none⟩)] .returning w fun e u' w'=>e=.returned (.tuple #[])/\u'=.returning/\Mod [] w w':=by
 refine callsD_of_wpS Tryz.func55 rfl fun c₀ cs hu=>?_
 apply wpS_seq
 apply wpS_region
 simp [wpOpsS,go_sem,recoverD,hu,Tryz.ntmps55,Exit.thenS,assert_stop,assert_nil]
 apply wpS_seq
 apply wpS_region
 simp [wpOpsS,go_sem,Exit.thenS]
 refine wpS_cond (t:=false) (by simp [Act.eval,Array.replicate]) ?_
 simp only [Bool.false_eq_true,if_false]
 refine wpS_of_wp (wp_skip ?_)
 cases c₀
 simp_all [bodyPostS,results,Tryz.results55]
 exact (Mod.refl [] w).alloc _
/-- a fault in memory's word -/
def fltC (g:Sy.Flt):Array Value:=#[.int .i64 (g.1:Nat),.int .i64 (g.2.1:Nat),.int .i64 (g.2.2:Nat)]
/-- what the reading of one kind leaves: Got a thing in the world, the reader past it, in blocks of S -/
def RdRes {α:Type} (b:Nat) (ra:Option Addr) (rc:Nat) (f:Value) (v:Sy.Env) (r:Sy.PR α) (S:List Nat) (Got:α->World->Prop) (w:World) (e:Ending) (w':World):Prop :=
 match r with
 | .ok a j=>e=.returned (.tuple #[])/\Got a w'/\RdP w' b ra rc f v j/\Mod S w w'
 | .err g=>e=stopE g/\Mod S w w'
set_option maxHeartbeats 4000000 in
theorem whole_err {α:Type} (b:Nat) (ra:Option Addr) (rc:Nat) (n:Nat) (x:Value) (v:Sy.Env) (one:Nat->Sy.PR α) (S:List Nat) (Got:α->World->Prop) (w:World) (g:Sy.Flt) (h:RdP w b ra rc (.func (.func n) #[x] #[]) v 0) (hv:EnvOk v)
  (he:∀ (args:Array Value) (w:World),(callFunc n args).run Tryz.prog w=.ok (.enter n args) w)
  (hr:∀ w' ,Mod [] w w'->w.heap.size<w'.heap.size->Calls Tryz.prog n #[x] w' (RdRes b ra rc (.func (.func n) #[x] #[]) v (one 0) S Got w')) (hS:∀ s∈S,s<w.heap.size) (ho:one 0=.err g) :
  Calls Tryz.prog 31 #[.pointer (some ⟨b,0,none⟩)] w fun e w'=>e=.returned (.agg (fltC g))/\Mod S w w':=by
 have hmf:=makeFunc_any
 have mA:=(Mod.refl [] w).alloc (Obj.cells #[Value.int .i64 0,Value.int .i64 0,Value.int .i64 0] 42)
 have hA:=h.past mA (by simp)
 have eA:=heap_alloc_new w (Obj.cells #[Value.int .i64 0,Value.int .i64 0,Value.int .i64 0] 42)
 obtain ⟨c0,c1,c2,c3,c4,c5,fz⟩:=hA.cells
 have HC:=Hxq (hr _ mA (by simp))
 rw [ho] at HC
 go_enter_defers Tryz.func31,Tryz.ntmps31
 go_wp2_with fail
 refine HC.out.mono ?_
 rintro e1 w1 ⟨rfl,m1⟩
 have e1:=m1.at eA (fun hs=>by have:=hS _ hs;omega)
 have M1:=Hxq ((mA.mono (T:=S) (by simp)).trans m1 (fun t ht=>.inl ht))
 clear HC m1 c0 c1 c2 c3 c4 c5 fz hA eA mA
 unfold stopE
 go_wp2_with fail
 refine leaves_cons (f:=55) (args:=#[.pointer (some ⟨w.heap.size,0,none⟩)]) (by simp) (by simp [go_sem]) ?_
 refine (catch_stop _ g w1 _ _ _ e1).mono ?_
 rintro e2 u2 w2 ⟨rfl,rfl,h2,m2⟩
 exact ⟨_,results_cell_row rfl _ _ _ _ _ _ _ rfl h2 Tryz.underlying42 rfl (by kernel_rfl),rfl,M1.out.trans m2 (fun t ht=>by rw [Msq] at ht;exact .inr (by omega))⟩
set_option maxHeartbeats 4000000 in
/-- read, but something stands behind it (or the text's end is a fault) -/
theorem whole_more {α:Type} (b:Nat) (ra:Option Addr) (rc:Nat) (n:Nat) (x:Value) (v:Sy.Env) (one:Nat->Sy.PR α) (S:List Nat) (Got:α->World->Prop) (w:World) (a:α) (i:Nat) (h:RdP w b ra rc (.func (.func n) #[x] #[]) v 0) (hv:EnvOk v)
  (he:∀ (args:Array Value) (w:World),(callFunc n args).run Tryz.prog w=.ok (.enter n args) w)
  (hr:∀ w' ,Mod [] w w'->w.heap.size<w'.heap.size->Calls Tryz.prog n #[x] w' (RdRes b ra rc (.func (.func n) #[x] #[]) v (one 0) S Got w')) (hS:∀ s∈S,s<w.heap.size) (ho:one 0=.ok a i) (hi:i<=v.ws.length) (hm:i<v.ws.length\/v.last.1≠42) :
  Calls Tryz.prog 31 #[.pointer (some ⟨b,0,none⟩)] w fun e w'=>e=.returned (.agg (fltC (v.give 40 i)))/\Mod S w w':=by
 have hmf:=makeFunc_any
 have hlen:=hv.len
 have mA:=(Mod.refl [] w).alloc (Obj.cells #[Value.int .i64 0,Value.int .i64 0,Value.int .i64 0] 42)
 have hA:=h.past mA (by simp)
 have eA:=heap_alloc_new w (Obj.cells #[Value.int .i64 0,Value.int .i64 0,Value.int .i64 0] 42)
 obtain ⟨c0,c1,c2,c3,c4,c5,fz⟩:=hA.cells
 have HC:=Hxq (hr _ mA (by simp))
 rw [ho] at HC
 by_cases hlt:i<v.ws.length
 all_goals (
  go_enter_defers Tryz.func31,Tryz.ntmps31
  go_wp2_with fail
  refine HC.out.mono ?_
  rintro e1 w1 ⟨rfl,hg,h1,m1⟩
  have e1:=m1.at eA (fun hs=>by have:=hS _ hs;omega)
  have M1:=Hxq ((mA.mono (T:=S) (by simp)).trans m1 (fun t ht=>.inl ht))
  have H1:=Lib.hid h1
  clear HC m1 c0 c1 c2 c3 c4 c5 fz hA eA mA
  obtain ⟨c0,c1,c2,c3,c4,c5,fz⟩:=h1.cells
  try have hI:(i:Int)<(v.ws.length:Int):=by omega
  try have hI:¬ (i:Int)<(v.ws.length:Int):=by omega
  try have hK:((v.last.1:Int) != 42)=true:=by simp;omega
  clear h1
  go_wp2_with fail
  go_quiet (fail)
  go_wp2_with fail
  have mq:Mod [] w1 (w1.drewN nq):=(Mod.refl [] w1).drewN nq
  refine (give_any b ra rc _ v i 40 _ (H1.out.past mq (by simp)) hv (by omega)).mono ?_
  rintro e3 w3 ⟨rfl,m3⟩
  have m13:=mq.trans m3 (by simp)
  have e3:=m13.at e1 (by simp)
  have M3:=Hxq (M1.out.trans m13 (by simp))
  clear m3 mq m13
  unfold stopE
  go_wp2_with fail
  refine leaves_cons (f:=55) (args:=#[.pointer (some ⟨w.heap.size,0,none⟩)]) (by simp) (by simp [go_sem]) ?_
  refine (catch_stop _ (v.give 40 i) w3 _ _ _ e3).mono ?_
  rintro e2 u2 w2 ⟨rfl,rfl,h2,m2⟩
  exact ⟨_,results_cell_row rfl _ _ _ _ _ _ _ rfl h2 Tryz.underlying42 rfl (by kernel_rfl),rfl,M3.out.trans m2 (fun t ht=>by rw [Msq] at ht;exact .inr (by omega))⟩)
set_option maxHeartbeats 4000000 in
/-- read whole -/
theorem whole_ok {α:Type} (b:Nat) (ra:Option Addr) (rc:Nat) (n:Nat) (x:Value) (v:Sy.Env) (one:Nat->Sy.PR α) (S:List Nat) (Got:α->World->Prop) (w:World) (a:α) (i:Nat) (h:RdP w b ra rc (.func (.func n) #[x] #[]) v 0) (hv:EnvOk v)
  (he:∀ (args:Array Value) (w:World),(callFunc n args).run Tryz.prog w=.ok (.enter n args) w)
  (hr:∀ w' ,Mod [] w w'->w.heap.size<w'.heap.size->Calls Tryz.prog n #[x] w' (RdRes b ra rc (.func (.func n) #[x] #[]) v (one 0) S Got w')) (hS:∀ s∈S,s<w.heap.size) (ho:one 0=.ok a i) (hi:¬ i<v.ws.length) (hi2:i<=65536) (hm:v.last.1=42) :
  Calls Tryz.prog 31 #[.pointer (some ⟨b,0,none⟩)] w fun e w'=>e=.returned (.agg #[.int .i64 0,.int .i64 0,.int .i64 0])/\(∃ w1,Got a w1/\Mod [w.heap.size] w1 w')/\Mod S w w':=by
 have hmf:=makeFunc_any
 have hlen:=hv.len
 have mA:=(Mod.refl [] w).alloc (Obj.cells #[Value.int .i64 0,Value.int .i64 0,Value.int .i64 0] 42)
 have hA:=h.past mA (by simp)
 have eA:=heap_alloc_new w (Obj.cells #[Value.int .i64 0,Value.int .i64 0,Value.int .i64 0] 42)
 obtain ⟨c0,c1,c2,c3,c4,c5,fz⟩:=hA.cells
 have HC:=Hxq (hr _ mA (by simp))
 rw [ho] at HC
 go_enter_defers Tryz.func31,Tryz.ntmps31
 go_wp2_with fail
 refine HC.out.mono ?_
 rintro e1 w1 ⟨rfl,hg,h1,m1⟩
 have e1:=m1.at eA (fun hs=>by have:=hS _ hs;omega)
 have M1:=Hxq ((mA.mono (T:=S) (by simp)).trans m1 (fun t ht=>.inl ht))
 have H1:=Lib.hid h1;have HGt:=Lib.hid hg
 clear HC m1 c0 c1 c2 c3 c4 c5 fz hA eA mA hg
 obtain ⟨c0,c1,c2,c3,c4,c5,fz⟩:=h1.cells
 have hI:¬ (i:Int)<(v.ws.length:Int):=by omega
 have hK:((v.last.1:Int) != 42)=false:=by rw [hm];rfl
 clear h1
 go_wp2_with fail
 go_quiet (fail)
 have mq:Mod [] w1 (w1.drewN nq):=(Mod.refl [] w1).drewN nq
 have e3:=mq.at e1 (by simp)
 generalize w1.drewN nq=w3 at *
 obtain ⟨y0,y1,y2⟩:=cells3 e3
 have f0:=free_at e3 0
 have f1:=free_at e3 1
 have f2:=free_at e3 2
 clear c0 c1 c2 c3 c4 c5 fz
 go_wp2_with fail
 refine leaves_cons (f:=55) (args:=#[.pointer (some ⟨w.heap.size,0,none⟩)]) (by simp) (by simp [go_sem]) ?_
 refine (catch_idle _ _).mono ?_
 rintro e2 u2 w2 ⟨rfl,rfl,m2⟩
 have mR:=setCs_mod w.heap.size [.int .i64 0,.int .i64 0,.int .i64 0] 0 w3
 have mT:=(mq.mono (T:=[w.heap.size]) (by simp)).trans (mR.trans m2 (by simp)) (by simp)
 have h2:=m2.at (setCs_row (vs:=[.int .i64 0,.int .i64 0,.int .i64 0]) e3 rfl) (by simp)
 exact ⟨_,results_cell_row rfl _ _ _ _ _ _ _ rfl h2 Tryz.underlying42 rfl (by kernel_rfl),rfl,⟨w1,HGt.out,mT⟩,M1.out.trans mT (fun t ht=>by rw [Msq] at ht;exact .inr (by omega))⟩
/-- what whole leaves -/
def WhRes {α:Type} (r:Sy.PR α) (S:List Nat) (Got:α->World->Prop) (w:World) (e:Ending) (w':World):Prop :=
 match r with
 | .ok a _=>e=.returned (.agg #[.int .i64 0,.int .i64 0,.int .i64 0])/\(∃ w1,Got a w1/\Mod [w.heap.size] w1 w')/\Mod S w w'
 | .err g=>e=.returned (.agg (fltC g))/\Mod S w w'
theorem whole_any {α:Type} (b:Nat) (ra:Option Addr) (rc:Nat) (n:Nat) (x:Value) (v:Sy.Env) (one:Nat->Sy.PR α) (S:List Nat) (Got:α->World->Prop) (w:World) (h:RdP w b ra rc (.func (.func n) #[x] #[]) v 0) (hv:EnvOk v)
  (he:∀ (args:Array Value) (w:World),(callFunc n args).run Tryz.prog w=.ok (.enter n args) w)
  (hr:∀ w' ,Mod [] w w'->w.heap.size<w'.heap.size->Calls Tryz.prog n #[x] w' (RdRes b ra rc (.func (.func n) #[x] #[]) v (one 0) S Got w')) (hS:∀ s∈S,s<w.heap.size) (hadv:Sy.Adv v one) :
  Calls Tryz.prog 31 #[.pointer (some ⟨b,0,none⟩)] w (WhRes (Sy.whole v one) S Got w):=by
 have hlen:=hv.len
 cases ho:one 0 with
 | err g =>
  have e:Sy.whole v one=.err g:=by unfold Sy.whole;rw [ho];rfl
  rw [e]
  exact whole_err b ra rc n x v one S Got w g h hv he hr hS ho
 | ok a i =>
  have hi:=(hadv 0 a i (Nat.zero_le _) ho).2
  by_cases hm:i<v.ws.length\/v.last.1≠42
  ·have e:Sy.whole v one=.err (v.give 40 i):=by unfold Sy.whole;rw [ho,Sy.PR.bind_ok,if_pos hm]
   rw [e]
   exact whole_more b ra rc n x v one S Got w a i h hv he hr hS ho hi hm
  ·have e:Sy.whole v one=.ok a i:=by unfold Sy.whole;rw [ho,Sy.PR.bind_ok,if_neg hm]
   rw [e]
   exact whole_ok b ra rc n x v one S Got w a i h hv he hr hS ho (by omega) (by omega) (by omega)
theorem EB.one_cell {F:Nat->Prop} {w:World} {e:Pr.Ex} {u:Value} (h:EB F w e u):u.oneCell'=true:=by
 obtain ⟨a,c,rfl⟩:=h.lit
 rfl
theorem liV_all {F:Nat->Prop} {w:World} {l:Pr.Li} {U:LU} (h:LB F w l U):(liV l U).toList.all (·.oneCell')=true:=by
 obtain ⟨k,a,op,l1,r1,fn,av,of,body,ln,cl⟩:=l
 obtain ⟨ht,hl,hr,ho,hb⟩:=h.parts
 obtain ⟨a1,c1,h1⟩:=ht.lit
 obtain ⟨a2,c2,h2⟩:=hb.lit
 have e1:=hl.one_cell
 have e2:=hr.one_cell
 have e3:=ho.one_cell
 have e4:U.t.oneCell'=true:=by rw [h1];rfl
 have e5:U.b.oneCell'=true:=by rw [h2];rfl
 simp only [liV,List.all_cons,List.all_nil,e1,e2,e3,e4,e5]
 rfl
theorem liV_len (l:Pr.Li) (U:LU):(liV l U).size=30:=liV_size (l,U)
theorem size_of {T:TypeId} {n:Nat} {C:Array Value} (h:(Tryz.prog.info? T).map (·.size)=some n) (hC:C.size=n):(Tryz.prog.info? T).map (·.size)=some C.size:=by rw [hC];exact h
set_option maxHeartbeats 4000000 in
theorem lit1_any (b:Nat) (ra:Option Addr) (rc:Nat) (f:Value) (v:Sy.Env) (i:Nat) (w:World) (h:RdP w b ra rc f v i) (hv:EnvOk v) (hi:i<=v.ws.length) :
  Calls Tryz.prog 17 #[.pointer (some ⟨b,0,none⟩)] w (PRes b ra rc f v (Sy.lit v 0 i) (valL w.heap.size) w):=by
 have mA:=(Mod.refl [] w).alloc (Obj.cells #[Value.int IntKind.i64 0,Value.string ⟨#[]⟩,Value.slice none 0 0,Value.int IntKind.i64 0,Value.int IntKind.i64 0,Value.string ⟨#[]⟩,Value.int IntKind.i64 0,Value.int IntKind.i64 0,Value.string ⟨#[]⟩,Value.int IntKind.i64 0,Value.slice none 0 0,Value.int IntKind.i64 0,Value.string ⟨#[]⟩,Value.int IntKind.i64 0,Value.int IntKind.i64 0,Value.string ⟨#[]⟩,Value.int IntKind.i64 0,Value.slice none 0 0,Value.int IntKind.i64 0,Value.string ⟨#[]⟩,Value.int IntKind.i64 0,Value.string ⟨#[]⟩,Value.int IntKind.i64 0,Value.int IntKind.i64 0,Value.string ⟨#[]⟩,Value.int IntKind.i64 0,Value.slice none 0 0,Value.slice none 0 0,Value.int IntKind.i64 0,Value.int IntKind.i64 0] 40)
 have eA:=heap_alloc_new w (Obj.cells #[Value.int IntKind.i64 0,Value.string ⟨#[]⟩,Value.slice none 0 0,Value.int IntKind.i64 0,Value.int IntKind.i64 0,Value.string ⟨#[]⟩,Value.int IntKind.i64 0,Value.int IntKind.i64 0,Value.string ⟨#[]⟩,Value.int IntKind.i64 0,Value.slice none 0 0,Value.int IntKind.i64 0,Value.string ⟨#[]⟩,Value.int IntKind.i64 0,Value.int IntKind.i64 0,Value.string ⟨#[]⟩,Value.int IntKind.i64 0,Value.slice none 0 0,Value.int IntKind.i64 0,Value.string ⟨#[]⟩,Value.int IntKind.i64 0,Value.string ⟨#[]⟩,Value.int IntKind.i64 0,Value.int IntKind.i64 0,Value.string ⟨#[]⟩,Value.int IntKind.i64 0,Value.slice none 0 0,Value.slice none 0 0,Value.int IntKind.i64 0,Value.int IntKind.i64 0] 40)
 have HC:=Hxq (lit_any b ra rc f v i _ (h.past mA (by simp)) hv hi)
 have hbl:=h.lt
 have HLo:=Lib.hid h.low
 have EA:=Lib.hid eA;have MA:=Lib.hid mA
 have hsz:(w.alloc (Obj.cells #[Value.int IntKind.i64 0,Value.string ⟨#[]⟩,Value.slice none 0 0,Value.int IntKind.i64 0,Value.int IntKind.i64 0,Value.string ⟨#[]⟩,Value.int IntKind.i64 0,Value.int IntKind.i64 0,Value.string ⟨#[]⟩,Value.int IntKind.i64 0,Value.slice none 0 0,Value.int IntKind.i64 0,Value.string ⟨#[]⟩,Value.int IntKind.i64 0,Value.int IntKind.i64 0,Value.string ⟨#[]⟩,Value.int IntKind.i64 0,Value.slice none 0 0,Value.int IntKind.i64 0,Value.string ⟨#[]⟩,Value.int IntKind.i64 0,Value.string ⟨#[]⟩,Value.int IntKind.i64 0,Value.int IntKind.i64 0,Value.string ⟨#[]⟩,Value.int IntKind.i64 0,Value.slice none 0 0,Value.slice none 0 0,Value.int IntKind.i64 0,Value.int IntKind.i64 0] 40)).heap.size=w.heap.size+1:=by simp
 clear h eA mA
 generalize Sy.lit v 0 i=q at *
 go_enter Tryz.func17,Tryz.ntmps17
 go_upto_region 1 with fail
 generalize w.alloc (Obj.cells _ 40)=wA at *
 cases q with
 | err g =>
  go_wp2_with fail
  refine HC.out.mono ?_
  rintro e1 w1 ⟨rfl,m1⟩
  have M1:=Hxq ((MA.out.mono (T:=[b]) (by simp)).trans m1 (by simp))
  clear m1
  unfold stopE
  go_wp2_with fail
  exact ⟨rfl,rfl,M1.out⟩
 | ok l j =>
  go_wp2_with fail
  refine HC.out.mono ?_
  rintro e1 w1 ⟨y,rfl,⟨U,rfl,hL⟩,h1,m1⟩
  have M1:=Hxq ((MA.out.mono (T:=[b]) (by simp)).trans m1 (by simp))
  have E1:=Hxq (m1.at EA.out (by simp;omega))
  have H1:=Lib.hid h1
  have HO:=Hxq (liV_all hL)
  have HL:=Lib.hid hL
  have hC:=liV_len l U
  have HX:Hid (Value.agg (liV l U)=.agg (liV l U)):=Lib.hid rfl
  clear m1 h1 hL HC
  generalize hCC:liV l U=C at *
  have HCC:=Lib.hid hCC
  clear hCC
  have hlt1:=lt_of_block E1.out
  go_wp2_with (refine wpList_store_at rfl 40 _ _ rfl w.heap.size C _ 40 rfl rfl E1.out (size_of Tryz.sizeLit hC) (by rw [hC];rfl) HO.out ?_)
  have mR:=Mod.setRow w1 w.heap.size C
  refine bodyPost_ret (results_cell_row rfl _ _ _ _ _ _ _ rfl (setRow_heap w1 w.heap.size _ C 40 _ E1.out) Tryz.underlying40 rfl (size_of Tryz.sizeLit hC)) rfl ⟨_,rfl,⟨U,by rw [HCC.out],(HL.out.keep mR (by simp;omega)).mono (fun k hk _=>by omega)⟩,H1.out.new HLo.out mR (by simp),M1.out.trans mR (by simp)⟩
/-- a part: its two pointers, what is got -/
theorem part_there {w:World} {px:Nat} {a o:Value} {X C:Array Value} {T:TypeId} {n:Nat} (h:w.heap[px]?=some (.cells (#[a,o]++X) T (0,0))) (hX:X.size=n) (hC:C.size=n):w.there px 2 C.size:=by
 intro j hj
 refine ⟨?_,free_at h _⟩
 rw [cell_at h]
 simp
 omega
theorem part_c0 {w:World} {px:Nat} {a o:Value} {X:Array Value} {T:TypeId} {fr:Nat × Nat} (h:w.heap[px]?=some (.cells (#[a,o]++X) T fr)):w.cell? ⟨px,0,none⟩=some a/\w.cell? ⟨px,1,none⟩=some o :=
 ⟨(cell_at h 0).trans ((Array.getElem?_append_left (by simp)).trans rfl),(cell_at h 1).trans ((Array.getElem?_append_left (by simp)).trans rfl)⟩
theorem setCells_eq:∀ (vs:List Value) (b o:Nat) (w:World),w.setCells b o vs=setCs w b o vs
 | [],b,o,w=>rfl
 | v :: r,b,o,w=>by rw [World.setCells,setCs,setCells_eq r b (o+1)]
theorem putL_over:∀ (c p x:List Value),x.length=c.length->putL (p++x) p.length c=p++c
 | [],p,x,h=>by
  have:x=[]:=List.eq_nil_of_length_eq_zero (by simpa using h)
  subst this
  rfl
 | c0 :: c,p,x0 :: x,h=>by
  rw [putL]
  have e:(p++x0 :: x).set p.length c0=(p++[c0])++x:=by simp
  rw [e]
  have:=putL_over c (p++[c0]) x (by simpa using h)
  rw [List.length_append] at this
  rw [show p.length+1=p.length+[c0].length from rfl,this]
  simp
 | c0 :: c,p,[],h=>by simp at h
theorem part_got {w:World} {px:Nat} {a o:Value} {X C:Array Value} {T:TypeId} (h:w.heap[px]?=some (.cells (#[a,o]++X) T (0,0))) (hX:X.size=C.size):(w.setCells px 2 C.toList).heap[px]?=some (.cells (#[a,o]++C) T (0,0)):=by
 rw [setCells_eq]
 have h2:=setCs_heap (T:=T) (fr:=(0,0)) C.toList 2 ([a,o]++X.toList) w (by rw [h];simp)
 have h3:=putL_over C.toList [a,o] X.toList (by simpa using hX)
 rw [show [a,o].length=2 from rfl] at h3
 rw [h2,h3]
 simp
theorem part_mod (w:World) (px:Nat) (C:List Value):Mod [px] w (w.setCells px 2 C):=by
 rw [setCells_eq]
 exact setCs_mod px C 2 w
set_option maxHeartbeats 4000000 in
theorem readL_any (b:Nat) (ra:Option Addr) (rc:Nat) (f:Value) (v:Sy.Env) (px:Nat) (X:Array Value) (hX:X.size=30) (w:World) (h:RdP w b ra rc f v 0) (hv:EnvOk v) (hp:w.heap[px]?=some (.cells (#[.pointer (some ⟨b,0,none⟩),.func (.func 17) #[] #[]]++X) 87 (0,0))) (hne:px≠b) (hpx:px∉fp (.slice ra v.ws.length rc)) :
  Calls Tryz.prog 30 #[.pointer (some ⟨px,0,none⟩)] w (RdRes b ra rc f v (Sy.lit v 0 0) [b,px] (fun p w'=>∃ C:Array Value,w'.heap[px]?=some (.cells (#[.pointer (some ⟨b,0,none⟩),.func (.func 17) #[] #[]]++C) 87 (0,0))/\valL w.heap.size p w' (.agg C)) w):=by
 have HC:=Hxq (lit1_any b ra rc f v 0 w.drew (h.past ((Mod.refl [] w).drew) (by simp)) hv (Nat.zero_le _))
 have hlt:=lt_of_block hp
 have HH:=Lib.hid h;have HP:=Lib.hid hp
 have D1:w.drew.cell? ⟨px,0,none⟩=some (.pointer (some ⟨b,0,none⟩))/\w.drew.cell? ⟨px,1,none⟩=some (.func (.func 17) #[] #[]):=part_c0 (drew_cells hp)
 clear hp
 go_enter Tryz.func30,Tryz.ntmps30
 generalize Sy.lit v 0 0=q at *
 cases q with
 | err g =>
  go_wp2_with fail
  refine wp_region_held_drew (S:=(fun w':World=>w'.cell? ⟨px,0,none⟩=some (.pointer (some ⟨b,0,none⟩))/\w'.cell? ⟨px,1,none⟩=some (.func (.func 17) #[] #[]))) (by kernel_rfl) (by (try dsimp only);exact D1) (fun hHeld=>?_)
  refine Tkq 0 (v:=?_) (by assumption) ?_ ?_ ?_
  rotate_left 1
  ·refine .inl ⟨by rfl,?_⟩;intro w hSw;(try dsimp only at hSw);obtain ⟨hS1,hS2⟩:=hSw;go_simp
   all_goals with_reducible rfl
  ·exact fun _ _ _ h=>h
  try simp only [Act.put,Lq1,Lq2,Lq3]
  refine Tkq 1 (v:=?_) (by assumption) ?_ ?_ ?_
  rotate_left 1
  ·refine .inl ⟨by rfl,?_⟩;intro w hSw;(try dsimp only at hSw);obtain ⟨hS1,hS2⟩:=hSw;go_simp
   all_goals with_reducible rfl
  ·exact fun _ _ _ h=>h
  try simp only [Act.put,Lq1,Lq2,Lq3]
  refine Tkq 2 (v:=?_) (by assumption) ?_ ?_ ?_
  rotate_left 1
  ·refine .inl ⟨by rfl,?_⟩;intro w hSw;(try dsimp only at hSw);obtain ⟨hS1,hS2⟩:=hSw;go_simp
   all_goals with_reducible rfl
  ·exact fun _ _ _ h=>h
  try simp only [Act.put,Lq1,Lq2,Lq3]
  refine Tkq 3 (v:=?_) (by assumption) ?_ ?_ ?_
  rotate_left 1
  ·refine .inl ⟨by rfl,?_⟩;intro w hSw;(try dsimp only at hSw);obtain ⟨hS1,hS2⟩:=hSw;go_simp
   all_goals with_reducible rfl
  ·exact fun _ _ _ h=>h
  try simp only [Act.put,Lq1,Lq2,Lq3]
  refine Tkq 4 (v:=?_) (by assumption) ?_ ?_ ?_
  rotate_left 1
  ·refine .inl ⟨by rfl,?_⟩;intro w hSw;(try dsimp only at hSw);obtain ⟨hS1,hS2⟩:=hSw;go_simp
   all_goals with_reducible rfl
  ·exact fun _ _ _ h=>h
  try simp only [Act.put,Lq1,Lq2,Lq3]
  refine Tkq 5 (v:=?_) (by assumption) ?_ ?_ ?_
  rotate_left 1
  ·refine .inl ⟨by rfl,?_⟩;intro w hSw;(try dsimp only at hSw);obtain ⟨hS1,hS2⟩:=hSw;go_simp
   all_goals with_reducible rfl
  ·exact fun _ _ _ h=>h
  try simp only [Act.put,Lq1,Lq2,Lq3]
  refine Tkq 6 (v:=?_) (by assumption) ?_ ?_ ?_
  rotate_left 1
  ·refine .inl ⟨by rfl,?_⟩;intro w hSw;(try dsimp only at hSw);obtain ⟨hS1,hS2⟩:=hSw;go_simp
   all_goals with_reducible rfl
  ·exact fun _ _ _ h=>h
  try simp only [Act.put,Lq1,Lq2,Lq3]
  refine Tkq 7 (v:=?_) (by assumption) ?_ ?_ ?_
  rotate_left 1
  ·refine .inl ⟨by rfl,?_⟩;intro w hSw;(try dsimp only at hSw);obtain ⟨hS1,hS2⟩:=hSw;go_simp
   all_goals with_reducible rfl
  ·exact fun _ _ _ h=>h
  try simp only [Act.put,Lq1,Lq2,Lq3]
  refine Tkq 8 (v:=?_) (by assumption) ?_ ?_ ?_
  rotate_left 1
  ·refine .inl ⟨by rfl,?_⟩;intro w hSw;(try dsimp only at hSw);obtain ⟨hS1,hS2⟩:=hSw;go_simp
   all_goals with_reducible rfl
  ·exact fun _ _ _ h=>h
  try simp only [Act.put,Lq1,Lq2,Lq3]
  refine wpAnyH_ready (rs:=[9]) (by kernel_rfl) (by simp) ?_
  refine AllReadyH.cons (o:=?_) ?_ ?_ AllReadyH.nil
  rotate_left 1
  ·(simp only [Gq1,Gq2,Gq3])<;>rfl
  intro K hK
  go_simp
  refine HC.out.mono ?_
  rintro e7 w7 ⟨rfl,m7⟩
  have M7:=Hxq (((Mod.refl [b] w).drew).trans m7 (by simp))
  clear m7
  unfold stopE
  dsimp only
  clear hK K
  go_wp2_with fail
  exact ⟨rfl,rfl,M7.out.mono (T:=[b,px]) (fun t ht=>.inl (by simp at ht;simp [ht]))⟩
 | ok p j =>
  have q1:=D1.1
  have q2:=D1.2
  go_wp2_with fail
  refine wp_region_held_drew (S:=(fun w':World=>w'.cell? ⟨px,0,none⟩=some (.pointer (some ⟨b,0,none⟩))/\w'.cell? ⟨px,1,none⟩=some (.func (.func 17) #[] #[]))) (by kernel_rfl) (by (try dsimp only);exact D1) (fun hHeld=>?_)
  refine Tkq 0 (v:=?_) (by assumption) ?_ ?_ ?_
  rotate_left 1
  ·refine .inl ⟨by rfl,?_⟩;intro w hSw;(try dsimp only at hSw);obtain ⟨hS1,hS2⟩:=hSw;go_simp
   all_goals with_reducible rfl
  ·exact fun _ _ _ h=>h
  try simp only [Act.put,Lq1,Lq2,Lq3]
  refine Tkq 1 (v:=?_) (by assumption) ?_ ?_ ?_
  rotate_left 1
  ·refine .inl ⟨by rfl,?_⟩;intro w hSw;(try dsimp only at hSw);obtain ⟨hS1,hS2⟩:=hSw;go_simp
   all_goals with_reducible rfl
  ·exact fun _ _ _ h=>h
  try simp only [Act.put,Lq1,Lq2,Lq3]
  refine Tkq 2 (v:=?_) (by assumption) ?_ ?_ ?_
  rotate_left 1
  ·refine .inl ⟨by rfl,?_⟩;intro w hSw;(try dsimp only at hSw);obtain ⟨hS1,hS2⟩:=hSw;go_simp
   all_goals with_reducible rfl
  ·exact fun _ _ _ h=>h
  try simp only [Act.put,Lq1,Lq2,Lq3]
  refine Tkq 3 (v:=?_) (by assumption) ?_ ?_ ?_
  rotate_left 1
  ·refine .inl ⟨by rfl,?_⟩;intro w hSw;(try dsimp only at hSw);obtain ⟨hS1,hS2⟩:=hSw;go_simp
   all_goals with_reducible rfl
  ·exact fun _ _ _ h=>h
  try simp only [Act.put,Lq1,Lq2,Lq3]
  refine Tkq 4 (v:=?_) (by assumption) ?_ ?_ ?_
  rotate_left 1
  ·refine .inl ⟨by rfl,?_⟩;intro w hSw;(try dsimp only at hSw);obtain ⟨hS1,hS2⟩:=hSw;go_simp
   all_goals with_reducible rfl
  ·exact fun _ _ _ h=>h
  try simp only [Act.put,Lq1,Lq2,Lq3]
  refine Tkq 5 (v:=?_) (by assumption) ?_ ?_ ?_
  rotate_left 1
  ·refine .inl ⟨by rfl,?_⟩;intro w hSw;(try dsimp only at hSw);obtain ⟨hS1,hS2⟩:=hSw;go_simp
   all_goals with_reducible rfl
  ·exact fun _ _ _ h=>h
  try simp only [Act.put,Lq1,Lq2,Lq3]
  refine Tkq 6 (v:=?_) (by assumption) ?_ ?_ ?_
  rotate_left 1
  ·refine .inl ⟨by rfl,?_⟩;intro w hSw;(try dsimp only at hSw);obtain ⟨hS1,hS2⟩:=hSw;go_simp
   all_goals with_reducible rfl
  ·exact fun _ _ _ h=>h
  try simp only [Act.put,Lq1,Lq2,Lq3]
  refine Tkq 7 (v:=?_) (by assumption) ?_ ?_ ?_
  rotate_left 1
  ·refine .inl ⟨by rfl,?_⟩;intro w hSw;(try dsimp only at hSw);obtain ⟨hS1,hS2⟩:=hSw;go_simp
   all_goals with_reducible rfl
  ·exact fun _ _ _ h=>h
  try simp only [Act.put,Lq1,Lq2,Lq3]
  refine Tkq 8 (v:=?_) (by assumption) ?_ ?_ ?_
  rotate_left 1
  ·refine .inl ⟨by rfl,?_⟩;intro w hSw;(try dsimp only at hSw);obtain ⟨hS1,hS2⟩:=hSw;go_simp
   all_goals with_reducible rfl
  ·exact fun _ _ _ h=>h
  try simp only [Act.put,Lq1,Lq2,Lq3]
  refine wpAnyH_ready (rs:=[9]) (by kernel_rfl) (by simp) ?_
  refine AllReadyH.cons (o:=?_) ?_ ?_ AllReadyH.nil
  rotate_left 1
  ·(simp only [Gq1,Gq2,Gq3])<;>rfl
  intro K hK
  go_simp
  refine HC.out.mono ?_
  rintro e3 w3 ⟨y3,rfl,⟨U,rfl,hL⟩,h3,m3⟩
  have m03:=(((Mod.refl [b] w).drew).trans m3 (by simp))
  have P3:=Hxq (m03.at HP.out (by simp;omega))
  have H3:=Lib.hid h3;have M3:=Lib.hid m03;have HL:=Lib.hid hL;have HO:=Hxq (liV_all hL)
  have hC:=liV_len p U
  clear h3 m3 m03 hL
  generalize hCC:liV p U=C at *
  have HCC:=Lib.hid hCC
  clear hCC
  refine hK.out _ _ (by (try dsimp only);exact part_c0 P3.out) (fun hHeld=>?_)
  clear hK K
  try simp only [Act.put,Lq1,Lq2,Lq3]
  refine Tkq 10 (v:=?_) (by assumption) ?_ ?_ ?_
  rotate_left 1
  ·refine .inl ⟨by rfl,?_⟩;intro w hSw;(try dsimp only at hSw);obtain ⟨hS1,hS2⟩:=hSw;go_simp
   all_goals with_reducible rfl
  ·exact fun _ _ _ h=>h
  try simp only [Act.put,Lq1,Lq2,Lq3]
  refine Tkq 11 (v:=?_) (by assumption) ?_ ?_ ?_
  rotate_left 1
  ·refine .inl ⟨by rfl,?_⟩;intro w hSw;(try dsimp only at hSw);obtain ⟨hS1,hS2⟩:=hSw;go_simp
   all_goals with_reducible rfl
  ·exact fun _ _ _ h=>h
  try simp only [Act.put,Lq1,Lq2,Lq3]
  refine wpAnyH_ready (rs:=[12]) (by kernel_rfl) (by simp) ?_
  refine AllReadyH.cons (o:=?_) ?_ ?_ AllReadyH.nil
  rotate_left 1
  ·(simp only [Gq1,Gq2,Gq3])<;>rfl
  intro K hK
  refine (if_pos (by rfl)).mpr ?_
  refine wp_store_mid 40 _ _ rfl px 2 C rfl rfl (part_there P3.out hX hC) (size_of Tryz.sizeLit hC) (by rw [<-Array.all_toList];exact HO.out) ?_
  refine hK.out _ _ (by (try dsimp only);exact (part_c0 (part_got P3.out (hX.trans hC.symm)))) (fun hHeld=>?_)
  clear hK K
  try simp only [Act.put,Lq1,Lq2,Lq3]
  refine wpAnyH_done (by kernel_rfl) ?_ _
  go_wp2_with fail
  go_end0
  have mS:=part_mod w3 px C.toList
  have hS:∀ s∈[px],¬ w.heap.size<=s:=fun s hs=>by rw [Msq] at hs;omega
  have hS2:∀ s∈[px],¬ w.drew.heap.size<=s:=hS
  exact ⟨rfl,⟨C,part_got P3.out (hX.trans hC.symm),⟨U,by rw [HCC.out],HL.out.keep mS hS2⟩⟩,H3.out.keep mS (by simp;omega) (fun k hk hs=>by rw [Msq] at hs;exact hpx (hs ▸ hk)),(M3.out.mono (T:=[b,px]) (fun t ht=>.inl (by simp at ht;simp [ht]))).trans mS (by simp)⟩
end Go.Proofs.YtbfaclljbbfknaaGreatDoor
namespace Go.Proofs.YtbfaclljbbfknaaGreatDoor.Sy
open Lx (Tok)
open Pr (Term Atom Ex Li Rul Rel Prog)
set_option linter.unusedVariables false
set_option linter.unusedSimpArgs false
def Nz {α:Type} (p:PR α):Prop:=∀ f,p=.err f->f.1≠0
section
variable {α β:Type} {v:Env}
theorem Nz.bind {p:PR α} {f:α->Nat->PR β} (h:Nz p) (hf:∀ a i,Nz (f a i)):Nz (p.bind f):=by
 cases p with
 | ok a i=>exact hf a i
 | err e=>exact fun g hg=>by cases hg;exact h e rfl
theorem nz_ok (a:α) (i:Nat):Nz (.ok a i):=fun f h=>by cases h
theorem nz_give (hv:v.last.1≠0) (c i:Nat) (hc:c≠0):Nz (.err (v.give c i):PR α):=fun f h=>by
 cases h
 unfold Env.give
 split
 ·exact hc
 ·exact hv
theorem nz_last (hv:v.last.1≠0):Nz (.err v.last:PR α):=fun f h=>by cases h;exact hv
theorem nz_must (hv:v.last.1≠0) (s:List Nat) (i:Nat):Nz (must v s i):=by
 unfold must
 split
 ·exact nz_ok _ _
 ·exact nz_give hv _ _ (by decide)
theorem nz_listF (hv:v.last.1≠0) (fin:List Nat) {one:Nat->PR α} (h:∀ i,Nz (one i)):∀ (n:Nat) (acc:List α) (i:Nat),Nz (listF v fin one n acc i)
 | 0,acc,i=>nz_last hv
 | n+1,acc,i=>by
  rw [listF]
  split
  ·exact (h _).bind fun a j=>nz_listF hv fin h n _ j
  ·exact (nz_must hv _ _).bind fun _ j=>nz_ok _ _
theorem nz_list (hv:v.last.1≠0) (fin:List Nat) {one:Nat->PR α} (h:∀ i,Nz (one i)) (i:Nat):Nz (list v fin one i):=by
 unfold list
 split
 ·exact nz_ok _ _
 ·exact (h _).bind fun a j=>nz_listF hv fin h _ _ j
theorem nz_name (hv:v.last.1≠0) (i:Nat):Nz (name v i):=by
 unfold name
 split
 ·exact nz_ok _ _
 ·exact nz_give hv _ _ (by decide)
theorem nz_value (hv:v.last.1≠0) (i:Nat):Nz (value v i):=by
 unfold value
 split
 ·exact nz_ok _ _
 ·exact nz_give hv _ _ (by decide)
theorem nz_term (hv:v.last.1≠0) (i:Nat):Nz (term v i):=by
 unfold term
 split
 ·exact nz_ok _ _
 ·split
  ·exact nz_ok _ _
  ·exact (nz_value hv _).bind fun _ _=>nz_ok _ _
theorem nz_atom (hv:v.last.1≠0) (i:Nat):Nz (atom v i):=(nz_name hv _).bind fun _ _=>(nz_must hv _ _).bind fun _ j=>(nz_list hv _ (nz_term hv) j).bind fun _ _=>nz_ok _ _
theorem nz_chain (hv:v.last.1≠0) {line:Nat} {sub:Nat->Nat->PR (Ex × Nat)} (h:∀ ab i,Nz (sub ab i)) {above:Nat}:∀ (n:Nat) (e:Ex) (d i:Nat),Nz (chainF v line sub above n e d i)
 | 0,e,d,i=>nz_last hv
 | n+1,e,d,i=>by
  rw [chainF]
  split
  ·exact nz_ok _ _
  ·split
   ·exact nz_give hv _ _ (by decide)
   ·exact (h _ _).bind fun _ j=>nz_chain hv h n _ _ j
theorem nz_exprF (hv:v.last.1≠0):∀ (k line above i:Nat),Nz (exprF v k line above i)
 | 0,line,above,i=>nz_last hv
 | k+1,line,above,i=>by
  rw [exprF]
  split
  ·split
   ·exact nz_ok _ _
   ·split
    ·exact nz_ok _ _
    ·split
     ·split
      ·exact nz_give hv _ _ (by decide)
      ·exact (nz_exprF hv k _ _ _).bind fun _ _=>nz_ok _ _
     ·split
      ·exact nz_give hv _ _ (by decide)
      ·exact (nz_must hv _ _).bind fun _ j=>(nz_exprF hv k _ _ j).bind fun _ j=>(nz_must hv _ j).bind fun _ _=>nz_ok _ _
  ·exact (nz_exprF hv k _ _ _).bind fun _ j=>nz_chain hv (fun ab i=>nz_exprF hv k _ ab i) _ _ _ j
theorem nz_expr (hv:v.last.1≠0) (i:Nat):Nz (expr v i):=(nz_exprF hv _ _ _ _).bind fun _ _=>nz_ok _ _
theorem nz_bodyF (hv:v.last.1≠0) {one:Nat->PR Li} (h:∀ i,Nz (one i)):∀ (n:Nat) (acc:List Li) (i:Nat),Nz (bodyF v one n acc i)
 | 0,acc,i=>nz_last hv
 | n+1,acc,i=>by
  rw [bodyF]
  split
  ·exact (h _).bind fun a j=>nz_bodyF hv h n _ j
  ·exact nz_ok _ _
theorem nz_bodyOf (hv:v.last.1≠0) {one:Nat->PR Li} (h:∀ i,Nz (one i)) (i:Nat):Nz (bodyOf v one i):=(h _).bind fun a j=>nz_bodyF hv h _ _ j
theorem nz_agg (hv:v.last.1≠0) {one:Nat->PR Li} (h:∀ i,Nz (one i)) (br i:Nat):Nz (aggOf v one br i):=by
 unfold aggOf
 split
 ·exact nz_give hv _ _ (by decide)
 ·refine (nz_must hv _ _).bind fun _ j=>Nz.bind ?_ fun o j=>(nz_bodyOf hv h j).bind fun _ j=>(nz_must hv _ j).bind fun _ _=>nz_ok _ _
  split
  ·exact (nz_expr hv _).bind fun _ j=>(nz_must hv _ j).bind fun _ _=>nz_ok _ _
  ·exact nz_ok _ _
theorem nz_litF (hv:v.last.1≠0):∀ (k br i:Nat),Nz (litF v k br i)
 | 0,br,i=>nz_last hv
 | k+1,br,i=>by
  rw [litF]
  split
  ·exact (nz_atom hv _).bind fun _ _=>nz_ok _ _
  ·split
   ·exact (nz_atom hv _).bind fun _ _=>nz_ok _ _
   ·split
    ·exact (nz_agg hv (fun i=>nz_litF hv k _ i) _ _).bind fun _ _=>nz_ok _ _
    ·refine (nz_expr hv _).bind fun _ j=>?_
     split
     ·exact nz_give hv _ _ (by decide)
     ·exact (nz_expr hv _).bind fun _ _=>nz_ok _ _
theorem nz_lit (hv:v.last.1≠0) (br i:Nat):Nz (lit v br i):=nz_litF hv _ _ _
theorem nz_whole (hv:v.last.1≠0) {one:Nat->PR α} (h:Nz (one 0)):Nz (whole v one):=by
 unfold whole
 refine h.bind fun a i=>?_
 split
 ·exact nz_give hv _ _ (by decide)
 ·exact nz_ok _ _
end
theorem env_last (s:List Nat):(envOf s).last.1≠0:=by
 unfold envOf
 simp only
 split
 ·exact (by decide:(42:Nat)≠0)
 ·assumption
end Go.Proofs.YtbfaclljbbfknaaGreatDoor.Sy
namespace Go.Proofs.YtbfaclljbbfknaaGreatDoor.Lx
set_option linter.unusedVariables false
theorem next_ok {x y:St} {t:Tok} (hb:∀ c∈x.s,c<256) (h:next x=(y,some t)):t.num<=2147483647/\(∀ c∈t.text,c<256)/\(∀ c∈t.sym,c<256)/\t.kind<=5/\t.vk<=2/\y.s.length<x.s.length/\(∀ c∈y.s,c<256)/\x.long=false/\y.long=false:=by
 unfold next at h
 split at h
 ·simp at h
 ·split at h
  ·simp at h
  ·rename_i hl
   have hl':x.long=false:=by simpa using hl
   split at h
   ·simp at h
   ·rename_i he
    split at h
    ·simp at h
    ·rename_i wd hw
     have hbs:∀ c∈x.skip.s,c<256:=fun c hc=>hb c (List.mem_of_mem_drop hc)
     obtain ⟨h1,h2,h3,h4,h5,h6⟩:=word_len hbs he hw
     simp only [Prod.mk.injEq,Option.some.injEq] at h
     obtain ⟨rfl,rfl⟩:=h
     have hsk:x.skip.s.length<=x.s.length:=by unfold St.skip;simp
     refine ⟨h4,fun c hc=>hbs c (List.mem_of_mem_take hc),h3,h5,h6,?_,fun c hc=>hbs c (List.mem_of_mem_drop hc),hl',hl'⟩
     simp only [List.length_drop];omega
structure TokOk (t:Tok):Prop where
 num:t.num<=2147483647
 byte:∀ c∈t.text,c<256
 sym:∀ c∈t.sym,c<256
 kind:t.kind<=5
 vk:t.vk<=2
theorem all_ok:∀ (k:Nat) (x:St),(∀ c∈x.s,c<256)->(∀ t∈(allF k x).1,TokOk t)/\(allF k x).1.length<=x.s.length/\((allF k x).1≠[]->x.long=false)
 | 0,x,hb=>⟨by simp [allF],by simp [allF],by simp [allF]⟩
 | k+1,x,hb=>by
  rw [allF]
  cases hn:next x with
  | mk y o =>
   cases o with
   | none=>exact ⟨by simp,by simp,by simp⟩
   | some t =>
    obtain ⟨h1,h2,h3,h4,h5,h6,h7,h8,h9⟩:=next_ok hb hn
    obtain ⟨g1,g2,g3⟩:=all_ok k y h7
    refine ⟨fun u hu=>?_,by simp only [List.length_cons];omega,fun _=>h8⟩
    rcases List.mem_cons.1 hu with rfl | hu
    ·exact ⟨h1,h2,h3,h4,h5⟩
    ·exact g1 u hu
end Go.Proofs.YtbfaclljbbfknaaGreatDoor.Lx
namespace Go.Proofs.YtbfaclljbbfknaaGreatDoor.Sy
theorem env_toks (s:List Nat) (hb:∀ c∈s,c<256):(∀ t∈(envOf s).ws,Lx.TokOk t)/\(envOf s).ws.length<=65536:=by
 obtain ⟨h1,h2,h3⟩:=Lx.all_ok (s.length+1) (Lx.start s) hb
 refine ⟨h1,?_⟩
 show (Lx.allF (s.length+1) (Lx.start s)).1.length<=65536
 by_cases h:(Lx.allF (s.length+1) (Lx.start s)).1=[]
 ·rw [h];simp
 ·have:=h3 h
  simp only [Lx.start,decide_eq_false_iff_not] at this
  have h4:(Lx.start s).s.length=s.length:=rfl
  omega
end Go.Proofs.YtbfaclljbbfknaaGreatDoor.Sy
