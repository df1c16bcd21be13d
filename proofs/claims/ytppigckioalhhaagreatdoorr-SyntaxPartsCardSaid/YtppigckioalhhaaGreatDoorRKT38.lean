/- THE TEXTS MERGED: SyLawParts. -/
import Derived.Test.YtppigckioalhhaaGreatDoorRKT1
import Derived.Test.YtppigckioalhhaaGreatDoorRKT36
import Derived.Test.YtppigckioalhhaaGreatDoorRKT37
import Derived.Test.YtppigckioalhhaaGreatDoorRKT21
namespace Go.Proofs.YtppigckioalhhaaGreatDoorR
open Go.RowKit
set_option linter.unusedVariables false
set_option linter.unusedSimpArgs false
set_option maxRecDepth 100000
namespace Sy
open Pr (Ex Li Atom Rul)
def li0:Li:=.mk 0 at0 0 ex0 ex0 0 (txt []) ex0 [] 0 0
def ru0:Rul:=⟨at0,[],0,0⟩
def valOf {α:Type} (d:α):PR α->α
 | .ok a _=>a
 | .err _=>d
def fltG {α:Type}:PR α->Flt
 | .ok _ _=>(0,0,0)
 | .err g=>g
theorem whole_one {α:Type} {v:Env} {one:Nat->PR α} {a:α} {j:Nat} (h:whole v one=.ok a j):∃ i,one 0=.ok a i:=by
 unfold whole at h
 obtain ⟨x,m,h1,h2⟩:=bind_ok h
 split at h2
 ·cases h2
 ·cases h2
  exact ⟨_,h1⟩
section
variable {v:Env} (hv:v.ws.length<=65536)
include hv
theorem ru_M:(valOf ru0 (whole v (rule v))).head.terms.length<=140737488355328/\(valOf ru0 (whole v (rule v))).body.length<=140737488355328/\liMs (valOf ru0 (whole v (rule v))).body<=140737488355328:=by
 cases h:whole v (rule v) with
 | ok a j =>
  obtain ⟨i,h1⟩:=whole_one h
  have:=rule_M h1
  exact ⟨by have:=this.1;show a.head.terms.length<=_;omega,by have:=this.2.1;show a.body.length<=_;omega,by have:=this.2.2;show liMs a.body<=_;omega⟩
 | err f=>exact ⟨by show 0<=_;omega,by show 0<=_;omega,by simp [valOf,ru0,liMs]⟩
theorem li_M:liMs [valOf li0 (whole v (fun i=>lit v 0 i))]<=140737488355328:=by
 cases h:whole v (fun i=>lit v 0 i) with
 | ok a j =>
  obtain ⟨i,h1⟩:=whole_one h
  have:=lit_M v _ _ _ a i h1
  simp only [valOf,liMs];omega
 | err f=>simp [valOf,li0,liMs,liM,ex0,exM,exMs,at0]
theorem at_M:(valOf at0 (whole v (atom v))).terms.length<=140737488355328:=by
 cases h:whole v (atom v) with
 | ok a j =>
  obtain ⟨i,h1⟩:=whole_one h
  have:=atom_len h1
  show a.terms.length<=_;omega
 | err f=>show 0<=_;omega
theorem fc_M:(valOf ((txt [],[]):ByteArray × List Va.Val) (whole v (fact v))).2.length<=140737488355328:=by
 cases h:whole v (fact v) with
 | ok a j =>
  obtain ⟨i,h1⟩:=whole_one h
  have:=fact_len h1
  show a.2.length<=_;omega
 | err f=>show 0<=_;omega
end
end Sy
/-- a kind of things: its size, kept, compared by f -/
structure Kd (n f:Nat) (S:World->Array Value->Prop):Prop where
 size:∀ {w C},S w C->C.size=n
 one:∀ {w C},S w C->C.toList.all (·.oneCell')=true
 keep:∀ {w w' C},S w C->Mod [] w w'->S w' C
 same:∀ {w C D},S w C->S w D->Calls Tryz.prog f #[.agg C,.agg D] w (Tru w)
def EntR (S:World->Array Value->Prop) (g:Sy.Flt) (w:World) (e:Ending) (w':World):Prop :=
 ∃ C,e=.returned (.tuple #[.agg C,.agg #[.int .i64 (g.1:Nat),.int .i64 (g.2.1:Nat),.int .i64 (g.2.2:Nat)]])/\S w' C/\Mod [] w w'
theorem AllRes.entR {α:Type} {S:World->Array Value->Prop} {r:Sy.PR α} {d:α} {val:Nat->α->World->Value->Prop} {n:Nat} {z:Array Value} {w:World} {e:Ending} {w':World} (h:AllRes r (val n) (.agg z) w e w')
  (h1:∀ C,val n (Sy.valOf d r) w' (.agg C)->S w' C) (h0:∀ g,r=.err g->S w' z):EntR S (Sy.fltG r) w e w':=by
 cases r with
 | ok a i =>
  obtain ⟨C,rfl,hv,hm⟩:=h
  exact ⟨C,rfl,h1 C hv,hm⟩
 | err g =>
  obtain ⟨rfl,hm⟩:=h
  exact ⟨z,rfl,h0 g rfl,hm⟩
section
variable {P:Program} {ops:Array Oper} {rest:List Oper} {o:Oper} {a:Act} {w:World} {Q:Exit->Act->World->Prop}
theorem wpList_load_rowG (hgd:Region.wanted o (yielded ops a.tmps)=true) (ty:TypeId) (x:Operand) (ho:o.op=.load ty x) (g:Nat) (cs:Array Value) (t:TypeId) (fr:Nat × Nat) (hx:a.eval x=.pointer (some ⟨g,0,none⟩)) (hg:w.heap[g]?=some (.cells cs t fr))
  (d:TypeDesc) (hu:P.underlying ty=some d) (hd:(match d with | .struct _ | .array _ _=>true | _=>false)=true) (hi:(P.info? ty).map (·.size)=some cs.size) (h:wpList P ops Q rest (a.put o.dst (.agg cs)) w):wpList P ops Q (o :: rest) a w :=
 wpList_step fun K hK=>by
  rw [if_pos hgd]
  unfold Oper.wp execOp
  simp only [ho,hx,Instr.loadAt,Instr.sureAddr,Sem.run_bind,Sem.run_pure,Result.andThen_ok,run_loadVar_row w g t ty cs fr d hg hu hd hi]
  exact hK _ _ h
end
set_option maxHeartbeats 16000000 in
theorem parts_walk (s:ByteArray) {SU SL SA SF:World->Array Value->Prop} (KU:Kd 5 18 SU) (KL:Kd 30 19 SL) (KA:Kd 2 24 SA) (KF:Kd 2 25 SF) (gu gl ga gf:Sy.Flt)
  (hU1:∀ w,Glob w->Calls Tryz.prog 15 #[.string s] w (EntR SU gu w)) (hU2:∀ w,Calls Tryz.prog 16 #[.string s] w (EntR SU gu w))
  (hL1:∀ w,Glob w->Calls Tryz.prog 14 #[.string s] w (EntR SL gl w)) (hL2:∀ w,Calls Tryz.prog 17 #[.string s] w (EntR SL gl w))
  (hA1:∀ w,Glob w->Calls Tryz.prog 20 #[.string s] w (EntR SA ga w)) (hA2:∀ w,Calls Tryz.prog 21 #[.string s] w (EntR SA ga w))
  (hF1:∀ w,Glob w->Calls Tryz.prog 22 #[.string s] w (EntR SF gf w)) (hF2:∀ w,Calls Tryz.prog 23 #[.string s] w (EntR SF gf w))
  (w:World) (hG:Glob w) :
  Calls Tryz.prog 5 #[.string s] w fun e w'=>e=.returned (.bool true)/\Mod [] w w':=by
 have HU1:=Lib.hid hU1;have HU2:=Lib.hid hU2;have HL1:=Lib.hid hL1;have HL2:=Lib.hid hL2;have HA1:=Lib.hid hA1;have HA2:=Lib.hid hA2;have HF1:=Lib.hid hF1;have HF2:=Lib.hid hF2
 clear hU1 hU2 hL1 hL2 hA1 hA2 hF1 hF2
 obtain ⟨u0,u1,u2⟩:=gu
 obtain ⟨l0,l1,l2⟩:=gl
 obtain ⟨a0,a1,a2⟩:=ga
 obtain ⟨f0,f1,f2⟩:=gf
 go_enter Tryz.func5,Tryz.ntmps5
 go_wp2_with fail
 refine (shown_any w hG).mono ?_
 rintro e0 w0 ⟨rfl,m0⟩
 have M_w0:=Lib.hid m0
 clear m0
 go_wp2_with fail
 refine (HU1.out w0 (hG.past M_w0.out (by simp))).mono ?_
 rintro e1 w1 ⟨CU1,rfl,s,m⟩
 dsimp only
 have ZU1:=Hxq (size_of sizeU (KU.size s));have OU1:=Hxq (KU.one s);have LU1:=Hxq (show (#[Value.string ⟨#[]⟩,Value.slice none 0 0,Value.slice none 0 0,Value.int IntKind.i64 0,Value.int IntKind.i64 0]:Array Value).size=CU1.size by rw [KU.size s];rfl);have SU1_w1:=Lib.hid s;have M_w1:=Hxq (M_w0.out.trans m (by simp))
 skip
 have hz1:=m.size
 clear s m
 go_upto_region 3 with (first | refine wpList_store_at rfl 55 _ _ rfl w1.heap.size CU1 #[Value.string ⟨#[]⟩,Value.slice none 0 0,Value.slice none 0 0,Value.int IntKind.i64 0,Value.int IntKind.i64 0] 55 rfl rfl (two_a w1 #[Value.string ⟨#[]⟩,Value.slice none 0 0,Value.slice none 0 0,Value.int IntKind.i64 0,Value.int IntKind.i64 0] #[.int .i64 0,.int .i64 0,.int .i64 0] 55 31) ZU1.out LU1.out OU1.out ?_ | refine wpList_store_at rfl 31 _ _ rfl (w1.heap.size+1) #[.int .i64 (u0:Nat),.int .i64 (u1:Nat),.int .i64 (u2:Nat)] #[.int .i64 0,.int .i64 0,.int .i64 0] 31 rfl rfl (two_c w1 #[Value.string ⟨#[]⟩,Value.slice none 0 0,Value.slice none 0 0,Value.int IntKind.i64 0,Value.int IntKind.i64 0] #[.int .i64 0,.int .i64 0,.int .i64 0] CU1 55 31) sizeFlt rfl rfl ?_)
 obtain ⟨x,y,n,hz2⟩:=two_vars w1 #[Value.string ⟨#[]⟩,Value.slice none 0 0,Value.slice none 0 0,Value.int IntKind.i64 0,Value.int IntKind.i64 0] #[.int .i64 0,.int .i64 0,.int .i64 0] CU1 #[.int .i64 (u0:Nat),.int .i64 (u1:Nat),.int .i64 (u2:Nat)] 55 31
 generalize (((w1.alloc _).alloc _).setRow _ _).setRow _ _=w2 at *
 have M_w2:=Hxq (M_w1.out.trans n (by simp));have EU1_w2:=Lib.hid x;have FU1_w2:=Lib.hid y
 have SU1_w2:=Hxq (KU.keep SU1_w1.out n)
 clear SU1_w1
 clear x y n
 go_wp2_with fail
 refine (HU2.out w2).mono ?_
 rintro e3 w3 ⟨CU2,rfl,s,m⟩
 dsimp only
 have ZU2:=Hxq (size_of sizeU (KU.size s));have OU2:=Hxq (KU.one s);have LU2:=Hxq (show (#[Value.string ⟨#[]⟩,Value.slice none 0 0,Value.slice none 0 0,Value.int IntKind.i64 0,Value.int IntKind.i64 0]:Array Value).size=CU2.size by rw [KU.size s];rfl);have SU2_w3:=Lib.hid s;have M_w3:=Hxq (M_w2.out.trans m (by simp))
 have SU1_w3:=Hxq (KU.keep SU1_w2.out m);have EU1_w3:=Hxq (m.at EU1_w2.out (by simp));have FU1_w3:=Hxq (m.at FU1_w2.out (by simp))
 clear SU1_w2 EU1_w2 FU1_w2
 have hz3:=m.size
 clear s m
 go_upto_region 4 with (first | refine wpList_store_at rfl 55 _ _ rfl w3.heap.size CU2 #[Value.string ⟨#[]⟩,Value.slice none 0 0,Value.slice none 0 0,Value.int IntKind.i64 0,Value.int IntKind.i64 0] 55 rfl rfl (two_a w3 #[Value.string ⟨#[]⟩,Value.slice none 0 0,Value.slice none 0 0,Value.int IntKind.i64 0,Value.int IntKind.i64 0] #[.int .i64 0,.int .i64 0,.int .i64 0] 55 31) ZU2.out LU2.out OU2.out ?_ | refine wpList_store_at rfl 31 _ _ rfl (w3.heap.size+1) #[.int .i64 (u0:Nat),.int .i64 (u1:Nat),.int .i64 (u2:Nat)] #[.int .i64 0,.int .i64 0,.int .i64 0] 31 rfl rfl (two_c w3 #[Value.string ⟨#[]⟩,Value.slice none 0 0,Value.slice none 0 0,Value.int IntKind.i64 0,Value.int IntKind.i64 0] #[.int .i64 0,.int .i64 0,.int .i64 0] CU2 55 31) sizeFlt rfl rfl ?_)
 obtain ⟨x,y,n,hz4⟩:=two_vars w3 #[Value.string ⟨#[]⟩,Value.slice none 0 0,Value.slice none 0 0,Value.int IntKind.i64 0,Value.int IntKind.i64 0] #[.int .i64 0,.int .i64 0,.int .i64 0] CU2 #[.int .i64 (u0:Nat),.int .i64 (u1:Nat),.int .i64 (u2:Nat)] 55 31
 generalize (((w3.alloc _).alloc _).setRow _ _).setRow _ _=w4 at *
 have M_w4:=Hxq (M_w3.out.trans n (by simp));have EU2_w4:=Lib.hid x;have FU2_w4:=Lib.hid y
 have SU1_w4:=Hxq (KU.keep SU1_w3.out n);have EU1_w4:=Hxq (n.at EU1_w3.out (by simp));have FU1_w4:=Hxq (n.at FU1_w3.out (by simp));have SU2_w4:=Hxq (KU.keep SU2_w3.out n)
 clear SU1_w3 EU1_w3 FU1_w3 SU2_w3
 clear x y n
 go_wp2_with fail
 refine (HL1.out w4 (hG.past M_w4.out (by simp))).mono ?_
 rintro e5 w5 ⟨CL1,rfl,s,m⟩
 dsimp only
 have ZL1:=Hxq (size_of sizeL (KL.size s));have OL1:=Hxq (KL.one s);have LL1:=Hxq (show (#[Value.int IntKind.i64 0,Value.string ⟨#[]⟩,Value.slice none 0 0,Value.int IntKind.i64 0,Value.int IntKind.i64 0,Value.string ⟨#[]⟩,Value.int IntKind.i64 0,Value.int IntKind.i64 0,Value.string ⟨#[]⟩,Value.int IntKind.i64 0,Value.slice none 0 0,Value.int IntKind.i64 0,Value.string ⟨#[]⟩,Value.int IntKind.i64 0,Value.int IntKind.i64 0,Value.string ⟨#[]⟩,Value.int IntKind.i64 0,Value.slice none 0 0,Value.int IntKind.i64 0,Value.string ⟨#[]⟩,Value.int IntKind.i64 0,Value.string ⟨#[]⟩,Value.int IntKind.i64 0,Value.int IntKind.i64 0,Value.string ⟨#[]⟩,Value.int IntKind.i64 0,Value.slice none 0 0,Value.slice none 0 0,Value.int IntKind.i64 0,Value.int IntKind.i64 0]:Array Value).size=CL1.size by rw [KL.size s];rfl);have SL1_w5:=Lib.hid s;have M_w5:=Hxq (M_w4.out.trans m (by simp))
 have SU1_w5:=Hxq (KU.keep SU1_w4.out m);have EU1_w5:=Hxq (m.at EU1_w4.out (by simp));have FU1_w5:=Hxq (m.at FU1_w4.out (by simp));have SU2_w5:=Hxq (KU.keep SU2_w4.out m);have EU2_w5:=Hxq (m.at EU2_w4.out (by simp));have FU2_w5:=Hxq (m.at FU2_w4.out (by simp))
 clear SU1_w4 EU1_w4 FU1_w4 SU2_w4 EU2_w4 FU2_w4
 have hz5:=m.size
 clear s m
 go_upto_region 5 with (first | refine wpList_store_at rfl 50 _ _ rfl w5.heap.size CL1 #[Value.int IntKind.i64 0,Value.string ⟨#[]⟩,Value.slice none 0 0,Value.int IntKind.i64 0,Value.int IntKind.i64 0,Value.string ⟨#[]⟩,Value.int IntKind.i64 0,Value.int IntKind.i64 0,Value.string ⟨#[]⟩,Value.int IntKind.i64 0,Value.slice none 0 0,Value.int IntKind.i64 0,Value.string ⟨#[]⟩,Value.int IntKind.i64 0,Value.int IntKind.i64 0,Value.string ⟨#[]⟩,Value.int IntKind.i64 0,Value.slice none 0 0,Value.int IntKind.i64 0,Value.string ⟨#[]⟩,Value.int IntKind.i64 0,Value.string ⟨#[]⟩,Value.int IntKind.i64 0,Value.int IntKind.i64 0,Value.string ⟨#[]⟩,Value.int IntKind.i64 0,Value.slice none 0 0,Value.slice none 0 0,Value.int IntKind.i64 0,Value.int IntKind.i64 0] 50 rfl rfl (two_a w5 #[Value.int IntKind.i64 0,Value.string ⟨#[]⟩,Value.slice none 0 0,Value.int IntKind.i64 0,Value.int IntKind.i64 0,Value.string ⟨#[]⟩,Value.int IntKind.i64 0,Value.int IntKind.i64 0,Value.string ⟨#[]⟩,Value.int IntKind.i64 0,Value.slice none 0 0,Value.int IntKind.i64 0,Value.string ⟨#[]⟩,Value.int IntKind.i64 0,Value.int IntKind.i64 0,Value.string ⟨#[]⟩,Value.int IntKind.i64 0,Value.slice none 0 0,Value.int IntKind.i64 0,Value.string ⟨#[]⟩,Value.int IntKind.i64 0,Value.string ⟨#[]⟩,Value.int IntKind.i64 0,Value.int IntKind.i64 0,Value.string ⟨#[]⟩,Value.int IntKind.i64 0,Value.slice none 0 0,Value.slice none 0 0,Value.int IntKind.i64 0,Value.int IntKind.i64 0] #[.int .i64 0,.int .i64 0,.int .i64 0] 50 31) ZL1.out LL1.out OL1.out ?_ | refine wpList_store_at rfl 31 _ _ rfl (w5.heap.size+1) #[.int .i64 (l0:Nat),.int .i64 (l1:Nat),.int .i64 (l2:Nat)] #[.int .i64 0,.int .i64 0,.int .i64 0] 31 rfl rfl (two_c w5 #[Value.int IntKind.i64 0,Value.string ⟨#[]⟩,Value.slice none 0 0,Value.int IntKind.i64 0,Value.int IntKind.i64 0,Value.string ⟨#[]⟩,Value.int IntKind.i64 0,Value.int IntKind.i64 0,Value.string ⟨#[]⟩,Value.int IntKind.i64 0,Value.slice none 0 0,Value.int IntKind.i64 0,Value.string ⟨#[]⟩,Value.int IntKind.i64 0,Value.int IntKind.i64 0,Value.string ⟨#[]⟩,Value.int IntKind.i64 0,Value.slice none 0 0,Value.int IntKind.i64 0,Value.string ⟨#[]⟩,Value.int IntKind.i64 0,Value.string ⟨#[]⟩,Value.int IntKind.i64 0,Value.int IntKind.i64 0,Value.string ⟨#[]⟩,Value.int IntKind.i64 0,Value.slice none 0 0,Value.slice none 0 0,Value.int IntKind.i64 0,Value.int IntKind.i64 0] #[.int .i64 0,.int .i64 0,.int .i64 0] CL1 50 31) sizeFlt rfl rfl ?_)
 obtain ⟨x,y,n,hz6⟩:=two_vars w5 #[Value.int IntKind.i64 0,Value.string ⟨#[]⟩,Value.slice none 0 0,Value.int IntKind.i64 0,Value.int IntKind.i64 0,Value.string ⟨#[]⟩,Value.int IntKind.i64 0,Value.int IntKind.i64 0,Value.string ⟨#[]⟩,Value.int IntKind.i64 0,Value.slice none 0 0,Value.int IntKind.i64 0,Value.string ⟨#[]⟩,Value.int IntKind.i64 0,Value.int IntKind.i64 0,Value.string ⟨#[]⟩,Value.int IntKind.i64 0,Value.slice none 0 0,Value.int IntKind.i64 0,Value.string ⟨#[]⟩,Value.int IntKind.i64 0,Value.string ⟨#[]⟩,Value.int IntKind.i64 0,Value.int IntKind.i64 0,Value.string ⟨#[]⟩,Value.int IntKind.i64 0,Value.slice none 0 0,Value.slice none 0 0,Value.int IntKind.i64 0,Value.int IntKind.i64 0] #[.int .i64 0,.int .i64 0,.int .i64 0] CL1 #[.int .i64 (l0:Nat),.int .i64 (l1:Nat),.int .i64 (l2:Nat)] 50 31
 generalize (((w5.alloc _).alloc _).setRow _ _).setRow _ _=w6 at *
 have M_w6:=Hxq (M_w5.out.trans n (by simp));have EL1_w6:=Lib.hid x;have FL1_w6:=Lib.hid y
 have SU1_w6:=Hxq (KU.keep SU1_w5.out n);have EU1_w6:=Hxq (n.at EU1_w5.out (by simp));have FU1_w6:=Hxq (n.at FU1_w5.out (by simp));have SU2_w6:=Hxq (KU.keep SU2_w5.out n);have EU2_w6:=Hxq (n.at EU2_w5.out (by simp));have FU2_w6:=Hxq (n.at FU2_w5.out (by simp));have SL1_w6:=Hxq (KL.keep SL1_w5.out n)
 clear SU1_w5 EU1_w5 FU1_w5 SU2_w5 EU2_w5 FU2_w5 SL1_w5
 clear x y n
 go_wp2_with fail
 refine (HL2.out w6).mono ?_
 rintro e7 w7 ⟨CL2,rfl,s,m⟩
 dsimp only
 have ZL2:=Hxq (size_of sizeL (KL.size s));have OL2:=Hxq (KL.one s);have LL2:=Hxq (show (#[Value.int IntKind.i64 0,Value.string ⟨#[]⟩,Value.slice none 0 0,Value.int IntKind.i64 0,Value.int IntKind.i64 0,Value.string ⟨#[]⟩,Value.int IntKind.i64 0,Value.int IntKind.i64 0,Value.string ⟨#[]⟩,Value.int IntKind.i64 0,Value.slice none 0 0,Value.int IntKind.i64 0,Value.string ⟨#[]⟩,Value.int IntKind.i64 0,Value.int IntKind.i64 0,Value.string ⟨#[]⟩,Value.int IntKind.i64 0,Value.slice none 0 0,Value.int IntKind.i64 0,Value.string ⟨#[]⟩,Value.int IntKind.i64 0,Value.string ⟨#[]⟩,Value.int IntKind.i64 0,Value.int IntKind.i64 0,Value.string ⟨#[]⟩,Value.int IntKind.i64 0,Value.slice none 0 0,Value.slice none 0 0,Value.int IntKind.i64 0,Value.int IntKind.i64 0]:Array Value).size=CL2.size by rw [KL.size s];rfl);have SL2_w7:=Lib.hid s;have M_w7:=Hxq (M_w6.out.trans m (by simp))
 have SU1_w7:=Hxq (KU.keep SU1_w6.out m);have EU1_w7:=Hxq (m.at EU1_w6.out (by simp));have FU1_w7:=Hxq (m.at FU1_w6.out (by simp));have SU2_w7:=Hxq (KU.keep SU2_w6.out m);have EU2_w7:=Hxq (m.at EU2_w6.out (by simp));have FU2_w7:=Hxq (m.at FU2_w6.out (by simp));have SL1_w7:=Hxq (KL.keep SL1_w6.out m);have EL1_w7:=Hxq (m.at EL1_w6.out (by simp));have FL1_w7:=Hxq (m.at FL1_w6.out (by simp))
 clear SU1_w6 EU1_w6 FU1_w6 SU2_w6 EU2_w6 FU2_w6 SL1_w6 EL1_w6 FL1_w6
 have hz7:=m.size
 clear s m
 go_upto_region 6 with (first | refine wpList_store_at rfl 50 _ _ rfl w7.heap.size CL2 #[Value.int IntKind.i64 0,Value.string ⟨#[]⟩,Value.slice none 0 0,Value.int IntKind.i64 0,Value.int IntKind.i64 0,Value.string ⟨#[]⟩,Value.int IntKind.i64 0,Value.int IntKind.i64 0,Value.string ⟨#[]⟩,Value.int IntKind.i64 0,Value.slice none 0 0,Value.int IntKind.i64 0,Value.string ⟨#[]⟩,Value.int IntKind.i64 0,Value.int IntKind.i64 0,Value.string ⟨#[]⟩,Value.int IntKind.i64 0,Value.slice none 0 0,Value.int IntKind.i64 0,Value.string ⟨#[]⟩,Value.int IntKind.i64 0,Value.string ⟨#[]⟩,Value.int IntKind.i64 0,Value.int IntKind.i64 0,Value.string ⟨#[]⟩,Value.int IntKind.i64 0,Value.slice none 0 0,Value.slice none 0 0,Value.int IntKind.i64 0,Value.int IntKind.i64 0] 50 rfl rfl (two_a w7 #[Value.int IntKind.i64 0,Value.string ⟨#[]⟩,Value.slice none 0 0,Value.int IntKind.i64 0,Value.int IntKind.i64 0,Value.string ⟨#[]⟩,Value.int IntKind.i64 0,Value.int IntKind.i64 0,Value.string ⟨#[]⟩,Value.int IntKind.i64 0,Value.slice none 0 0,Value.int IntKind.i64 0,Value.string ⟨#[]⟩,Value.int IntKind.i64 0,Value.int IntKind.i64 0,Value.string ⟨#[]⟩,Value.int IntKind.i64 0,Value.slice none 0 0,Value.int IntKind.i64 0,Value.string ⟨#[]⟩,Value.int IntKind.i64 0,Value.string ⟨#[]⟩,Value.int IntKind.i64 0,Value.int IntKind.i64 0,Value.string ⟨#[]⟩,Value.int IntKind.i64 0,Value.slice none 0 0,Value.slice none 0 0,Value.int IntKind.i64 0,Value.int IntKind.i64 0] #[.int .i64 0,.int .i64 0,.int .i64 0] 50 31) ZL2.out LL2.out OL2.out ?_ | refine wpList_store_at rfl 31 _ _ rfl (w7.heap.size+1) #[.int .i64 (l0:Nat),.int .i64 (l1:Nat),.int .i64 (l2:Nat)] #[.int .i64 0,.int .i64 0,.int .i64 0] 31 rfl rfl (two_c w7 #[Value.int IntKind.i64 0,Value.string ⟨#[]⟩,Value.slice none 0 0,Value.int IntKind.i64 0,Value.int IntKind.i64 0,Value.string ⟨#[]⟩,Value.int IntKind.i64 0,Value.int IntKind.i64 0,Value.string ⟨#[]⟩,Value.int IntKind.i64 0,Value.slice none 0 0,Value.int IntKind.i64 0,Value.string ⟨#[]⟩,Value.int IntKind.i64 0,Value.int IntKind.i64 0,Value.string ⟨#[]⟩,Value.int IntKind.i64 0,Value.slice none 0 0,Value.int IntKind.i64 0,Value.string ⟨#[]⟩,Value.int IntKind.i64 0,Value.string ⟨#[]⟩,Value.int IntKind.i64 0,Value.int IntKind.i64 0,Value.string ⟨#[]⟩,Value.int IntKind.i64 0,Value.slice none 0 0,Value.slice none 0 0,Value.int IntKind.i64 0,Value.int IntKind.i64 0] #[.int .i64 0,.int .i64 0,.int .i64 0] CL2 50 31) sizeFlt rfl rfl ?_)
 obtain ⟨x,y,n,hz8⟩:=two_vars w7 #[Value.int IntKind.i64 0,Value.string ⟨#[]⟩,Value.slice none 0 0,Value.int IntKind.i64 0,Value.int IntKind.i64 0,Value.string ⟨#[]⟩,Value.int IntKind.i64 0,Value.int IntKind.i64 0,Value.string ⟨#[]⟩,Value.int IntKind.i64 0,Value.slice none 0 0,Value.int IntKind.i64 0,Value.string ⟨#[]⟩,Value.int IntKind.i64 0,Value.int IntKind.i64 0,Value.string ⟨#[]⟩,Value.int IntKind.i64 0,Value.slice none 0 0,Value.int IntKind.i64 0,Value.string ⟨#[]⟩,Value.int IntKind.i64 0,Value.string ⟨#[]⟩,Value.int IntKind.i64 0,Value.int IntKind.i64 0,Value.string ⟨#[]⟩,Value.int IntKind.i64 0,Value.slice none 0 0,Value.slice none 0 0,Value.int IntKind.i64 0,Value.int IntKind.i64 0] #[.int .i64 0,.int .i64 0,.int .i64 0] CL2 #[.int .i64 (l0:Nat),.int .i64 (l1:Nat),.int .i64 (l2:Nat)] 50 31
 generalize (((w7.alloc _).alloc _).setRow _ _).setRow _ _=w8 at *
 have M_w8:=Hxq (M_w7.out.trans n (by simp));have EL2_w8:=Lib.hid x;have FL2_w8:=Lib.hid y
 have SU1_w8:=Hxq (KU.keep SU1_w7.out n);have EU1_w8:=Hxq (n.at EU1_w7.out (by simp));have FU1_w8:=Hxq (n.at FU1_w7.out (by simp));have SU2_w8:=Hxq (KU.keep SU2_w7.out n);have EU2_w8:=Hxq (n.at EU2_w7.out (by simp));have FU2_w8:=Hxq (n.at FU2_w7.out (by simp));have SL1_w8:=Hxq (KL.keep SL1_w7.out n);have EL1_w8:=Hxq (n.at EL1_w7.out (by simp));have FL1_w8:=Hxq (n.at FL1_w7.out (by simp));have SL2_w8:=Hxq (KL.keep SL2_w7.out n)
 clear SU1_w7 EU1_w7 FU1_w7 SU2_w7 EU2_w7 FU2_w7 SL1_w7 EL1_w7 FL1_w7 SL2_w7
 clear x y n
 have fU10:=cell_at FU1_w8.out 0;have fU11:=cell_at FU1_w8.out 1;have fU12:=cell_at FU1_w8.out 2
 simp only [List.getElem?_toArray,List.getElem?_cons_zero,List.getElem?_cons_succ] at fU10 fU11 fU12
 have fU20:=cell_at FU2_w8.out 0;have fU21:=cell_at FU2_w8.out 1;have fU22:=cell_at FU2_w8.out 2
 simp only [List.getElem?_toArray,List.getElem?_cons_zero,List.getElem?_cons_succ] at fU20 fU21 fU22
 have nU0:((u0:Int) != (u0:Int))=false:=by simp
 have nU1:((u1:Int) != (u1:Int))=false:=by simp
 have nU2:((u2:Int) != (u2:Int))=false:=by simp
 have fL10:=cell_at FL1_w8.out 0;have fL11:=cell_at FL1_w8.out 1;have fL12:=cell_at FL1_w8.out 2
 simp only [List.getElem?_toArray,List.getElem?_cons_zero,List.getElem?_cons_succ] at fL10 fL11 fL12
 have fL20:=cell_at FL2_w8.out 0;have fL21:=cell_at FL2_w8.out 1;have fL22:=cell_at FL2_w8.out 2
 simp only [List.getElem?_toArray,List.getElem?_cons_zero,List.getElem?_cons_succ] at fL20 fL21 fL22
 have nL0:((l0:Int) != (l0:Int))=false:=by simp
 have nL1:((l1:Int) != (l1:Int))=false:=by simp
 have nL2:((l2:Int) != (l2:Int))=false:=by simp
 go_wp2_with (first | refine wpList_load_rowG (by rfl) 55 _ rfl w1.heap.size CU1 55 (0,0) rfl EU1_w8.out _ Tryz.underlying55 rfl ZU1.out ?_ | refine wpList_load_rowG (by rfl) 55 _ rfl w3.heap.size CU2 55 (0,0) rfl EU2_w8.out _ Tryz.underlying55 rfl ZU2.out ?_)
 refine (KU.same SU1_w8.out SU2_w8.out).mono ?_
 rintro e9 w9 ⟨rfl,m⟩
 clear fU10 fU11 fU12 fU20 fU21 fU22 fL10 fL11 fL12 fL20 fL21 fL22
 have M_w9:=Hxq (M_w8.out.trans m (by simp))
 have SL1_w9:=Hxq (KL.keep SL1_w8.out m);have EL1_w9:=Hxq (m.at EL1_w8.out (by simp));have FL1_w9:=Hxq (m.at FL1_w8.out (by simp));have SL2_w9:=Hxq (KL.keep SL2_w8.out m);have EL2_w9:=Hxq (m.at EL2_w8.out (by simp));have FL2_w9:=Hxq (m.at FL2_w8.out (by simp))
 clear SL1_w8 EL1_w8 FL1_w8 SL2_w8 EL2_w8 FL2_w8
 clear m
 go_wp2_with (first | refine wpList_load_rowG (by rfl) 50 _ rfl w5.heap.size CL1 50 (0,0) rfl EL1_w9.out _ Tryz.underlying50 rfl ZL1.out ?_ | refine wpList_load_rowG (by rfl) 50 _ rfl w7.heap.size CL2 50 (0,0) rfl EL2_w9.out _ Tryz.underlying50 rfl ZL2.out ?_)
 refine (KL.same SL1_w9.out SL2_w9.out).mono ?_
 rintro e10 w10 ⟨rfl,m⟩
 have M_w10:=Hxq (M_w9.out.trans m (by simp))
 skip
 clear m
 go_wp2_with fail
 refine (HA1.out w10 (hG.past M_w10.out (by simp))).mono ?_
 rintro e11 w11 ⟨CA1,rfl,s,m⟩
 dsimp only
 have ZA1:=Hxq (size_of sizeA (KA.size s));have OA1:=Hxq (KA.one s);have LA1:=Hxq (show (#[Value.string ⟨#[]⟩,Value.slice none 0 0]:Array Value).size=CA1.size by rw [KA.size s];rfl);have SA1_w11:=Lib.hid s;have M_w11:=Hxq (M_w10.out.trans m (by simp))
 skip
 have hz11:=m.size
 clear s m
 go_upto_region 9 with (first | refine wpList_store_at rfl 40 _ _ rfl w11.heap.size CA1 #[Value.string ⟨#[]⟩,Value.slice none 0 0] 40 rfl rfl (two_a w11 #[Value.string ⟨#[]⟩,Value.slice none 0 0] #[.int .i64 0,.int .i64 0,.int .i64 0] 40 31) ZA1.out LA1.out OA1.out ?_ | refine wpList_store_at rfl 31 _ _ rfl (w11.heap.size+1) #[.int .i64 (a0:Nat),.int .i64 (a1:Nat),.int .i64 (a2:Nat)] #[.int .i64 0,.int .i64 0,.int .i64 0] 31 rfl rfl (two_c w11 #[Value.string ⟨#[]⟩,Value.slice none 0 0] #[.int .i64 0,.int .i64 0,.int .i64 0] CA1 40 31) sizeFlt rfl rfl ?_)
 obtain ⟨x,y,n,hz12⟩:=two_vars w11 #[Value.string ⟨#[]⟩,Value.slice none 0 0] #[.int .i64 0,.int .i64 0,.int .i64 0] CA1 #[.int .i64 (a0:Nat),.int .i64 (a1:Nat),.int .i64 (a2:Nat)] 40 31
 generalize (((w11.alloc _).alloc _).setRow _ _).setRow _ _=w12 at *
 have M_w12:=Hxq (M_w11.out.trans n (by simp));have EA1_w12:=Lib.hid x;have FA1_w12:=Lib.hid y
 have SA1_w12:=Hxq (KA.keep SA1_w11.out n)
 clear SA1_w11
 clear x y n
 go_wp2_with fail
 refine (HA2.out w12).mono ?_
 rintro e13 w13 ⟨CA2,rfl,s,m⟩
 dsimp only
 have ZA2:=Hxq (size_of sizeA (KA.size s));have OA2:=Hxq (KA.one s);have LA2:=Hxq (show (#[Value.string ⟨#[]⟩,Value.slice none 0 0]:Array Value).size=CA2.size by rw [KA.size s];rfl);have SA2_w13:=Lib.hid s;have M_w13:=Hxq (M_w12.out.trans m (by simp))
 have SA1_w13:=Hxq (KA.keep SA1_w12.out m);have EA1_w13:=Hxq (m.at EA1_w12.out (by simp));have FA1_w13:=Hxq (m.at FA1_w12.out (by simp))
 clear SA1_w12 EA1_w12 FA1_w12
 have hz13:=m.size
 clear s m
 go_upto_region 10 with (first | refine wpList_store_at rfl 40 _ _ rfl w13.heap.size CA2 #[Value.string ⟨#[]⟩,Value.slice none 0 0] 40 rfl rfl (two_a w13 #[Value.string ⟨#[]⟩,Value.slice none 0 0] #[.int .i64 0,.int .i64 0,.int .i64 0] 40 31) ZA2.out LA2.out OA2.out ?_ | refine wpList_store_at rfl 31 _ _ rfl (w13.heap.size+1) #[.int .i64 (a0:Nat),.int .i64 (a1:Nat),.int .i64 (a2:Nat)] #[.int .i64 0,.int .i64 0,.int .i64 0] 31 rfl rfl (two_c w13 #[Value.string ⟨#[]⟩,Value.slice none 0 0] #[.int .i64 0,.int .i64 0,.int .i64 0] CA2 40 31) sizeFlt rfl rfl ?_)
 obtain ⟨x,y,n,hz14⟩:=two_vars w13 #[Value.string ⟨#[]⟩,Value.slice none 0 0] #[.int .i64 0,.int .i64 0,.int .i64 0] CA2 #[.int .i64 (a0:Nat),.int .i64 (a1:Nat),.int .i64 (a2:Nat)] 40 31
 generalize (((w13.alloc _).alloc _).setRow _ _).setRow _ _=w14 at *
 have M_w14:=Hxq (M_w13.out.trans n (by simp));have EA2_w14:=Lib.hid x;have FA2_w14:=Lib.hid y
 have SA1_w14:=Hxq (KA.keep SA1_w13.out n);have EA1_w14:=Hxq (n.at EA1_w13.out (by simp));have FA1_w14:=Hxq (n.at FA1_w13.out (by simp));have SA2_w14:=Hxq (KA.keep SA2_w13.out n)
 clear SA1_w13 EA1_w13 FA1_w13 SA2_w13
 clear x y n
 go_wp2_with fail
 refine (HF1.out w14 (hG.past M_w14.out (by simp))).mono ?_
 rintro e15 w15 ⟨CF1,rfl,s,m⟩
 dsimp only
 have ZF1:=Hxq (size_of sizeF (KF.size s));have OF1:=Hxq (KF.one s);have LF1:=Hxq (show (#[Value.string ⟨#[]⟩,Value.slice none 0 0]:Array Value).size=CF1.size by rw [KF.size s];rfl);have SF1_w15:=Lib.hid s;have M_w15:=Hxq (M_w14.out.trans m (by simp))
 have SA1_w15:=Hxq (KA.keep SA1_w14.out m);have EA1_w15:=Hxq (m.at EA1_w14.out (by simp));have FA1_w15:=Hxq (m.at FA1_w14.out (by simp));have SA2_w15:=Hxq (KA.keep SA2_w14.out m);have EA2_w15:=Hxq (m.at EA2_w14.out (by simp));have FA2_w15:=Hxq (m.at FA2_w14.out (by simp))
 clear SA1_w14 EA1_w14 FA1_w14 SA2_w14 EA2_w14 FA2_w14
 have hz15:=m.size
 clear s m
 go_upto_region 11 with (first | refine wpList_store_at rfl 64 _ _ rfl w15.heap.size CF1 #[Value.string ⟨#[]⟩,Value.slice none 0 0] 64 rfl rfl (two_a w15 #[Value.string ⟨#[]⟩,Value.slice none 0 0] #[.int .i64 0,.int .i64 0,.int .i64 0] 64 31) ZF1.out LF1.out OF1.out ?_ | refine wpList_store_at rfl 31 _ _ rfl (w15.heap.size+1) #[.int .i64 (f0:Nat),.int .i64 (f1:Nat),.int .i64 (f2:Nat)] #[.int .i64 0,.int .i64 0,.int .i64 0] 31 rfl rfl (two_c w15 #[Value.string ⟨#[]⟩,Value.slice none 0 0] #[.int .i64 0,.int .i64 0,.int .i64 0] CF1 64 31) sizeFlt rfl rfl ?_)
 obtain ⟨x,y,n,hz16⟩:=two_vars w15 #[Value.string ⟨#[]⟩,Value.slice none 0 0] #[.int .i64 0,.int .i64 0,.int .i64 0] CF1 #[.int .i64 (f0:Nat),.int .i64 (f1:Nat),.int .i64 (f2:Nat)] 64 31
 generalize (((w15.alloc _).alloc _).setRow _ _).setRow _ _=w16 at *
 have M_w16:=Hxq (M_w15.out.trans n (by simp));have EF1_w16:=Lib.hid x;have FF1_w16:=Lib.hid y
 have SA1_w16:=Hxq (KA.keep SA1_w15.out n);have EA1_w16:=Hxq (n.at EA1_w15.out (by simp));have FA1_w16:=Hxq (n.at FA1_w15.out (by simp));have SA2_w16:=Hxq (KA.keep SA2_w15.out n);have EA2_w16:=Hxq (n.at EA2_w15.out (by simp));have FA2_w16:=Hxq (n.at FA2_w15.out (by simp));have SF1_w16:=Hxq (KF.keep SF1_w15.out n)
 clear SA1_w15 EA1_w15 FA1_w15 SA2_w15 EA2_w15 FA2_w15 SF1_w15
 clear x y n
 go_wp2_with fail
 refine (HF2.out w16).mono ?_
 rintro e17 w17 ⟨CF2,rfl,s,m⟩
 dsimp only
 have ZF2:=Hxq (size_of sizeF (KF.size s));have OF2:=Hxq (KF.one s);have LF2:=Hxq (show (#[Value.string ⟨#[]⟩,Value.slice none 0 0]:Array Value).size=CF2.size by rw [KF.size s];rfl);have SF2_w17:=Lib.hid s;have M_w17:=Hxq (M_w16.out.trans m (by simp))
 have SA1_w17:=Hxq (KA.keep SA1_w16.out m);have EA1_w17:=Hxq (m.at EA1_w16.out (by simp));have FA1_w17:=Hxq (m.at FA1_w16.out (by simp));have SA2_w17:=Hxq (KA.keep SA2_w16.out m);have EA2_w17:=Hxq (m.at EA2_w16.out (by simp));have FA2_w17:=Hxq (m.at FA2_w16.out (by simp));have SF1_w17:=Hxq (KF.keep SF1_w16.out m);have EF1_w17:=Hxq (m.at EF1_w16.out (by simp));have FF1_w17:=Hxq (m.at FF1_w16.out (by simp))
 clear SA1_w16 EA1_w16 FA1_w16 SA2_w16 EA2_w16 FA2_w16 SF1_w16 EF1_w16 FF1_w16
 have hz17:=m.size
 clear s m
 go_upto_region 12 with (first | refine wpList_store_at rfl 64 _ _ rfl w17.heap.size CF2 #[Value.string ⟨#[]⟩,Value.slice none 0 0] 64 rfl rfl (two_a w17 #[Value.string ⟨#[]⟩,Value.slice none 0 0] #[.int .i64 0,.int .i64 0,.int .i64 0] 64 31) ZF2.out LF2.out OF2.out ?_ | refine wpList_store_at rfl 31 _ _ rfl (w17.heap.size+1) #[.int .i64 (f0:Nat),.int .i64 (f1:Nat),.int .i64 (f2:Nat)] #[.int .i64 0,.int .i64 0,.int .i64 0] 31 rfl rfl (two_c w17 #[Value.string ⟨#[]⟩,Value.slice none 0 0] #[.int .i64 0,.int .i64 0,.int .i64 0] CF2 64 31) sizeFlt rfl rfl ?_)
 obtain ⟨x,y,n,hz18⟩:=two_vars w17 #[Value.string ⟨#[]⟩,Value.slice none 0 0] #[.int .i64 0,.int .i64 0,.int .i64 0] CF2 #[.int .i64 (f0:Nat),.int .i64 (f1:Nat),.int .i64 (f2:Nat)] 64 31
 generalize (((w17.alloc _).alloc _).setRow _ _).setRow _ _=w18 at *
 have M_w18:=Hxq (M_w17.out.trans n (by simp));have EF2_w18:=Lib.hid x;have FF2_w18:=Lib.hid y
 have SA1_w18:=Hxq (KA.keep SA1_w17.out n);have EA1_w18:=Hxq (n.at EA1_w17.out (by simp));have FA1_w18:=Hxq (n.at FA1_w17.out (by simp));have SA2_w18:=Hxq (KA.keep SA2_w17.out n);have EA2_w18:=Hxq (n.at EA2_w17.out (by simp));have FA2_w18:=Hxq (n.at FA2_w17.out (by simp));have SF1_w18:=Hxq (KF.keep SF1_w17.out n);have EF1_w18:=Hxq (n.at EF1_w17.out (by simp));have FF1_w18:=Hxq (n.at FF1_w17.out (by simp));have SF2_w18:=Hxq (KF.keep SF2_w17.out n)
 clear SA1_w17 EA1_w17 FA1_w17 SA2_w17 EA2_w17 FA2_w17 SF1_w17 EF1_w17 FF1_w17 SF2_w17
 clear x y n
 have fA10:=cell_at FA1_w18.out 0;have fA11:=cell_at FA1_w18.out 1;have fA12:=cell_at FA1_w18.out 2
 simp only [List.getElem?_toArray,List.getElem?_cons_zero,List.getElem?_cons_succ] at fA10 fA11 fA12
 have fA20:=cell_at FA2_w18.out 0;have fA21:=cell_at FA2_w18.out 1;have fA22:=cell_at FA2_w18.out 2
 simp only [List.getElem?_toArray,List.getElem?_cons_zero,List.getElem?_cons_succ] at fA20 fA21 fA22
 have nA0:((a0:Int) == (a0:Int))=true:=by simp
 have nA1:((a1:Int) == (a1:Int))=true:=by simp
 have nA2:((a2:Int) == (a2:Int))=true:=by simp
 have fF10:=cell_at FF1_w18.out 0;have fF11:=cell_at FF1_w18.out 1;have fF12:=cell_at FF1_w18.out 2
 simp only [List.getElem?_toArray,List.getElem?_cons_zero,List.getElem?_cons_succ] at fF10 fF11 fF12
 have fF20:=cell_at FF2_w18.out 0;have fF21:=cell_at FF2_w18.out 1;have fF22:=cell_at FF2_w18.out 2
 simp only [List.getElem?_toArray,List.getElem?_cons_zero,List.getElem?_cons_succ] at fF20 fF21 fF22
 have nF0:((f0:Int) == (f0:Int))=true:=by simp
 have nF1:((f1:Int) == (f1:Int))=true:=by simp
 have nF2:((f2:Int) == (f2:Int))=true:=by simp
 go_wp2_with (first | refine wpList_load_rowG (by rfl) 40 _ rfl w11.heap.size CA1 40 (0,0) rfl EA1_w18.out _ Tryz.underlying40 rfl ZA1.out ?_ | refine wpList_load_rowG (by rfl) 40 _ rfl w13.heap.size CA2 40 (0,0) rfl EA2_w18.out _ Tryz.underlying40 rfl ZA2.out ?_)
 refine (KA.same SA1_w18.out SA2_w18.out).mono ?_
 rintro e19 w19 ⟨rfl,m⟩
 clear fA10 fA11 fA12 fA20 fA21 fA22 fF10 fF11 fF12 fF20 fF21 fF22
 have M_w19:=Hxq (M_w18.out.trans m (by simp))
 have SF1_w19:=Hxq (KF.keep SF1_w18.out m);have EF1_w19:=Hxq (m.at EF1_w18.out (by simp));have SF2_w19:=Hxq (KF.keep SF2_w18.out m);have EF2_w19:=Hxq (m.at EF2_w18.out (by simp))
 clear SF1_w18 EF1_w18 SF2_w18 EF2_w18
 clear m
 go_wp2_with (first | refine wpList_load_rowG (by rfl) 64 _ rfl w15.heap.size CF1 64 (0,0) rfl EF1_w19.out _ Tryz.underlying64 rfl ZF1.out ?_ | refine wpList_load_rowG (by rfl) 64 _ rfl w17.heap.size CF2 64 (0,0) rfl EF2_w19.out _ Tryz.underlying64 rfl ZF2.out ?_)
 refine (KF.same SF1_w19.out SF2_w19.out).mono ?_
 rintro e20 w20 ⟨rfl,m⟩
 have M_w20:=Hxq (M_w19.out.trans m (by simp))
 skip
 clear m
 go_wp2_with fail
 go_ret
 exact ⟨rfl,M_w20.out⟩
def SU_ (r:Pr.Rul) (w:World) (C:Array Value):Prop:=∃ tu ub,C=ruV r tu ub/\RowB (fun _=>True) w 5 tmV r.head.terms tu/\BB (fun _=>True) w r.body ub
def SL_ (r:Pr.Li) (w:World) (C:Array Value):Prop:=∃ U,C=liV r U/\LB (fun _=>True) w r U
def SA_ (r:Pr.Atom) (w:World) (C:Array Value):Prop:=∃ u,C=#[.string r.rel,u]/\RowB (fun _=>True) w 5 tmV r.terms u
def SF_ (r:ByteArray × List Va.Val) (w:World) (C:Array Value):Prop:=∃ u,C=#[.string r.1,u]/\RowB (fun _=>True) w 3 valV r.2 u
theorem kdU (r:Pr.Rul) (h1:r.head.terms.length<=140737488355328) (h2:r.body.length<=140737488355328) (h3:liMs r.body<=140737488355328):Kd 5 18 (SU_ r) where
 size:=fun ⟨_,_,e,_⟩=>by rw [e];rfl
 one:=fun ⟨tu,ub,e,ht,hb⟩=>by
  obtain ⟨a,c,rfl⟩:=ht.lit
  obtain ⟨a2,c2,rfl⟩:=hb.lit
  rw [e];rfl
 keep:=fun ⟨tu,ub,e,ht,hb⟩ m=>⟨tu,ub,e,ht.keep m (by simp),hb.keep m (by simp)⟩
 same:=fun ⟨tu,ub,e,ht,hb⟩ ⟨tu',ub',e',ht',hb'⟩=>by
  rw [e,e']
  exact sameRule_any r h1 h2 h3 _ _ _ _ _ ht hb ht' hb'
theorem kdL (r:Pr.Li) (h1:liMs [r]<=140737488355328):Kd 30 19 (SL_ r) where
 size:=fun ⟨U,e,h⟩=>by rw [e];exact liV_size (r,U)
 one:=fun ⟨U,e,h⟩=>by
  rw [e,List.all_eq_true]
  exact fun x hx=>liV_one (r,U) h x hx
 keep:=fun ⟨U,e,h⟩ m=>⟨U,e,h.keep m (by simp)⟩
 same:=fun ⟨U,e,h⟩ ⟨U',e',h'⟩=>by
  rw [e,e']
  exact sameLiteral_any r h1 U U' _ h h'
theorem kdA (r:Pr.Atom) (h1:r.terms.length<=140737488355328):Kd 2 24 (SA_ r) where
 size:=fun ⟨_,e,_⟩=>by rw [e];rfl
 one:=fun ⟨u,e,h⟩=>by
  obtain ⟨a,c,rfl⟩:=h.lit
  rw [e];rfl
 keep:=fun ⟨u,e,h⟩ m=>⟨u,e,h.keep m (by simp)⟩
 same:=fun ⟨u,e,h⟩ ⟨u',e',h'⟩=>by
  rw [e,e']
  exact sameAtom_any r h1 u u' _ h h'
theorem kdF (r:ByteArray × List Va.Val) (h1:r.2.length<=140737488355328):Kd 2 25 (SF_ r) where
 size:=fun ⟨_,e,_⟩=>by rw [e];rfl
 one:=fun ⟨u,e,h⟩=>by
  obtain ⟨a,c,rfl⟩:=h.lit
  rw [e];rfl
 keep:=fun ⟨u,e,h⟩ m=>⟨u,e,h.keep m (by simp)⟩
 same:=fun ⟨u,e,h⟩ ⟨u',e',h'⟩=>by
  rw [e,e']
  exact sameFact_any r h1 u u' _ h h'
theorem su_of {r:Sy.PR Pr.Rul} {n:Nat} {w w':World} {e:Ending} (h:AllRes r (valR n) (.agg #[Value.string ⟨#[]⟩,Value.slice none 0 0,Value.slice none 0 0,Value.int IntKind.i64 0,Value.int IntKind.i64 0]) w e w'):EntR (SU_ (Sy.valOf Sy.ru0 r)) (Sy.fltG r) w e w' :=
 AllRes.entR h (fun C ⟨tu,ub,e,h1,h2⟩=>⟨tu,ub,by simpa using e,h1.mono (fun _ _ _=>trivial),h2.mono (fun _ _ _=>trivial)⟩) (fun g hg=>by subst hg;exact ⟨.slice none 0 0,.slice none 0 0,rfl,.nil,.nil⟩)
theorem sa_of {r:Sy.PR Pr.Atom} {n:Nat} {w w':World} {e:Ending} (h:AllRes r (valA n) (.agg #[Value.string ⟨#[]⟩,Value.slice none 0 0]) w e w'):EntR (SA_ (Sy.valOf Sy.at0 r)) (Sy.fltG r) w e w' :=
 AllRes.entR h (fun C ⟨u,e,h1⟩=>⟨u,by simpa using e,h1.mono (fun _ _ _=>trivial)⟩) (fun g hg=>by subst hg;exact ⟨.slice none 0 0,rfl,.nil⟩)
theorem sf_of {r:Sy.PR (ByteArray × List Va.Val)} {n:Nat} {w w':World} {e:Ending} (h:AllRes r (valF n) (.agg #[Value.string ⟨#[]⟩,Value.slice none 0 0]) w e w'):EntR (SF_ (Sy.valOf (Sy.txt [],[]) r)) (Sy.fltG r) w e w' :=
 AllRes.entR h (fun C ⟨u,e,h1⟩=>⟨u,by simpa using e,h1.mono (fun _ _ _=>trivial)⟩) (fun g hg=>by subst hg;exact ⟨.slice none 0 0,rfl,.nil⟩)
theorem sl_of {r:Sy.PR Pr.Li} {n:Nat} {w w':World} {e:Ending} (h:AllRes r (valL n) (.agg #[Value.int IntKind.i64 0,Value.string ⟨#[]⟩,Value.slice none 0 0,Value.int IntKind.i64 0,Value.int IntKind.i64 0,Value.string ⟨#[]⟩,Value.int IntKind.i64 0,Value.int IntKind.i64 0,Value.string ⟨#[]⟩,Value.int IntKind.i64 0,Value.slice none 0 0,Value.int IntKind.i64 0,Value.string ⟨#[]⟩,Value.int IntKind.i64 0,Value.int IntKind.i64 0,Value.string ⟨#[]⟩,Value.int IntKind.i64 0,Value.slice none 0 0,Value.int IntKind.i64 0,Value.string ⟨#[]⟩,Value.int IntKind.i64 0,Value.string ⟨#[]⟩,Value.int IntKind.i64 0,Value.int IntKind.i64 0,Value.string ⟨#[]⟩,Value.int IntKind.i64 0,Value.slice none 0 0,Value.slice none 0 0,Value.int IntKind.i64 0,Value.int IntKind.i64 0]) w e w'):EntR (SL_ (Sy.valOf Sy.li0 r)) (Sy.fltG r) w e w' :=
 AllRes.entR h (fun C ⟨U,e,h1⟩=>⟨U,by simpa using e,h1.mono (fun _ _ _=>trivial)⟩) (fun g hg=>by
  subst hg
  exact ⟨⟨.slice none 0 0,.slice none 0 0,.slice none 0 0,.slice none 0 0,.slice none 0 0⟩,rfl,.mk .nil .nil .nil .nil rfl (fun i h=>by simp at h) (fun i h=>by simp at h) (us:=fun _=>⟨.slice none 0 0,.slice none 0 0,.slice none 0 0,.slice none 0 0,.slice none 0 0⟩)⟩)
theorem SyntaxParts_any (s:ByteArray) (hs:s.size<=140737488351232) (w:World) (hG:Glob w) :
  Calls Tryz.prog 5 #[.string s] w fun e w'=>e=.returned (.bool true)/\Mod [] w w':=by
 have hv:=(Sy.env_toks (Cod.str s) (Cod.str_lt s)).2
 have hru:=Sy.ru_M hv
 exact parts_walk s (kdU _ hru.1 hru.2.1 hru.2.2) (kdL _ (Sy.li_M hv)) (kdA _ (Sy.at_M hv)) (kdF _ (Sy.fc_M hv)) _ _ _ _
  (fun w hG=>(entU_any s (by omega) w hG).mono fun _ _ h=>su_of h) (fun w=>(rentRule_any s (by omega) w).mono fun _ _ h=>su_of h)
  (fun w hG=>(entL_any s (by omega) w hG).mono fun _ _ h=>sl_of h) (fun w=>(rentLiteral_any s (by omega) w).mono fun _ _ h=>sl_of h)
  (fun w hG=>(entA_any s (by omega) w hG).mono fun _ _ h=>sa_of h) (fun w=>(rentAtom_any s (by omega) w).mono fun _ _ h=>sa_of h)
  (fun w hG=>(entF_any s (by omega) w hG).mono fun _ _ h=>sf_of h) (fun w=>(rentFact_any s (by omega) w).mono fun _ _ h=>sf_of h) w hG
end Go.Proofs.YtppigckioalhhaaGreatDoorR
