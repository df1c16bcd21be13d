/- THE TEXTS MERGED: SyPieces. -/
import Derived.Test.YtppigckioalhhaaGreatDoorRKP1
import Derived.Test.YtppigckioalhhaaGreatDoorRKP22
import Derived.Test.YtppigckioalhhaaGreatDoorRKP24
import Derived.Test.YtppigckioalhhaaGreatDoorRKP28
import Derived.Test.YtppigckioalhhaaGreatDoorRKP19
import Derived.Deep.DeepCutAuto
import Derived.Deep.DrawnRows
import Derived.IntWalk
namespace Go.Proofs.YtppigckioalhhaaGreatDoorR
open Go.RowKit
set_option linter.unusedVariables false
set_option linter.unusedSimpArgs false
set_option maxRecDepth 100000
attribute [local go_sem ↓] Go.wp_at_zero Go.wp_at_succ
/-- one of a body's literals, as a body -/
theorem BB.sub {F:Nat->Prop} {w:World} {l:List Pr.Li} {g off c c2:Nat} (h:BB F w l (.slice (some ⟨g,off,none⟩) l.length c)) (k:Nat) (hk:k<l.length) (hc2:1<=c2):BB F w [l[k]] (.slice (some ⟨g,off+k * 30,none⟩) 1 c2):=by
 obtain ⟨ub,cb,us,hu,h1,h2,-⟩:=h
 simp only [Value.slice.injEq] at hu
 obtain ⟨g1,o1,hu2,hF,hg,hc⟩:=h1 k hk
 have e:=hu.1.trans hu2
 simp only [Option.some.injEq,Addr.mk.injEq] at e
 obtain ⟨rfl,rfl,-⟩:=e
 refine ⟨_,_,fun _=>us k,rfl,fun i hi=>⟨g,off+k * 30,rfl,hF,hg,?_⟩,fun i hi=>?_,hc2⟩
 ·obtain rfl:i=0:=by simp at hi;omega
  simpa using hc
 ·obtain rfl:i=0:=by simp at hi;omega
  exact h2 k hk
theorem Sy.tk_ws (v:Sy.Env) {i:Nat} (hi:i<v.ws.length):v.tk i=v.ws[i]:=by
 unfold Sy.Env.tk
 rw [List.getD_eq_getElem?_getD,List.getElem?_eq_getElem hi]
 rfl
theorem mod_of {w w':World} (h:Mod [] w w') (o:Obj):Mod [] w' (w'.alloc o):=(Mod.refl [] w').alloc o
theorem new_of {w w':World} (h:Mod [] w w') (o:Obj):(w'.alloc o).heap[w'.heap.size]?=some o:=heap_alloc_new w' o
theorem row_of {w:World} {g:Nat} {Z:Array Value} {T:TypeId} (h:w.heap[g]?=some (.cells Z T (0,0))) (C:Array Value):Mod [g] w (w.setRow g C)/\(w.setRow g C).heap[g]?=some (.cells C T (0,0)):=⟨Mod.setRow w g C,setRow_heap w g Z C T _ h⟩
theorem ne_of {w:World} {a b:Nat} {o p:Obj} (h1:w.heap[a]?=some o) (h2:w.heap[b]?=some p) (h:b≠a):b∉[a]:=by simpa using h
def VLr (n m:Nat) (x:Pr.Li) (w:World) (C:Array Value):Prop:=∃ U,C=liV x U/\LB (fun k=>n<=k/\k<m) w x U
theorem VLr.of {n:Nat} {x:Pr.Li} {w:World} {C:Array Value} (h:valL n x w (.agg C)):VLr n w.heap.size x w C:=by
 obtain ⟨U,h0,h1⟩:=h
 exact ⟨U,by simpa using h0,h1.mono (fun k hk h2=>⟨hk,h2⟩)⟩
theorem VLr.keep {n m:Nat} {x:Pr.Li} {w w':World} {C:Array Value} {S:List Nat} (h:VLr n m x w C) (hm:Mod S w w') (hS:∀ s∈S,¬ (n<=s/\s<m)):VLr n m x w' C:=by
 obtain ⟨U,h0,h1⟩:=h
 exact ⟨U,h0,h1.keep hm hS⟩
theorem VLr.cells {n m:Nat} {x:Pr.Li} {w:World} {C:Array Value} (h:VLr n m x w C):C.size=30/\C.toList.all (·.oneCell')=true:=by
 obtain ⟨U,h0,h1⟩:=h
 exact valL_cells (n:=n) (a:=x) (w:=w) ⟨U,by rw [h0],h1.mono (fun k hk _=>hk.1)⟩
theorem VLr.all {n m:Nat} {x:Pr.Li} {w:World} {C:Array Value} (h:VLr n m x w C):∃ U,C=liV x U/\LB (fun _=>True) w x U:=by
 obtain ⟨U,h0,h1⟩:=h
 exact ⟨U,h0,h1.mono (fun _ _ _=>trivial)⟩
def VAr (n m:Nat) (x:Pr.Atom) (w:World) (C:Array Value):Prop:=∃ u,C=#[.string x.rel,u]/\RowB (fun k=>n<=k/\k<m) w 5 tmV x.terms u
theorem VAr.of {n:Nat} {x:Pr.Atom} {w:World} {C:Array Value} (h:valA n x w (.agg C)):VAr n w.heap.size x w C:=by
 obtain ⟨u,h0,h1⟩:=h
 exact ⟨u,by simpa using h0,h1.mono (fun k hk h2=>⟨hk,h2⟩)⟩
theorem VAr.keep {n m:Nat} {x:Pr.Atom} {w w':World} {C:Array Value} {S:List Nat} (h:VAr n m x w C) (hm:Mod S w w') (hS:∀ s∈S,¬ (n<=s/\s<m)):VAr n m x w' C:=by
 obtain ⟨u,h0,h1⟩:=h
 exact ⟨u,h0,h1.keep hm hS⟩
theorem VAr.cells {n m:Nat} {x:Pr.Atom} {w:World} {C:Array Value} (h:VAr n m x w C):C.size=2/\C.toList.all (·.oneCell')=true:=by
 obtain ⟨u,h0,h1⟩:=h
 exact valA_cells (n:=n) (a:=x) (w:=w) ⟨u,by rw [h0],h1.mono (fun k hk _=>hk.1)⟩
theorem VAr.all {n m:Nat} {x:Pr.Atom} {w:World} {C:Array Value} (h:VAr n m x w C):∃ u,C=#[.string x.rel,u]/\RowB (fun _=>True) w 5 tmV x.terms u:=by
 obtain ⟨u,h0,h1⟩:=h
 exact ⟨u,h0,h1.mono (fun _ _ _=>trivial)⟩
theorem load_rowY {P:Program} {ops:Array Oper} {S:World->Prop} {o:Oper} {a:Act} (hw:Region.wanted o (yielded ops a.tmps)=true) (ty:TypeId) (x:Operand) (ho:o.op=.load ty x) (g:Nat) (hx:a.eval x=.pointer (some ⟨g,0,none⟩)) (cs:Array Value) (t:TypeId) (fr:Nat × Nat) (hS:∀ w,S w->w.heap[g]?=some (.cells cs t fr))
  {d:TypeDesc} (hu:P.underlying ty=some d) (hd:(match d with | .struct _ | .array _ _=>true | _=>false)=true) (hi:(P.info? ty).map (·.size)=some cs.size):YieldsIf P ops S o (.agg cs) a :=
 .inl ⟨hw,fun w hw'=>by
  unfold execOp
  simp only [ho,hx,Instr.loadAt,Instr.sureAddr,Sem.run_bind,Sem.run_pure,Result.andThen_ok,run_loadVar_row w g t ty cs fr d (hS w hw') hu hd hi]⟩
theorem liMs_get:∀ (l:List Pr.Li) (k:Nat) (hk:k<l.length),liMs [l[k]]<=liMs l
 | x :: r,0,_=>by simp only [liMs,List.getElem_cons_zero];omega
 | x :: r,k+1,h=>by
  have:=liMs_get r k (by simpa using h)
  simp only [liMs,List.getElem_cons_succ] at this ⊢
  omega
theorem liMs_bare (l:List Pr.Li):liMs (l.map Sy.bareL)=liMs l:=Sy.liMs_bareL l
theorem wp_slice_one {P:Program} {o:Oper} {a:Act} {w:World} {K:Act->World->Prop} {Q:Exit->Act->World->Prop} (t e:TypeId) (x:Operand) (ho:o.op=.buildSlice t 1 #[(0,x)]) (cells:Array Value) (ie:TypeInfo) (z:Value) (hx:a.eval x=.agg cells)
  (hu:P.underlying t=some (.slice e)) (hie:P.info? e=some ie) (hz:ie.zero=some z) (hs:cells.size=ie.size) (h0:0<ie.size) (hsm:ie.size<=1000)
  (h:K (a.put o.dst (.slice (some ⟨w.heap.size,0,none⟩) 1 1)) (w.alloc (.cells cells e))):Oper.wp P o a w K Q :=
 wp_buildSlice t e 1 #[(0,x)] ho cells ie z hu hie hz (by omega) (by omega) (by
  have:=slice_one_fill cells ie.size ((Array.range (1 * ie.size)).map (z.cells[· % z.cells.size]!)) h0 hs (by simp)
  simpa [hx] using this) h
theorem int_eq {a b:Int} (h:a=b):Value.int IntKind.i64 a=.int .i64 b:=by rw [h]
theorem liV_at (l:Pr.Li) (U:LU):(liV l U)[28]?=some (.int .i64 (Sy.Li.line l))/\(liV l U)[29]?=some (.int .i64 (Sy.Li.col l)):=by
 obtain ⟨k,a,op,x,y,fn,av,of,body,ln,cl⟩:=l
 exact ⟨rfl,rfl⟩
theorem AllRes.okC {α:Type} {P:Program} {f:FuncId} {args:Array Value} {val:α->World->Value->Prop} {z:Value} {r:Sy.PR α} {x:α} {j:Nat} {w:World} (h:Calls P f args w (AllRes r val z w)) (hr:r=.ok x j) :
  Calls P f args w fun e w'=>∃ C:Array Value,e=.returned (.tuple #[.agg C,.agg #[.int .i64 0,.int .i64 0,.int .i64 0]])/\val x w' (.agg C)/\Mod [] w w':=by
 subst hr;exact h
theorem off_word {s:ByteArray} (hs:s.size<=140737488351232) (hc:(Lx.given (Cod.str s)).2.code=0) {p:Nat} (h:Sy.Placed (Cod.str s) ((Sy.envOf (Cod.str s)).tk p)) (w:World) :
  Calls Tryz.prog 28 #[.string s,.agg #[.int .i64 (((Sy.envOf (Cod.str s)).tk p).line:Nat),.int .i64 (((Sy.envOf (Cod.str s)).tk p).col:Nat)]] w fun e w'=>e=.returned (.int .i64 (Sy.offT (Cod.str s) ((Sy.envOf (Cod.str s)).tk p):Nat))/\Mod [] w w':=by
 have hl:=Cod.str_len s
 have h2:=h.l2;have h3:=h.c2;have h4:=h.off
 have hlong:=Lx.given_long hc
 refine (offset_any s (by omega) _ _ h.l1 (by omega) (by omega) w).mono ?_
 rintro e1 w1 ⟨rfl,m⟩
 refine ⟨?_,m⟩
 congr 2
 omega
theorem at_word {s:ByteArray} (hc:(Lx.given (Cod.str s)).2.code=0) {F:Nat->Prop} {u:Value} {j:Nat} (hj:j<(Sy.envOf (Cod.str s)).ws.length) (ln cl:Int) (h1:ln=(((Sy.envOf (Cod.str s)).tk j).line:Nat)) (h2:cl=(((Sy.envOf (Cod.str s)).tk j).col:Nat)) (w:World) (h:RowB F w 7 tokC (Sy.envOf (Cod.str s)).ws u) :
  Calls Tryz.prog 55 #[u,.agg #[.int .i64 ln,.int .i64 cl]] w fun e w'=>e=.returned (.int .i64 (j:Nat))/\Mod [] w w':=by
 have hlen:=(Sy.env_toks (Cod.str s) (Cod.str_lt s)).2
 have hk:∀ i (hi:i<(Sy.envOf (Cod.str s)).ws.length),(Sy.envOf (Cod.str s)).tk i=(Sy.envOf (Cod.str s)).ws[i]:=fun i hi=>Sy.tk_get hi
 subst h1;subst h2
 refine at_any _ (by omega) u _ _ j hj (by rw [hk j hj]) (by rw [hk j hj]) (fun i hi hh=>?_) w h
 have:=Sy.place_ne (Cod.str_lt s) hc hi hj
 rw [hk i (by omega),hk j hj] at this
 exact this hh
set_option maxHeartbeats 2000000 in
theorem lit_word {s:ByteArray} (hs:s.size<=140737488351232) {p e:Nat} (h:Sy.Apart (Cod.str s) p e) (hpe:p<e) {x:Pr.Li} (hr:Sy.lit (Sy.envOf (Cod.str s)) 0 p=.ok x e) :
  ∃ x',Sy.bareL x=Sy.bareL x'/\liMs [x']<=1048576/\∀ w,Glob w->Calls Tryz.prog 14 #[.string (s.extract (Sy.offT (Cod.str s) ((Sy.envOf (Cod.str s)).tk p)) (Sy.offT (Cod.str s) ((Sy.envOf (Cod.str s)).tk e)))] w fun en w' =>
   ∃ C:Array Value,en=.returned (.tuple #[.agg C,.agg #[.int .i64 0,.int .i64 0,.int .i64 0]])/\valL w.heap.size x' w' (.agg C)/\Mod [] w w':=by
 obtain ⟨x',j,h1,h2⟩:=Sy.lit_piece h hr hpe
 have he:Cod.str (s.extract (Sy.offT (Cod.str s) ((Sy.envOf (Cod.str s)).tk p)) (Sy.offT (Cod.str s) ((Sy.envOf (Cod.str s)).tk e)))=Sy.cutT (Cod.str s) ((Sy.envOf (Cod.str s)).tk p) ((Sy.envOf (Cod.str s)).tk e):=Lx.str_extract _ _ _
 rw [<-he] at h1
 obtain ⟨i,h3⟩:=Sy.one_of h1
 have hl:=(Sy.env_toks _ (Cod.str_lt (s.extract (Sy.offT (Cod.str s) ((Sy.envOf (Cod.str s)).tk p)) (Sy.offT (Cod.str s) ((Sy.envOf (Cod.str s)).tk e))))).2
 have hm:=Sy.lit_M _ _ _ _ _ _ h3
 exact ⟨x',h2,by simp only [liMs];omega,fun w hG=>AllRes.okC (entL_any _ (by rw [ByteArray.size_extract];omega) w hG) h1⟩
set_option maxHeartbeats 2000000 in
theorem atom_word {s:ByteArray} (hs:s.size<=140737488351232) {p e:Nat} (h:Sy.Apart (Cod.str s) p e) (hpe:p<e) {x:Pr.Atom} (hr:Sy.atom (Sy.envOf (Cod.str s)) p=.ok x e) :
  ∀ w,Glob w->Calls Tryz.prog 20 #[.string (s.extract (Sy.offT (Cod.str s) ((Sy.envOf (Cod.str s)).tk p)) (Sy.offT (Cod.str s) ((Sy.envOf (Cod.str s)).tk e)))] w fun en w' =>
   ∃ C:Array Value,en=.returned (.tuple #[.agg C,.agg #[.int .i64 0,.int .i64 0,.int .i64 0]])/\valA w.heap.size x w' (.agg C)/\Mod [] w w':=by
 obtain ⟨j,h1⟩:=Sy.atom_piece h hr hpe
 have he:Cod.str (s.extract (Sy.offT (Cod.str s) ((Sy.envOf (Cod.str s)).tk p)) (Sy.offT (Cod.str s) ((Sy.envOf (Cod.str s)).tk e)))=Sy.cutT (Cod.str s) ((Sy.envOf (Cod.str s)).tk p) ((Sy.envOf (Cod.str s)).tk e):=Lx.str_extract _ _ _
 rw [<-he] at h1
 exact fun w hG=>AllRes.okC (entA_any _ (by rw [ByteArray.size_extract];omega) w hG) h1
set_option maxHeartbeats 32000000 in
theorem pieces_any (s:ByteArray) (hs:s.size<=140737488351232) (hc:(Lx.given (Cod.str s)).2.code=0) (u:Value) {F G:Nat->Prop} (r:Pr.Rul) (tu ub:Value) (from_ dot e:Nat) (hP:Sy.Parts (Sy.envOf (Cod.str s)) r from_ dot e)
  (hq1:r.head.terms.length<=1048576) (hq2:r.body.length<=1048576) (hq3:liMs r.body<=1048576) (w:World) (hG:Glob w) (hT:RowB F w 7 tokC (Sy.envOf (Cod.str s)).ws u) (h1:RowB G w 5 tmV r.head.terms tu) (h2:BB G w r.body ub) :
  Calls Tryz.prog 29 #[.string s,u,.agg (ruV r tu ub),.int .i64 (from_:Nat),.int .i64 (dot:Nat)] w (Tru w):=by
 have hlen:=(Sy.env_toks (Cod.str s) (Cod.str_lt s)).2
 have hfit:=hP.fit;have hlo:=hP.lo;have hhi:=hP.hi
 have HAT:=Hxq (fun j hj ln cl h1 h2 w h=>at_word (F:=F) (u:=u) hc (j:=j) hj ln cl h1 h2 w h)
 have HAP:=Hxq (fun (p e:Nat) (hpe:p<e) (he:e<(Sy.envOf (Cod.str s)).ws.length)=>(show Sy.Apart (Cod.str s) p e/\Sy.Placed (Cod.str s) ((Sy.envOf (Cod.str s)).tk p)/\Sy.Placed (Cod.str s) ((Sy.envOf (Cod.str s)).tk e)/\Sy.offT (Cod.str s) ((Sy.envOf (Cod.str s)).tk p)<Sy.offT (Cod.str s) ((Sy.envOf (Cod.str s)).tk e) from ⟨Sy.apart_of (Cod.str_lt s) hc hpe he,(Sy.apart_of (Cod.str_lt s) hc hpe he).pp,(Sy.apart_of (Cod.str_lt s) hc hpe he).pe,(Sy.apart_of (Cod.str_lt s) hc hpe he).lt⟩))
 have HLW:=Hxq (fun (p e:Nat) (h:Sy.Apart (Cod.str s) p e) hpe (x:Pr.Li) hr=>lit_word hs h hpe (x:=x) hr)
 have HAW:=Hxq (fun (p e:Nat) (h:Sy.Apart (Cod.str s) p e) hpe (x:Pr.Atom) hr=>atom_word hs h hpe (x:=x) hr)
 have HOW:=Hxq (fun (p:Nat) (h:Sy.Placed (Cod.str s) ((Sy.envOf (Cod.str s)).tk p)) w=>off_word hs hc (p:=p) h w)
 have HPL:=Hxq (fun (k:Nat) (hk:k<r.body.length)=>hP.lit hk)
 have HBD:=Lib.hid hP.body
 have HHD:=Lib.hid hP.head
 have hsz:=Cod.str_len s
 have HGW:=Lib.hid hG
 clear hP hc hG
 generalize hv:Sy.envOf (Cod.str s)=v at *
 clear hv
 obtain ⟨⟨rel,ts⟩,body,ln,cl⟩:=r
 dsimp only [ruV] at *
 obtain ⟨ta,tc,rfl⟩:=h1.lit
 obtain ⟨ba,bc,rfl⟩:=h2.lit
 obtain ⟨wa,wc_,rfl⟩:=hT.lit
 have mA:=(Mod.refl [] w).alloc (Obj.cells #[.string rel,.slice ta ts.length tc,.slice ba body.length bc,.int .i64 ln,.int .i64 cl] 55)
 have eA:=heap_alloc_new w (Obj.cells #[.string rel,.slice ta ts.length tc,.slice ba body.length bc,.int .i64 ln,.int .i64 cl] 55)
 have EA:=Lib.hid eA;have MA:=Lib.hid mA;have T0:=Hxq (hT.keep mA (by simp));have B0:=Hxq (h2.keep mA (by simp));have R0:=Hxq (h1.keep mA (by simp))
 clear mA eA hT h1 h2
 go_enter Tryz.func29,Tryz.ntmps29
 go_upto_region 1 with fail
 generalize w.alloc (Obj.cells _ 55)=wA at *
 go_wp2_with fail
 go_loopw [11,12] (fun ev iv wr=>∃ k en:Nat,k<=body.length/\iv=.int .i64 (k:Nat)/\ev=.int .i64 (en:Nat)/\(k=0->en=dot)/\(0<k->en=e)/\Mod [] wA wr) (fun ev iv wr=>body.length - (intOf iv).toNat)
 case atStart=>exact ⟨0,dot,Nat.zero_le _,rfl,rfl,fun _=>rfl,fun h=>absurd h (by omega),Mod.refl _ _⟩
 case round =>
  obtain ⟨k,en,hk,rfl,rfl,hen0,hen1,hm⟩:=hrel
  have MR:=Lib.hid hm
  have E1:=Hxq (hm.at EA.out (by simp));have T1:=Hxq (T0.out.keep hm (by simp));have B1:=Hxq (B0.out.keep hm (by simp));have R1:=Hxq (R0.out.keep hm (by simp))
  have HE0:=Lib.hid hen0;have HE1:=Lib.hid hen1
  clear hm hen0 hen1
  have x2:=cell_at E1.out 2
  simp only [List.getElem?_toArray,List.getElem?_cons_zero,List.getElem?_cons_succ] at x2
  by_cases hlt:k<body.length
  ·have hkI:(k:Int)<(body.length:Int):=by omega
   have hk0:(0:Int)<=(k:Int):=by omega
   obtain ⟨st,sp,L1,g5,g6,g7⟩:=HPL.out k hlt
   obtain ⟨g,off,U,rfl,hcg,hLB⟩:=B1.out.at k hlt
   have p28:=hcg 28 _ (liV_at _ _).1;have p29:=hcg 29 _ (liV_at _ _).2
   rw [L1.pl] at p28;rw [L1.pc] at p29
   have hst:=L1.lo;have hss:=L1.lt;have hsd:=L1.hi
   have HL1:=Lib.hid L1.ok
   have HG5:=Lib.hid g5;have HG6:=Lib.hid g6;have HG7:=Lib.hid g7
   clear g5 g6 g7 L1 hcg
   go_wp2_with fail
   refine (HAT.out st (by omega) _ _ rfl rfl wr T1.out).mono ?_
   rintro e1 w1 ⟨rfl,m1⟩
   have M1:=Hxq (MR.out.trans m1 (by simp));have E2:=Hxq (m1.at E1.out (by simp));have T2:=Hxq (T1.out.keep m1 (by simp));have B2:=Hxq (B1.out.keep m1 (by simp));have R2:=Hxq (R1.out.keep m1 (by simp))
   clear m1 x2 p28 p29 E1 T1 B1 R1 MR
   go_upto_if 36 with fail
   go_cut [11] (fun ev wx=>ev=.int .i64 (e:Nat)/\wx=w1)
   case first =>
    by_cases hk1:k=0
    ·have hkB:((k:Int) == 0)=true:=by rw [beq_iff_eq];omega
     have HE:=Hxq (HG5.out hk1)
     clear hk1
     go_wp2_with fail
     go_meet
     exact ⟨int_eq (by have:=HE.out;omega),rfl⟩
    ·have hkB:((k:Int) == 0)=false:=by rw [beq_eq_false_iff_ne];omega
     have he:=HE1.out (by omega)
     subst he
     clear hk1
     go_wp2_with fail
     go_meet
     exact ⟨rfl,rfl⟩
   case rest =>
    obtain ⟨rfl,rfl⟩:=hcut
    clear HE0 HE1 HG5
    have x2:=cell_at E2.out 2
    simp only [List.getElem?_toArray,List.getElem?_cons_zero,List.getElem?_cons_succ] at x2
    have hbl:body.length<=1048576:=hq2
    go_upto_if 45 with fail
    go_cut [14] (fun sv wx=>sv=.int .i64 (sp:Nat)/\Mod [] wc wx)
    case first =>
     by_cases hk1:k+1<body.length
     ·have hk1I:(k:Int)+1<(body.length:Int):=by omega
      have hk10:(0:Int)<=(k:Int)+1:=by omega
      have hkn:((k:Int)+1).toNat=k+1:=by omega
      obtain ⟨hsp1,hpl,hpc⟩:=HG7.out hk1
      obtain ⟨g2,off2,U2,hg2,hcg2,hLB2⟩:=B2.out.at (k+1) hk1
      simp only [Option.some.injEq,Addr.mk.injEq] at hg2
      obtain ⟨rfl,rfl,-⟩:=hg2
      have p28:=hcg2 28 _ (liV_at _ _).1;have p29:=hcg2 29 _ (liV_at _ _).2
      rw [hpl] at p28;rw [hpc] at p29
      clear hpl hpc hcg2 hLB2 hk1
      go_wp2_with fail
      refine (HAT.out (sp+1) (by omega) _ _ rfl rfl _ T2.out).mono ?_
      rintro e2 w2 ⟨rfl,m2⟩
      go_wp2_with fail
      go_meet
      exact ⟨int_eq (by omega),m2⟩
     ·have hk1I:¬ (k:Int)+1<(body.length:Int):=by omega
      have he:=HG6.out (by omega)
      subst he
      clear hk1
      go_wp2_with fail
      go_meet
      exact ⟨rfl,Mod.refl _ _⟩
    case rest =>
     obtain ⟨rfl,m3⟩:=hcut
     obtain ⟨w3,hw3⟩:∃ w3,w3=wc:=⟨_,rfl⟩
     subst hw3
     have M3:=Hxq (M1.out.trans m3 (by simp));have E3:=Hxq (m3.at E2.out (by simp));have T3:=Hxq (T2.out.keep m3 (by simp));have B3:=Hxq (B2.out.keep m3 (by simp));have R3:=Hxq (R2.out.keep m3 (by simp))
     clear m3 x2 M1 E2 T2 B2 R2 HG6 HG7
     obtain ⟨hA,hpp,hpe,ho12⟩:=HAP.out st sp hss (by omega)
     obtain ⟨x',hbx,hmx,hLW⟩:=HLW.out st sp hA hss _ HL1.out
     have HO1:=Hxq (HOW.out st hpp);have HO2:=Hxq (HOW.out sp hpe)
     have ho2:=hpe.le
     rw [hsz] at ho2
     have HLT:=Lib.hid hLW;have HBX:=Lib.hid hbx;have HMX:=Lib.hid hmx
     clear hA hLW hbx hmx HL1 hpp hpe
     obtain ⟨tb,tf,htb,hct1⟩:=T3.out.at st (by omega)
     obtain ⟨tb2,tf2,htb2,hct2⟩:=T3.out.at sp (by omega)
     subst htb
     simp only [Option.some.injEq,Addr.mk.injEq] at htb2
     obtain ⟨rfl,rfl,-⟩:=htb2
     rw [<-Sy.tk_ws v (by omega)] at hct1 hct2
     have P1:=Hxq (And.intro (hct1 5 (.int .i64 ((v.tk st).line:Nat)) rfl) (hct1 6 (.int .i64 ((v.tk st).col:Nat)) rfl))
     have P2:=Hxq (And.intro (hct2 5 (.int .i64 ((v.tk sp).line:Nat)) rfl) (hct2 6 (.int .i64 ((v.tk sp).col:Nat)) rfl))
     clear hct1 hct2
     generalize Sy.offT (Cod.str s) (v.tk st)=o1 at *
     generalize Sy.offT (Cod.str s) (v.tk sp)=o2 at *
     generalize (v.tk st).line=l1 at *;generalize (v.tk st).col=c1 at *;generalize (v.tk sp).line=l2 at *;generalize (v.tk sp).col=c2 at *
     have hst0:(0:Int)<=(st:Int):=by omega
     have hsp0:(0:Int)<=(sp:Int):=by omega
     have hstI:(st:Int)<(v.ws.length:Int):=by omega
     have hspI:(sp:Int)<(v.ws.length:Int):=by omega
     have hcA:¬ (st:Int)<(from_:Int):=by omega
     have hcB:¬ (sp:Int)<=(st:Int):=by omega
     have hcC:¬ (dot:Int)<(sp:Int):=by omega
     have hG3:=Hxq (HGW.out.past (MA.out.trans M3.out (by simp)) (by simp))
     have hG:=hG3.out
     have ho3:o1<=o2:=by omega
     go_upto_region 13 with fail
     go_cut [15,16] (fun p15 p16 wx=>∃ (g15 g16:Nat) (C:Array Value),p15=.pointer (some ⟨g15,0,none⟩)/\p16=.pointer (some ⟨g16,0,none⟩)/\wx.heap[g15]?=some (.cells C 50 (0,0))/\wx.heap[g16]?=some (.cells #[.int .i64 0,.int .i64 0,.int .i64 0] 31 (0,0))/\(∃ U,C=liV x' U/\LB (fun _=>True) wx x' U)/\Mod [] w3 wx)
     case first=>as_aux_lemma =>
      refine wp_region_held_drew (S:=(fun w':World=>Mod [] w3 w')) (by kernel_rfl) (by (try dsimp only);exact (Mod.refl [] w3).drew) (fun hHeld=>?_)
      generalize w3.drew=wd at *
      refine wpAnyH_take (i:=0) (oi:=?_) (v:=?_) ?_ ?_ ?_ ?_ ?_ ?_ (by assumption) ?_
      rotate_left 2
      (· (simp only [Gq1,Gq2,Gq3])<;>rfl)
      (· kernel_rfl)
      (· kernel_rfl)
      (· kernel_rfl)
      rotate_left 1
      (· (refine Or.inl ⟨by rfl,?_⟩;intro w hSw;go_simp;all_goals with_reducible rfl))
      rotate_left 1
      (· exact fun _ _ _ h=>h)
      try simp only [Act.put,Lq1,Lq2,Lq3]
      refine wpAnyH_take (i:=1) (oi:=?_) (v:=?_) ?_ ?_ ?_ ?_ ?_ ?_ (by assumption) ?_
      rotate_left 2
      (· (simp only [Gq1,Gq2,Gq3])<;>rfl)
      (· kernel_rfl)
      (· kernel_rfl)
      (· kernel_rfl)
      rotate_left 1
      (· (refine Or.inl ⟨by rfl,?_⟩;intro w hSw;go_simp;all_goals with_reducible rfl))
      rotate_left 1
      (· exact fun _ _ _ h=>h)
      try simp only [Act.put,Lq1,Lq2,Lq3]
      refine wpAnyH_take (i:=2) (oi:=?_) (v:=?_) ?_ ?_ ?_ ?_ ?_ ?_ (by assumption) ?_
      rotate_left 2
      (· (simp only [Gq1,Gq2,Gq3])<;>rfl)
      (· kernel_rfl)
      (· kernel_rfl)
      (· kernel_rfl)
      rotate_left 1
      (· (refine Or.inl ⟨by rfl,?_⟩;intro w hSw;go_simp;all_goals with_reducible rfl))
      rotate_left 1
      (· exact fun _ _ _ h=>h)
      try simp only [Act.put,Lq1,Lq2,Lq3]
      refine wpAnyH_take (i:=3) (oi:=?_) (v:=?_) ?_ ?_ ?_ ?_ ?_ ?_ (by assumption) ?_
      rotate_left 2
      (· (simp only [Gq1,Gq2,Gq3])<;>rfl)
      (· kernel_rfl)
      (· kernel_rfl)
      (· kernel_rfl)
      rotate_left 1
      (· (refine Or.inl ⟨by rfl,?_⟩;intro w hSw;go_simp;all_goals with_reducible rfl))
      rotate_left 1
      (· exact fun _ _ _ h=>h)
      try simp only [Act.put,Lq1,Lq2,Lq3]
      refine wpAnyH_take (i:=4) (oi:=?_) (v:=?_) ?_ ?_ ?_ ?_ ?_ ?_ (by assumption) ?_
      rotate_left 2
      (· (simp only [Gq1,Gq2,Gq3])<;>rfl)
      (· kernel_rfl)
      (· kernel_rfl)
      (· kernel_rfl)
      rotate_left 1
      (· (refine Or.inl ⟨by rfl,?_⟩;intro w hSw;go_simp;all_goals with_reducible rfl))
      rotate_left 1
      (· exact fun _ _ _ h=>h)
      try simp only [Act.put,Lq1,Lq2,Lq3]
      refine wpAnyH_take (i:=5) (oi:=?_) (v:=?_) ?_ ?_ ?_ ?_ ?_ ?_ (by assumption) ?_
      rotate_left 2
      (· (simp only [Gq1,Gq2,Gq3])<;>rfl)
      (· kernel_rfl)
      (· kernel_rfl)
      (· kernel_rfl)
      rotate_left 1
      (· (refine Or.inl ⟨by rfl,?_⟩;intro w hSw;go_simp;all_goals with_reducible rfl))
      rotate_left 1
      (· exact fun _ _ _ h=>h)
      try simp only [Act.put,Lq1,Lq2,Lq3]
      refine wpAnyH_take (i:=6) (oi:=?_) (v:=?_) ?_ ?_ ?_ ?_ ?_ ?_ (by assumption) ?_
      rotate_left 2
      (· (simp only [Gq1,Gq2,Gq3])<;>rfl)
      (· kernel_rfl)
      (· kernel_rfl)
      (· kernel_rfl)
      rotate_left 1
      (· (refine Or.inl ⟨by rfl,?_⟩;intro w hSw;have c0:=hSw.cell P1.out.1 (by simp);have c1:=hSw.cell P1.out.2 (by simp);clear hSw;go_simp;all_goals with_reducible rfl))
      rotate_left 1
      (· exact fun _ _ _ h=>h)
      try simp only [Act.put,Lq1,Lq2,Lq3]
      refine wpAnyH_take (i:=8) (oi:=?_) (v:=?_) ?_ ?_ ?_ ?_ ?_ ?_ (by assumption) ?_
      rotate_left 2
      (· (simp only [Gq1,Gq2,Gq3])<;>rfl)
      (· kernel_rfl)
      (· kernel_rfl)
      (· kernel_rfl)
      rotate_left 1
      (· (refine Or.inl ⟨by rfl,?_⟩;intro w hSw;go_simp;all_goals with_reducible rfl))
      rotate_left 1
      (· exact fun _ _ _ h=>h)
      try simp only [Act.put,Lq1,Lq2,Lq3]
      refine wpAnyH_take (i:=9) (oi:=?_) (v:=?_) ?_ ?_ ?_ ?_ ?_ ?_ (by assumption) ?_
      rotate_left 2
      (· (simp only [Gq1,Gq2,Gq3])<;>rfl)
      (· kernel_rfl)
      (· kernel_rfl)
      (· kernel_rfl)
      rotate_left 1
      (· (refine Or.inl ⟨by rfl,?_⟩;intro w hSw;go_simp;all_goals with_reducible rfl))
      rotate_left 1
      (· exact fun _ _ _ h=>h)
      try simp only [Act.put,Lq1,Lq2,Lq3]
      refine wpAnyH_take (i:=10) (oi:=?_) (v:=?_) ?_ ?_ ?_ ?_ ?_ ?_ (by assumption) ?_
      rotate_left 2
      (· (simp only [Gq1,Gq2,Gq3])<;>rfl)
      (· kernel_rfl)
      (· kernel_rfl)
      (· kernel_rfl)
      rotate_left 1
      (· (refine Or.inl ⟨by rfl,?_⟩;intro w hSw;go_simp;all_goals with_reducible rfl))
      rotate_left 1
      (· exact fun _ _ _ h=>h)
      try simp only [Act.put,Lq1,Lq2,Lq3]
      refine wpAnyH_take (i:=11) (oi:=?_) (v:=?_) ?_ ?_ ?_ ?_ ?_ ?_ (by assumption) ?_
      rotate_left 2
      (· (simp only [Gq1,Gq2,Gq3])<;>rfl)
      (· kernel_rfl)
      (· kernel_rfl)
      (· kernel_rfl)
      rotate_left 1
      (· (refine Or.inl ⟨by rfl,?_⟩;intro w hSw;go_simp;all_goals with_reducible rfl))
      rotate_left 1
      (· exact fun _ _ _ h=>h)
      try simp only [Act.put,Lq1,Lq2,Lq3]
      refine wpAnyH_take (i:=12) (oi:=?_) (v:=?_) ?_ ?_ ?_ ?_ ?_ ?_ (by assumption) ?_
      rotate_left 2
      (· (simp only [Gq1,Gq2,Gq3])<;>rfl)
      (· kernel_rfl)
      (· kernel_rfl)
      (· kernel_rfl)
      rotate_left 1
      (· (refine Or.inl ⟨by rfl,?_⟩;intro w hSw;go_simp;all_goals with_reducible rfl))
      rotate_left 1
      (· exact fun _ _ _ h=>h)
      try simp only [Act.put,Lq1,Lq2,Lq3]
      refine wpAnyH_take (i:=13) (oi:=?_) (v:=?_) ?_ ?_ ?_ ?_ ?_ ?_ (by assumption) ?_
      rotate_left 2
      (· (simp only [Gq1,Gq2,Gq3])<;>rfl)
      (· kernel_rfl)
      (· kernel_rfl)
      (· kernel_rfl)
      rotate_left 1
      (· (refine Or.inl ⟨by rfl,?_⟩;intro w hSw;have c0:=hSw.cell P2.out.1 (by simp);have c1:=hSw.cell P2.out.2 (by simp);clear hSw;go_simp;all_goals with_reducible rfl))
      rotate_left 1
      (· exact fun _ _ _ h=>h)
      try simp only [Act.put,Lq1,Lq2,Lq3]
      all_goals first
       | (have:=D3;have:=E15;clear this;clear this;refine wpAnyH_ready (rs:=[21]) (by kernel_rfl) (by simp) ?_;refine AllReadyH.cons (o:=?_) ?_ ?_ ?_;rotate_left 1;(· (simp only [Gq1,Gq2,Gq3])<;>rfl);rotate_left 1;exact AllReadyH.nil)
       | (have:=D3;have:=E16;clear this;clear this;refine wpAnyH_ready (rs:=[20]) (by kernel_rfl) (by simp) ?_;refine AllReadyH.cons (o:=?_) ?_ ?_ ?_;rotate_left 1;(· (simp only [Gq1,Gq2,Gq3])<;>rfl);rotate_left 1;exact AllReadyH.nil)
       | (have:=D3;clear this;refine wpAnyH_ready (rs:=[20,21]) (by kernel_rfl) (by simp) ?_;refine AllReadyH.cons (o:=?_) ?_ ?_ ?_;rotate_left 1;(· (simp only [Gq1,Gq2,Gq3])<;>rfl);rotate_left 1;refine AllReadyH.cons (o:=?_) ?_ ?_ ?_;rotate_left 1;(· (simp only [Gq1,Gq2,Gq3])<;>rfl);rotate_left 1;exact AllReadyH.nil)
       | (have:=D2;have:=E15;have:=E16;clear this;clear this;clear this;refine wpAnyH_ready (rs:=[16]) (by kernel_rfl) (by simp) ?_;refine AllReadyH.cons (o:=?_) ?_ ?_ ?_;rotate_left 1;(· (simp only [Gq1,Gq2,Gq3])<;>rfl);rotate_left 1;exact AllReadyH.nil)
       | (have:=D2;have:=E15;clear this;clear this;refine wpAnyH_ready (rs:=[16,21]) (by kernel_rfl) (by simp) ?_;refine AllReadyH.cons (o:=?_) ?_ ?_ ?_;rotate_left 1;(· (simp only [Gq1,Gq2,Gq3])<;>rfl);rotate_left 1;refine AllReadyH.cons (o:=?_) ?_ ?_ ?_;rotate_left 1;(· (simp only [Gq1,Gq2,Gq3])<;>rfl);rotate_left 1;exact AllReadyH.nil)
       | (have:=D2;have:=E16;clear this;clear this;refine wpAnyH_ready (rs:=[16,20]) (by kernel_rfl) (by simp) ?_;refine AllReadyH.cons (o:=?_) ?_ ?_ ?_;rotate_left 1;(· (simp only [Gq1,Gq2,Gq3])<;>rfl);rotate_left 1;refine AllReadyH.cons (o:=?_) ?_ ?_ ?_;rotate_left 1;(· (simp only [Gq1,Gq2,Gq3])<;>rfl);rotate_left 1;exact AllReadyH.nil)
       | (have:=D2;clear this;refine wpAnyH_ready (rs:=[16,20,21]) (by kernel_rfl) (by simp) ?_;refine AllReadyH.cons (o:=?_) ?_ ?_ ?_;rotate_left 1;(· (simp only [Gq1,Gq2,Gq3])<;>rfl);rotate_left 1;refine AllReadyH.cons (o:=?_) ?_ ?_ ?_;rotate_left 1;(· (simp only [Gq1,Gq2,Gq3])<;>rfl);rotate_left 1;refine AllReadyH.cons (o:=?_) ?_ ?_ ?_;rotate_left 1;(· (simp only [Gq1,Gq2,Gq3])<;>rfl);rotate_left 1;exact AllReadyH.nil)
       | (have:=D1;have:=E15;have:=E16;clear this;clear this;clear this;refine wpAnyH_ready (rs:=[14]) (by kernel_rfl) (by simp) ?_;refine AllReadyH.cons (o:=?_) ?_ ?_ ?_;rotate_left 1;(· (simp only [Gq1,Gq2,Gq3])<;>rfl);rotate_left 1;exact AllReadyH.nil)
       | (have:=D1;have:=E15;clear this;clear this;refine wpAnyH_ready (rs:=[14,21]) (by kernel_rfl) (by simp) ?_;refine AllReadyH.cons (o:=?_) ?_ ?_ ?_;rotate_left 1;(· (simp only [Gq1,Gq2,Gq3])<;>rfl);rotate_left 1;refine AllReadyH.cons (o:=?_) ?_ ?_ ?_;rotate_left 1;(· (simp only [Gq1,Gq2,Gq3])<;>rfl);rotate_left 1;exact AllReadyH.nil)
       | (have:=D1;have:=E16;clear this;clear this;refine wpAnyH_ready (rs:=[14,20]) (by kernel_rfl) (by simp) ?_;refine AllReadyH.cons (o:=?_) ?_ ?_ ?_;rotate_left 1;(· (simp only [Gq1,Gq2,Gq3])<;>rfl);rotate_left 1;refine AllReadyH.cons (o:=?_) ?_ ?_ ?_;rotate_left 1;(· (simp only [Gq1,Gq2,Gq3])<;>rfl);rotate_left 1;exact AllReadyH.nil)
       | (have:=D1;clear this;refine wpAnyH_ready (rs:=[14,20,21]) (by kernel_rfl) (by simp) ?_;refine AllReadyH.cons (o:=?_) ?_ ?_ ?_;rotate_left 1;(· (simp only [Gq1,Gq2,Gq3])<;>rfl);rotate_left 1;refine AllReadyH.cons (o:=?_) ?_ ?_ ?_;rotate_left 1;(· (simp only [Gq1,Gq2,Gq3])<;>rfl);rotate_left 1;refine AllReadyH.cons (o:=?_) ?_ ?_ ?_;rotate_left 1;(· (simp only [Gq1,Gq2,Gq3])<;>rfl);rotate_left 1;exact AllReadyH.nil)
       | (have:=E15;have:=E16;clear this;clear this;refine wpAnyH_ready (rs:=[7]) (by kernel_rfl) (by simp) ?_;refine AllReadyH.cons (o:=?_) ?_ ?_ ?_;rotate_left 1;(· (simp only [Gq1,Gq2,Gq3])<;>rfl);rotate_left 1;exact AllReadyH.nil)
       | (have:=E15;clear this;refine wpAnyH_ready (rs:=[7,21]) (by kernel_rfl) (by simp) ?_;refine AllReadyH.cons (o:=?_) ?_ ?_ ?_;rotate_left 1;(· (simp only [Gq1,Gq2,Gq3])<;>rfl);rotate_left 1;refine AllReadyH.cons (o:=?_) ?_ ?_ ?_;rotate_left 1;(· (simp only [Gq1,Gq2,Gq3])<;>rfl);rotate_left 1;exact AllReadyH.nil)
       | (have:=E16;clear this;refine wpAnyH_ready (rs:=[7,20]) (by kernel_rfl) (by simp) ?_;refine AllReadyH.cons (o:=?_) ?_ ?_ ?_;rotate_left 1;(· (simp only [Gq1,Gq2,Gq3])<;>rfl);rotate_left 1;refine AllReadyH.cons (o:=?_) ?_ ?_ ?_;rotate_left 1;(· (simp only [Gq1,Gq2,Gq3])<;>rfl);rotate_left 1;exact AllReadyH.nil)
       | (refine wpAnyH_ready (rs:=[7,20,21]) (by kernel_rfl) (by simp) ?_;refine AllReadyH.cons (o:=?_) ?_ ?_ ?_;rotate_left 1;(· (simp only [Gq1,Gq2,Gq3])<;>rfl);rotate_left 1;refine AllReadyH.cons (o:=?_) ?_ ?_ ?_;rotate_left 1;(· (simp only [Gq1,Gq2,Gq3])<;>rfl);rotate_left 1;refine AllReadyH.cons (o:=?_) ?_ ?_ ?_;rotate_left 1;(· (simp only [Gq1,Gq2,Gq3])<;>rfl);rotate_left 1;exact AllReadyH.nil)
      all_goals (intro K hK;go_simp)
      all_goals first
       | ((with_reducible refine (HO1.out _).mono ?_);rintro e1 v1 ⟨rfl,m⟩;have D1:True:=trivial;(try have E15:=m.at E15 (by simp));(try have E16:=m.at E16 (by simp));(try have VV:=VLr.keep VV m (by simp));(try have hM:=Nat.le_trans hM m.size);refine hK.out _ _ (by (try dsimp only);exact hHeld.trans m (by simp)) (fun hHeld'=>?_);clear m hK K hHeld;have hHeld:=hHeld';clear hHeld';(try simp only [Act.put,Lq1,Lq2,Lq3]))
       | ((with_reducible refine (HO2.out _).mono ?_);rintro e1 v1 ⟨rfl,m⟩;have D2:True:=trivial;(try have E15:=m.at E15 (by simp));(try have E16:=m.at E16 (by simp));(try have VV:=VLr.keep VV m (by simp));(try have hM:=Nat.le_trans hM m.size);refine hK.out _ _ (by (try dsimp only);exact hHeld.trans m (by simp)) (fun hHeld'=>?_);clear m hK K hHeld;have hHeld:=hHeld';clear hHeld';(try simp only [Act.put,Lq1,Lq2,Lq3]);(refine wpAnyH_take (i:=15) (oi:=?_) (v:=?_) ?_ ?_ ?_ ?_ ?_ ?_ (by assumption) ?_;rotate_left 2;(· (simp only [Gq1,Gq2,Gq3])<;>rfl);(· kernel_rfl);(· kernel_rfl);(· kernel_rfl);rotate_left 1;(· (refine Or.inl ⟨by rfl,?_⟩;intro w hSw;clear hSw;go_simp;all_goals with_reducible rfl));rotate_left 1;(· exact fun _ _ _ h=>h);try simp only [Act.put,Lq1,Lq2,Lq3]))
       | ((with_reducible refine (HLT.out _ (hG.past hHeld (by simp))).mono ?_);rintro e1 v1 ⟨C,rfl,VV',m⟩;have VV:=VLr.of VV';have hM:=Nat.le_refl v1.heap.size;have D3:True:=trivial;(try have hx15:=lt_of_block E15);(try have hx16:=lt_of_block E16);(try have E15:=m.at E15 (by simp));(try have E16:=m.at E16 (by simp));refine hK.out _ _ (by (try dsimp only);exact hHeld.trans m (by simp)) (fun hHeld'=>?_);clear m hK K hHeld;have hHeld:=hHeld';clear hHeld';(try simp only [Act.put,Lq1,Lq2,Lq3]);(refine wpAnyH_take (i:=17) (oi:=?_) (v:=?_) ?_ ?_ ?_ ?_ ?_ ?_ (by assumption) ?_;rotate_left 2;(· (simp only [Gq1,Gq2,Gq3])<;>rfl);(· kernel_rfl);(· kernel_rfl);(· kernel_rfl);rotate_left 1;(· (refine Or.inl ⟨by rfl,?_⟩;intro w hSw;go_simp;all_goals with_reducible rfl));rotate_left 1;(· exact fun _ _ _ h=>h);try simp only [Act.put,Lq1,Lq2,Lq3]);(refine wpAnyH_take (i:=18) (oi:=?_) (v:=?_) ?_ ?_ ?_ ?_ ?_ ?_ (by assumption) ?_;rotate_left 2;(· (simp only [Gq1,Gq2,Gq3])<;>rfl);(· kernel_rfl);(· kernel_rfl);(· kernel_rfl);rotate_left 1;(· (refine Or.inl ⟨by rfl,?_⟩;intro w hSw;go_simp;all_goals with_reducible rfl));rotate_left 1;(· exact fun _ _ _ h=>h);try simp only [Act.put,Lq1,Lq2,Lq3]);(refine wpAnyH_take (i:=19) (oi:=?_) (v:=?_) ?_ ?_ ?_ ?_ ?_ ?_ (by assumption) ?_;rotate_left 2;(· (simp only [Gq1,Gq2,Gq3])<;>rfl);(· kernel_rfl);(· kernel_rfl);(· kernel_rfl);rotate_left 1;(· (refine Or.inl ⟨by rfl,?_⟩;intro w hSw;go_simp;all_goals with_reducible rfl));rotate_left 1;(· exact fun _ _ _ h=>h);try simp only [Act.put,Lq1,Lq2,Lq3]))
       | ((with_reducible show K _ (World.alloc _ (Obj.cells #[Value.int IntKind.i64 0,Value.string ⟨#[]⟩,Value.slice none 0 0,Value.int IntKind.i64 0,Value.int IntKind.i64 0,Value.string ⟨#[]⟩,Value.int IntKind.i64 0,Value.int IntKind.i64 0,Value.string ⟨#[]⟩,Value.int IntKind.i64 0,Value.slice none 0 0,Value.int IntKind.i64 0,Value.string ⟨#[]⟩,Value.int IntKind.i64 0,Value.int IntKind.i64 0,Value.string ⟨#[]⟩,Value.int IntKind.i64 0,Value.slice none 0 0,Value.int IntKind.i64 0,Value.string ⟨#[]⟩,Value.int IntKind.i64 0,Value.string ⟨#[]⟩,Value.int IntKind.i64 0,Value.int IntKind.i64 0,Value.string ⟨#[]⟩,Value.int IntKind.i64 0,Value.slice none 0 0,Value.slice none 0 0,Value.int IntKind.i64 0,Value.int IntKind.i64 0] 50)));(with_reducible refine hK.out _ _ ?_ ?_);exact hHeld.alloc _;intro hHeld';(try have hlt:=lt_of_block E16);(try have hx15:=hM);have m:=mod_of hHeld (Obj.cells #[Value.int IntKind.i64 0,Value.string ⟨#[]⟩,Value.slice none 0 0,Value.int IntKind.i64 0,Value.int IntKind.i64 0,Value.string ⟨#[]⟩,Value.int IntKind.i64 0,Value.int IntKind.i64 0,Value.string ⟨#[]⟩,Value.int IntKind.i64 0,Value.slice none 0 0,Value.int IntKind.i64 0,Value.string ⟨#[]⟩,Value.int IntKind.i64 0,Value.int IntKind.i64 0,Value.string ⟨#[]⟩,Value.int IntKind.i64 0,Value.slice none 0 0,Value.int IntKind.i64 0,Value.string ⟨#[]⟩,Value.int IntKind.i64 0,Value.string ⟨#[]⟩,Value.int IntKind.i64 0,Value.int IntKind.i64 0,Value.string ⟨#[]⟩,Value.int IntKind.i64 0,Value.slice none 0 0,Value.slice none 0 0,Value.int IntKind.i64 0,Value.int IntKind.i64 0] 50);have N15:=hHeld.size;(try have E15:=m.at E15 (by simp));(try have E16:=m.at E16 (by simp));(try have VV:=VLr.keep VV m (by simp));(try have hM:=Nat.le_trans hM m.size);have E15:=new_of hHeld (Obj.cells #[Value.int IntKind.i64 0,Value.string ⟨#[]⟩,Value.slice none 0 0,Value.int IntKind.i64 0,Value.int IntKind.i64 0,Value.string ⟨#[]⟩,Value.int IntKind.i64 0,Value.int IntKind.i64 0,Value.string ⟨#[]⟩,Value.int IntKind.i64 0,Value.slice none 0 0,Value.int IntKind.i64 0,Value.string ⟨#[]⟩,Value.int IntKind.i64 0,Value.int IntKind.i64 0,Value.string ⟨#[]⟩,Value.int IntKind.i64 0,Value.slice none 0 0,Value.int IntKind.i64 0,Value.string ⟨#[]⟩,Value.int IntKind.i64 0,Value.string ⟨#[]⟩,Value.int IntKind.i64 0,Value.int IntKind.i64 0,Value.string ⟨#[]⟩,Value.int IntKind.i64 0,Value.slice none 0 0,Value.slice none 0 0,Value.int IntKind.i64 0,Value.int IntKind.i64 0] 50);clear hHeld hK K m;have hHeld:=hHeld';clear hHeld';generalize World.alloc _ _=va at *;(try simp only [Act.put,Lq1,Lq2,Lq3]))
       | ((with_reducible show K _ (World.alloc _ (Obj.cells #[.int .i64 0,.int .i64 0,.int .i64 0] 31)));(with_reducible refine hK.out _ _ ?_ ?_);exact hHeld.alloc _;intro hHeld';(try have hlt:=lt_of_block E15);(try have hx16:=hM);have m:=mod_of hHeld (Obj.cells #[.int .i64 0,.int .i64 0,.int .i64 0] 31);have N16:=hHeld.size;(try have E15:=m.at E15 (by simp));(try have E16:=m.at E16 (by simp));(try have VV:=VLr.keep VV m (by simp));(try have hM:=Nat.le_trans hM m.size);have E16:=new_of hHeld (Obj.cells #[.int .i64 0,.int .i64 0,.int .i64 0] 31);clear hHeld hK K m;have hHeld:=hHeld';clear hHeld';generalize World.alloc _ _=va at *;(try simp only [Act.put,Lq1,Lq2,Lq3]))
      all_goals first
       | (have:=D3;have:=E15;clear this;clear this;refine wpAnyH_ready (rs:=[21]) (by kernel_rfl) (by simp) ?_;refine AllReadyH.cons (o:=?_) ?_ ?_ ?_;rotate_left 1;(· (simp only [Gq1,Gq2,Gq3])<;>rfl);rotate_left 1;exact AllReadyH.nil)
       | (have:=D3;have:=E16;clear this;clear this;refine wpAnyH_ready (rs:=[20]) (by kernel_rfl) (by simp) ?_;refine AllReadyH.cons (o:=?_) ?_ ?_ ?_;rotate_left 1;(· (simp only [Gq1,Gq2,Gq3])<;>rfl);rotate_left 1;exact AllReadyH.nil)
       | (have:=D3;clear this;refine wpAnyH_ready (rs:=[20,21]) (by kernel_rfl) (by simp) ?_;refine AllReadyH.cons (o:=?_) ?_ ?_ ?_;rotate_left 1;(· (simp only [Gq1,Gq2,Gq3])<;>rfl);rotate_left 1;refine AllReadyH.cons (o:=?_) ?_ ?_ ?_;rotate_left 1;(· (simp only [Gq1,Gq2,Gq3])<;>rfl);rotate_left 1;exact AllReadyH.nil)
       | (have:=D2;have:=E15;have:=E16;clear this;clear this;clear this;refine wpAnyH_ready (rs:=[16]) (by kernel_rfl) (by simp) ?_;refine AllReadyH.cons (o:=?_) ?_ ?_ ?_;rotate_left 1;(· (simp only [Gq1,Gq2,Gq3])<;>rfl);rotate_left 1;exact AllReadyH.nil)
       | (have:=D2;have:=E15;clear this;clear this;refine wpAnyH_ready (rs:=[16,21]) (by kernel_rfl) (by simp) ?_;refine AllReadyH.cons (o:=?_) ?_ ?_ ?_;rotate_left 1;(· (simp only [Gq1,Gq2,Gq3])<;>rfl);rotate_left 1;refine AllReadyH.cons (o:=?_) ?_ ?_ ?_;rotate_left 1;(· (simp only [Gq1,Gq2,Gq3])<;>rfl);rotate_left 1;exact AllReadyH.nil)
       | (have:=D2;have:=E16;clear this;clear this;refine wpAnyH_ready (rs:=[16,20]) (by kernel_rfl) (by simp) ?_;refine AllReadyH.cons (o:=?_) ?_ ?_ ?_;rotate_left 1;(· (simp only [Gq1,Gq2,Gq3])<;>rfl);rotate_left 1;refine AllReadyH.cons (o:=?_) ?_ ?_ ?_;rotate_left 1;(· (simp only [Gq1,Gq2,Gq3])<;>rfl);rotate_left 1;exact AllReadyH.nil)
       | (have:=D2;clear this;refine wpAnyH_ready (rs:=[16,20,21]) (by kernel_rfl) (by simp) ?_;refine AllReadyH.cons (o:=?_) ?_ ?_ ?_;rotate_left 1;(· (simp only [Gq1,Gq2,Gq3])<;>rfl);rotate_left 1;refine AllReadyH.cons (o:=?_) ?_ ?_ ?_;rotate_left 1;(· (simp only [Gq1,Gq2,Gq3])<;>rfl);rotate_left 1;refine AllReadyH.cons (o:=?_) ?_ ?_ ?_;rotate_left 1;(· (simp only [Gq1,Gq2,Gq3])<;>rfl);rotate_left 1;exact AllReadyH.nil)
       | (have:=D1;have:=E15;have:=E16;clear this;clear this;clear this;refine wpAnyH_ready (rs:=[14]) (by kernel_rfl) (by simp) ?_;refine AllReadyH.cons (o:=?_) ?_ ?_ ?_;rotate_left 1;(· (simp only [Gq1,Gq2,Gq3])<;>rfl);rotate_left 1;exact AllReadyH.nil)
       | (have:=D1;have:=E15;clear this;clear this;refine wpAnyH_ready (rs:=[14,21]) (by kernel_rfl) (by simp) ?_;refine AllReadyH.cons (o:=?_) ?_ ?_ ?_;rotate_left 1;(· (simp only [Gq1,Gq2,Gq3])<;>rfl);rotate_left 1;refine AllReadyH.cons (o:=?_) ?_ ?_ ?_;rotate_left 1;(· (simp only [Gq1,Gq2,Gq3])<;>rfl);rotate_left 1;exact AllReadyH.nil)
       | (have:=D1;have:=E16;clear this;clear this;refine wpAnyH_ready (rs:=[14,20]) (by kernel_rfl) (by simp) ?_;refine AllReadyH.cons (o:=?_) ?_ ?_ ?_;rotate_left 1;(· (simp only [Gq1,Gq2,Gq3])<;>rfl);rotate_left 1;refine AllReadyH.cons (o:=?_) ?_ ?_ ?_;rotate_left 1;(· (simp only [Gq1,Gq2,Gq3])<;>rfl);rotate_left 1;exact AllReadyH.nil)
       | (have:=D1;clear this;refine wpAnyH_ready (rs:=[14,20,21]) (by kernel_rfl) (by simp) ?_;refine AllReadyH.cons (o:=?_) ?_ ?_ ?_;rotate_left 1;(· (simp only [Gq1,Gq2,Gq3])<;>rfl);rotate_left 1;refine AllReadyH.cons (o:=?_) ?_ ?_ ?_;rotate_left 1;(· (simp only [Gq1,Gq2,Gq3])<;>rfl);rotate_left 1;refine AllReadyH.cons (o:=?_) ?_ ?_ ?_;rotate_left 1;(· (simp only [Gq1,Gq2,Gq3])<;>rfl);rotate_left 1;exact AllReadyH.nil)
       | (have:=E15;have:=E16;clear this;clear this;refine wpAnyH_ready (rs:=[7]) (by kernel_rfl) (by simp) ?_;refine AllReadyH.cons (o:=?_) ?_ ?_ ?_;rotate_left 1;(· (simp only [Gq1,Gq2,Gq3])<;>rfl);rotate_left 1;exact AllReadyH.nil)
       | (have:=E15;clear this;refine wpAnyH_ready (rs:=[7,21]) (by kernel_rfl) (by simp) ?_;refine AllReadyH.cons (o:=?_) ?_ ?_ ?_;rotate_left 1;(· (simp only [Gq1,Gq2,Gq3])<;>rfl);rotate_left 1;refine AllReadyH.cons (o:=?_) ?_ ?_ ?_;rotate_left 1;(· (simp only [Gq1,Gq2,Gq3])<;>rfl);rotate_left 1;exact AllReadyH.nil)
       | (have:=E16;clear this;refine wpAnyH_ready (rs:=[7,20]) (by kernel_rfl) (by simp) ?_;refine AllReadyH.cons (o:=?_) ?_ ?_ ?_;rotate_left 1;(· (simp only [Gq1,Gq2,Gq3])<;>rfl);rotate_left 1;refine AllReadyH.cons (o:=?_) ?_ ?_ ?_;rotate_left 1;(· (simp only [Gq1,Gq2,Gq3])<;>rfl);rotate_left 1;exact AllReadyH.nil)
       | (refine wpAnyH_ready (rs:=[7,20,21]) (by kernel_rfl) (by simp) ?_;refine AllReadyH.cons (o:=?_) ?_ ?_ ?_;rotate_left 1;(· (simp only [Gq1,Gq2,Gq3])<;>rfl);rotate_left 1;refine AllReadyH.cons (o:=?_) ?_ ?_ ?_;rotate_left 1;(· (simp only [Gq1,Gq2,Gq3])<;>rfl);rotate_left 1;refine AllReadyH.cons (o:=?_) ?_ ?_ ?_;rotate_left 1;(· (simp only [Gq1,Gq2,Gq3])<;>rfl);rotate_left 1;exact AllReadyH.nil)
      all_goals (intro K hK;go_simp)
      all_goals first
       | ((with_reducible refine (HO1.out _).mono ?_);rintro e1 v1 ⟨rfl,m⟩;have D1:True:=trivial;(try have E15:=m.at E15 (by simp));(try have E16:=m.at E16 (by simp));(try have VV:=VLr.keep VV m (by simp));(try have hM:=Nat.le_trans hM m.size);refine hK.out _ _ (by (try dsimp only);exact hHeld.trans m (by simp)) (fun hHeld'=>?_);clear m hK K hHeld;have hHeld:=hHeld';clear hHeld';(try simp only [Act.put,Lq1,Lq2,Lq3]))
       | ((with_reducible refine (HO2.out _).mono ?_);rintro e1 v1 ⟨rfl,m⟩;have D2:True:=trivial;(try have E15:=m.at E15 (by simp));(try have E16:=m.at E16 (by simp));(try have VV:=VLr.keep VV m (by simp));(try have hM:=Nat.le_trans hM m.size);refine hK.out _ _ (by (try dsimp only);exact hHeld.trans m (by simp)) (fun hHeld'=>?_);clear m hK K hHeld;have hHeld:=hHeld';clear hHeld';(try simp only [Act.put,Lq1,Lq2,Lq3]);(refine wpAnyH_take (i:=15) (oi:=?_) (v:=?_) ?_ ?_ ?_ ?_ ?_ ?_ (by assumption) ?_;rotate_left 2;(· (simp only [Gq1,Gq2,Gq3])<;>rfl);(· kernel_rfl);(· kernel_rfl);(· kernel_rfl);rotate_left 1;(· (refine Or.inl ⟨by rfl,?_⟩;intro w hSw;clear hSw;go_simp;all_goals with_reducible rfl));rotate_left 1;(· exact fun _ _ _ h=>h);try simp only [Act.put,Lq1,Lq2,Lq3]))
       | ((with_reducible refine (HLT.out _ (hG.past hHeld (by simp))).mono ?_);rintro e1 v1 ⟨C,rfl,VV',m⟩;have VV:=VLr.of VV';have hM:=Nat.le_refl v1.heap.size;have D3:True:=trivial;(try have hx15:=lt_of_block E15);(try have hx16:=lt_of_block E16);(try have E15:=m.at E15 (by simp));(try have E16:=m.at E16 (by simp));refine hK.out _ _ (by (try dsimp only);exact hHeld.trans m (by simp)) (fun hHeld'=>?_);clear m hK K hHeld;have hHeld:=hHeld';clear hHeld';(try simp only [Act.put,Lq1,Lq2,Lq3]);(refine wpAnyH_take (i:=17) (oi:=?_) (v:=?_) ?_ ?_ ?_ ?_ ?_ ?_ (by assumption) ?_;rotate_left 2;(· (simp only [Gq1,Gq2,Gq3])<;>rfl);(· kernel_rfl);(· kernel_rfl);(· kernel_rfl);rotate_left 1;(· (refine Or.inl ⟨by rfl,?_⟩;intro w hSw;go_simp;all_goals with_reducible rfl));rotate_left 1;(· exact fun _ _ _ h=>h);try simp only [Act.put,Lq1,Lq2,Lq3]);(refine wpAnyH_take (i:=18) (oi:=?_) (v:=?_) ?_ ?_ ?_ ?_ ?_ ?_ (by assumption) ?_;rotate_left 2;(· (simp only [Gq1,Gq2,Gq3])<;>rfl);(· kernel_rfl);(· kernel_rfl);(· kernel_rfl);rotate_left 1;(· (refine Or.inl ⟨by rfl,?_⟩;intro w hSw;go_simp;all_goals with_reducible rfl));rotate_left 1;(· exact fun _ _ _ h=>h);try simp only [Act.put,Lq1,Lq2,Lq3]);(refine wpAnyH_take (i:=19) (oi:=?_) (v:=?_) ?_ ?_ ?_ ?_ ?_ ?_ (by assumption) ?_;rotate_left 2;(· (simp only [Gq1,Gq2,Gq3])<;>rfl);(· kernel_rfl);(· kernel_rfl);(· kernel_rfl);rotate_left 1;(· (refine Or.inl ⟨by rfl,?_⟩;intro w hSw;go_simp;all_goals with_reducible rfl));rotate_left 1;(· exact fun _ _ _ h=>h);try simp only [Act.put,Lq1,Lq2,Lq3]))
       | ((with_reducible show K _ (World.alloc _ (Obj.cells #[Value.int IntKind.i64 0,Value.string ⟨#[]⟩,Value.slice none 0 0,Value.int IntKind.i64 0,Value.int IntKind.i64 0,Value.string ⟨#[]⟩,Value.int IntKind.i64 0,Value.int IntKind.i64 0,Value.string ⟨#[]⟩,Value.int IntKind.i64 0,Value.slice none 0 0,Value.int IntKind.i64 0,Value.string ⟨#[]⟩,Value.int IntKind.i64 0,Value.int IntKind.i64 0,Value.string ⟨#[]⟩,Value.int IntKind.i64 0,Value.slice none 0 0,Value.int IntKind.i64 0,Value.string ⟨#[]⟩,Value.int IntKind.i64 0,Value.string ⟨#[]⟩,Value.int IntKind.i64 0,Value.int IntKind.i64 0,Value.string ⟨#[]⟩,Value.int IntKind.i64 0,Value.slice none 0 0,Value.slice none 0 0,Value.int IntKind.i64 0,Value.int IntKind.i64 0] 50)));(with_reducible refine hK.out _ _ ?_ ?_);exact hHeld.alloc _;intro hHeld';(try have hlt:=lt_of_block E16);(try have hx15:=hM);have m:=mod_of hHeld (Obj.cells #[Value.int IntKind.i64 0,Value.string ⟨#[]⟩,Value.slice none 0 0,Value.int IntKind.i64 0,Value.int IntKind.i64 0,Value.string ⟨#[]⟩,Value.int IntKind.i64 0,Value.int IntKind.i64 0,Value.string ⟨#[]⟩,Value.int IntKind.i64 0,Value.slice none 0 0,Value.int IntKind.i64 0,Value.string ⟨#[]⟩,Value.int IntKind.i64 0,Value.int IntKind.i64 0,Value.string ⟨#[]⟩,Value.int IntKind.i64 0,Value.slice none 0 0,Value.int IntKind.i64 0,Value.string ⟨#[]⟩,Value.int IntKind.i64 0,Value.string ⟨#[]⟩,Value.int IntKind.i64 0,Value.int IntKind.i64 0,Value.string ⟨#[]⟩,Value.int IntKind.i64 0,Value.slice none 0 0,Value.slice none 0 0,Value.int IntKind.i64 0,Value.int IntKind.i64 0] 50);have N15:=hHeld.size;(try have E15:=m.at E15 (by simp));(try have E16:=m.at E16 (by simp));(try have VV:=VLr.keep VV m (by simp));(try have hM:=Nat.le_trans hM m.size);have E15:=new_of hHeld (Obj.cells #[Value.int IntKind.i64 0,Value.string ⟨#[]⟩,Value.slice none 0 0,Value.int IntKind.i64 0,Value.int IntKind.i64 0,Value.string ⟨#[]⟩,Value.int IntKind.i64 0,Value.int IntKind.i64 0,Value.string ⟨#[]⟩,Value.int IntKind.i64 0,Value.slice none 0 0,Value.int IntKind.i64 0,Value.string ⟨#[]⟩,Value.int IntKind.i64 0,Value.int IntKind.i64 0,Value.string ⟨#[]⟩,Value.int IntKind.i64 0,Value.slice none 0 0,Value.int IntKind.i64 0,Value.string ⟨#[]⟩,Value.int IntKind.i64 0,Value.string ⟨#[]⟩,Value.int IntKind.i64 0,Value.int IntKind.i64 0,Value.string ⟨#[]⟩,Value.int IntKind.i64 0,Value.slice none 0 0,Value.slice none 0 0,Value.int IntKind.i64 0,Value.int IntKind.i64 0] 50);clear hHeld hK K m;have hHeld:=hHeld';clear hHeld';generalize World.alloc _ _=va at *;(try simp only [Act.put,Lq1,Lq2,Lq3]))
       | ((with_reducible show K _ (World.alloc _ (Obj.cells #[.int .i64 0,.int .i64 0,.int .i64 0] 31)));(with_reducible refine hK.out _ _ ?_ ?_);exact hHeld.alloc _;intro hHeld';(try have hlt:=lt_of_block E15);(try have hx16:=hM);have m:=mod_of hHeld (Obj.cells #[.int .i64 0,.int .i64 0,.int .i64 0] 31);have N16:=hHeld.size;(try have E15:=m.at E15 (by simp));(try have E16:=m.at E16 (by simp));(try have VV:=VLr.keep VV m (by simp));(try have hM:=Nat.le_trans hM m.size);have E16:=new_of hHeld (Obj.cells #[.int .i64 0,.int .i64 0,.int .i64 0] 31);clear hHeld hK K m;have hHeld:=hHeld';clear hHeld';generalize World.alloc _ _=va at *;(try simp only [Act.put,Lq1,Lq2,Lq3]))
      all_goals first
       | (have:=D3;have:=E15;clear this;clear this;refine wpAnyH_ready (rs:=[21]) (by kernel_rfl) (by simp) ?_;refine AllReadyH.cons (o:=?_) ?_ ?_ ?_;rotate_left 1;(· (simp only [Gq1,Gq2,Gq3])<;>rfl);rotate_left 1;exact AllReadyH.nil)
       | (have:=D3;have:=E16;clear this;clear this;refine wpAnyH_ready (rs:=[20]) (by kernel_rfl) (by simp) ?_;refine AllReadyH.cons (o:=?_) ?_ ?_ ?_;rotate_left 1;(· (simp only [Gq1,Gq2,Gq3])<;>rfl);rotate_left 1;exact AllReadyH.nil)
       | (have:=D3;clear this;refine wpAnyH_ready (rs:=[20,21]) (by kernel_rfl) (by simp) ?_;refine AllReadyH.cons (o:=?_) ?_ ?_ ?_;rotate_left 1;(· (simp only [Gq1,Gq2,Gq3])<;>rfl);rotate_left 1;refine AllReadyH.cons (o:=?_) ?_ ?_ ?_;rotate_left 1;(· (simp only [Gq1,Gq2,Gq3])<;>rfl);rotate_left 1;exact AllReadyH.nil)
       | (have:=D2;have:=E15;have:=E16;clear this;clear this;clear this;refine wpAnyH_ready (rs:=[16]) (by kernel_rfl) (by simp) ?_;refine AllReadyH.cons (o:=?_) ?_ ?_ ?_;rotate_left 1;(· (simp only [Gq1,Gq2,Gq3])<;>rfl);rotate_left 1;exact AllReadyH.nil)
       | (have:=D2;have:=E15;clear this;clear this;refine wpAnyH_ready (rs:=[16,21]) (by kernel_rfl) (by simp) ?_;refine AllReadyH.cons (o:=?_) ?_ ?_ ?_;rotate_left 1;(· (simp only [Gq1,Gq2,Gq3])<;>rfl);rotate_left 1;refine AllReadyH.cons (o:=?_) ?_ ?_ ?_;rotate_left 1;(· (simp only [Gq1,Gq2,Gq3])<;>rfl);rotate_left 1;exact AllReadyH.nil)
       | (have:=D2;have:=E16;clear this;clear this;refine wpAnyH_ready (rs:=[16,20]) (by kernel_rfl) (by simp) ?_;refine AllReadyH.cons (o:=?_) ?_ ?_ ?_;rotate_left 1;(· (simp only [Gq1,Gq2,Gq3])<;>rfl);rotate_left 1;refine AllReadyH.cons (o:=?_) ?_ ?_ ?_;rotate_left 1;(· (simp only [Gq1,Gq2,Gq3])<;>rfl);rotate_left 1;exact AllReadyH.nil)
       | (have:=D2;clear this;refine wpAnyH_ready (rs:=[16,20,21]) (by kernel_rfl) (by simp) ?_;refine AllReadyH.cons (o:=?_) ?_ ?_ ?_;rotate_left 1;(· (simp only [Gq1,Gq2,Gq3])<;>rfl);rotate_left 1;refine AllReadyH.cons (o:=?_) ?_ ?_ ?_;rotate_left 1;(· (simp only [Gq1,Gq2,Gq3])<;>rfl);rotate_left 1;refine AllReadyH.cons (o:=?_) ?_ ?_ ?_;rotate_left 1;(· (simp only [Gq1,Gq2,Gq3])<;>rfl);rotate_left 1;exact AllReadyH.nil)
       | (have:=D1;have:=E15;have:=E16;clear this;clear this;clear this;refine wpAnyH_ready (rs:=[14]) (by kernel_rfl) (by simp) ?_;refine AllReadyH.cons (o:=?_) ?_ ?_ ?_;rotate_left 1;(· (simp only [Gq1,Gq2,Gq3])<;>rfl);rotate_left 1;exact AllReadyH.nil)
       | (have:=D1;have:=E15;clear this;clear this;refine wpAnyH_ready (rs:=[14,21]) (by kernel_rfl) (by simp) ?_;refine AllReadyH.cons (o:=?_) ?_ ?_ ?_;rotate_left 1;(· (simp only [Gq1,Gq2,Gq3])<;>rfl);rotate_left 1;refine AllReadyH.cons (o:=?_) ?_ ?_ ?_;rotate_left 1;(· (simp only [Gq1,Gq2,Gq3])<;>rfl);rotate_left 1;exact AllReadyH.nil)
       | (have:=D1;have:=E16;clear this;clear this;refine wpAnyH_ready (rs:=[14,20]) (by kernel_rfl) (by simp) ?_;refine AllReadyH.cons (o:=?_) ?_ ?_ ?_;rotate_left 1;(· (simp only [Gq1,Gq2,Gq3])<;>rfl);rotate_left 1;refine AllReadyH.cons (o:=?_) ?_ ?_ ?_;rotate_left 1;(· (simp only [Gq1,Gq2,Gq3])<;>rfl);rotate_left 1;exact AllReadyH.nil)
       | (have:=D1;clear this;refine wpAnyH_ready (rs:=[14,20,21]) (by kernel_rfl) (by simp) ?_;refine AllReadyH.cons (o:=?_) ?_ ?_ ?_;rotate_left 1;(· (simp only [Gq1,Gq2,Gq3])<;>rfl);rotate_left 1;refine AllReadyH.cons (o:=?_) ?_ ?_ ?_;rotate_left 1;(· (simp only [Gq1,Gq2,Gq3])<;>rfl);rotate_left 1;refine AllReadyH.cons (o:=?_) ?_ ?_ ?_;rotate_left 1;(· (simp only [Gq1,Gq2,Gq3])<;>rfl);rotate_left 1;exact AllReadyH.nil)
       | (have:=E15;have:=E16;clear this;clear this;refine wpAnyH_ready (rs:=[7]) (by kernel_rfl) (by simp) ?_;refine AllReadyH.cons (o:=?_) ?_ ?_ ?_;rotate_left 1;(· (simp only [Gq1,Gq2,Gq3])<;>rfl);rotate_left 1;exact AllReadyH.nil)
       | (have:=E15;clear this;refine wpAnyH_ready (rs:=[7,21]) (by kernel_rfl) (by simp) ?_;refine AllReadyH.cons (o:=?_) ?_ ?_ ?_;rotate_left 1;(· (simp only [Gq1,Gq2,Gq3])<;>rfl);rotate_left 1;refine AllReadyH.cons (o:=?_) ?_ ?_ ?_;rotate_left 1;(· (simp only [Gq1,Gq2,Gq3])<;>rfl);rotate_left 1;exact AllReadyH.nil)
       | (have:=E16;clear this;refine wpAnyH_ready (rs:=[7,20]) (by kernel_rfl) (by simp) ?_;refine AllReadyH.cons (o:=?_) ?_ ?_ ?_;rotate_left 1;(· (simp only [Gq1,Gq2,Gq3])<;>rfl);rotate_left 1;refine AllReadyH.cons (o:=?_) ?_ ?_ ?_;rotate_left 1;(· (simp only [Gq1,Gq2,Gq3])<;>rfl);rotate_left 1;exact AllReadyH.nil)
       | (refine wpAnyH_ready (rs:=[7,20,21]) (by kernel_rfl) (by simp) ?_;refine AllReadyH.cons (o:=?_) ?_ ?_ ?_;rotate_left 1;(· (simp only [Gq1,Gq2,Gq3])<;>rfl);rotate_left 1;refine AllReadyH.cons (o:=?_) ?_ ?_ ?_;rotate_left 1;(· (simp only [Gq1,Gq2,Gq3])<;>rfl);rotate_left 1;refine AllReadyH.cons (o:=?_) ?_ ?_ ?_;rotate_left 1;(· (simp only [Gq1,Gq2,Gq3])<;>rfl);rotate_left 1;exact AllReadyH.nil)
      all_goals (intro K hK;go_simp)
      all_goals first
       | ((with_reducible refine (HO1.out _).mono ?_);rintro e1 v1 ⟨rfl,m⟩;have D1:True:=trivial;(try have E15:=m.at E15 (by simp));(try have E16:=m.at E16 (by simp));(try have VV:=VLr.keep VV m (by simp));(try have hM:=Nat.le_trans hM m.size);refine hK.out _ _ (by (try dsimp only);exact hHeld.trans m (by simp)) (fun hHeld'=>?_);clear m hK K hHeld;have hHeld:=hHeld';clear hHeld';(try simp only [Act.put,Lq1,Lq2,Lq3]))
       | ((with_reducible refine (HO2.out _).mono ?_);rintro e1 v1 ⟨rfl,m⟩;have D2:True:=trivial;(try have E15:=m.at E15 (by simp));(try have E16:=m.at E16 (by simp));(try have VV:=VLr.keep VV m (by simp));(try have hM:=Nat.le_trans hM m.size);refine hK.out _ _ (by (try dsimp only);exact hHeld.trans m (by simp)) (fun hHeld'=>?_);clear m hK K hHeld;have hHeld:=hHeld';clear hHeld';(try simp only [Act.put,Lq1,Lq2,Lq3]);(refine wpAnyH_take (i:=15) (oi:=?_) (v:=?_) ?_ ?_ ?_ ?_ ?_ ?_ (by assumption) ?_;rotate_left 2;(· (simp only [Gq1,Gq2,Gq3])<;>rfl);(· kernel_rfl);(· kernel_rfl);(· kernel_rfl);rotate_left 1;(· (refine Or.inl ⟨by rfl,?_⟩;intro w hSw;clear hSw;go_simp;all_goals with_reducible rfl));rotate_left 1;(· exact fun _ _ _ h=>h);try simp only [Act.put,Lq1,Lq2,Lq3]))
       | ((with_reducible refine (HLT.out _ (hG.past hHeld (by simp))).mono ?_);rintro e1 v1 ⟨C,rfl,VV',m⟩;have VV:=VLr.of VV';have hM:=Nat.le_refl v1.heap.size;have D3:True:=trivial;(try have hx15:=lt_of_block E15);(try have hx16:=lt_of_block E16);(try have E15:=m.at E15 (by simp));(try have E16:=m.at E16 (by simp));refine hK.out _ _ (by (try dsimp only);exact hHeld.trans m (by simp)) (fun hHeld'=>?_);clear m hK K hHeld;have hHeld:=hHeld';clear hHeld';(try simp only [Act.put,Lq1,Lq2,Lq3]);(refine wpAnyH_take (i:=17) (oi:=?_) (v:=?_) ?_ ?_ ?_ ?_ ?_ ?_ (by assumption) ?_;rotate_left 2;(· (simp only [Gq1,Gq2,Gq3])<;>rfl);(· kernel_rfl);(· kernel_rfl);(· kernel_rfl);rotate_left 1;(· (refine Or.inl ⟨by rfl,?_⟩;intro w hSw;go_simp;all_goals with_reducible rfl));rotate_left 1;(· exact fun _ _ _ h=>h);try simp only [Act.put,Lq1,Lq2,Lq3]);(refine wpAnyH_take (i:=18) (oi:=?_) (v:=?_) ?_ ?_ ?_ ?_ ?_ ?_ (by assumption) ?_;rotate_left 2;(· (simp only [Gq1,Gq2,Gq3])<;>rfl);(· kernel_rfl);(· kernel_rfl);(· kernel_rfl);rotate_left 1;(· (refine Or.inl ⟨by rfl,?_⟩;intro w hSw;go_simp;all_goals with_reducible rfl));rotate_left 1;(· exact fun _ _ _ h=>h);try simp only [Act.put,Lq1,Lq2,Lq3]);(refine wpAnyH_take (i:=19) (oi:=?_) (v:=?_) ?_ ?_ ?_ ?_ ?_ ?_ (by assumption) ?_;rotate_left 2;(· (simp only [Gq1,Gq2,Gq3])<;>rfl);(· kernel_rfl);(· kernel_rfl);(· kernel_rfl);rotate_left 1;(· (refine Or.inl ⟨by rfl,?_⟩;intro w hSw;go_simp;all_goals with_reducible rfl));rotate_left 1;(· exact fun _ _ _ h=>h);try simp only [Act.put,Lq1,Lq2,Lq3]))
       | ((with_reducible show K _ (World.alloc _ (Obj.cells #[Value.int IntKind.i64 0,Value.string ⟨#[]⟩,Value.slice none 0 0,Value.int IntKind.i64 0,Value.int IntKind.i64 0,Value.string ⟨#[]⟩,Value.int IntKind.i64 0,Value.int IntKind.i64 0,Value.string ⟨#[]⟩,Value.int IntKind.i64 0,Value.slice none 0 0,Value.int IntKind.i64 0,Value.string ⟨#[]⟩,Value.int IntKind.i64 0,Value.int IntKind.i64 0,Value.string ⟨#[]⟩,Value.int IntKind.i64 0,Value.slice none 0 0,Value.int IntKind.i64 0,Value.string ⟨#[]⟩,Value.int IntKind.i64 0,Value.string ⟨#[]⟩,Value.int IntKind.i64 0,Value.int IntKind.i64 0,Value.string ⟨#[]⟩,Value.int IntKind.i64 0,Value.slice none 0 0,Value.slice none 0 0,Value.int IntKind.i64 0,Value.int IntKind.i64 0] 50)));(with_reducible refine hK.out _ _ ?_ ?_);exact hHeld.alloc _;intro hHeld';(try have hlt:=lt_of_block E16);(try have hx15:=hM);have m:=mod_of hHeld (Obj.cells #[Value.int IntKind.i64 0,Value.string ⟨#[]⟩,Value.slice none 0 0,Value.int IntKind.i64 0,Value.int IntKind.i64 0,Value.string ⟨#[]⟩,Value.int IntKind.i64 0,Value.int IntKind.i64 0,Value.string ⟨#[]⟩,Value.int IntKind.i64 0,Value.slice none 0 0,Value.int IntKind.i64 0,Value.string ⟨#[]⟩,Value.int IntKind.i64 0,Value.int IntKind.i64 0,Value.string ⟨#[]⟩,Value.int IntKind.i64 0,Value.slice none 0 0,Value.int IntKind.i64 0,Value.string ⟨#[]⟩,Value.int IntKind.i64 0,Value.string ⟨#[]⟩,Value.int IntKind.i64 0,Value.int IntKind.i64 0,Value.string ⟨#[]⟩,Value.int IntKind.i64 0,Value.slice none 0 0,Value.slice none 0 0,Value.int IntKind.i64 0,Value.int IntKind.i64 0] 50);have N15:=hHeld.size;(try have E15:=m.at E15 (by simp));(try have E16:=m.at E16 (by simp));(try have VV:=VLr.keep VV m (by simp));(try have hM:=Nat.le_trans hM m.size);have E15:=new_of hHeld (Obj.cells #[Value.int IntKind.i64 0,Value.string ⟨#[]⟩,Value.slice none 0 0,Value.int IntKind.i64 0,Value.int IntKind.i64 0,Value.string ⟨#[]⟩,Value.int IntKind.i64 0,Value.int IntKind.i64 0,Value.string ⟨#[]⟩,Value.int IntKind.i64 0,Value.slice none 0 0,Value.int IntKind.i64 0,Value.string ⟨#[]⟩,Value.int IntKind.i64 0,Value.int IntKind.i64 0,Value.string ⟨#[]⟩,Value.int IntKind.i64 0,Value.slice none 0 0,Value.int IntKind.i64 0,Value.string ⟨#[]⟩,Value.int IntKind.i64 0,Value.string ⟨#[]⟩,Value.int IntKind.i64 0,Value.int IntKind.i64 0,Value.string ⟨#[]⟩,Value.int IntKind.i64 0,Value.slice none 0 0,Value.slice none 0 0,Value.int IntKind.i64 0,Value.int IntKind.i64 0] 50);clear hHeld hK K m;have hHeld:=hHeld';clear hHeld';generalize World.alloc _ _=va at *;(try simp only [Act.put,Lq1,Lq2,Lq3]))
       | ((with_reducible show K _ (World.alloc _ (Obj.cells #[.int .i64 0,.int .i64 0,.int .i64 0] 31)));(with_reducible refine hK.out _ _ ?_ ?_);exact hHeld.alloc _;intro hHeld';(try have hlt:=lt_of_block E15);(try have hx16:=hM);have m:=mod_of hHeld (Obj.cells #[.int .i64 0,.int .i64 0,.int .i64 0] 31);have N16:=hHeld.size;(try have E15:=m.at E15 (by simp));(try have E16:=m.at E16 (by simp));(try have VV:=VLr.keep VV m (by simp));(try have hM:=Nat.le_trans hM m.size);have E16:=new_of hHeld (Obj.cells #[.int .i64 0,.int .i64 0,.int .i64 0] 31);clear hHeld hK K m;have hHeld:=hHeld';clear hHeld';generalize World.alloc _ _=va at *;(try simp only [Act.put,Lq1,Lq2,Lq3]))
      all_goals first
       | (have:=D3;have:=E15;clear this;clear this;refine wpAnyH_ready (rs:=[21]) (by kernel_rfl) (by simp) ?_;refine AllReadyH.cons (o:=?_) ?_ ?_ ?_;rotate_left 1;(· (simp only [Gq1,Gq2,Gq3])<;>rfl);rotate_left 1;exact AllReadyH.nil)
       | (have:=D3;have:=E16;clear this;clear this;refine wpAnyH_ready (rs:=[20]) (by kernel_rfl) (by simp) ?_;refine AllReadyH.cons (o:=?_) ?_ ?_ ?_;rotate_left 1;(· (simp only [Gq1,Gq2,Gq3])<;>rfl);rotate_left 1;exact AllReadyH.nil)
       | (have:=D3;clear this;refine wpAnyH_ready (rs:=[20,21]) (by kernel_rfl) (by simp) ?_;refine AllReadyH.cons (o:=?_) ?_ ?_ ?_;rotate_left 1;(· (simp only [Gq1,Gq2,Gq3])<;>rfl);rotate_left 1;refine AllReadyH.cons (o:=?_) ?_ ?_ ?_;rotate_left 1;(· (simp only [Gq1,Gq2,Gq3])<;>rfl);rotate_left 1;exact AllReadyH.nil)
       | (have:=D2;have:=E15;have:=E16;clear this;clear this;clear this;refine wpAnyH_ready (rs:=[16]) (by kernel_rfl) (by simp) ?_;refine AllReadyH.cons (o:=?_) ?_ ?_ ?_;rotate_left 1;(· (simp only [Gq1,Gq2,Gq3])<;>rfl);rotate_left 1;exact AllReadyH.nil)
       | (have:=D2;have:=E15;clear this;clear this;refine wpAnyH_ready (rs:=[16,21]) (by kernel_rfl) (by simp) ?_;refine AllReadyH.cons (o:=?_) ?_ ?_ ?_;rotate_left 1;(· (simp only [Gq1,Gq2,Gq3])<;>rfl);rotate_left 1;refine AllReadyH.cons (o:=?_) ?_ ?_ ?_;rotate_left 1;(· (simp only [Gq1,Gq2,Gq3])<;>rfl);rotate_left 1;exact AllReadyH.nil)
       | (have:=D2;have:=E16;clear this;clear this;refine wpAnyH_ready (rs:=[16,20]) (by kernel_rfl) (by simp) ?_;refine AllReadyH.cons (o:=?_) ?_ ?_ ?_;rotate_left 1;(· (simp only [Gq1,Gq2,Gq3])<;>rfl);rotate_left 1;refine AllReadyH.cons (o:=?_) ?_ ?_ ?_;rotate_left 1;(· (simp only [Gq1,Gq2,Gq3])<;>rfl);rotate_left 1;exact AllReadyH.nil)
       | (have:=D2;clear this;refine wpAnyH_ready (rs:=[16,20,21]) (by kernel_rfl) (by simp) ?_;refine AllReadyH.cons (o:=?_) ?_ ?_ ?_;rotate_left 1;(· (simp only [Gq1,Gq2,Gq3])<;>rfl);rotate_left 1;refine AllReadyH.cons (o:=?_) ?_ ?_ ?_;rotate_left 1;(· (simp only [Gq1,Gq2,Gq3])<;>rfl);rotate_left 1;refine AllReadyH.cons (o:=?_) ?_ ?_ ?_;rotate_left 1;(· (simp only [Gq1,Gq2,Gq3])<;>rfl);rotate_left 1;exact AllReadyH.nil)
       | (have:=D1;have:=E15;have:=E16;clear this;clear this;clear this;refine wpAnyH_ready (rs:=[14]) (by kernel_rfl) (by simp) ?_;refine AllReadyH.cons (o:=?_) ?_ ?_ ?_;rotate_left 1;(· (simp only [Gq1,Gq2,Gq3])<;>rfl);rotate_left 1;exact AllReadyH.nil)
       | (have:=D1;have:=E15;clear this;clear this;refine wpAnyH_ready (rs:=[14,21]) (by kernel_rfl) (by simp) ?_;refine AllReadyH.cons (o:=?_) ?_ ?_ ?_;rotate_left 1;(· (simp only [Gq1,Gq2,Gq3])<;>rfl);rotate_left 1;refine AllReadyH.cons (o:=?_) ?_ ?_ ?_;rotate_left 1;(· (simp only [Gq1,Gq2,Gq3])<;>rfl);rotate_left 1;exact AllReadyH.nil)
       | (have:=D1;have:=E16;clear this;clear this;refine wpAnyH_ready (rs:=[14,20]) (by kernel_rfl) (by simp) ?_;refine AllReadyH.cons (o:=?_) ?_ ?_ ?_;rotate_left 1;(· (simp only [Gq1,Gq2,Gq3])<;>rfl);rotate_left 1;refine AllReadyH.cons (o:=?_) ?_ ?_ ?_;rotate_left 1;(· (simp only [Gq1,Gq2,Gq3])<;>rfl);rotate_left 1;exact AllReadyH.nil)
       | (have:=D1;clear this;refine wpAnyH_ready (rs:=[14,20,21]) (by kernel_rfl) (by simp) ?_;refine AllReadyH.cons (o:=?_) ?_ ?_ ?_;rotate_left 1;(· (simp only [Gq1,Gq2,Gq3])<;>rfl);rotate_left 1;refine AllReadyH.cons (o:=?_) ?_ ?_ ?_;rotate_left 1;(· (simp only [Gq1,Gq2,Gq3])<;>rfl);rotate_left 1;refine AllReadyH.cons (o:=?_) ?_ ?_ ?_;rotate_left 1;(· (simp only [Gq1,Gq2,Gq3])<;>rfl);rotate_left 1;exact AllReadyH.nil)
       | (have:=E15;have:=E16;clear this;clear this;refine wpAnyH_ready (rs:=[7]) (by kernel_rfl) (by simp) ?_;refine AllReadyH.cons (o:=?_) ?_ ?_ ?_;rotate_left 1;(· (simp only [Gq1,Gq2,Gq3])<;>rfl);rotate_left 1;exact AllReadyH.nil)
       | (have:=E15;clear this;refine wpAnyH_ready (rs:=[7,21]) (by kernel_rfl) (by simp) ?_;refine AllReadyH.cons (o:=?_) ?_ ?_ ?_;rotate_left 1;(· (simp only [Gq1,Gq2,Gq3])<;>rfl);rotate_left 1;refine AllReadyH.cons (o:=?_) ?_ ?_ ?_;rotate_left 1;(· (simp only [Gq1,Gq2,Gq3])<;>rfl);rotate_left 1;exact AllReadyH.nil)
       | (have:=E16;clear this;refine wpAnyH_ready (rs:=[7,20]) (by kernel_rfl) (by simp) ?_;refine AllReadyH.cons (o:=?_) ?_ ?_ ?_;rotate_left 1;(· (simp only [Gq1,Gq2,Gq3])<;>rfl);rotate_left 1;refine AllReadyH.cons (o:=?_) ?_ ?_ ?_;rotate_left 1;(· (simp only [Gq1,Gq2,Gq3])<;>rfl);rotate_left 1;exact AllReadyH.nil)
       | (refine wpAnyH_ready (rs:=[7,20,21]) (by kernel_rfl) (by simp) ?_;refine AllReadyH.cons (o:=?_) ?_ ?_ ?_;rotate_left 1;(· (simp only [Gq1,Gq2,Gq3])<;>rfl);rotate_left 1;refine AllReadyH.cons (o:=?_) ?_ ?_ ?_;rotate_left 1;(· (simp only [Gq1,Gq2,Gq3])<;>rfl);rotate_left 1;refine AllReadyH.cons (o:=?_) ?_ ?_ ?_;rotate_left 1;(· (simp only [Gq1,Gq2,Gq3])<;>rfl);rotate_left 1;exact AllReadyH.nil)
      all_goals (intro K hK;go_simp)
      all_goals first
       | ((with_reducible refine (HO1.out _).mono ?_);rintro e1 v1 ⟨rfl,m⟩;have D1:True:=trivial;(try have E15:=m.at E15 (by simp));(try have E16:=m.at E16 (by simp));(try have VV:=VLr.keep VV m (by simp));(try have hM:=Nat.le_trans hM m.size);refine hK.out _ _ (by (try dsimp only);exact hHeld.trans m (by simp)) (fun hHeld'=>?_);clear m hK K hHeld;have hHeld:=hHeld';clear hHeld';(try simp only [Act.put,Lq1,Lq2,Lq3]))
       | ((with_reducible refine (HO2.out _).mono ?_);rintro e1 v1 ⟨rfl,m⟩;have D2:True:=trivial;(try have E15:=m.at E15 (by simp));(try have E16:=m.at E16 (by simp));(try have VV:=VLr.keep VV m (by simp));(try have hM:=Nat.le_trans hM m.size);refine hK.out _ _ (by (try dsimp only);exact hHeld.trans m (by simp)) (fun hHeld'=>?_);clear m hK K hHeld;have hHeld:=hHeld';clear hHeld';(try simp only [Act.put,Lq1,Lq2,Lq3]);(refine wpAnyH_take (i:=15) (oi:=?_) (v:=?_) ?_ ?_ ?_ ?_ ?_ ?_ (by assumption) ?_;rotate_left 2;(· (simp only [Gq1,Gq2,Gq3])<;>rfl);(· kernel_rfl);(· kernel_rfl);(· kernel_rfl);rotate_left 1;(· (refine Or.inl ⟨by rfl,?_⟩;intro w hSw;clear hSw;go_simp;all_goals with_reducible rfl));rotate_left 1;(· exact fun _ _ _ h=>h);try simp only [Act.put,Lq1,Lq2,Lq3]))
       | ((with_reducible refine (HLT.out _ (hG.past hHeld (by simp))).mono ?_);rintro e1 v1 ⟨C,rfl,VV',m⟩;have VV:=VLr.of VV';have hM:=Nat.le_refl v1.heap.size;have D3:True:=trivial;(try have hx15:=lt_of_block E15);(try have hx16:=lt_of_block E16);(try have E15:=m.at E15 (by simp));(try have E16:=m.at E16 (by simp));refine hK.out _ _ (by (try dsimp only);exact hHeld.trans m (by simp)) (fun hHeld'=>?_);clear m hK K hHeld;have hHeld:=hHeld';clear hHeld';(try simp only [Act.put,Lq1,Lq2,Lq3]);(refine wpAnyH_take (i:=17) (oi:=?_) (v:=?_) ?_ ?_ ?_ ?_ ?_ ?_ (by assumption) ?_;rotate_left 2;(· (simp only [Gq1,Gq2,Gq3])<;>rfl);(· kernel_rfl);(· kernel_rfl);(· kernel_rfl);rotate_left 1;(· (refine Or.inl ⟨by rfl,?_⟩;intro w hSw;go_simp;all_goals with_reducible rfl));rotate_left 1;(· exact fun _ _ _ h=>h);try simp only [Act.put,Lq1,Lq2,Lq3]);(refine wpAnyH_take (i:=18) (oi:=?_) (v:=?_) ?_ ?_ ?_ ?_ ?_ ?_ (by assumption) ?_;rotate_left 2;(· (simp only [Gq1,Gq2,Gq3])<;>rfl);(· kernel_rfl);(· kernel_rfl);(· kernel_rfl);rotate_left 1;(· (refine Or.inl ⟨by rfl,?_⟩;intro w hSw;go_simp;all_goals with_reducible rfl));rotate_left 1;(· exact fun _ _ _ h=>h);try simp only [Act.put,Lq1,Lq2,Lq3]);(refine wpAnyH_take (i:=19) (oi:=?_) (v:=?_) ?_ ?_ ?_ ?_ ?_ ?_ (by assumption) ?_;rotate_left 2;(· (simp only [Gq1,Gq2,Gq3])<;>rfl);(· kernel_rfl);(· kernel_rfl);(· kernel_rfl);rotate_left 1;(· (refine Or.inl ⟨by rfl,?_⟩;intro w hSw;go_simp;all_goals with_reducible rfl));rotate_left 1;(· exact fun _ _ _ h=>h);try simp only [Act.put,Lq1,Lq2,Lq3]))
       | ((with_reducible show K _ (World.alloc _ (Obj.cells #[Value.int IntKind.i64 0,Value.string ⟨#[]⟩,Value.slice none 0 0,Value.int IntKind.i64 0,Value.int IntKind.i64 0,Value.string ⟨#[]⟩,Value.int IntKind.i64 0,Value.int IntKind.i64 0,Value.string ⟨#[]⟩,Value.int IntKind.i64 0,Value.slice none 0 0,Value.int IntKind.i64 0,Value.string ⟨#[]⟩,Value.int IntKind.i64 0,Value.int IntKind.i64 0,Value.string ⟨#[]⟩,Value.int IntKind.i64 0,Value.slice none 0 0,Value.int IntKind.i64 0,Value.string ⟨#[]⟩,Value.int IntKind.i64 0,Value.string ⟨#[]⟩,Value.int IntKind.i64 0,Value.int IntKind.i64 0,Value.string ⟨#[]⟩,Value.int IntKind.i64 0,Value.slice none 0 0,Value.slice none 0 0,Value.int IntKind.i64 0,Value.int IntKind.i64 0] 50)));(with_reducible refine hK.out _ _ ?_ ?_);exact hHeld.alloc _;intro hHeld';(try have hlt:=lt_of_block E16);(try have hx15:=hM);have m:=mod_of hHeld (Obj.cells #[Value.int IntKind.i64 0,Value.string ⟨#[]⟩,Value.slice none 0 0,Value.int IntKind.i64 0,Value.int IntKind.i64 0,Value.string ⟨#[]⟩,Value.int IntKind.i64 0,Value.int IntKind.i64 0,Value.string ⟨#[]⟩,Value.int IntKind.i64 0,Value.slice none 0 0,Value.int IntKind.i64 0,Value.string ⟨#[]⟩,Value.int IntKind.i64 0,Value.int IntKind.i64 0,Value.string ⟨#[]⟩,Value.int IntKind.i64 0,Value.slice none 0 0,Value.int IntKind.i64 0,Value.string ⟨#[]⟩,Value.int IntKind.i64 0,Value.string ⟨#[]⟩,Value.int IntKind.i64 0,Value.int IntKind.i64 0,Value.string ⟨#[]⟩,Value.int IntKind.i64 0,Value.slice none 0 0,Value.slice none 0 0,Value.int IntKind.i64 0,Value.int IntKind.i64 0] 50);have N15:=hHeld.size;(try have E15:=m.at E15 (by simp));(try have E16:=m.at E16 (by simp));(try have VV:=VLr.keep VV m (by simp));(try have hM:=Nat.le_trans hM m.size);have E15:=new_of hHeld (Obj.cells #[Value.int IntKind.i64 0,Value.string ⟨#[]⟩,Value.slice none 0 0,Value.int IntKind.i64 0,Value.int IntKind.i64 0,Value.string ⟨#[]⟩,Value.int IntKind.i64 0,Value.int IntKind.i64 0,Value.string ⟨#[]⟩,Value.int IntKind.i64 0,Value.slice none 0 0,Value.int IntKind.i64 0,Value.string ⟨#[]⟩,Value.int IntKind.i64 0,Value.int IntKind.i64 0,Value.string ⟨#[]⟩,Value.int IntKind.i64 0,Value.slice none 0 0,Value.int IntKind.i64 0,Value.string ⟨#[]⟩,Value.int IntKind.i64 0,Value.string ⟨#[]⟩,Value.int IntKind.i64 0,Value.int IntKind.i64 0,Value.string ⟨#[]⟩,Value.int IntKind.i64 0,Value.slice none 0 0,Value.slice none 0 0,Value.int IntKind.i64 0,Value.int IntKind.i64 0] 50);clear hHeld hK K m;have hHeld:=hHeld';clear hHeld';generalize World.alloc _ _=va at *;(try simp only [Act.put,Lq1,Lq2,Lq3]))
       | ((with_reducible show K _ (World.alloc _ (Obj.cells #[.int .i64 0,.int .i64 0,.int .i64 0] 31)));(with_reducible refine hK.out _ _ ?_ ?_);exact hHeld.alloc _;intro hHeld';(try have hlt:=lt_of_block E15);(try have hx16:=hM);have m:=mod_of hHeld (Obj.cells #[.int .i64 0,.int .i64 0,.int .i64 0] 31);have N16:=hHeld.size;(try have E15:=m.at E15 (by simp));(try have E16:=m.at E16 (by simp));(try have VV:=VLr.keep VV m (by simp));(try have hM:=Nat.le_trans hM m.size);have E16:=new_of hHeld (Obj.cells #[.int .i64 0,.int .i64 0,.int .i64 0] 31);clear hHeld hK K m;have hHeld:=hHeld';clear hHeld';generalize World.alloc _ _=va at *;(try simp only [Act.put,Lq1,Lq2,Lq3]))
      all_goals first
       | (have:=D3;have:=E15;clear this;clear this;refine wpAnyH_ready (rs:=[21]) (by kernel_rfl) (by simp) ?_;refine AllReadyH.cons (o:=?_) ?_ ?_ ?_;rotate_left 1;(· (simp only [Gq1,Gq2,Gq3])<;>rfl);rotate_left 1;exact AllReadyH.nil)
       | (have:=D3;have:=E16;clear this;clear this;refine wpAnyH_ready (rs:=[20]) (by kernel_rfl) (by simp) ?_;refine AllReadyH.cons (o:=?_) ?_ ?_ ?_;rotate_left 1;(· (simp only [Gq1,Gq2,Gq3])<;>rfl);rotate_left 1;exact AllReadyH.nil)
       | (have:=D3;clear this;refine wpAnyH_ready (rs:=[20,21]) (by kernel_rfl) (by simp) ?_;refine AllReadyH.cons (o:=?_) ?_ ?_ ?_;rotate_left 1;(· (simp only [Gq1,Gq2,Gq3])<;>rfl);rotate_left 1;refine AllReadyH.cons (o:=?_) ?_ ?_ ?_;rotate_left 1;(· (simp only [Gq1,Gq2,Gq3])<;>rfl);rotate_left 1;exact AllReadyH.nil)
       | (have:=D2;have:=E15;have:=E16;clear this;clear this;clear this;refine wpAnyH_ready (rs:=[16]) (by kernel_rfl) (by simp) ?_;refine AllReadyH.cons (o:=?_) ?_ ?_ ?_;rotate_left 1;(· (simp only [Gq1,Gq2,Gq3])<;>rfl);rotate_left 1;exact AllReadyH.nil)
       | (have:=D2;have:=E15;clear this;clear this;refine wpAnyH_ready (rs:=[16,21]) (by kernel_rfl) (by simp) ?_;refine AllReadyH.cons (o:=?_) ?_ ?_ ?_;rotate_left 1;(· (simp only [Gq1,Gq2,Gq3])<;>rfl);rotate_left 1;refine AllReadyH.cons (o:=?_) ?_ ?_ ?_;rotate_left 1;(· (simp only [Gq1,Gq2,Gq3])<;>rfl);rotate_left 1;exact AllReadyH.nil)
       | (have:=D2;have:=E16;clear this;clear this;refine wpAnyH_ready (rs:=[16,20]) (by kernel_rfl) (by simp) ?_;refine AllReadyH.cons (o:=?_) ?_ ?_ ?_;rotate_left 1;(· (simp only [Gq1,Gq2,Gq3])<;>rfl);rotate_left 1;refine AllReadyH.cons (o:=?_) ?_ ?_ ?_;rotate_left 1;(· (simp only [Gq1,Gq2,Gq3])<;>rfl);rotate_left 1;exact AllReadyH.nil)
       | (have:=D2;clear this;refine wpAnyH_ready (rs:=[16,20,21]) (by kernel_rfl) (by simp) ?_;refine AllReadyH.cons (o:=?_) ?_ ?_ ?_;rotate_left 1;(· (simp only [Gq1,Gq2,Gq3])<;>rfl);rotate_left 1;refine AllReadyH.cons (o:=?_) ?_ ?_ ?_;rotate_left 1;(· (simp only [Gq1,Gq2,Gq3])<;>rfl);rotate_left 1;refine AllReadyH.cons (o:=?_) ?_ ?_ ?_;rotate_left 1;(· (simp only [Gq1,Gq2,Gq3])<;>rfl);rotate_left 1;exact AllReadyH.nil)
       | (have:=D1;have:=E15;have:=E16;clear this;clear this;clear this;refine wpAnyH_ready (rs:=[14]) (by kernel_rfl) (by simp) ?_;refine AllReadyH.cons (o:=?_) ?_ ?_ ?_;rotate_left 1;(· (simp only [Gq1,Gq2,Gq3])<;>rfl);rotate_left 1;exact AllReadyH.nil)
       | (have:=D1;have:=E15;clear this;clear this;refine wpAnyH_ready (rs:=[14,21]) (by kernel_rfl) (by simp) ?_;refine AllReadyH.cons (o:=?_) ?_ ?_ ?_;rotate_left 1;(· (simp only [Gq1,Gq2,Gq3])<;>rfl);rotate_left 1;refine AllReadyH.cons (o:=?_) ?_ ?_ ?_;rotate_left 1;(· (simp only [Gq1,Gq2,Gq3])<;>rfl);rotate_left 1;exact AllReadyH.nil)
       | (have:=D1;have:=E16;clear this;clear this;refine wpAnyH_ready (rs:=[14,20]) (by kernel_rfl) (by simp) ?_;refine AllReadyH.cons (o:=?_) ?_ ?_ ?_;rotate_left 1;(· (simp only [Gq1,Gq2,Gq3])<;>rfl);rotate_left 1;refine AllReadyH.cons (o:=?_) ?_ ?_ ?_;rotate_left 1;(· (simp only [Gq1,Gq2,Gq3])<;>rfl);rotate_left 1;exact AllReadyH.nil)
       | (have:=D1;clear this;refine wpAnyH_ready (rs:=[14,20,21]) (by kernel_rfl) (by simp) ?_;refine AllReadyH.cons (o:=?_) ?_ ?_ ?_;rotate_left 1;(· (simp only [Gq1,Gq2,Gq3])<;>rfl);rotate_left 1;refine AllReadyH.cons (o:=?_) ?_ ?_ ?_;rotate_left 1;(· (simp only [Gq1,Gq2,Gq3])<;>rfl);rotate_left 1;refine AllReadyH.cons (o:=?_) ?_ ?_ ?_;rotate_left 1;(· (simp only [Gq1,Gq2,Gq3])<;>rfl);rotate_left 1;exact AllReadyH.nil)
       | (have:=E15;have:=E16;clear this;clear this;refine wpAnyH_ready (rs:=[7]) (by kernel_rfl) (by simp) ?_;refine AllReadyH.cons (o:=?_) ?_ ?_ ?_;rotate_left 1;(· (simp only [Gq1,Gq2,Gq3])<;>rfl);rotate_left 1;exact AllReadyH.nil)
       | (have:=E15;clear this;refine wpAnyH_ready (rs:=[7,21]) (by kernel_rfl) (by simp) ?_;refine AllReadyH.cons (o:=?_) ?_ ?_ ?_;rotate_left 1;(· (simp only [Gq1,Gq2,Gq3])<;>rfl);rotate_left 1;refine AllReadyH.cons (o:=?_) ?_ ?_ ?_;rotate_left 1;(· (simp only [Gq1,Gq2,Gq3])<;>rfl);rotate_left 1;exact AllReadyH.nil)
       | (have:=E16;clear this;refine wpAnyH_ready (rs:=[7,20]) (by kernel_rfl) (by simp) ?_;refine AllReadyH.cons (o:=?_) ?_ ?_ ?_;rotate_left 1;(· (simp only [Gq1,Gq2,Gq3])<;>rfl);rotate_left 1;refine AllReadyH.cons (o:=?_) ?_ ?_ ?_;rotate_left 1;(· (simp only [Gq1,Gq2,Gq3])<;>rfl);rotate_left 1;exact AllReadyH.nil)
       | (refine wpAnyH_ready (rs:=[7,20,21]) (by kernel_rfl) (by simp) ?_;refine AllReadyH.cons (o:=?_) ?_ ?_ ?_;rotate_left 1;(· (simp only [Gq1,Gq2,Gq3])<;>rfl);rotate_left 1;refine AllReadyH.cons (o:=?_) ?_ ?_ ?_;rotate_left 1;(· (simp only [Gq1,Gq2,Gq3])<;>rfl);rotate_left 1;refine AllReadyH.cons (o:=?_) ?_ ?_ ?_;rotate_left 1;(· (simp only [Gq1,Gq2,Gq3])<;>rfl);rotate_left 1;exact AllReadyH.nil)
      all_goals (intro K hK;go_simp)
      all_goals first
       | ((with_reducible refine (HO1.out _).mono ?_);rintro e1 v1 ⟨rfl,m⟩;have D1:True:=trivial;(try have E15:=m.at E15 (by simp));(try have E16:=m.at E16 (by simp));(try have VV:=VLr.keep VV m (by simp));(try have hM:=Nat.le_trans hM m.size);refine hK.out _ _ (by (try dsimp only);exact hHeld.trans m (by simp)) (fun hHeld'=>?_);clear m hK K hHeld;have hHeld:=hHeld';clear hHeld';(try simp only [Act.put,Lq1,Lq2,Lq3]))
       | ((with_reducible refine (HO2.out _).mono ?_);rintro e1 v1 ⟨rfl,m⟩;have D2:True:=trivial;(try have E15:=m.at E15 (by simp));(try have E16:=m.at E16 (by simp));(try have VV:=VLr.keep VV m (by simp));(try have hM:=Nat.le_trans hM m.size);refine hK.out _ _ (by (try dsimp only);exact hHeld.trans m (by simp)) (fun hHeld'=>?_);clear m hK K hHeld;have hHeld:=hHeld';clear hHeld';(try simp only [Act.put,Lq1,Lq2,Lq3]);(refine wpAnyH_take (i:=15) (oi:=?_) (v:=?_) ?_ ?_ ?_ ?_ ?_ ?_ (by assumption) ?_;rotate_left 2;(· (simp only [Gq1,Gq2,Gq3])<;>rfl);(· kernel_rfl);(· kernel_rfl);(· kernel_rfl);rotate_left 1;(· (refine Or.inl ⟨by rfl,?_⟩;intro w hSw;clear hSw;go_simp;all_goals with_reducible rfl));rotate_left 1;(· exact fun _ _ _ h=>h);try simp only [Act.put,Lq1,Lq2,Lq3]))
       | ((with_reducible refine (HLT.out _ (hG.past hHeld (by simp))).mono ?_);rintro e1 v1 ⟨C,rfl,VV',m⟩;have VV:=VLr.of VV';have hM:=Nat.le_refl v1.heap.size;have D3:True:=trivial;(try have hx15:=lt_of_block E15);(try have hx16:=lt_of_block E16);(try have E15:=m.at E15 (by simp));(try have E16:=m.at E16 (by simp));refine hK.out _ _ (by (try dsimp only);exact hHeld.trans m (by simp)) (fun hHeld'=>?_);clear m hK K hHeld;have hHeld:=hHeld';clear hHeld';(try simp only [Act.put,Lq1,Lq2,Lq3]);(refine wpAnyH_take (i:=17) (oi:=?_) (v:=?_) ?_ ?_ ?_ ?_ ?_ ?_ (by assumption) ?_;rotate_left 2;(· (simp only [Gq1,Gq2,Gq3])<;>rfl);(· kernel_rfl);(· kernel_rfl);(· kernel_rfl);rotate_left 1;(· (refine Or.inl ⟨by rfl,?_⟩;intro w hSw;go_simp;all_goals with_reducible rfl));rotate_left 1;(· exact fun _ _ _ h=>h);try simp only [Act.put,Lq1,Lq2,Lq3]);(refine wpAnyH_take (i:=18) (oi:=?_) (v:=?_) ?_ ?_ ?_ ?_ ?_ ?_ (by assumption) ?_;rotate_left 2;(· (simp only [Gq1,Gq2,Gq3])<;>rfl);(· kernel_rfl);(· kernel_rfl);(· kernel_rfl);rotate_left 1;(· (refine Or.inl ⟨by rfl,?_⟩;intro w hSw;go_simp;all_goals with_reducible rfl));rotate_left 1;(· exact fun _ _ _ h=>h);try simp only [Act.put,Lq1,Lq2,Lq3]);(refine wpAnyH_take (i:=19) (oi:=?_) (v:=?_) ?_ ?_ ?_ ?_ ?_ ?_ (by assumption) ?_;rotate_left 2;(· (simp only [Gq1,Gq2,Gq3])<;>rfl);(· kernel_rfl);(· kernel_rfl);(· kernel_rfl);rotate_left 1;(· (refine Or.inl ⟨by rfl,?_⟩;intro w hSw;go_simp;all_goals with_reducible rfl));rotate_left 1;(· exact fun _ _ _ h=>h);try simp only [Act.put,Lq1,Lq2,Lq3]))
       | ((with_reducible show K _ (World.alloc _ (Obj.cells #[Value.int IntKind.i64 0,Value.string ⟨#[]⟩,Value.slice none 0 0,Value.int IntKind.i64 0,Value.int IntKind.i64 0,Value.string ⟨#[]⟩,Value.int IntKind.i64 0,Value.int IntKind.i64 0,Value.string ⟨#[]⟩,Value.int IntKind.i64 0,Value.slice none 0 0,Value.int IntKind.i64 0,Value.string ⟨#[]⟩,Value.int IntKind.i64 0,Value.int IntKind.i64 0,Value.string ⟨#[]⟩,Value.int IntKind.i64 0,Value.slice none 0 0,Value.int IntKind.i64 0,Value.string ⟨#[]⟩,Value.int IntKind.i64 0,Value.string ⟨#[]⟩,Value.int IntKind.i64 0,Value.int IntKind.i64 0,Value.string ⟨#[]⟩,Value.int IntKind.i64 0,Value.slice none 0 0,Value.slice none 0 0,Value.int IntKind.i64 0,Value.int IntKind.i64 0] 50)));(with_reducible refine hK.out _ _ ?_ ?_);exact hHeld.alloc _;intro hHeld';(try have hlt:=lt_of_block E16);(try have hx15:=hM);have m:=mod_of hHeld (Obj.cells #[Value.int IntKind.i64 0,Value.string ⟨#[]⟩,Value.slice none 0 0,Value.int IntKind.i64 0,Value.int IntKind.i64 0,Value.string ⟨#[]⟩,Value.int IntKind.i64 0,Value.int IntKind.i64 0,Value.string ⟨#[]⟩,Value.int IntKind.i64 0,Value.slice none 0 0,Value.int IntKind.i64 0,Value.string ⟨#[]⟩,Value.int IntKind.i64 0,Value.int IntKind.i64 0,Value.string ⟨#[]⟩,Value.int IntKind.i64 0,Value.slice none 0 0,Value.int IntKind.i64 0,Value.string ⟨#[]⟩,Value.int IntKind.i64 0,Value.string ⟨#[]⟩,Value.int IntKind.i64 0,Value.int IntKind.i64 0,Value.string ⟨#[]⟩,Value.int IntKind.i64 0,Value.slice none 0 0,Value.slice none 0 0,Value.int IntKind.i64 0,Value.int IntKind.i64 0] 50);have N15:=hHeld.size;(try have E15:=m.at E15 (by simp));(try have E16:=m.at E16 (by simp));(try have VV:=VLr.keep VV m (by simp));(try have hM:=Nat.le_trans hM m.size);have E15:=new_of hHeld (Obj.cells #[Value.int IntKind.i64 0,Value.string ⟨#[]⟩,Value.slice none 0 0,Value.int IntKind.i64 0,Value.int IntKind.i64 0,Value.string ⟨#[]⟩,Value.int IntKind.i64 0,Value.int IntKind.i64 0,Value.string ⟨#[]⟩,Value.int IntKind.i64 0,Value.slice none 0 0,Value.int IntKind.i64 0,Value.string ⟨#[]⟩,Value.int IntKind.i64 0,Value.int IntKind.i64 0,Value.string ⟨#[]⟩,Value.int IntKind.i64 0,Value.slice none 0 0,Value.int IntKind.i64 0,Value.string ⟨#[]⟩,Value.int IntKind.i64 0,Value.string ⟨#[]⟩,Value.int IntKind.i64 0,Value.int IntKind.i64 0,Value.string ⟨#[]⟩,Value.int IntKind.i64 0,Value.slice none 0 0,Value.slice none 0 0,Value.int IntKind.i64 0,Value.int IntKind.i64 0] 50);clear hHeld hK K m;have hHeld:=hHeld';clear hHeld';generalize World.alloc _ _=va at *;(try simp only [Act.put,Lq1,Lq2,Lq3]))
       | ((with_reducible show K _ (World.alloc _ (Obj.cells #[.int .i64 0,.int .i64 0,.int .i64 0] 31)));(with_reducible refine hK.out _ _ ?_ ?_);exact hHeld.alloc _;intro hHeld';(try have hlt:=lt_of_block E15);(try have hx16:=hM);have m:=mod_of hHeld (Obj.cells #[.int .i64 0,.int .i64 0,.int .i64 0] 31);have N16:=hHeld.size;(try have E15:=m.at E15 (by simp));(try have E16:=m.at E16 (by simp));(try have VV:=VLr.keep VV m (by simp));(try have hM:=Nat.le_trans hM m.size);have E16:=new_of hHeld (Obj.cells #[.int .i64 0,.int .i64 0,.int .i64 0] 31);clear hHeld hK K m;have hHeld:=hHeld';clear hHeld';generalize World.alloc _ _=va at *;(try simp only [Act.put,Lq1,Lq2,Lq3]))
      all_goals (
       have hcs:=VLr.cells VV
       have hnn:_∉[_]:=ne_of E15 E16 (by omega)
       obtain ⟨mR,F15⟩:=row_of E15 C
       have F16:=mR.at E16 hnn
       have WW:=VLr.keep VV mR (fun s hs=>by rw [Msq] at hs;omega)
       refine wpAnyH_ready (rs:=[22]) (by kernel_rfl) (by simp) ?_
       refine AllReadyH.cons (o:=?_) ?_ ?_ AllReadyH.nil
       rotate_left 1
       ·(simp only [Gq1,Gq2,Gq3])<;>rfl
       intro K hK
       refine (if_pos (by rfl)).mpr ?_
       refine wp_store_row 50 _ _ rfl _ C rfl rfl 50 _ E15 (size_of sizeL hcs.1) (by rw [hcs.1];rfl) (by rw [<-Array.all_toList];exact hcs.2) ?_
       refine hK.out _ _ (by (try dsimp only);exact hHeld.trans mR (fun t ht=>by rw [Msq] at ht;exact .inr (by omega))) (fun hHeld'=>?_)
       clear hK K hHeld
       have hHeld:=hHeld'
       clear hHeld'
       try simp only [Act.put,Lq1,Lq2,Lq3]
       obtain ⟨mS,H16⟩:=row_of F16 #[.int .i64 0,.int .i64 0,.int .i64 0]
       have H15:=mS.at F15 (ne_of F16 F15 (by omega))
       have XX:=VLr.keep WW mS (fun s hs=>by rw [Msq] at hs;omega)
       refine wpAnyH_ready (rs:=[23]) (by kernel_rfl) (by simp) ?_
       refine AllReadyH.cons (o:=?_) ?_ ?_ AllReadyH.nil
       rotate_left 1
       ·(simp only [Gq1,Gq2,Gq3])<;>rfl
       intro K hK
       refine (if_pos (by rfl)).mpr ?_
       refine wp_store_row 31 _ _ rfl _ #[.int .i64 0,.int .i64 0,.int .i64 0] rfl rfl 31 _ F16 sizeFlt rfl (by rw [<-Array.all_toList];rfl) ?_
       refine hK.out _ _ (by (try dsimp only);exact hHeld.trans mS (fun t ht=>by rw [Msq] at ht;exact .inr (by omega))) (fun hHeld'=>?_)
       clear hK K hHeld
       have hHeld:=hHeld'
       clear hHeld'
       try simp only [Act.put,Lq1,Lq2,Lq3]
       refine wpAnyH_done (by kernel_rfl) ?_ _
       go_wp2_with fail
       go_meet
       exact ⟨_,_,C,rfl,rfl,H15,H16,XX.all,hHeld⟩)
     case rest =>
      obtain ⟨g15,g16,C,rfl,rfl,e15,e16,⟨U4,hCU,hLB4⟩,m4⟩:=hcut
      obtain ⟨w4,hw4⟩:∃ w4,w4=wc:=⟨_,rfl⟩
      subst hw4
      have E15:=Lib.hid e15;have E16:=Lib.hid e16;have M4:=Hxq (M3.out.trans m4 (by simp));have E4:=Hxq (m4.at E3.out (by simp));have T4:=Hxq (T3.out.keep m4 (by simp));have B4:=Hxq (B3.out.keep m4 (by simp));have R4:=Hxq (R3.out.keep m4 (by simp))
      have HCU:=Lib.hid hCU;have HLB4:=Lib.hid hLB4
      have hC30:C.size=30:=by rw [hCU];exact liV_size (x',U4)
      have hone:C.toList.all (·.oneCell')=true:=by rw [hCU];exact List.all_eq_true.2 (fun x hx=>liV_one (x',U4) hLB4 x hx)
      have HSZ:=Hxq (size_of sizeL hC30)
      have hcap:=B4.out.cap
      have HSUB:=Hxq (fun w' (m:Mod [] w4 w')=>(B4.out.keep m (by simp)).sub k hlt (c2:=bc - k) (by omega))
      have HBB1:=Hxq (fun (w':World) u h=>bareBody_any (F:=fun _=>True) [x'] (by simp) HMX.out u w' h)
      have hMk:liMs [(body[k]'hlt)]<=1048576:=Nat.le_trans (liMs_get body k hlt) hq3
      have HBB2:=Hxq (fun (w':World) u h=>bareBody_any (F:=G) [(body[k]'hlt)] (by simp) hMk u w' h)
      have hM2:liMs ([(body[k]'hlt)].map Sy.bareL)<=140737488355328:=by rw [liMs_bare];omega
      have HSL:=Hxq (fun (w':World) u u' h h'=>sameLits_any (F:=fun _=>True) (G:=fun _=>True) ([(body[k]'hlt)].map Sy.bareL) (by simp) hM2 u u' w' h h')
      have HEQ:Hid ([x'].map Sy.bareL=[(body[k]'hlt)].map Sy.bareL):=Hxq (by simp only [List.map_cons,List.map_nil];rw [HBX.out])
      clear e15 e16 m4 hCU hLB4 hMk hM2 M3 E3 T3 B3 R3 P1 P2 HO1 HO2 HLT ho12 ho2 ho3 hst0 hsp0 hstI hspI hcA hcB hcC hG hG3 HBX HMX
      have x2:=cell_at E4.out 2
      have y0:=cell_at E16.out 0
      simp only [List.getElem?_toArray,List.getElem?_cons_zero,List.getElem?_cons_succ] at x2 y0
      obtain ⟨i30,hinf,hz0,hz1,hz2⟩:=info_parts Tryz.infoLit
      have HCi:=Hxq (show C.size=i30.size by rw [hC30,hz1])
      have hw1:IntKind.i64.wrap ((k:Int)+1)=(k:Int)+1:=IntWalk.i64_in _ (by omega)
      have hw2:((k:Int)+1).toNat=k+1:=by omega
      have hw3:((k:Int)+1)<=(bc:Int):=by omega
      have hw4:(bc=k)=False:=by rw [eq_iff_iff,iff_false];omega
      have hw5:k+1 - k=1:=by omega
      have hw6:(0:Int)<=(k:Int)+1:=by omega
      go_upto_region 14 with fail
      refine wp_region_held_drew (S:=(fun w':World=>Mod [] w4 w')) (by kernel_rfl) (by (try dsimp only);exact (Mod.refl [] w4).drew) (fun hHeld=>?_)
      generalize w4.drew=wd at *
      refine wpAnyH_take (i:=0) (oi:=?_) (v:=?_) ?_ ?_ ?_ ?_ ?_ ?_ (by assumption) ?_
      rotate_left 2
      (· (simp only [Gq1,Gq2,Gq3])<;>rfl)
      (· kernel_rfl)
      (· kernel_rfl)
      (· kernel_rfl)
      rotate_left 1
      (· (refine Or.inl ⟨by rfl,?_⟩;intro w hSw;go_simp;all_goals with_reducible rfl))
      rotate_left 1
      (· exact fun _ _ _ h=>h)
      try simp only [Act.put,Lq1,Lq2,Lq3]
      refine wpAnyH_take (i:=1) (oi:=?_) (v:=?_) ?_ ?_ ?_ ?_ ?_ ?_ (by assumption) ?_
      rotate_left 2
      (· (simp only [Gq1,Gq2,Gq3])<;>rfl)
      (· kernel_rfl)
      (· kernel_rfl)
      (· kernel_rfl)
      rotate_left 1
      (· (refine Or.inl ⟨by rfl,?_⟩;intro w hSw;have c0:=hSw.cell y0 (by simp);clear hSw;go_simp;all_goals with_reducible rfl))
      rotate_left 1
      (· exact fun _ _ _ h=>h)
      try simp only [Act.put,Lq1,Lq2,Lq3]
      refine wpAnyH_take (i:=2) (oi:=?_) (v:=?_) ?_ ?_ ?_ ?_ ?_ ?_ (by assumption) ?_
      rotate_left 2
      (· (simp only [Gq1,Gq2,Gq3])<;>rfl)
      (· kernel_rfl)
      (· kernel_rfl)
      (· kernel_rfl)
      rotate_left 1
      (· (refine Or.inl ⟨by rfl,?_⟩;intro w hSw;go_simp;all_goals with_reducible rfl))
      rotate_left 1
      (· exact fun _ _ _ h=>h)
      try simp only [Act.put,Lq1,Lq2,Lq3]
      refine wpAnyH_take (i:=3) (oi:=?_) (v:=?_) ?_ ?_ ?_ ?_ ?_ ?_ (by assumption) ?_
      rotate_left 2
      (· (simp only [Gq1,Gq2,Gq3])<;>rfl)
      (· kernel_rfl)
      (· kernel_rfl)
      (· kernel_rfl)
      rotate_left 1
      (· (refine Or.inl ⟨by rfl,?_⟩;intro w hSw;go_simp;all_goals with_reducible rfl))
      rotate_left 1
      (· exact fun _ _ _ h=>h)
      try simp only [Act.put,Lq1,Lq2,Lq3]
      refine wpAnyH_take (i:=4) (oi:=?_) (v:=.agg C) ?_ ?_ ?_ ?_ ?_ ?_ (by assumption) ?_
      rotate_left 1
      (· (simp only [Gq1,Gq2,Gq3])<;>rfl)
      (· kernel_rfl)
      (· kernel_rfl)
      (· kernel_rfl)
      rotate_left 1
      ·refine load_rowY (by rfl) 50 _ rfl g15 rfl C 50 _ (fun w' hw'=>Mod.at hw' E15.out (by simp)) Tryz.underlying50 rfl HSZ.out
      rotate_left 1
      (· exact fun _ _ _ h=>h)
      try simp only [Act.put,Lq1,Lq2,Lq3]
      refine wpAnyH_take (i:=7) (oi:=?_) (v:=?_) ?_ ?_ ?_ ?_ ?_ ?_ (by assumption) ?_
      rotate_left 2
      (· (simp only [Gq1,Gq2,Gq3])<;>rfl)
      (· kernel_rfl)
      (· kernel_rfl)
      (· kernel_rfl)
      rotate_left 1
      (· (refine Or.inl ⟨by rfl,?_⟩;intro w hSw;go_simp;all_goals with_reducible rfl))
      rotate_left 1
      (· exact fun _ _ _ h=>h)
      try simp only [Act.put,Lq1,Lq2,Lq3]
      refine wpAnyH_take (i:=8) (oi:=?_) (v:=?_) ?_ ?_ ?_ ?_ ?_ ?_ (by assumption) ?_
      rotate_left 2
      (· (simp only [Gq1,Gq2,Gq3])<;>rfl)
      (· kernel_rfl)
      (· kernel_rfl)
      (· kernel_rfl)
      rotate_left 1
      (· (refine Or.inl ⟨by rfl,?_⟩;intro w hSw;have c0:=hSw.cell x2 (by simp);clear hSw;go_simp;all_goals with_reducible rfl))
      rotate_left 1
      (· exact fun _ _ _ h=>h)
      try simp only [Act.put,Lq1,Lq2,Lq3]
      refine wpAnyH_take (i:=9) (oi:=?_) (v:=?_) ?_ ?_ ?_ ?_ ?_ ?_ (by assumption) ?_
      rotate_left 2
      (· (simp only [Gq1,Gq2,Gq3])<;>rfl)
      (· kernel_rfl)
      (· kernel_rfl)
      (· kernel_rfl)
      rotate_left 1
      (· (refine Or.inl ⟨by rfl,?_⟩;intro w hSw;go_simp;all_goals with_reducible rfl))
      rotate_left 1
      (· exact fun _ _ _ h=>h)
      try simp only [Act.put,Lq1,Lq2,Lq3]
      refine wpAnyH_take (i:=10) (oi:=?_) (v:=?_) ?_ ?_ ?_ ?_ ?_ ?_ (by assumption) ?_
      rotate_left 2
      (· (simp only [Gq1,Gq2,Gq3])<;>rfl)
      (· kernel_rfl)
      (· kernel_rfl)
      (· kernel_rfl)
      rotate_left 1
      (· (refine Or.inl ⟨by rfl,?_⟩;intro w hSw;go_simp;all_goals with_reducible rfl))
      rotate_left 1
      (· exact fun _ _ _ h=>h)
      try simp only [Act.put,Lq1,Lq2,Lq3]
      refine wpAnyH_take (i:=11) (oi:=?_) (v:=?_) ?_ ?_ ?_ ?_ ?_ ?_ (by assumption) ?_
      rotate_left 2
      (· (simp only [Gq1,Gq2,Gq3])<;>rfl)
      (· kernel_rfl)
      (· kernel_rfl)
      (· kernel_rfl)
      rotate_left 1
      (· (refine Or.inl ⟨by rfl,?_⟩;intro w hSw;go_simp;all_goals with_reducible rfl))
      rotate_left 1
      (· exact fun _ _ _ h=>h)
      try simp only [Act.put,Lq1,Lq2,Lq3]
      refine wpAnyH_take (i:=12) (oi:=?_) (v:=?_) ?_ ?_ ?_ ?_ ?_ ?_ (by assumption) ?_
      rotate_left 2
      (· (simp only [Gq1,Gq2,Gq3])<;>rfl)
      (· kernel_rfl)
      (· kernel_rfl)
      (· kernel_rfl)
      rotate_left 1
      (· (refine Or.inl ⟨by rfl,?_⟩;intro w hSw;clear hSw;go_simp;all_goals with_reducible rfl))
      rotate_left 1
      (· exact fun _ _ _ h=>h)
      try simp only [Act.put,Lq1,Lq2,Lq3]
      refine wpAnyH_ready (rs:=[5]) (by kernel_rfl) (by simp) ?_
      refine AllReadyH.cons (o:=?_) ?_ ?_ AllReadyH.nil
      rotate_left 1
      ·(simp only [Gq1,Gq2,Gq3])<;>rfl
      intro K hK
      refine (if_pos (by rfl)).mpr ?_
      refine wp_slice_one 46 50 _ rfl C i30 (.agg #[Value.int IntKind.i64 0,Value.string ⟨#[]⟩,Value.slice none 0 0,Value.int IntKind.i64 0,Value.int IntKind.i64 0,Value.string ⟨#[]⟩,Value.int IntKind.i64 0,Value.int IntKind.i64 0,Value.string ⟨#[]⟩,Value.int IntKind.i64 0,Value.slice none 0 0,Value.int IntKind.i64 0,Value.string ⟨#[]⟩,Value.int IntKind.i64 0,Value.int IntKind.i64 0,Value.string ⟨#[]⟩,Value.int IntKind.i64 0,Value.slice none 0 0,Value.int IntKind.i64 0,Value.string ⟨#[]⟩,Value.int IntKind.i64 0,Value.string ⟨#[]⟩,Value.int IntKind.i64 0,Value.int IntKind.i64 0,Value.string ⟨#[]⟩,Value.int IntKind.i64 0,Value.slice none 0 0,Value.slice none 0 0,Value.int IntKind.i64 0,Value.int IntKind.i64 0]) rfl Tryz.underlying46 hinf hz0 HCi.out (by rw [hz1];omega) (by rw [hz1];omega) ?_
      have eS:=new_of hHeld (Obj.cells C 50)
      refine hK.out _ _ (by (try dsimp only);exact hHeld.alloc _) (fun hHeld'=>?_)
      rw [HCU.out] at eS
      have hSB:=Hxq (BB.one eS (HLB4.out.keep (by rw [<-HCU.out];exact hHeld') (by simp)))
      rw [<-HCU.out] at hSB
      clear eS
      clear hHeld
      have hHeld:=hHeld'
      clear hHeld'
      clear hK K
      try simp only [Act.put,Lq1,Lq2,Lq3]
      generalize wd.heap.size=gs at *
      generalize wd.alloc _=we at *
      refine wpAnyH_ready (rs:=[6]) (by kernel_rfl) (by simp) ?_
      refine AllReadyH.cons (o:=?_) ?_ ?_ AllReadyH.nil
      rotate_left 1
      ·(simp only [Gq1,Gq2,Gq3])<;>rfl
      intro K hK
      go_simp
      refine (HBB1.out _ _ hSB.out).mono ?_
      rintro e5 w5 ⟨acc,va,vc,rfl,hacc,hGI,m5⟩
      have b5:=BB.of_gi hGI
      rw [hacc,HEQ.out] at b5
      have hal:acc.length=1:=by have:=congrArg List.length hacc;simpa using this
      have HB5:=Hxq (b5.mono (F':=fun _=>True) (fun _ _ _=>trivial))
      refine hK.out _ _ (by (try dsimp only);exact hHeld.trans m5 (by simp)) (fun hHeld'=>?_)
      clear b5 hGI hacc hal m5 hSB
      clear hHeld
      have hHeld:=hHeld'
      clear hHeld'
      clear hK K
      try simp only [Act.put,Lq1,Lq2,Lq3]
      generalize acc.length=n5 at *
      refine wpAnyH_ready (rs:=[13]) (by kernel_rfl) (by simp) ?_
      refine AllReadyH.cons (o:=?_) ?_ ?_ AllReadyH.nil
      rotate_left 1
      ·(simp only [Gq1,Gq2,Gq3])<;>rfl
      intro K hK
      go_simp
      refine (HBB2.out _ _ (HSUB.out _ hHeld)).mono ?_
      rintro e6 w6 ⟨acc2,va2,vc2,rfl,hacc2,hGI2,m6⟩
      have b6:=BB.of_gi hGI2
      rw [hacc2] at b6
      have HB6:=Hxq (b6.mono (F':=fun _=>True) (fun _ _ _=>trivial));have HB5':=Hxq (HB5.out.keep m6 (by simp))
      refine hK.out _ _ (by (try dsimp only);exact hHeld.trans m6 (by simp)) (fun hHeld'=>?_)
      clear b6 hGI2 hacc2 m6 HB5
      clear hHeld
      have hHeld:=hHeld'
      clear hHeld'
      clear hK K
      try simp only [Act.put,Lq1,Lq2,Lq3]
      generalize acc2.length=n6 at *
      refine wpAnyH_ready (rs:=[14]) (by kernel_rfl) (by simp) ?_
      refine AllReadyH.cons (o:=?_) ?_ ?_ AllReadyH.nil
      rotate_left 1
      ·(simp only [Gq1,Gq2,Gq3])<;>rfl
      intro K hK
      go_simp
      refine (HSL.out _ _ _ HB5'.out HB6.out).mono ?_
      rintro e7 w7 ⟨rfl,m7⟩
      refine hK.out _ _ (by (try dsimp only);exact hHeld.trans m7 (by simp)) (fun hHeld'=>?_)
      clear m7 HB5' HB6
      clear hHeld
      have hHeld:=hHeld'
      clear hHeld'
      clear hK K
      try simp only [Act.put,Lq1,Lq2,Lq3]
      refine wpAnyH_take (i:=15) (oi:=?_) (v:=?_) ?_ ?_ ?_ ?_ ?_ ?_ (by assumption) ?_
      rotate_left 2
      (· (simp only [Gq1,Gq2,Gq3])<;>rfl)
      (· kernel_rfl)
      (· kernel_rfl)
      (· kernel_rfl)
      rotate_left 1
      (· (refine Or.inl ⟨by rfl,?_⟩;intro w hSw;go_simp;all_goals with_reducible rfl))
      rotate_left 1
      (· exact fun _ _ _ h=>h)
      try simp only [Act.put,Lq1,Lq2,Lq3]
      refine wpAnyH_take (i:=16) (oi:=?_) (v:=?_) ?_ ?_ ?_ ?_ ?_ ?_ (by assumption) ?_
      rotate_left 2
      (· (simp only [Gq1,Gq2,Gq3])<;>rfl)
      (· kernel_rfl)
      (· kernel_rfl)
      (· kernel_rfl)
      rotate_left 1
      (· (refine Or.inl ⟨by rfl,?_⟩;intro w hSw;go_simp;all_goals with_reducible rfl))
      rotate_left 1
      (· exact fun _ _ _ h=>h)
      try simp only [Act.put,Lq1,Lq2,Lq3]
      refine wpAnyH_done (by kernel_rfl) ?_ _
      have M7:=Hxq (M4.out.trans hHeld (by simp))
      clear hHeld x2 y0 hw1 hw2 hw3 hw4 hw5 hw6
      go_wp2_with fail
      go_roundw
      case rel=>exact ⟨k+1,e,by omega,by go_num,rfl,fun h=>absurd h (by omega),fun _=>rfl,M7.out⟩
      case measure=>simp [intOf];omega
  ·obtain rfl:k=body.length:=by omega
   have hkI:¬ (body.length:Int)<(body.length:Int):=by omega
   have hen:en=e:=by
    rcases Nat.eq_zero_or_pos body.length with h0 | h0
    ·rcases HBD.out with ⟨-,h2⟩ | ⟨h1,h2⟩
     ·rw [h2];exact HE0.out h0
     ·exact absurd (List.eq_nil_of_length_eq_zero h0) h2.ne
    ·exact HE1.out h0
   subst hen
   clear HE0 HE1 HPL HLW
   obtain ⟨hA,hpp,hpe,ho12⟩:=HAP.out from_ en hlo (by omega)
   have HO1:=Hxq (HOW.out from_ hpp);have HO2:=Hxq (HOW.out en hpe)
   have ho2:=hpe.le
   rw [hsz] at ho2
   have HLT:=Hxq (HAW.out from_ en hA hlo _ HHD.out)
   clear hA hpp hpe HBD
   obtain ⟨tb,tf,htb,hct1⟩:=T1.out.at from_ (by omega)
   obtain ⟨tb2,tf2,htb2,hct2⟩:=T1.out.at en (by omega)
   subst htb
   simp only [Option.some.injEq,Addr.mk.injEq] at htb2
   obtain ⟨rfl,rfl,-⟩:=htb2
   rw [<-Sy.tk_ws v (by omega)] at hct1 hct2
   have P1:=Hxq (And.intro (hct1 5 (.int .i64 ((v.tk from_).line:Nat)) rfl) (hct1 6 (.int .i64 ((v.tk from_).col:Nat)) rfl))
   have P2:=Hxq (And.intro (hct2 5 (.int .i64 ((v.tk en).line:Nat)) rfl) (hct2 6 (.int .i64 ((v.tk en).col:Nat)) rfl))
   clear hct1 hct2 HAP HHD HAW HOW HAT
   generalize Sy.offT (Cod.str s) (v.tk from_)=o1 at *
   generalize Sy.offT (Cod.str s) (v.tk en)=o2 at *
   generalize (v.tk from_).line=l1 at *;generalize (v.tk from_).col=c1 at *;generalize (v.tk en).line=l2 at *;generalize (v.tk en).col=c2 at *
   have hst0:(0:Int)<=(from_:Int):=by omega
   have hsp0:(0:Int)<=(en:Int):=by omega
   have hstI:(from_:Int)<(v.ws.length:Int):=by omega
   have hspI:(en:Int)<(v.ws.length:Int):=by omega
   have hcB:¬ (en:Int)<=(from_:Int):=by omega
   have hcC:¬ (dot:Int)<(en:Int):=by omega
   have hG3:=Hxq (HGW.out.past (MA.out.trans MR.out (by simp)) (by simp))
   have hG:=hG3.out
   have ho3:o1<=o2:=by omega
   go_upto_region 18 with fail
   go_cut [17,18] (fun p15 p16 wx=>∃ (g15 g16:Nat) (C:Array Value),p15=.pointer (some ⟨g15,0,none⟩)/\p16=.pointer (some ⟨g16,0,none⟩)/\wx.heap[g15]?=some (.cells C 40 (0,0))/\wx.heap[g16]?=some (.cells #[.int .i64 0,.int .i64 0,.int .i64 0] 31 (0,0))/\(∃ u,C=#[.string rel,u]/\RowB (fun _=>True) wx 5 tmV ts u)/\Mod [] wr wx)
   case first=>as_aux_lemma =>
    refine wp_region_held_drew (S:=(fun w':World=>Mod [] wr w')) (by kernel_rfl) (by (try dsimp only);exact (Mod.refl [] wr).drew) (fun hHeld=>?_)
    generalize wr.drew=wd at *
    refine wpAnyH_take (i:=0) (oi:=?_) (v:=?_) ?_ ?_ ?_ ?_ ?_ ?_ (by assumption) ?_
    rotate_left 2
    (· (simp only [Gq1,Gq2,Gq3])<;>rfl)
    (· kernel_rfl)
    (· kernel_rfl)
    (· kernel_rfl)
    rotate_left 1
    (· (refine Or.inl ⟨by rfl,?_⟩;intro w hSw;go_simp;all_goals with_reducible rfl))
    rotate_left 1
    (· exact fun _ _ _ h=>h)
    try simp only [Act.put,Lq1,Lq2,Lq3]
    refine wpAnyH_take (i:=1) (oi:=?_) (v:=?_) ?_ ?_ ?_ ?_ ?_ ?_ (by assumption) ?_
    rotate_left 2
    (· (simp only [Gq1,Gq2,Gq3])<;>rfl)
    (· kernel_rfl)
    (· kernel_rfl)
    (· kernel_rfl)
    rotate_left 1
    (· (refine Or.inl ⟨by rfl,?_⟩;intro w hSw;go_simp;all_goals with_reducible rfl))
    rotate_left 1
    (· exact fun _ _ _ h=>h)
    try simp only [Act.put,Lq1,Lq2,Lq3]
    refine wpAnyH_take (i:=2) (oi:=?_) (v:=?_) ?_ ?_ ?_ ?_ ?_ ?_ (by assumption) ?_
    rotate_left 2
    (· (simp only [Gq1,Gq2,Gq3])<;>rfl)
    (· kernel_rfl)
    (· kernel_rfl)
    (· kernel_rfl)
    rotate_left 1
    (· (refine Or.inl ⟨by rfl,?_⟩;intro w hSw;go_simp;all_goals with_reducible rfl))
    rotate_left 1
    (· exact fun _ _ _ h=>h)
    try simp only [Act.put,Lq1,Lq2,Lq3]
    refine wpAnyH_take (i:=3) (oi:=?_) (v:=?_) ?_ ?_ ?_ ?_ ?_ ?_ (by assumption) ?_
    rotate_left 2
    (· (simp only [Gq1,Gq2,Gq3])<;>rfl)
    (· kernel_rfl)
    (· kernel_rfl)
    (· kernel_rfl)
    rotate_left 1
    (· (refine Or.inl ⟨by rfl,?_⟩;intro w hSw;go_simp;all_goals with_reducible rfl))
    rotate_left 1
    (· exact fun _ _ _ h=>h)
    try simp only [Act.put,Lq1,Lq2,Lq3]
    refine wpAnyH_take (i:=4) (oi:=?_) (v:=?_) ?_ ?_ ?_ ?_ ?_ ?_ (by assumption) ?_
    rotate_left 2
    (· (simp only [Gq1,Gq2,Gq3])<;>rfl)
    (· kernel_rfl)
    (· kernel_rfl)
    (· kernel_rfl)
    rotate_left 1
    (· (refine Or.inl ⟨by rfl,?_⟩;intro w hSw;go_simp;all_goals with_reducible rfl))
    rotate_left 1
    (· exact fun _ _ _ h=>h)
    try simp only [Act.put,Lq1,Lq2,Lq3]
    refine wpAnyH_take (i:=5) (oi:=?_) (v:=?_) ?_ ?_ ?_ ?_ ?_ ?_ (by assumption) ?_
    rotate_left 2
    (· (simp only [Gq1,Gq2,Gq3])<;>rfl)
    (· kernel_rfl)
    (· kernel_rfl)
    (· kernel_rfl)
    rotate_left 1
    (· (refine Or.inl ⟨by rfl,?_⟩;intro w hSw;go_simp;all_goals with_reducible rfl))
    rotate_left 1
    (· exact fun _ _ _ h=>h)
    try simp only [Act.put,Lq1,Lq2,Lq3]
    refine wpAnyH_take (i:=6) (oi:=?_) (v:=?_) ?_ ?_ ?_ ?_ ?_ ?_ (by assumption) ?_
    rotate_left 2
    (· (simp only [Gq1,Gq2,Gq3])<;>rfl)
    (· kernel_rfl)
    (· kernel_rfl)
    (· kernel_rfl)
    rotate_left 1
    (· (refine Or.inl ⟨by rfl,?_⟩;intro w hSw;have c0:=hSw.cell P1.out.1 (by simp);have c1:=hSw.cell P1.out.2 (by simp);clear hSw;go_simp;all_goals with_reducible rfl))
    rotate_left 1
    (· exact fun _ _ _ h=>h)
    try simp only [Act.put,Lq1,Lq2,Lq3]
    refine wpAnyH_take (i:=8) (oi:=?_) (v:=?_) ?_ ?_ ?_ ?_ ?_ ?_ (by assumption) ?_
    rotate_left 2
    (· (simp only [Gq1,Gq2,Gq3])<;>rfl)
    (· kernel_rfl)
    (· kernel_rfl)
    (· kernel_rfl)
    rotate_left 1
    (· (refine Or.inl ⟨by rfl,?_⟩;intro w hSw;go_simp;all_goals with_reducible rfl))
    rotate_left 1
    (· exact fun _ _ _ h=>h)
    try simp only [Act.put,Lq1,Lq2,Lq3]
    refine wpAnyH_take (i:=9) (oi:=?_) (v:=?_) ?_ ?_ ?_ ?_ ?_ ?_ (by assumption) ?_
    rotate_left 2
    (· (simp only [Gq1,Gq2,Gq3])<;>rfl)
    (· kernel_rfl)
    (· kernel_rfl)
    (· kernel_rfl)
    rotate_left 1
    (· (refine Or.inl ⟨by rfl,?_⟩;intro w hSw;go_simp;all_goals with_reducible rfl))
    rotate_left 1
    (· exact fun _ _ _ h=>h)
    try simp only [Act.put,Lq1,Lq2,Lq3]
    refine wpAnyH_take (i:=10) (oi:=?_) (v:=?_) ?_ ?_ ?_ ?_ ?_ ?_ (by assumption) ?_
    rotate_left 2
    (· (simp only [Gq1,Gq2,Gq3])<;>rfl)
    (· kernel_rfl)
    (· kernel_rfl)
    (· kernel_rfl)
    rotate_left 1
    (· (refine Or.inl ⟨by rfl,?_⟩;intro w hSw;go_simp;all_goals with_reducible rfl))
    rotate_left 1
    (· exact fun _ _ _ h=>h)
    try simp only [Act.put,Lq1,Lq2,Lq3]
    refine wpAnyH_take (i:=11) (oi:=?_) (v:=?_) ?_ ?_ ?_ ?_ ?_ ?_ (by assumption) ?_
    rotate_left 2
    (· (simp only [Gq1,Gq2,Gq3])<;>rfl)
    (· kernel_rfl)
    (· kernel_rfl)
    (· kernel_rfl)
    rotate_left 1
    (· (refine Or.inl ⟨by rfl,?_⟩;intro w hSw;go_simp;all_goals with_reducible rfl))
    rotate_left 1
    (· exact fun _ _ _ h=>h)
    try simp only [Act.put,Lq1,Lq2,Lq3]
    refine wpAnyH_take (i:=12) (oi:=?_) (v:=?_) ?_ ?_ ?_ ?_ ?_ ?_ (by assumption) ?_
    rotate_left 2
    (· (simp only [Gq1,Gq2,Gq3])<;>rfl)
    (· kernel_rfl)
    (· kernel_rfl)
    (· kernel_rfl)
    rotate_left 1
    (· (refine Or.inl ⟨by rfl,?_⟩;intro w hSw;go_simp;all_goals with_reducible rfl))
    rotate_left 1
    (· exact fun _ _ _ h=>h)
    try simp only [Act.put,Lq1,Lq2,Lq3]
    refine wpAnyH_take (i:=13) (oi:=?_) (v:=?_) ?_ ?_ ?_ ?_ ?_ ?_ (by assumption) ?_
    rotate_left 2
    (· (simp only [Gq1,Gq2,Gq3])<;>rfl)
    (· kernel_rfl)
    (· kernel_rfl)
    (· kernel_rfl)
    rotate_left 1
    (· (refine Or.inl ⟨by rfl,?_⟩;intro w hSw;have c0:=hSw.cell P2.out.1 (by simp);have c1:=hSw.cell P2.out.2 (by simp);clear hSw;go_simp;all_goals with_reducible rfl))
    rotate_left 1
    (· exact fun _ _ _ h=>h)
    try simp only [Act.put,Lq1,Lq2,Lq3]
    all_goals first
     | (have:=D3;have:=E15;clear this;clear this;refine wpAnyH_ready (rs:=[21]) (by kernel_rfl) (by simp) ?_;refine AllReadyH.cons (o:=?_) ?_ ?_ ?_;rotate_left 1;(· (simp only [Gq1,Gq2,Gq3])<;>rfl);rotate_left 1;exact AllReadyH.nil)
     | (have:=D3;have:=E16;clear this;clear this;refine wpAnyH_ready (rs:=[20]) (by kernel_rfl) (by simp) ?_;refine AllReadyH.cons (o:=?_) ?_ ?_ ?_;rotate_left 1;(· (simp only [Gq1,Gq2,Gq3])<;>rfl);rotate_left 1;exact AllReadyH.nil)
     | (have:=D3;clear this;refine wpAnyH_ready (rs:=[20,21]) (by kernel_rfl) (by simp) ?_;refine AllReadyH.cons (o:=?_) ?_ ?_ ?_;rotate_left 1;(· (simp only [Gq1,Gq2,Gq3])<;>rfl);rotate_left 1;refine AllReadyH.cons (o:=?_) ?_ ?_ ?_;rotate_left 1;(· (simp only [Gq1,Gq2,Gq3])<;>rfl);rotate_left 1;exact AllReadyH.nil)
     | (have:=D2;have:=E15;have:=E16;clear this;clear this;clear this;refine wpAnyH_ready (rs:=[16]) (by kernel_rfl) (by simp) ?_;refine AllReadyH.cons (o:=?_) ?_ ?_ ?_;rotate_left 1;(· (simp only [Gq1,Gq2,Gq3])<;>rfl);rotate_left 1;exact AllReadyH.nil)
     | (have:=D2;have:=E15;clear this;clear this;refine wpAnyH_ready (rs:=[16,21]) (by kernel_rfl) (by simp) ?_;refine AllReadyH.cons (o:=?_) ?_ ?_ ?_;rotate_left 1;(· (simp only [Gq1,Gq2,Gq3])<;>rfl);rotate_left 1;refine AllReadyH.cons (o:=?_) ?_ ?_ ?_;rotate_left 1;(· (simp only [Gq1,Gq2,Gq3])<;>rfl);rotate_left 1;exact AllReadyH.nil)
     | (have:=D2;have:=E16;clear this;clear this;refine wpAnyH_ready (rs:=[16,20]) (by kernel_rfl) (by simp) ?_;refine AllReadyH.cons (o:=?_) ?_ ?_ ?_;rotate_left 1;(· (simp only [Gq1,Gq2,Gq3])<;>rfl);rotate_left 1;refine AllReadyH.cons (o:=?_) ?_ ?_ ?_;rotate_left 1;(· (simp only [Gq1,Gq2,Gq3])<;>rfl);rotate_left 1;exact AllReadyH.nil)
     | (have:=D2;clear this;refine wpAnyH_ready (rs:=[16,20,21]) (by kernel_rfl) (by simp) ?_;refine AllReadyH.cons (o:=?_) ?_ ?_ ?_;rotate_left 1;(· (simp only [Gq1,Gq2,Gq3])<;>rfl);rotate_left 1;refine AllReadyH.cons (o:=?_) ?_ ?_ ?_;rotate_left 1;(· (simp only [Gq1,Gq2,Gq3])<;>rfl);rotate_left 1;refine AllReadyH.cons (o:=?_) ?_ ?_ ?_;rotate_left 1;(· (simp only [Gq1,Gq2,Gq3])<;>rfl);rotate_left 1;exact AllReadyH.nil)
     | (have:=D1;have:=E15;have:=E16;clear this;clear this;clear this;refine wpAnyH_ready (rs:=[14]) (by kernel_rfl) (by simp) ?_;refine AllReadyH.cons (o:=?_) ?_ ?_ ?_;rotate_left 1;(· (simp only [Gq1,Gq2,Gq3])<;>rfl);rotate_left 1;exact AllReadyH.nil)
     | (have:=D1;have:=E15;clear this;clear this;refine wpAnyH_ready (rs:=[14,21]) (by kernel_rfl) (by simp) ?_;refine AllReadyH.cons (o:=?_) ?_ ?_ ?_;rotate_left 1;(· (simp only [Gq1,Gq2,Gq3])<;>rfl);rotate_left 1;refine AllReadyH.cons (o:=?_) ?_ ?_ ?_;rotate_left 1;(· (simp only [Gq1,Gq2,Gq3])<;>rfl);rotate_left 1;exact AllReadyH.nil)
     | (have:=D1;have:=E16;clear this;clear this;refine wpAnyH_ready (rs:=[14,20]) (by kernel_rfl) (by simp) ?_;refine AllReadyH.cons (o:=?_) ?_ ?_ ?_;rotate_left 1;(· (simp only [Gq1,Gq2,Gq3])<;>rfl);rotate_left 1;refine AllReadyH.cons (o:=?_) ?_ ?_ ?_;rotate_left 1;(· (simp only [Gq1,Gq2,Gq3])<;>rfl);rotate_left 1;exact AllReadyH.nil)
     | (have:=D1;clear this;refine wpAnyH_ready (rs:=[14,20,21]) (by kernel_rfl) (by simp) ?_;refine AllReadyH.cons (o:=?_) ?_ ?_ ?_;rotate_left 1;(· (simp only [Gq1,Gq2,Gq3])<;>rfl);rotate_left 1;refine AllReadyH.cons (o:=?_) ?_ ?_ ?_;rotate_left 1;(· (simp only [Gq1,Gq2,Gq3])<;>rfl);rotate_left 1;refine AllReadyH.cons (o:=?_) ?_ ?_ ?_;rotate_left 1;(· (simp only [Gq1,Gq2,Gq3])<;>rfl);rotate_left 1;exact AllReadyH.nil)
     | (have:=E15;have:=E16;clear this;clear this;refine wpAnyH_ready (rs:=[7]) (by kernel_rfl) (by simp) ?_;refine AllReadyH.cons (o:=?_) ?_ ?_ ?_;rotate_left 1;(· (simp only [Gq1,Gq2,Gq3])<;>rfl);rotate_left 1;exact AllReadyH.nil)
     | (have:=E15;clear this;refine wpAnyH_ready (rs:=[7,21]) (by kernel_rfl) (by simp) ?_;refine AllReadyH.cons (o:=?_) ?_ ?_ ?_;rotate_left 1;(· (simp only [Gq1,Gq2,Gq3])<;>rfl);rotate_left 1;refine AllReadyH.cons (o:=?_) ?_ ?_ ?_;rotate_left 1;(· (simp only [Gq1,Gq2,Gq3])<;>rfl);rotate_left 1;exact AllReadyH.nil)
     | (have:=E16;clear this;refine wpAnyH_ready (rs:=[7,20]) (by kernel_rfl) (by simp) ?_;refine AllReadyH.cons (o:=?_) ?_ ?_ ?_;rotate_left 1;(· (simp only [Gq1,Gq2,Gq3])<;>rfl);rotate_left 1;refine AllReadyH.cons (o:=?_) ?_ ?_ ?_;rotate_left 1;(· (simp only [Gq1,Gq2,Gq3])<;>rfl);rotate_left 1;exact AllReadyH.nil)
     | (refine wpAnyH_ready (rs:=[7,20,21]) (by kernel_rfl) (by simp) ?_;refine AllReadyH.cons (o:=?_) ?_ ?_ ?_;rotate_left 1;(· (simp only [Gq1,Gq2,Gq3])<;>rfl);rotate_left 1;refine AllReadyH.cons (o:=?_) ?_ ?_ ?_;rotate_left 1;(· (simp only [Gq1,Gq2,Gq3])<;>rfl);rotate_left 1;refine AllReadyH.cons (o:=?_) ?_ ?_ ?_;rotate_left 1;(· (simp only [Gq1,Gq2,Gq3])<;>rfl);rotate_left 1;exact AllReadyH.nil)
    all_goals (intro K hK;go_simp)
    all_goals first
     | ((with_reducible refine (HO1.out _).mono ?_);rintro e1 v1 ⟨rfl,m⟩;have D1:True:=trivial;(try have E15:=m.at E15 (by simp));(try have E16:=m.at E16 (by simp));(try have VV:=VAr.keep VV m (by simp));(try have hM:=Nat.le_trans hM m.size);refine hK.out _ _ (by (try dsimp only);exact hHeld.trans m (by simp)) (fun hHeld'=>?_);clear m hK K hHeld;have hHeld:=hHeld';clear hHeld';(try simp only [Act.put,Lq1,Lq2,Lq3]))
     | ((with_reducible refine (HO2.out _).mono ?_);rintro e1 v1 ⟨rfl,m⟩;have D2:True:=trivial;(try have E15:=m.at E15 (by simp));(try have E16:=m.at E16 (by simp));(try have VV:=VAr.keep VV m (by simp));(try have hM:=Nat.le_trans hM m.size);refine hK.out _ _ (by (try dsimp only);exact hHeld.trans m (by simp)) (fun hHeld'=>?_);clear m hK K hHeld;have hHeld:=hHeld';clear hHeld';(try simp only [Act.put,Lq1,Lq2,Lq3]);(refine wpAnyH_take (i:=15) (oi:=?_) (v:=?_) ?_ ?_ ?_ ?_ ?_ ?_ (by assumption) ?_;rotate_left 2;(· (simp only [Gq1,Gq2,Gq3])<;>rfl);(· kernel_rfl);(· kernel_rfl);(· kernel_rfl);rotate_left 1;(· (refine Or.inl ⟨by rfl,?_⟩;intro w hSw;clear hSw;go_simp;all_goals with_reducible rfl));rotate_left 1;(· exact fun _ _ _ h=>h);try simp only [Act.put,Lq1,Lq2,Lq3]))
     | ((with_reducible refine (HLT.out _ (hG.past hHeld (by simp))).mono ?_);rintro e1 v1 ⟨C,rfl,VV',m⟩;have VV:=VAr.of VV';have hM:=Nat.le_refl v1.heap.size;have D3:True:=trivial;(try have hx15:=lt_of_block E15);(try have hx16:=lt_of_block E16);(try have E15:=m.at E15 (by simp));(try have E16:=m.at E16 (by simp));refine hK.out _ _ (by (try dsimp only);exact hHeld.trans m (by simp)) (fun hHeld'=>?_);clear m hK K hHeld;have hHeld:=hHeld';clear hHeld';(try simp only [Act.put,Lq1,Lq2,Lq3]);(refine wpAnyH_take (i:=17) (oi:=?_) (v:=?_) ?_ ?_ ?_ ?_ ?_ ?_ (by assumption) ?_;rotate_left 2;(· (simp only [Gq1,Gq2,Gq3])<;>rfl);(· kernel_rfl);(· kernel_rfl);(· kernel_rfl);rotate_left 1;(· (refine Or.inl ⟨by rfl,?_⟩;intro w hSw;go_simp;all_goals with_reducible rfl));rotate_left 1;(· exact fun _ _ _ h=>h);try simp only [Act.put,Lq1,Lq2,Lq3]);(refine wpAnyH_take (i:=18) (oi:=?_) (v:=?_) ?_ ?_ ?_ ?_ ?_ ?_ (by assumption) ?_;rotate_left 2;(· (simp only [Gq1,Gq2,Gq3])<;>rfl);(· kernel_rfl);(· kernel_rfl);(· kernel_rfl);rotate_left 1;(· (refine Or.inl ⟨by rfl,?_⟩;intro w hSw;go_simp;all_goals with_reducible rfl));rotate_left 1;(· exact fun _ _ _ h=>h);try simp only [Act.put,Lq1,Lq2,Lq3]);(refine wpAnyH_take (i:=19) (oi:=?_) (v:=?_) ?_ ?_ ?_ ?_ ?_ ?_ (by assumption) ?_;rotate_left 2;(· (simp only [Gq1,Gq2,Gq3])<;>rfl);(· kernel_rfl);(· kernel_rfl);(· kernel_rfl);rotate_left 1;(· (refine Or.inl ⟨by rfl,?_⟩;intro w hSw;go_simp;all_goals with_reducible rfl));rotate_left 1;(· exact fun _ _ _ h=>h);try simp only [Act.put,Lq1,Lq2,Lq3]))
     | ((with_reducible show K _ (World.alloc _ (Obj.cells #[Value.string ⟨#[]⟩,Value.slice none 0 0] 40)));(with_reducible refine hK.out _ _ ?_ ?_);exact hHeld.alloc _;intro hHeld';(try have hlt:=lt_of_block E16);(try have hx15:=hM);have m:=mod_of hHeld (Obj.cells #[Value.string ⟨#[]⟩,Value.slice none 0 0] 40);have N15:=hHeld.size;(try have E15:=m.at E15 (by simp));(try have E16:=m.at E16 (by simp));(try have VV:=VAr.keep VV m (by simp));(try have hM:=Nat.le_trans hM m.size);have E15:=new_of hHeld (Obj.cells #[Value.string ⟨#[]⟩,Value.slice none 0 0] 40);clear hHeld hK K m;have hHeld:=hHeld';clear hHeld';generalize World.alloc _ _=va at *;(try simp only [Act.put,Lq1,Lq2,Lq3]))
     | ((with_reducible show K _ (World.alloc _ (Obj.cells #[.int .i64 0,.int .i64 0,.int .i64 0] 31)));(with_reducible refine hK.out _ _ ?_ ?_);exact hHeld.alloc _;intro hHeld';(try have hlt:=lt_of_block E15);(try have hx16:=hM);have m:=mod_of hHeld (Obj.cells #[.int .i64 0,.int .i64 0,.int .i64 0] 31);have N16:=hHeld.size;(try have E15:=m.at E15 (by simp));(try have E16:=m.at E16 (by simp));(try have VV:=VAr.keep VV m (by simp));(try have hM:=Nat.le_trans hM m.size);have E16:=new_of hHeld (Obj.cells #[.int .i64 0,.int .i64 0,.int .i64 0] 31);clear hHeld hK K m;have hHeld:=hHeld';clear hHeld';generalize World.alloc _ _=va at *;(try simp only [Act.put,Lq1,Lq2,Lq3]))
    all_goals first
     | (have:=D3;have:=E15;clear this;clear this;refine wpAnyH_ready (rs:=[21]) (by kernel_rfl) (by simp) ?_;refine AllReadyH.cons (o:=?_) ?_ ?_ ?_;rotate_left 1;(· (simp only [Gq1,Gq2,Gq3])<;>rfl);rotate_left 1;exact AllReadyH.nil)
     | (have:=D3;have:=E16;clear this;clear this;refine wpAnyH_ready (rs:=[20]) (by kernel_rfl) (by simp) ?_;refine AllReadyH.cons (o:=?_) ?_ ?_ ?_;rotate_left 1;(· (simp only [Gq1,Gq2,Gq3])<;>rfl);rotate_left 1;exact AllReadyH.nil)
     | (have:=D3;clear this;refine wpAnyH_ready (rs:=[20,21]) (by kernel_rfl) (by simp) ?_;refine AllReadyH.cons (o:=?_) ?_ ?_ ?_;rotate_left 1;(· (simp only [Gq1,Gq2,Gq3])<;>rfl);rotate_left 1;refine AllReadyH.cons (o:=?_) ?_ ?_ ?_;rotate_left 1;(· (simp only [Gq1,Gq2,Gq3])<;>rfl);rotate_left 1;exact AllReadyH.nil)
     | (have:=D2;have:=E15;have:=E16;clear this;clear this;clear this;refine wpAnyH_ready (rs:=[16]) (by kernel_rfl) (by simp) ?_;refine AllReadyH.cons (o:=?_) ?_ ?_ ?_;rotate_left 1;(· (simp only [Gq1,Gq2,Gq3])<;>rfl);rotate_left 1;exact AllReadyH.nil)
     | (have:=D2;have:=E15;clear this;clear this;refine wpAnyH_ready (rs:=[16,21]) (by kernel_rfl) (by simp) ?_;refine AllReadyH.cons (o:=?_) ?_ ?_ ?_;rotate_left 1;(· (simp only [Gq1,Gq2,Gq3])<;>rfl);rotate_left 1;refine AllReadyH.cons (o:=?_) ?_ ?_ ?_;rotate_left 1;(· (simp only [Gq1,Gq2,Gq3])<;>rfl);rotate_left 1;exact AllReadyH.nil)
     | (have:=D2;have:=E16;clear this;clear this;refine wpAnyH_ready (rs:=[16,20]) (by kernel_rfl) (by simp) ?_;refine AllReadyH.cons (o:=?_) ?_ ?_ ?_;rotate_left 1;(· (simp only [Gq1,Gq2,Gq3])<;>rfl);rotate_left 1;refine AllReadyH.cons (o:=?_) ?_ ?_ ?_;rotate_left 1;(· (simp only [Gq1,Gq2,Gq3])<;>rfl);rotate_left 1;exact AllReadyH.nil)
     | (have:=D2;clear this;refine wpAnyH_ready (rs:=[16,20,21]) (by kernel_rfl) (by simp) ?_;refine AllReadyH.cons (o:=?_) ?_ ?_ ?_;rotate_left 1;(· (simp only [Gq1,Gq2,Gq3])<;>rfl);rotate_left 1;refine AllReadyH.cons (o:=?_) ?_ ?_ ?_;rotate_left 1;(· (simp only [Gq1,Gq2,Gq3])<;>rfl);rotate_left 1;refine AllReadyH.cons (o:=?_) ?_ ?_ ?_;rotate_left 1;(· (simp only [Gq1,Gq2,Gq3])<;>rfl);rotate_left 1;exact AllReadyH.nil)
     | (have:=D1;have:=E15;have:=E16;clear this;clear this;clear this;refine wpAnyH_ready (rs:=[14]) (by kernel_rfl) (by simp) ?_;refine AllReadyH.cons (o:=?_) ?_ ?_ ?_;rotate_left 1;(· (simp only [Gq1,Gq2,Gq3])<;>rfl);rotate_left 1;exact AllReadyH.nil)
     | (have:=D1;have:=E15;clear this;clear this;refine wpAnyH_ready (rs:=[14,21]) (by kernel_rfl) (by simp) ?_;refine AllReadyH.cons (o:=?_) ?_ ?_ ?_;rotate_left 1;(· (simp only [Gq1,Gq2,Gq3])<;>rfl);rotate_left 1;refine AllReadyH.cons (o:=?_) ?_ ?_ ?_;rotate_left 1;(· (simp only [Gq1,Gq2,Gq3])<;>rfl);rotate_left 1;exact AllReadyH.nil)
     | (have:=D1;have:=E16;clear this;clear this;refine wpAnyH_ready (rs:=[14,20]) (by kernel_rfl) (by simp) ?_;refine AllReadyH.cons (o:=?_) ?_ ?_ ?_;rotate_left 1;(· (simp only [Gq1,Gq2,Gq3])<;>rfl);rotate_left 1;refine AllReadyH.cons (o:=?_) ?_ ?_ ?_;rotate_left 1;(· (simp only [Gq1,Gq2,Gq3])<;>rfl);rotate_left 1;exact AllReadyH.nil)
     | (have:=D1;clear this;refine wpAnyH_ready (rs:=[14,20,21]) (by kernel_rfl) (by simp) ?_;refine AllReadyH.cons (o:=?_) ?_ ?_ ?_;rotate_left 1;(· (simp only [Gq1,Gq2,Gq3])<;>rfl);rotate_left 1;refine AllReadyH.cons (o:=?_) ?_ ?_ ?_;rotate_left 1;(· (simp only [Gq1,Gq2,Gq3])<;>rfl);rotate_left 1;refine AllReadyH.cons (o:=?_) ?_ ?_ ?_;rotate_left 1;(· (simp only [Gq1,Gq2,Gq3])<;>rfl);rotate_left 1;exact AllReadyH.nil)
     | (have:=E15;have:=E16;clear this;clear this;refine wpAnyH_ready (rs:=[7]) (by kernel_rfl) (by simp) ?_;refine AllReadyH.cons (o:=?_) ?_ ?_ ?_;rotate_left 1;(· (simp only [Gq1,Gq2,Gq3])<;>rfl);rotate_left 1;exact AllReadyH.nil)
     | (have:=E15;clear this;refine wpAnyH_ready (rs:=[7,21]) (by kernel_rfl) (by simp) ?_;refine AllReadyH.cons (o:=?_) ?_ ?_ ?_;rotate_left 1;(· (simp only [Gq1,Gq2,Gq3])<;>rfl);rotate_left 1;refine AllReadyH.cons (o:=?_) ?_ ?_ ?_;rotate_left 1;(· (simp only [Gq1,Gq2,Gq3])<;>rfl);rotate_left 1;exact AllReadyH.nil)
     | (have:=E16;clear this;refine wpAnyH_ready (rs:=[7,20]) (by kernel_rfl) (by simp) ?_;refine AllReadyH.cons (o:=?_) ?_ ?_ ?_;rotate_left 1;(· (simp only [Gq1,Gq2,Gq3])<;>rfl);rotate_left 1;refine AllReadyH.cons (o:=?_) ?_ ?_ ?_;rotate_left 1;(· (simp only [Gq1,Gq2,Gq3])<;>rfl);rotate_left 1;exact AllReadyH.nil)
     | (refine wpAnyH_ready (rs:=[7,20,21]) (by kernel_rfl) (by simp) ?_;refine AllReadyH.cons (o:=?_) ?_ ?_ ?_;rotate_left 1;(· (simp only [Gq1,Gq2,Gq3])<;>rfl);rotate_left 1;refine AllReadyH.cons (o:=?_) ?_ ?_ ?_;rotate_left 1;(· (simp only [Gq1,Gq2,Gq3])<;>rfl);rotate_left 1;refine AllReadyH.cons (o:=?_) ?_ ?_ ?_;rotate_left 1;(· (simp only [Gq1,Gq2,Gq3])<;>rfl);rotate_left 1;exact AllReadyH.nil)
    all_goals (intro K hK;go_simp)
    all_goals first
     | ((with_reducible refine (HO1.out _).mono ?_);rintro e1 v1 ⟨rfl,m⟩;have D1:True:=trivial;(try have E15:=m.at E15 (by simp));(try have E16:=m.at E16 (by simp));(try have VV:=VAr.keep VV m (by simp));(try have hM:=Nat.le_trans hM m.size);refine hK.out _ _ (by (try dsimp only);exact hHeld.trans m (by simp)) (fun hHeld'=>?_);clear m hK K hHeld;have hHeld:=hHeld';clear hHeld';(try simp only [Act.put,Lq1,Lq2,Lq3]))
     | ((with_reducible refine (HO2.out _).mono ?_);rintro e1 v1 ⟨rfl,m⟩;have D2:True:=trivial;(try have E15:=m.at E15 (by simp));(try have E16:=m.at E16 (by simp));(try have VV:=VAr.keep VV m (by simp));(try have hM:=Nat.le_trans hM m.size);refine hK.out _ _ (by (try dsimp only);exact hHeld.trans m (by simp)) (fun hHeld'=>?_);clear m hK K hHeld;have hHeld:=hHeld';clear hHeld';(try simp only [Act.put,Lq1,Lq2,Lq3]);(refine wpAnyH_take (i:=15) (oi:=?_) (v:=?_) ?_ ?_ ?_ ?_ ?_ ?_ (by assumption) ?_;rotate_left 2;(· (simp only [Gq1,Gq2,Gq3])<;>rfl);(· kernel_rfl);(· kernel_rfl);(· kernel_rfl);rotate_left 1;(· (refine Or.inl ⟨by rfl,?_⟩;intro w hSw;clear hSw;go_simp;all_goals with_reducible rfl));rotate_left 1;(· exact fun _ _ _ h=>h);try simp only [Act.put,Lq1,Lq2,Lq3]))
     | ((with_reducible refine (HLT.out _ (hG.past hHeld (by simp))).mono ?_);rintro e1 v1 ⟨C,rfl,VV',m⟩;have VV:=VAr.of VV';have hM:=Nat.le_refl v1.heap.size;have D3:True:=trivial;(try have hx15:=lt_of_block E15);(try have hx16:=lt_of_block E16);(try have E15:=m.at E15 (by simp));(try have E16:=m.at E16 (by simp));refine hK.out _ _ (by (try dsimp only);exact hHeld.trans m (by simp)) (fun hHeld'=>?_);clear m hK K hHeld;have hHeld:=hHeld';clear hHeld';(try simp only [Act.put,Lq1,Lq2,Lq3]);(refine wpAnyH_take (i:=17) (oi:=?_) (v:=?_) ?_ ?_ ?_ ?_ ?_ ?_ (by assumption) ?_;rotate_left 2;(· (simp only [Gq1,Gq2,Gq3])<;>rfl);(· kernel_rfl);(· kernel_rfl);(· kernel_rfl);rotate_left 1;(· (refine Or.inl ⟨by rfl,?_⟩;intro w hSw;go_simp;all_goals with_reducible rfl));rotate_left 1;(· exact fun _ _ _ h=>h);try simp only [Act.put,Lq1,Lq2,Lq3]);(refine wpAnyH_take (i:=18) (oi:=?_) (v:=?_) ?_ ?_ ?_ ?_ ?_ ?_ (by assumption) ?_;rotate_left 2;(· (simp only [Gq1,Gq2,Gq3])<;>rfl);(· kernel_rfl);(· kernel_rfl);(· kernel_rfl);rotate_left 1;(· (refine Or.inl ⟨by rfl,?_⟩;intro w hSw;go_simp;all_goals with_reducible rfl));rotate_left 1;(· exact fun _ _ _ h=>h);try simp only [Act.put,Lq1,Lq2,Lq3]);(refine wpAnyH_take (i:=19) (oi:=?_) (v:=?_) ?_ ?_ ?_ ?_ ?_ ?_ (by assumption) ?_;rotate_left 2;(· (simp only [Gq1,Gq2,Gq3])<;>rfl);(· kernel_rfl);(· kernel_rfl);(· kernel_rfl);rotate_left 1;(· (refine Or.inl ⟨by rfl,?_⟩;intro w hSw;go_simp;all_goals with_reducible rfl));rotate_left 1;(· exact fun _ _ _ h=>h);try simp only [Act.put,Lq1,Lq2,Lq3]))
     | ((with_reducible show K _ (World.alloc _ (Obj.cells #[Value.string ⟨#[]⟩,Value.slice none 0 0] 40)));(with_reducible refine hK.out _ _ ?_ ?_);exact hHeld.alloc _;intro hHeld';(try have hlt:=lt_of_block E16);(try have hx15:=hM);have m:=mod_of hHeld (Obj.cells #[Value.string ⟨#[]⟩,Value.slice none 0 0] 40);have N15:=hHeld.size;(try have E15:=m.at E15 (by simp));(try have E16:=m.at E16 (by simp));(try have VV:=VAr.keep VV m (by simp));(try have hM:=Nat.le_trans hM m.size);have E15:=new_of hHeld (Obj.cells #[Value.string ⟨#[]⟩,Value.slice none 0 0] 40);clear hHeld hK K m;have hHeld:=hHeld';clear hHeld';generalize World.alloc _ _=va at *;(try simp only [Act.put,Lq1,Lq2,Lq3]))
     | ((with_reducible show K _ (World.alloc _ (Obj.cells #[.int .i64 0,.int .i64 0,.int .i64 0] 31)));(with_reducible refine hK.out _ _ ?_ ?_);exact hHeld.alloc _;intro hHeld';(try have hlt:=lt_of_block E15);(try have hx16:=hM);have m:=mod_of hHeld (Obj.cells #[.int .i64 0,.int .i64 0,.int .i64 0] 31);have N16:=hHeld.size;(try have E15:=m.at E15 (by simp));(try have E16:=m.at E16 (by simp));(try have VV:=VAr.keep VV m (by simp));(try have hM:=Nat.le_trans hM m.size);have E16:=new_of hHeld (Obj.cells #[.int .i64 0,.int .i64 0,.int .i64 0] 31);clear hHeld hK K m;have hHeld:=hHeld';clear hHeld';generalize World.alloc _ _=va at *;(try simp only [Act.put,Lq1,Lq2,Lq3]))
    all_goals first
     | (have:=D3;have:=E15;clear this;clear this;refine wpAnyH_ready (rs:=[21]) (by kernel_rfl) (by simp) ?_;refine AllReadyH.cons (o:=?_) ?_ ?_ ?_;rotate_left 1;(· (simp only [Gq1,Gq2,Gq3])<;>rfl);rotate_left 1;exact AllReadyH.nil)
     | (have:=D3;have:=E16;clear this;clear this;refine wpAnyH_ready (rs:=[20]) (by kernel_rfl) (by simp) ?_;refine AllReadyH.cons (o:=?_) ?_ ?_ ?_;rotate_left 1;(· (simp only [Gq1,Gq2,Gq3])<;>rfl);rotate_left 1;exact AllReadyH.nil)
     | (have:=D3;clear this;refine wpAnyH_ready (rs:=[20,21]) (by kernel_rfl) (by simp) ?_;refine AllReadyH.cons (o:=?_) ?_ ?_ ?_;rotate_left 1;(· (simp only [Gq1,Gq2,Gq3])<;>rfl);rotate_left 1;refine AllReadyH.cons (o:=?_) ?_ ?_ ?_;rotate_left 1;(· (simp only [Gq1,Gq2,Gq3])<;>rfl);rotate_left 1;exact AllReadyH.nil)
     | (have:=D2;have:=E15;have:=E16;clear this;clear this;clear this;refine wpAnyH_ready (rs:=[16]) (by kernel_rfl) (by simp) ?_;refine AllReadyH.cons (o:=?_) ?_ ?_ ?_;rotate_left 1;(· (simp only [Gq1,Gq2,Gq3])<;>rfl);rotate_left 1;exact AllReadyH.nil)
     | (have:=D2;have:=E15;clear this;clear this;refine wpAnyH_ready (rs:=[16,21]) (by kernel_rfl) (by simp) ?_;refine AllReadyH.cons (o:=?_) ?_ ?_ ?_;rotate_left 1;(· (simp only [Gq1,Gq2,Gq3])<;>rfl);rotate_left 1;refine AllReadyH.cons (o:=?_) ?_ ?_ ?_;rotate_left 1;(· (simp only [Gq1,Gq2,Gq3])<;>rfl);rotate_left 1;exact AllReadyH.nil)
     | (have:=D2;have:=E16;clear this;clear this;refine wpAnyH_ready (rs:=[16,20]) (by kernel_rfl) (by simp) ?_;refine AllReadyH.cons (o:=?_) ?_ ?_ ?_;rotate_left 1;(· (simp only [Gq1,Gq2,Gq3])<;>rfl);rotate_left 1;refine AllReadyH.cons (o:=?_) ?_ ?_ ?_;rotate_left 1;(· (simp only [Gq1,Gq2,Gq3])<;>rfl);rotate_left 1;exact AllReadyH.nil)
     | (have:=D2;clear this;refine wpAnyH_ready (rs:=[16,20,21]) (by kernel_rfl) (by simp) ?_;refine AllReadyH.cons (o:=?_) ?_ ?_ ?_;rotate_left 1;(· (simp only [Gq1,Gq2,Gq3])<;>rfl);rotate_left 1;refine AllReadyH.cons (o:=?_) ?_ ?_ ?_;rotate_left 1;(· (simp only [Gq1,Gq2,Gq3])<;>rfl);rotate_left 1;refine AllReadyH.cons (o:=?_) ?_ ?_ ?_;rotate_left 1;(· (simp only [Gq1,Gq2,Gq3])<;>rfl);rotate_left 1;exact AllReadyH.nil)
     | (have:=D1;have:=E15;have:=E16;clear this;clear this;clear this;refine wpAnyH_ready (rs:=[14]) (by kernel_rfl) (by simp) ?_;refine AllReadyH.cons (o:=?_) ?_ ?_ ?_;rotate_left 1;(· (simp only [Gq1,Gq2,Gq3])<;>rfl);rotate_left 1;exact AllReadyH.nil)
     | (have:=D1;have:=E15;clear this;clear this;refine wpAnyH_ready (rs:=[14,21]) (by kernel_rfl) (by simp) ?_;refine AllReadyH.cons (o:=?_) ?_ ?_ ?_;rotate_left 1;(· (simp only [Gq1,Gq2,Gq3])<;>rfl);rotate_left 1;refine AllReadyH.cons (o:=?_) ?_ ?_ ?_;rotate_left 1;(· (simp only [Gq1,Gq2,Gq3])<;>rfl);rotate_left 1;exact AllReadyH.nil)
     | (have:=D1;have:=E16;clear this;clear this;refine wpAnyH_ready (rs:=[14,20]) (by kernel_rfl) (by simp) ?_;refine AllReadyH.cons (o:=?_) ?_ ?_ ?_;rotate_left 1;(· (simp only [Gq1,Gq2,Gq3])<;>rfl);rotate_left 1;refine AllReadyH.cons (o:=?_) ?_ ?_ ?_;rotate_left 1;(· (simp only [Gq1,Gq2,Gq3])<;>rfl);rotate_left 1;exact AllReadyH.nil)
     | (have:=D1;clear this;refine wpAnyH_ready (rs:=[14,20,21]) (by kernel_rfl) (by simp) ?_;refine AllReadyH.cons (o:=?_) ?_ ?_ ?_;rotate_left 1;(· (simp only [Gq1,Gq2,Gq3])<;>rfl);rotate_left 1;refine AllReadyH.cons (o:=?_) ?_ ?_ ?_;rotate_left 1;(· (simp only [Gq1,Gq2,Gq3])<;>rfl);rotate_left 1;refine AllReadyH.cons (o:=?_) ?_ ?_ ?_;rotate_left 1;(· (simp only [Gq1,Gq2,Gq3])<;>rfl);rotate_left 1;exact AllReadyH.nil)
     | (have:=E15;have:=E16;clear this;clear this;refine wpAnyH_ready (rs:=[7]) (by kernel_rfl) (by simp) ?_;refine AllReadyH.cons (o:=?_) ?_ ?_ ?_;rotate_left 1;(· (simp only [Gq1,Gq2,Gq3])<;>rfl);rotate_left 1;exact AllReadyH.nil)
     | (have:=E15;clear this;refine wpAnyH_ready (rs:=[7,21]) (by kernel_rfl) (by simp) ?_;refine AllReadyH.cons (o:=?_) ?_ ?_ ?_;rotate_left 1;(· (simp only [Gq1,Gq2,Gq3])<;>rfl);rotate_left 1;refine AllReadyH.cons (o:=?_) ?_ ?_ ?_;rotate_left 1;(· (simp only [Gq1,Gq2,Gq3])<;>rfl);rotate_left 1;exact AllReadyH.nil)
     | (have:=E16;clear this;refine wpAnyH_ready (rs:=[7,20]) (by kernel_rfl) (by simp) ?_;refine AllReadyH.cons (o:=?_) ?_ ?_ ?_;rotate_left 1;(· (simp only [Gq1,Gq2,Gq3])<;>rfl);rotate_left 1;refine AllReadyH.cons (o:=?_) ?_ ?_ ?_;rotate_left 1;(· (simp only [Gq1,Gq2,Gq3])<;>rfl);rotate_left 1;exact AllReadyH.nil)
     | (refine wpAnyH_ready (rs:=[7,20,21]) (by kernel_rfl) (by simp) ?_;refine AllReadyH.cons (o:=?_) ?_ ?_ ?_;rotate_left 1;(· (simp only [Gq1,Gq2,Gq3])<;>rfl);rotate_left 1;refine AllReadyH.cons (o:=?_) ?_ ?_ ?_;rotate_left 1;(· (simp only [Gq1,Gq2,Gq3])<;>rfl);rotate_left 1;refine AllReadyH.cons (o:=?_) ?_ ?_ ?_;rotate_left 1;(· (simp only [Gq1,Gq2,Gq3])<;>rfl);rotate_left 1;exact AllReadyH.nil)
    all_goals (intro K hK;go_simp)
    all_goals first
     | ((with_reducible refine (HO1.out _).mono ?_);rintro e1 v1 ⟨rfl,m⟩;have D1:True:=trivial;(try have E15:=m.at E15 (by simp));(try have E16:=m.at E16 (by simp));(try have VV:=VAr.keep VV m (by simp));(try have hM:=Nat.le_trans hM m.size);refine hK.out _ _ (by (try dsimp only);exact hHeld.trans m (by simp)) (fun hHeld'=>?_);clear m hK K hHeld;have hHeld:=hHeld';clear hHeld';(try simp only [Act.put,Lq1,Lq2,Lq3]))
     | ((with_reducible refine (HO2.out _).mono ?_);rintro e1 v1 ⟨rfl,m⟩;have D2:True:=trivial;(try have E15:=m.at E15 (by simp));(try have E16:=m.at E16 (by simp));(try have VV:=VAr.keep VV m (by simp));(try have hM:=Nat.le_trans hM m.size);refine hK.out _ _ (by (try dsimp only);exact hHeld.trans m (by simp)) (fun hHeld'=>?_);clear m hK K hHeld;have hHeld:=hHeld';clear hHeld';(try simp only [Act.put,Lq1,Lq2,Lq3]);(refine wpAnyH_take (i:=15) (oi:=?_) (v:=?_) ?_ ?_ ?_ ?_ ?_ ?_ (by assumption) ?_;rotate_left 2;(· (simp only [Gq1,Gq2,Gq3])<;>rfl);(· kernel_rfl);(· kernel_rfl);(· kernel_rfl);rotate_left 1;(· (refine Or.inl ⟨by rfl,?_⟩;intro w hSw;clear hSw;go_simp;all_goals with_reducible rfl));rotate_left 1;(· exact fun _ _ _ h=>h);try simp only [Act.put,Lq1,Lq2,Lq3]))
     | ((with_reducible refine (HLT.out _ (hG.past hHeld (by simp))).mono ?_);rintro e1 v1 ⟨C,rfl,VV',m⟩;have VV:=VAr.of VV';have hM:=Nat.le_refl v1.heap.size;have D3:True:=trivial;(try have hx15:=lt_of_block E15);(try have hx16:=lt_of_block E16);(try have E15:=m.at E15 (by simp));(try have E16:=m.at E16 (by simp));refine hK.out _ _ (by (try dsimp only);exact hHeld.trans m (by simp)) (fun hHeld'=>?_);clear m hK K hHeld;have hHeld:=hHeld';clear hHeld';(try simp only [Act.put,Lq1,Lq2,Lq3]);(refine wpAnyH_take (i:=17) (oi:=?_) (v:=?_) ?_ ?_ ?_ ?_ ?_ ?_ (by assumption) ?_;rotate_left 2;(· (simp only [Gq1,Gq2,Gq3])<;>rfl);(· kernel_rfl);(· kernel_rfl);(· kernel_rfl);rotate_left 1;(· (refine Or.inl ⟨by rfl,?_⟩;intro w hSw;go_simp;all_goals with_reducible rfl));rotate_left 1;(· exact fun _ _ _ h=>h);try simp only [Act.put,Lq1,Lq2,Lq3]);(refine wpAnyH_take (i:=18) (oi:=?_) (v:=?_) ?_ ?_ ?_ ?_ ?_ ?_ (by assumption) ?_;rotate_left 2;(· (simp only [Gq1,Gq2,Gq3])<;>rfl);(· kernel_rfl);(· kernel_rfl);(· kernel_rfl);rotate_left 1;(· (refine Or.inl ⟨by rfl,?_⟩;intro w hSw;go_simp;all_goals with_reducible rfl));rotate_left 1;(· exact fun _ _ _ h=>h);try simp only [Act.put,Lq1,Lq2,Lq3]);(refine wpAnyH_take (i:=19) (oi:=?_) (v:=?_) ?_ ?_ ?_ ?_ ?_ ?_ (by assumption) ?_;rotate_left 2;(· (simp only [Gq1,Gq2,Gq3])<;>rfl);(· kernel_rfl);(· kernel_rfl);(· kernel_rfl);rotate_left 1;(· (refine Or.inl ⟨by rfl,?_⟩;intro w hSw;go_simp;all_goals with_reducible rfl));rotate_left 1;(· exact fun _ _ _ h=>h);try simp only [Act.put,Lq1,Lq2,Lq3]))
     | ((with_reducible show K _ (World.alloc _ (Obj.cells #[Value.string ⟨#[]⟩,Value.slice none 0 0] 40)));(with_reducible refine hK.out _ _ ?_ ?_);exact hHeld.alloc _;intro hHeld';(try have hlt:=lt_of_block E16);(try have hx15:=hM);have m:=mod_of hHeld (Obj.cells #[Value.string ⟨#[]⟩,Value.slice none 0 0] 40);have N15:=hHeld.size;(try have E15:=m.at E15 (by simp));(try have E16:=m.at E16 (by simp));(try have VV:=VAr.keep VV m (by simp));(try have hM:=Nat.le_trans hM m.size);have E15:=new_of hHeld (Obj.cells #[Value.string ⟨#[]⟩,Value.slice none 0 0] 40);clear hHeld hK K m;have hHeld:=hHeld';clear hHeld';generalize World.alloc _ _=va at *;(try simp only [Act.put,Lq1,Lq2,Lq3]))
     | ((with_reducible show K _ (World.alloc _ (Obj.cells #[.int .i64 0,.int .i64 0,.int .i64 0] 31)));(with_reducible refine hK.out _ _ ?_ ?_);exact hHeld.alloc _;intro hHeld';(try have hlt:=lt_of_block E15);(try have hx16:=hM);have m:=mod_of hHeld (Obj.cells #[.int .i64 0,.int .i64 0,.int .i64 0] 31);have N16:=hHeld.size;(try have E15:=m.at E15 (by simp));(try have E16:=m.at E16 (by simp));(try have VV:=VAr.keep VV m (by simp));(try have hM:=Nat.le_trans hM m.size);have E16:=new_of hHeld (Obj.cells #[.int .i64 0,.int .i64 0,.int .i64 0] 31);clear hHeld hK K m;have hHeld:=hHeld';clear hHeld';generalize World.alloc _ _=va at *;(try simp only [Act.put,Lq1,Lq2,Lq3]))
    all_goals first
     | (have:=D3;have:=E15;clear this;clear this;refine wpAnyH_ready (rs:=[21]) (by kernel_rfl) (by simp) ?_;refine AllReadyH.cons (o:=?_) ?_ ?_ ?_;rotate_left 1;(· (simp only [Gq1,Gq2,Gq3])<;>rfl);rotate_left 1;exact AllReadyH.nil)
     | (have:=D3;have:=E16;clear this;clear this;refine wpAnyH_ready (rs:=[20]) (by kernel_rfl) (by simp) ?_;refine AllReadyH.cons (o:=?_) ?_ ?_ ?_;rotate_left 1;(· (simp only [Gq1,Gq2,Gq3])<;>rfl);rotate_left 1;exact AllReadyH.nil)
     | (have:=D3;clear this;refine wpAnyH_ready (rs:=[20,21]) (by kernel_rfl) (by simp) ?_;refine AllReadyH.cons (o:=?_) ?_ ?_ ?_;rotate_left 1;(· (simp only [Gq1,Gq2,Gq3])<;>rfl);rotate_left 1;refine AllReadyH.cons (o:=?_) ?_ ?_ ?_;rotate_left 1;(· (simp only [Gq1,Gq2,Gq3])<;>rfl);rotate_left 1;exact AllReadyH.nil)
     | (have:=D2;have:=E15;have:=E16;clear this;clear this;clear this;refine wpAnyH_ready (rs:=[16]) (by kernel_rfl) (by simp) ?_;refine AllReadyH.cons (o:=?_) ?_ ?_ ?_;rotate_left 1;(· (simp only [Gq1,Gq2,Gq3])<;>rfl);rotate_left 1;exact AllReadyH.nil)
     | (have:=D2;have:=E15;clear this;clear this;refine wpAnyH_ready (rs:=[16,21]) (by kernel_rfl) (by simp) ?_;refine AllReadyH.cons (o:=?_) ?_ ?_ ?_;rotate_left 1;(· (simp only [Gq1,Gq2,Gq3])<;>rfl);rotate_left 1;refine AllReadyH.cons (o:=?_) ?_ ?_ ?_;rotate_left 1;(· (simp only [Gq1,Gq2,Gq3])<;>rfl);rotate_left 1;exact AllReadyH.nil)
     | (have:=D2;have:=E16;clear this;clear this;refine wpAnyH_ready (rs:=[16,20]) (by kernel_rfl) (by simp) ?_;refine AllReadyH.cons (o:=?_) ?_ ?_ ?_;rotate_left 1;(· (simp only [Gq1,Gq2,Gq3])<;>rfl);rotate_left 1;refine AllReadyH.cons (o:=?_) ?_ ?_ ?_;rotate_left 1;(· (simp only [Gq1,Gq2,Gq3])<;>rfl);rotate_left 1;exact AllReadyH.nil)
     | (have:=D2;clear this;refine wpAnyH_ready (rs:=[16,20,21]) (by kernel_rfl) (by simp) ?_;refine AllReadyH.cons (o:=?_) ?_ ?_ ?_;rotate_left 1;(· (simp only [Gq1,Gq2,Gq3])<;>rfl);rotate_left 1;refine AllReadyH.cons (o:=?_) ?_ ?_ ?_;rotate_left 1;(· (simp only [Gq1,Gq2,Gq3])<;>rfl);rotate_left 1;refine AllReadyH.cons (o:=?_) ?_ ?_ ?_;rotate_left 1;(· (simp only [Gq1,Gq2,Gq3])<;>rfl);rotate_left 1;exact AllReadyH.nil)
     | (have:=D1;have:=E15;have:=E16;clear this;clear this;clear this;refine wpAnyH_ready (rs:=[14]) (by kernel_rfl) (by simp) ?_;refine AllReadyH.cons (o:=?_) ?_ ?_ ?_;rotate_left 1;(· (simp only [Gq1,Gq2,Gq3])<;>rfl);rotate_left 1;exact AllReadyH.nil)
     | (have:=D1;have:=E15;clear this;clear this;refine wpAnyH_ready (rs:=[14,21]) (by kernel_rfl) (by simp) ?_;refine AllReadyH.cons (o:=?_) ?_ ?_ ?_;rotate_left 1;(· (simp only [Gq1,Gq2,Gq3])<;>rfl);rotate_left 1;refine AllReadyH.cons (o:=?_) ?_ ?_ ?_;rotate_left 1;(· (simp only [Gq1,Gq2,Gq3])<;>rfl);rotate_left 1;exact AllReadyH.nil)
     | (have:=D1;have:=E16;clear this;clear this;refine wpAnyH_ready (rs:=[14,20]) (by kernel_rfl) (by simp) ?_;refine AllReadyH.cons (o:=?_) ?_ ?_ ?_;rotate_left 1;(· (simp only [Gq1,Gq2,Gq3])<;>rfl);rotate_left 1;refine AllReadyH.cons (o:=?_) ?_ ?_ ?_;rotate_left 1;(· (simp only [Gq1,Gq2,Gq3])<;>rfl);rotate_left 1;exact AllReadyH.nil)
     | (have:=D1;clear this;refine wpAnyH_ready (rs:=[14,20,21]) (by kernel_rfl) (by simp) ?_;refine AllReadyH.cons (o:=?_) ?_ ?_ ?_;rotate_left 1;(· (simp only [Gq1,Gq2,Gq3])<;>rfl);rotate_left 1;refine AllReadyH.cons (o:=?_) ?_ ?_ ?_;rotate_left 1;(· (simp only [Gq1,Gq2,Gq3])<;>rfl);rotate_left 1;refine AllReadyH.cons (o:=?_) ?_ ?_ ?_;rotate_left 1;(· (simp only [Gq1,Gq2,Gq3])<;>rfl);rotate_left 1;exact AllReadyH.nil)
     | (have:=E15;have:=E16;clear this;clear this;refine wpAnyH_ready (rs:=[7]) (by kernel_rfl) (by simp) ?_;refine AllReadyH.cons (o:=?_) ?_ ?_ ?_;rotate_left 1;(· (simp only [Gq1,Gq2,Gq3])<;>rfl);rotate_left 1;exact AllReadyH.nil)
     | (have:=E15;clear this;refine wpAnyH_ready (rs:=[7,21]) (by kernel_rfl) (by simp) ?_;refine AllReadyH.cons (o:=?_) ?_ ?_ ?_;rotate_left 1;(· (simp only [Gq1,Gq2,Gq3])<;>rfl);rotate_left 1;refine AllReadyH.cons (o:=?_) ?_ ?_ ?_;rotate_left 1;(· (simp only [Gq1,Gq2,Gq3])<;>rfl);rotate_left 1;exact AllReadyH.nil)
     | (have:=E16;clear this;refine wpAnyH_ready (rs:=[7,20]) (by kernel_rfl) (by simp) ?_;refine AllReadyH.cons (o:=?_) ?_ ?_ ?_;rotate_left 1;(· (simp only [Gq1,Gq2,Gq3])<;>rfl);rotate_left 1;refine AllReadyH.cons (o:=?_) ?_ ?_ ?_;rotate_left 1;(· (simp only [Gq1,Gq2,Gq3])<;>rfl);rotate_left 1;exact AllReadyH.nil)
     | (refine wpAnyH_ready (rs:=[7,20,21]) (by kernel_rfl) (by simp) ?_;refine AllReadyH.cons (o:=?_) ?_ ?_ ?_;rotate_left 1;(· (simp only [Gq1,Gq2,Gq3])<;>rfl);rotate_left 1;refine AllReadyH.cons (o:=?_) ?_ ?_ ?_;rotate_left 1;(· (simp only [Gq1,Gq2,Gq3])<;>rfl);rotate_left 1;refine AllReadyH.cons (o:=?_) ?_ ?_ ?_;rotate_left 1;(· (simp only [Gq1,Gq2,Gq3])<;>rfl);rotate_left 1;exact AllReadyH.nil)
    all_goals (intro K hK;go_simp)
    all_goals first
     | ((with_reducible refine (HO1.out _).mono ?_);rintro e1 v1 ⟨rfl,m⟩;have D1:True:=trivial;(try have E15:=m.at E15 (by simp));(try have E16:=m.at E16 (by simp));(try have VV:=VAr.keep VV m (by simp));(try have hM:=Nat.le_trans hM m.size);refine hK.out _ _ (by (try dsimp only);exact hHeld.trans m (by simp)) (fun hHeld'=>?_);clear m hK K hHeld;have hHeld:=hHeld';clear hHeld';(try simp only [Act.put,Lq1,Lq2,Lq3]))
     | ((with_reducible refine (HO2.out _).mono ?_);rintro e1 v1 ⟨rfl,m⟩;have D2:True:=trivial;(try have E15:=m.at E15 (by simp));(try have E16:=m.at E16 (by simp));(try have VV:=VAr.keep VV m (by simp));(try have hM:=Nat.le_trans hM m.size);refine hK.out _ _ (by (try dsimp only);exact hHeld.trans m (by simp)) (fun hHeld'=>?_);clear m hK K hHeld;have hHeld:=hHeld';clear hHeld';(try simp only [Act.put,Lq1,Lq2,Lq3]);(refine wpAnyH_take (i:=15) (oi:=?_) (v:=?_) ?_ ?_ ?_ ?_ ?_ ?_ (by assumption) ?_;rotate_left 2;(· (simp only [Gq1,Gq2,Gq3])<;>rfl);(· kernel_rfl);(· kernel_rfl);(· kernel_rfl);rotate_left 1;(· (refine Or.inl ⟨by rfl,?_⟩;intro w hSw;clear hSw;go_simp;all_goals with_reducible rfl));rotate_left 1;(· exact fun _ _ _ h=>h);try simp only [Act.put,Lq1,Lq2,Lq3]))
     | ((with_reducible refine (HLT.out _ (hG.past hHeld (by simp))).mono ?_);rintro e1 v1 ⟨C,rfl,VV',m⟩;have VV:=VAr.of VV';have hM:=Nat.le_refl v1.heap.size;have D3:True:=trivial;(try have hx15:=lt_of_block E15);(try have hx16:=lt_of_block E16);(try have E15:=m.at E15 (by simp));(try have E16:=m.at E16 (by simp));refine hK.out _ _ (by (try dsimp only);exact hHeld.trans m (by simp)) (fun hHeld'=>?_);clear m hK K hHeld;have hHeld:=hHeld';clear hHeld';(try simp only [Act.put,Lq1,Lq2,Lq3]);(refine wpAnyH_take (i:=17) (oi:=?_) (v:=?_) ?_ ?_ ?_ ?_ ?_ ?_ (by assumption) ?_;rotate_left 2;(· (simp only [Gq1,Gq2,Gq3])<;>rfl);(· kernel_rfl);(· kernel_rfl);(· kernel_rfl);rotate_left 1;(· (refine Or.inl ⟨by rfl,?_⟩;intro w hSw;go_simp;all_goals with_reducible rfl));rotate_left 1;(· exact fun _ _ _ h=>h);try simp only [Act.put,Lq1,Lq2,Lq3]);(refine wpAnyH_take (i:=18) (oi:=?_) (v:=?_) ?_ ?_ ?_ ?_ ?_ ?_ (by assumption) ?_;rotate_left 2;(· (simp only [Gq1,Gq2,Gq3])<;>rfl);(· kernel_rfl);(· kernel_rfl);(· kernel_rfl);rotate_left 1;(· (refine Or.inl ⟨by rfl,?_⟩;intro w hSw;go_simp;all_goals with_reducible rfl));rotate_left 1;(· exact fun _ _ _ h=>h);try simp only [Act.put,Lq1,Lq2,Lq3]);(refine wpAnyH_take (i:=19) (oi:=?_) (v:=?_) ?_ ?_ ?_ ?_ ?_ ?_ (by assumption) ?_;rotate_left 2;(· (simp only [Gq1,Gq2,Gq3])<;>rfl);(· kernel_rfl);(· kernel_rfl);(· kernel_rfl);rotate_left 1;(· (refine Or.inl ⟨by rfl,?_⟩;intro w hSw;go_simp;all_goals with_reducible rfl));rotate_left 1;(· exact fun _ _ _ h=>h);try simp only [Act.put,Lq1,Lq2,Lq3]))
     | ((with_reducible show K _ (World.alloc _ (Obj.cells #[Value.string ⟨#[]⟩,Value.slice none 0 0] 40)));(with_reducible refine hK.out _ _ ?_ ?_);exact hHeld.alloc _;intro hHeld';(try have hlt:=lt_of_block E16);(try have hx15:=hM);have m:=mod_of hHeld (Obj.cells #[Value.string ⟨#[]⟩,Value.slice none 0 0] 40);have N15:=hHeld.size;(try have E15:=m.at E15 (by simp));(try have E16:=m.at E16 (by simp));(try have VV:=VAr.keep VV m (by simp));(try have hM:=Nat.le_trans hM m.size);have E15:=new_of hHeld (Obj.cells #[Value.string ⟨#[]⟩,Value.slice none 0 0] 40);clear hHeld hK K m;have hHeld:=hHeld';clear hHeld';generalize World.alloc _ _=va at *;(try simp only [Act.put,Lq1,Lq2,Lq3]))
     | ((with_reducible show K _ (World.alloc _ (Obj.cells #[.int .i64 0,.int .i64 0,.int .i64 0] 31)));(with_reducible refine hK.out _ _ ?_ ?_);exact hHeld.alloc _;intro hHeld';(try have hlt:=lt_of_block E15);(try have hx16:=hM);have m:=mod_of hHeld (Obj.cells #[.int .i64 0,.int .i64 0,.int .i64 0] 31);have N16:=hHeld.size;(try have E15:=m.at E15 (by simp));(try have E16:=m.at E16 (by simp));(try have VV:=VAr.keep VV m (by simp));(try have hM:=Nat.le_trans hM m.size);have E16:=new_of hHeld (Obj.cells #[.int .i64 0,.int .i64 0,.int .i64 0] 31);clear hHeld hK K m;have hHeld:=hHeld';clear hHeld';generalize World.alloc _ _=va at *;(try simp only [Act.put,Lq1,Lq2,Lq3]))
    all_goals first
     | (have:=D3;have:=E15;clear this;clear this;refine wpAnyH_ready (rs:=[21]) (by kernel_rfl) (by simp) ?_;refine AllReadyH.cons (o:=?_) ?_ ?_ ?_;rotate_left 1;(· (simp only [Gq1,Gq2,Gq3])<;>rfl);rotate_left 1;exact AllReadyH.nil)
     | (have:=D3;have:=E16;clear this;clear this;refine wpAnyH_ready (rs:=[20]) (by kernel_rfl) (by simp) ?_;refine AllReadyH.cons (o:=?_) ?_ ?_ ?_;rotate_left 1;(· (simp only [Gq1,Gq2,Gq3])<;>rfl);rotate_left 1;exact AllReadyH.nil)
     | (have:=D3;clear this;refine wpAnyH_ready (rs:=[20,21]) (by kernel_rfl) (by simp) ?_;refine AllReadyH.cons (o:=?_) ?_ ?_ ?_;rotate_left 1;(· (simp only [Gq1,Gq2,Gq3])<;>rfl);rotate_left 1;refine AllReadyH.cons (o:=?_) ?_ ?_ ?_;rotate_left 1;(· (simp only [Gq1,Gq2,Gq3])<;>rfl);rotate_left 1;exact AllReadyH.nil)
     | (have:=D2;have:=E15;have:=E16;clear this;clear this;clear this;refine wpAnyH_ready (rs:=[16]) (by kernel_rfl) (by simp) ?_;refine AllReadyH.cons (o:=?_) ?_ ?_ ?_;rotate_left 1;(· (simp only [Gq1,Gq2,Gq3])<;>rfl);rotate_left 1;exact AllReadyH.nil)
     | (have:=D2;have:=E15;clear this;clear this;refine wpAnyH_ready (rs:=[16,21]) (by kernel_rfl) (by simp) ?_;refine AllReadyH.cons (o:=?_) ?_ ?_ ?_;rotate_left 1;(· (simp only [Gq1,Gq2,Gq3])<;>rfl);rotate_left 1;refine AllReadyH.cons (o:=?_) ?_ ?_ ?_;rotate_left 1;(· (simp only [Gq1,Gq2,Gq3])<;>rfl);rotate_left 1;exact AllReadyH.nil)
     | (have:=D2;have:=E16;clear this;clear this;refine wpAnyH_ready (rs:=[16,20]) (by kernel_rfl) (by simp) ?_;refine AllReadyH.cons (o:=?_) ?_ ?_ ?_;rotate_left 1;(· (simp only [Gq1,Gq2,Gq3])<;>rfl);rotate_left 1;refine AllReadyH.cons (o:=?_) ?_ ?_ ?_;rotate_left 1;(· (simp only [Gq1,Gq2,Gq3])<;>rfl);rotate_left 1;exact AllReadyH.nil)
     | (have:=D2;clear this;refine wpAnyH_ready (rs:=[16,20,21]) (by kernel_rfl) (by simp) ?_;refine AllReadyH.cons (o:=?_) ?_ ?_ ?_;rotate_left 1;(· (simp only [Gq1,Gq2,Gq3])<;>rfl);rotate_left 1;refine AllReadyH.cons (o:=?_) ?_ ?_ ?_;rotate_left 1;(· (simp only [Gq1,Gq2,Gq3])<;>rfl);rotate_left 1;refine AllReadyH.cons (o:=?_) ?_ ?_ ?_;rotate_left 1;(· (simp only [Gq1,Gq2,Gq3])<;>rfl);rotate_left 1;exact AllReadyH.nil)
     | (have:=D1;have:=E15;have:=E16;clear this;clear this;clear this;refine wpAnyH_ready (rs:=[14]) (by kernel_rfl) (by simp) ?_;refine AllReadyH.cons (o:=?_) ?_ ?_ ?_;rotate_left 1;(· (simp only [Gq1,Gq2,Gq3])<;>rfl);rotate_left 1;exact AllReadyH.nil)
     | (have:=D1;have:=E15;clear this;clear this;refine wpAnyH_ready (rs:=[14,21]) (by kernel_rfl) (by simp) ?_;refine AllReadyH.cons (o:=?_) ?_ ?_ ?_;rotate_left 1;(· (simp only [Gq1,Gq2,Gq3])<;>rfl);rotate_left 1;refine AllReadyH.cons (o:=?_) ?_ ?_ ?_;rotate_left 1;(· (simp only [Gq1,Gq2,Gq3])<;>rfl);rotate_left 1;exact AllReadyH.nil)
     | (have:=D1;have:=E16;clear this;clear this;refine wpAnyH_ready (rs:=[14,20]) (by kernel_rfl) (by simp) ?_;refine AllReadyH.cons (o:=?_) ?_ ?_ ?_;rotate_left 1;(· (simp only [Gq1,Gq2,Gq3])<;>rfl);rotate_left 1;refine AllReadyH.cons (o:=?_) ?_ ?_ ?_;rotate_left 1;(· (simp only [Gq1,Gq2,Gq3])<;>rfl);rotate_left 1;exact AllReadyH.nil)
     | (have:=D1;clear this;refine wpAnyH_ready (rs:=[14,20,21]) (by kernel_rfl) (by simp) ?_;refine AllReadyH.cons (o:=?_) ?_ ?_ ?_;rotate_left 1;(· (simp only [Gq1,Gq2,Gq3])<;>rfl);rotate_left 1;refine AllReadyH.cons (o:=?_) ?_ ?_ ?_;rotate_left 1;(· (simp only [Gq1,Gq2,Gq3])<;>rfl);rotate_left 1;refine AllReadyH.cons (o:=?_) ?_ ?_ ?_;rotate_left 1;(· (simp only [Gq1,Gq2,Gq3])<;>rfl);rotate_left 1;exact AllReadyH.nil)
     | (have:=E15;have:=E16;clear this;clear this;refine wpAnyH_ready (rs:=[7]) (by kernel_rfl) (by simp) ?_;refine AllReadyH.cons (o:=?_) ?_ ?_ ?_;rotate_left 1;(· (simp only [Gq1,Gq2,Gq3])<;>rfl);rotate_left 1;exact AllReadyH.nil)
     | (have:=E15;clear this;refine wpAnyH_ready (rs:=[7,21]) (by kernel_rfl) (by simp) ?_;refine AllReadyH.cons (o:=?_) ?_ ?_ ?_;rotate_left 1;(· (simp only [Gq1,Gq2,Gq3])<;>rfl);rotate_left 1;refine AllReadyH.cons (o:=?_) ?_ ?_ ?_;rotate_left 1;(· (simp only [Gq1,Gq2,Gq3])<;>rfl);rotate_left 1;exact AllReadyH.nil)
     | (have:=E16;clear this;refine wpAnyH_ready (rs:=[7,20]) (by kernel_rfl) (by simp) ?_;refine AllReadyH.cons (o:=?_) ?_ ?_ ?_;rotate_left 1;(· (simp only [Gq1,Gq2,Gq3])<;>rfl);rotate_left 1;refine AllReadyH.cons (o:=?_) ?_ ?_ ?_;rotate_left 1;(· (simp only [Gq1,Gq2,Gq3])<;>rfl);rotate_left 1;exact AllReadyH.nil)
     | (refine wpAnyH_ready (rs:=[7,20,21]) (by kernel_rfl) (by simp) ?_;refine AllReadyH.cons (o:=?_) ?_ ?_ ?_;rotate_left 1;(· (simp only [Gq1,Gq2,Gq3])<;>rfl);rotate_left 1;refine AllReadyH.cons (o:=?_) ?_ ?_ ?_;rotate_left 1;(· (simp only [Gq1,Gq2,Gq3])<;>rfl);rotate_left 1;refine AllReadyH.cons (o:=?_) ?_ ?_ ?_;rotate_left 1;(· (simp only [Gq1,Gq2,Gq3])<;>rfl);rotate_left 1;exact AllReadyH.nil)
    all_goals (intro K hK;go_simp)
    all_goals first
     | ((with_reducible refine (HO1.out _).mono ?_);rintro e1 v1 ⟨rfl,m⟩;have D1:True:=trivial;(try have E15:=m.at E15 (by simp));(try have E16:=m.at E16 (by simp));(try have VV:=VAr.keep VV m (by simp));(try have hM:=Nat.le_trans hM m.size);refine hK.out _ _ (by (try dsimp only);exact hHeld.trans m (by simp)) (fun hHeld'=>?_);clear m hK K hHeld;have hHeld:=hHeld';clear hHeld';(try simp only [Act.put,Lq1,Lq2,Lq3]))
     | ((with_reducible refine (HO2.out _).mono ?_);rintro e1 v1 ⟨rfl,m⟩;have D2:True:=trivial;(try have E15:=m.at E15 (by simp));(try have E16:=m.at E16 (by simp));(try have VV:=VAr.keep VV m (by simp));(try have hM:=Nat.le_trans hM m.size);refine hK.out _ _ (by (try dsimp only);exact hHeld.trans m (by simp)) (fun hHeld'=>?_);clear m hK K hHeld;have hHeld:=hHeld';clear hHeld';(try simp only [Act.put,Lq1,Lq2,Lq3]);(refine wpAnyH_take (i:=15) (oi:=?_) (v:=?_) ?_ ?_ ?_ ?_ ?_ ?_ (by assumption) ?_;rotate_left 2;(· (simp only [Gq1,Gq2,Gq3])<;>rfl);(· kernel_rfl);(· kernel_rfl);(· kernel_rfl);rotate_left 1;(· (refine Or.inl ⟨by rfl,?_⟩;intro w hSw;clear hSw;go_simp;all_goals with_reducible rfl));rotate_left 1;(· exact fun _ _ _ h=>h);try simp only [Act.put,Lq1,Lq2,Lq3]))
     | ((with_reducible refine (HLT.out _ (hG.past hHeld (by simp))).mono ?_);rintro e1 v1 ⟨C,rfl,VV',m⟩;have VV:=VAr.of VV';have hM:=Nat.le_refl v1.heap.size;have D3:True:=trivial;(try have hx15:=lt_of_block E15);(try have hx16:=lt_of_block E16);(try have E15:=m.at E15 (by simp));(try have E16:=m.at E16 (by simp));refine hK.out _ _ (by (try dsimp only);exact hHeld.trans m (by simp)) (fun hHeld'=>?_);clear m hK K hHeld;have hHeld:=hHeld';clear hHeld';(try simp only [Act.put,Lq1,Lq2,Lq3]);(refine wpAnyH_take (i:=17) (oi:=?_) (v:=?_) ?_ ?_ ?_ ?_ ?_ ?_ (by assumption) ?_;rotate_left 2;(· (simp only [Gq1,Gq2,Gq3])<;>rfl);(· kernel_rfl);(· kernel_rfl);(· kernel_rfl);rotate_left 1;(· (refine Or.inl ⟨by rfl,?_⟩;intro w hSw;go_simp;all_goals with_reducible rfl));rotate_left 1;(· exact fun _ _ _ h=>h);try simp only [Act.put,Lq1,Lq2,Lq3]);(refine wpAnyH_take (i:=18) (oi:=?_) (v:=?_) ?_ ?_ ?_ ?_ ?_ ?_ (by assumption) ?_;rotate_left 2;(· (simp only [Gq1,Gq2,Gq3])<;>rfl);(· kernel_rfl);(· kernel_rfl);(· kernel_rfl);rotate_left 1;(· (refine Or.inl ⟨by rfl,?_⟩;intro w hSw;go_simp;all_goals with_reducible rfl));rotate_left 1;(· exact fun _ _ _ h=>h);try simp only [Act.put,Lq1,Lq2,Lq3]);(refine wpAnyH_take (i:=19) (oi:=?_) (v:=?_) ?_ ?_ ?_ ?_ ?_ ?_ (by assumption) ?_;rotate_left 2;(· (simp only [Gq1,Gq2,Gq3])<;>rfl);(· kernel_rfl);(· kernel_rfl);(· kernel_rfl);rotate_left 1;(· (refine Or.inl ⟨by rfl,?_⟩;intro w hSw;go_simp;all_goals with_reducible rfl));rotate_left 1;(· exact fun _ _ _ h=>h);try simp only [Act.put,Lq1,Lq2,Lq3]))
     | ((with_reducible show K _ (World.alloc _ (Obj.cells #[Value.string ⟨#[]⟩,Value.slice none 0 0] 40)));(with_reducible refine hK.out _ _ ?_ ?_);exact hHeld.alloc _;intro hHeld';(try have hlt:=lt_of_block E16);(try have hx15:=hM);have m:=mod_of hHeld (Obj.cells #[Value.string ⟨#[]⟩,Value.slice none 0 0] 40);have N15:=hHeld.size;(try have E15:=m.at E15 (by simp));(try have E16:=m.at E16 (by simp));(try have VV:=VAr.keep VV m (by simp));(try have hM:=Nat.le_trans hM m.size);have E15:=new_of hHeld (Obj.cells #[Value.string ⟨#[]⟩,Value.slice none 0 0] 40);clear hHeld hK K m;have hHeld:=hHeld';clear hHeld';generalize World.alloc _ _=va at *;(try simp only [Act.put,Lq1,Lq2,Lq3]))
     | ((with_reducible show K _ (World.alloc _ (Obj.cells #[.int .i64 0,.int .i64 0,.int .i64 0] 31)));(with_reducible refine hK.out _ _ ?_ ?_);exact hHeld.alloc _;intro hHeld';(try have hlt:=lt_of_block E15);(try have hx16:=hM);have m:=mod_of hHeld (Obj.cells #[.int .i64 0,.int .i64 0,.int .i64 0] 31);have N16:=hHeld.size;(try have E15:=m.at E15 (by simp));(try have E16:=m.at E16 (by simp));(try have VV:=VAr.keep VV m (by simp));(try have hM:=Nat.le_trans hM m.size);have E16:=new_of hHeld (Obj.cells #[.int .i64 0,.int .i64 0,.int .i64 0] 31);clear hHeld hK K m;have hHeld:=hHeld';clear hHeld';generalize World.alloc _ _=va at *;(try simp only [Act.put,Lq1,Lq2,Lq3]))
    all_goals (
     have hcs:=VAr.cells VV
     have hnn:_∉[_]:=ne_of E15 E16 (by omega)
     obtain ⟨mR,F15⟩:=row_of E15 C
     have F16:=mR.at E16 hnn
     have WW:=VAr.keep VV mR (fun s hs=>by rw [Msq] at hs;omega)
     refine wpAnyH_ready (rs:=[22]) (by kernel_rfl) (by simp) ?_
     refine AllReadyH.cons (o:=?_) ?_ ?_ AllReadyH.nil
     rotate_left 1
     ·(simp only [Gq1,Gq2,Gq3])<;>rfl
     intro K hK
     refine (if_pos (by rfl)).mpr ?_
     refine wp_store_row 40 _ _ rfl _ C rfl rfl 40 _ E15 (size_of sizeA hcs.1) (by rw [hcs.1];rfl) (by rw [<-Array.all_toList];exact hcs.2) ?_
     refine hK.out _ _ (by (try dsimp only);exact hHeld.trans mR (fun t ht=>by rw [Msq] at ht;exact .inr (by omega))) (fun hHeld'=>?_)
     clear hK K hHeld
     have hHeld:=hHeld'
     clear hHeld'
     try simp only [Act.put,Lq1,Lq2,Lq3]
     obtain ⟨mS,H16⟩:=row_of F16 #[.int .i64 0,.int .i64 0,.int .i64 0]
     have H15:=mS.at F15 (ne_of F16 F15 (by omega))
     have XX:=VAr.keep WW mS (fun s hs=>by rw [Msq] at hs;omega)
     refine wpAnyH_ready (rs:=[23]) (by kernel_rfl) (by simp) ?_
     refine AllReadyH.cons (o:=?_) ?_ ?_ AllReadyH.nil
     rotate_left 1
     ·(simp only [Gq1,Gq2,Gq3])<;>rfl
     intro K hK
     refine (if_pos (by rfl)).mpr ?_
     refine wp_store_row 31 _ _ rfl _ #[.int .i64 0,.int .i64 0,.int .i64 0] rfl rfl 31 _ F16 sizeFlt rfl (by rw [<-Array.all_toList];rfl) ?_
     refine hK.out _ _ (by (try dsimp only);exact hHeld.trans mS (fun t ht=>by rw [Msq] at ht;exact .inr (by omega))) (fun hHeld'=>?_)
     clear hK K hHeld
     have hHeld:=hHeld'
     clear hHeld'
     try simp only [Act.put,Lq1,Lq2,Lq3]
     refine wpAnyH_done (by kernel_rfl) ?_ _
     go_wp2_with fail
     go_meet
     exact ⟨_,_,C,rfl,rfl,H15,H16,XX.all,hHeld⟩)
   case rest =>
    obtain ⟨g15,g16,C,rfl,rfl,e15,e16,⟨u5,rfl,h5⟩,m4⟩:=hcut
    obtain ⟨w4,hw4⟩:∃ w4,w4=wc:=⟨_,rfl⟩
    subst hw4
    obtain ⟨a5,c5,rfl⟩:=h5.lit
    have M4:=Hxq ((MA.out.trans MR.out (by simp)).trans m4 (by simp));have E4:=Hxq (m4.at E1.out (by simp));have R4:=Hxq (R1.out.keep m4 (by simp));have R5:=Lib.hid h5
    have y0:=cell_at e16 0
    have z0:=cell_at e15 0;have z1:=cell_at e15 1
    have q0:=cell_at E4.out 0;have q1:=cell_at E4.out 1
    simp only [List.getElem?_toArray,List.getElem?_cons_zero,List.getElem?_cons_succ] at y0 z0 z1 q0 q1
    clear e15 e16 h5 m4 hG hG3 P1 P2 HO1 HO2 HLT E1 T1 B1 R1 MR x2
    go_wp2_with fail
    refine (sameAtom_any ⟨rel,ts⟩ (by show ts.length<=_;omega) _ _ w4 R5.out R4.out).mono ?_
    rintro e6 w6 ⟨rfl,m6⟩
    have M6:=Hxq (M4.out.trans m6 (by simp))
    clear m6
    go_wp2_with fail
    go_ret
    exact ⟨rfl,M6.out⟩
end Go.Proofs.YtppigckioalhhaaGreatDoorR
