/- THE TEXTS MERGED: SyVal SyList. -/
import Derived.Test.YtppigckioalhhaaGreatDoorRKS1
import Derived.Test.YtppigckioalhhaaGreatDoorRKS12
import Derived.Test.YtppigckioalhhaaGreatDoorRKS9
namespace Go.Proofs.YtppigckioalhhaaGreatDoorR
open Go.RowKit
set_option linter.unusedVariables false
set_option linter.unusedSimpArgs false
set_option maxRecDepth 100000
def valC:Va.Val->World->Value->Prop:=fun c _ x=>x=.agg (valV c)
set_option maxHeartbeats 1000000 in
theorem value_any (b:Nat) (ra:Option Addr) (rc:Nat) (f:Value) (v:Sy.Env) (i:Nat) (w:World) (h:RdP w b ra rc f v i) (hv:EnvOk v) (hi:i<=69000) :
  Calls Tryz.prog 93 #[.pointer (some ⟨b,0,none⟩)] w (PRes b ra rc f v (Sy.value v i) valC w):=by
 have mA:=(Mod.refl [] w).alloc (Obj.cells #[Value.int IntKind.i64 0,Value.int IntKind.i64 0,Value.string ⟨#[]⟩] 42)
 have hA:=h.past mA (by simp)
 have eA:=heap_alloc_new w (Obj.cells #[Value.int IntKind.i64 0,Value.int IntKind.i64 0,Value.string ⟨#[]⟩] 42)
 have HC:=Hxq (constant_any b ra rc f v i _ hA hv (by omega))
 have HR:Hid (Sy.value v i=match Sy.constant v i with | some (c,n)=>.ok c (i+n) | none=>.err (v.give 40 (if Sy.sign (v.tk i) [45]=true then i+1 else i))):=Lib.hid rfl
 have HMy:=Hxq (fun w h=>may_any b ra rc f v i [45] { data:=#[45] } w h hv (by omega) rfl (by decide))
 have HLo:=Lib.hid h.low
 have hbl:=h.lt
 have EA:=Lib.hid eA;have MA:=Lib.hid mA
 clear h hA eA mA
 generalize Sy.constant v i=o at *
 generalize Sy.sign (v.tk i) [45]=rs at *
 generalize Sy.value v i=q at *
 go_enter Tryz.func93,Tryz.ntmps93
 go_upto_region 1 with fail
 generalize w.alloc (Obj.cells #[Value.int IntKind.i64 0,Value.int IntKind.i64 0,Value.string ⟨#[]⟩] 42)=wA at *
 cases o with
 | none =>
  cases rs
  ·have hq:q=.err (v.give 40 i):=HR.out
   subst hq
   clear HR
   go_wp2_with fail
   refine HC.out.mono ?_
   rintro e1 w1 ⟨rfl,h1,m1⟩
   have H1:=Hxq (show RdP w1 b ra rc f v i from h1);have M1:=Hxq ((MA.out.mono (T:=[b]) (by simp)).trans m1 (by simp))
   clear h1 m1 HC
   unfold ConV
   simp only [Option.map_none,Option.getD_none,Option.isSome_none,valV,Va.zero]
   have mB:=(Mod.refl [] w1).alloc (Obj.cells #[Value.int .i64 0,Value.int .i64 0,Value.string (Lx.ofS [])] 42)
   have H2:=Hxq (H1.out.past mB (by simp));have M2:=Hxq (M1.out.trans mB (by simp))
   clear mB
   go_wp2_with fail
   refine (HMy.out _ H2.out).mono ?_
   rintro e3 w3 ⟨rfl,h3,m3⟩
   have H3:=Hxq (show RdP w3 b ra rc f v i from h3);have M3:=Hxq (M2.out.trans m3 (by simp))
   clear h3 m3
   go_wp2_with fail
   refine (give_any b ra rc f v i 40 w3 H3.out hv (by omega)).mono ?_
   rintro e4 w4 ⟨rfl,m4⟩
   have M4:=Hxq (M3.out.trans m4 (by simp))
   clear m4
   unfold stopE
   go_wp2_with fail
   exact ⟨rfl,rfl,M4.out⟩
  ·have hq:q=.err (v.give 40 (i+1)):=HR.out
   subst hq
   clear HR
   go_wp2_with fail
   refine HC.out.mono ?_
   rintro e1 w1 ⟨rfl,h1,m1⟩
   have H1:=Hxq (show RdP w1 b ra rc f v i from h1);have M1:=Hxq ((MA.out.mono (T:=[b]) (by simp)).trans m1 (by simp))
   clear h1 m1 HC
   unfold ConV
   simp only [Option.map_none,Option.getD_none,Option.isSome_none,valV,Va.zero]
   have mB:=(Mod.refl [] w1).alloc (Obj.cells #[Value.int .i64 0,Value.int .i64 0,Value.string (Lx.ofS [])] 42)
   have H2:=Hxq (H1.out.past mB (by simp));have M2:=Hxq (M1.out.trans mB (by simp))
   clear mB
   go_wp2_with fail
   refine (HMy.out _ H2.out).mono ?_
   rintro e3 w3 ⟨rfl,h3,m3⟩
   have H3:=Hxq (show RdP w3 b ra rc f v (i+1) from h3);have M3:=Hxq (M2.out.trans m3 (by simp))
   clear h3 m3
   go_wp2_with fail
   refine (give_any b ra rc f v (i+1) 40 w3 H3.out hv (by omega)).mono ?_
   rintro e4 w4 ⟨rfl,m4⟩
   have M4:=Hxq (M3.out.trans m4 (by simp))
   clear m4
   unfold stopE
   go_wp2_with fail
   exact ⟨rfl,rfl,M4.out⟩
 | some p =>
  obtain ⟨c,n⟩:=p
  have hq:q=.ok c (i+n):=HR.out
  subst hq
  clear HR
  go_wp2_with fail
  refine HC.out.mono ?_
  rintro e1 w1 ⟨rfl,h1,m1⟩
  have H1:=Hxq (show RdP w1 b ra rc f v (i+n) from h1);have M1:=Hxq ((MA.out.mono (T:=[b]) (by simp)).trans m1 (by simp))
  have hnb:w.heap.size∉[b]:=by simp;omega
  have E1:=Hxq (m1.at EA.out hnb)
  have z1:=lt_of_block E1.out
  clear h1 m1 HC
  unfold ConV
  simp only [Option.map_some,Option.getD_some,Option.isSome_some,valV]
  have mB:=(Mod.refl [] w1).alloc (Obj.cells #[Value.int .i64 c.k,Value.int .i64 c.n,Value.string (Lx.ofS c.s)] 42)
  have bB:=heap_alloc_new w1 (Obj.cells #[Value.int .i64 c.k,Value.int .i64 c.n,Value.string (Lx.ofS c.s)] 42)
  have aB:=mB.at E1.out (by simp)
  have H2:=Hxq (H1.out.past mB (by simp));have M2:=Hxq (M1.out.trans mB (by simp))
  obtain ⟨x0,x1,x2⟩:=cells3 bB
  obtain ⟨y0,y1,y2⟩:=cells3 aB
  have fA:∀ j,(w1.alloc (Obj.cells #[Value.int .i64 c.k,Value.int .i64 c.n,Value.string (Lx.ofS c.s)] 42)).frozen? ⟨w.heap.size,j,none⟩=false:=fun j=>free_at aB j
  have AB:=Lib.hid aB
  clear mB aB bB
  go_upto_region 5 with fail
  generalize w1.alloc (Obj.cells #[Value.int .i64 c.k,Value.int .i64 c.n,Value.string (Lx.ofS c.s)] 42)=wB at *
  go_wp2_with fail
  have mR:=setCs_mod w.heap.size [.int .i64 c.k,.int .i64 c.n,.string (Lx.ofS c.s)] 0 wB
  refine bodyPost_ret (results_cell_row rfl _ _ _ _ _ _ _ rfl (setCs_row (vs:=[.int .i64 c.k,.int .i64 c.n,.string (Lx.ofS c.s)]) AB.out rfl) Tryz.underlying42 rfl (by kernel_rfl)) rfl ⟨_,rfl,rfl,H2.out.new HLo.out mR (by simp),M2.out.trans mR (by simp)⟩
def valM:Pr.Term->World->Value->Prop:=fun c _ x=>x=.agg (tmV c)
theorem cells5 {w:World} {b:Nat} {a0 a1 a2 a3 a4:Value} {T:TypeId} {fr:Nat × Nat} (h:w.heap[b]?=some (.cells #[a0,a1,a2,a3,a4] T fr)) :
  w.cell? ⟨b,0,none⟩=some a0/\w.cell? ⟨b,1,none⟩=some a1/\w.cell? ⟨b,2,none⟩=some a2/\w.cell? ⟨b,3,none⟩=some a3/\w.cell? ⟨b,4,none⟩=some a4:=⟨cell_at h 0,cell_at h 1,cell_at h 2,cell_at h 3,cell_at h 4⟩
set_option maxHeartbeats 1000000 in
theorem term_any (b:Nat) (ra:Option Addr) (rc:Nat) (f:Value) (v:Sy.Env) (i:Nat) (w:World) (h:RdP w b ra rc f v i) (hv:EnvOk v) (hi:i<=69000) :
  Calls Tryz.prog 89 #[.pointer (some ⟨b,0,none⟩)] w (PRes b ra rc f v (Sy.term v i) valM w):=by
 have mA:=(Mod.refl [] w).alloc (Obj.cells #[Value.int IntKind.i64 0,Value.string ⟨#[]⟩,Value.int IntKind.i64 0,Value.int IntKind.i64 0,Value.string ⟨#[]⟩] 113)
 have hA:=h.past mA (by simp)
 have eA:=heap_alloc_new w (Obj.cells #[Value.int IntKind.i64 0,Value.string ⟨#[]⟩,Value.int IntKind.i64 0,Value.int IntKind.i64 0,Value.string ⟨#[]⟩] 113)
 have HP:=Hxq (peek0 b ra rc f v i _ hA hv (by omega))
 have HR:Hid (Sy.term v i=if (v.tk i).kind=2 then .ok ⟨1,Sy.txt (v.tk i).text,Va.zero⟩ (i+1)
  else if Sy.sign (v.tk i) [95]=true then .ok ⟨3,Sy.txt [],Va.zero⟩ (i+1)
  else (Sy.value v i).bind fun c j=>.ok ⟨2,Sy.txt [],c⟩ j):=Lib.hid rfl
 have HMy:=Hxq (fun w h=>may_any b ra rc f v i [95] { data:=#[95] } w h hv (by omega) rfl (by decide))
 have HV:=Hxq (fun w h=>value_any b ra rc f v i w h hv hi)
 have HLo:=Lib.hid h.low
 have hbl:=h.lt
 have HH:=Lib.hid hA;have EA:=Lib.hid eA;have MA:=Lib.hid mA
 clear h hA eA mA
 generalize Sy.sign (v.tk i) [95]=rs at *
 generalize Sy.value v i=o at *
 generalize Sy.term v i=q at *
 generalize v.tk i=t at *
 go_enter Tryz.func89,Tryz.ntmps89
 go_upto_region 1 with fail
 generalize w.alloc (Obj.cells #[Value.int IntKind.i64 0,Value.string ⟨#[]⟩,Value.int IntKind.i64 0,Value.int IntKind.i64 0,Value.string ⟨#[]⟩] 113)=wA at *
 go_wp2_with fail
 refine HP.out.mono ?_
 rintro e1 w1 ⟨rfl,m1⟩
 have E1:=Hxq (m1.at EA.out (by simp))
 have z1:=lt_of_block E1.out
 have mB:=(Mod.refl [] w1).alloc (Obj.cells (tokC t) 74)
 have bB:=heap_alloc_new w1 (Obj.cells (tokC t) 74)
 have HB:=Hxq ((HH.out.past m1 (by simp)).past mB (by simp));have AB:=Hxq (mB.at E1.out (by simp));have BB:=Lib.hid bB;have MB:=Hxq ((MA.out.trans m1 (by simp)).trans mB (by simp))
 have zB:(w1.alloc (Obj.cells (tokC t) 74)).heap.size=w1.heap.size+1:=by simp
 clear m1 mB bB HP
 unfold tokC at *
 go_upto_region 2 with fail
 generalize w1.alloc (Obj.cells _ 74)=wB at *
 obtain ⟨x0,x1,x2,x3,x4,x5,x6⟩:=tok_cells (t:=t) BB.out
 obtain ⟨c0,c1,c2,c3,c4,c5,fz⟩:=HB.out.cells
 have hnb:w.heap.size∉[b]:=by simp;omega
 by_cases k2:t.kind=2
 ·have hq:q=.ok ⟨1,Sy.txt t.text,Va.zero⟩ (i+1):=by rw [HR.out,if_pos k2]
  subst hq
  have b2:((t.kind:Int) == 2)=true:=by rw [k2];rfl
  have hT:=HB.out.to (i+1)
  have hnb1:w1.heap.size∉[b]:=by simp;omega
  have aC:(wB.setCell ⟨b,1,none⟩ (.int .i64 ((i:Int)+1))).heap[w.heap.size]?=_:=hT.2.at AB.out hnb
  have tC:(wB.setCell ⟨b,1,none⟩ (.int .i64 ((i:Int)+1))).heap[w1.heap.size]?=_:=hT.2.at BB.out hnb1
  have HC:Hid (RdP (wB.setCell ⟨b,1,none⟩ (.int .i64 ((i:Int)+1))) b ra rc f v (i+1)):=Lib.hid hT.1
  have MC:Hid (Mod [b] w (wB.setCell ⟨b,1,none⟩ (.int .i64 ((i:Int)+1)))):=Hxq ((MB.out.mono (T:=[b]) (by simp)).trans hT.2 (by simp))
  clear hT HR k2
  go_upto_region 4 with fail
  generalize wB.setCell ⟨b,1,none⟩ (.int .i64 ((i:Int)+1))=wC at *
  clear x0 x1 x2 x3 x4 x5 x6 c0 c1 c2 c3 c4 c5 fz
  obtain ⟨x0,x1,x2,x3,x4,x5,x6⟩:=tok_cells (t:=t) tC
  obtain ⟨y0,y1,y2,y3,y4⟩:=cells5 aC
  have fA:∀ j,wC.frozen? ⟨w.heap.size,j,none⟩=false:=fun j=>free_at aC j
  have AC:=Lib.hid aC
  clear aC tC
  go_wp2_with fail
  have mR:=setCs_mod w.heap.size [.int .i64 1,.string (Lx.ofS t.text),.int .i64 0,.int .i64 0,.string ⟨#[]⟩] 0 wC
  refine bodyPost_ret (results_cell_row rfl _ _ _ _ _ _ _ rfl (setCs_row (vs:=[.int .i64 1,.string (Lx.ofS t.text),.int .i64 0,.int .i64 0,.string ⟨#[]⟩]) AC.out rfl) Tryz.underlying113 rfl (by kernel_rfl)) rfl ⟨_,rfl,rfl,HC.out.new HLo.out mR (by simp),MC.out.trans mR (by simp)⟩
 ·have b2:((t.kind:Int) == 2)=false:=by rw [beq_eq_false_iff_ne];omega
  have HR2:Hid (q=if rs=true then .ok ⟨3,Sy.txt [],Va.zero⟩ (i+1) else o.bind fun c j=>.ok ⟨2,Sy.txt [],c⟩ j):=Hxq (by rw [HR.out,if_neg k2])
  clear HR k2 c0 c1 c2 c3 c4 c5 fz
  go_wp2_with fail
  refine (HMy.out wB HB.out).mono ?_
  rintro e2 w2 ⟨rfl,h2,m2⟩
  have M2:=Hxq ((MB.out.mono (T:=[b]) (by simp)).trans m2 (by simp));have A2:=Hxq (m2.at AB.out hnb)
  clear x0 x1 x2 x3 x4 x5 x6 m2
  cases rs
  ·have hq:q=o.bind fun c j=>.ok ⟨2,Sy.txt [],c⟩ j:=HR2.out
   have H2:=Hxq (show RdP w2 b ra rc f v i from h2)
   clear h2 HR2
   cases o with
   | err g =>
    have hq2:q=.err g:=hq
    subst hq2
    clear hq
    go_wp2_with fail
    refine (HV.out w2 H2.out).mono ?_
    rintro e3 w3 ⟨rfl,m3⟩
    have M3:=Hxq (M2.out.trans m3 (by simp))
    clear m3
    unfold stopE
    go_wp2_with fail
    exact ⟨rfl,rfl,M3.out⟩
   | ok c j =>
    have hq2:q=.ok ⟨2,Sy.txt [],c⟩ j:=hq
    subst hq2
    clear hq
    go_wp2_with fail
    refine (HV.out w2 H2.out).mono ?_
    rintro e3 w3 ⟨x,rfl,hx,h3,m3⟩
    unfold valC at hx
    subst hx
    have H3:=Lib.hid h3;have M3:=Hxq (M2.out.trans m3 (by simp));have a3:=m3.at A2.out hnb
    obtain ⟨y0,y1,y2,y3,y4⟩:=cells5 a3
    have fA:∀ j,w3.frozen? ⟨w.heap.size,j,none⟩=false:=fun j=>free_at a3 j
    have A3:=Lib.hid a3
    clear h3 m3 a3
    unfold valV
    go_wp2_with fail
    have mR:=setCs_mod w.heap.size [.int .i64 2,.string ⟨#[]⟩,.int .i64 c.k,.int .i64 c.n,.string (Lx.ofS c.s)] 0 w3
    refine bodyPost_ret (results_cell_row rfl _ _ _ _ _ _ _ rfl (setCs_row (vs:=[.int .i64 2,.string ⟨#[]⟩,.int .i64 c.k,.int .i64 c.n,.string (Lx.ofS c.s)]) A3.out rfl) Tryz.underlying113 rfl (by kernel_rfl)) rfl ⟨_,rfl,rfl,H3.out.new HLo.out mR (by simp),M3.out.trans mR (by simp)⟩
  ·have hq:q=.ok ⟨3,Sy.txt [],Va.zero⟩ (i+1):=HR2.out
   subst hq
   have H2:=Hxq (show RdP w2 b ra rc f v (i+1) from h2)
   obtain ⟨y0,y1,y2,y3,y4⟩:=cells5 A2.out
   have fA:∀ j,w2.frozen? ⟨w.heap.size,j,none⟩=false:=fun j=>free_at A2.out j
   clear h2 HR2
   go_wp2_with fail
   have mR:=setCs_mod w.heap.size [.int .i64 3,.string ⟨#[]⟩,.int .i64 0,.int .i64 0,.string ⟨#[]⟩] 0 w2
   refine bodyPost_ret (results_cell_row rfl _ _ _ _ _ _ _ rfl (setCs_row (vs:=[.int .i64 3,.string ⟨#[]⟩,.int .i64 0,.int .i64 0,.string ⟨#[]⟩]) A2.out rfl) Tryz.underlying113 rfl (by kernel_rfl)) rfl ⟨_,rfl,rfl,H2.out.new HLo.out mR (by simp),M2.out.trans mR (by simp)⟩
/-- what a call of a list's kind leaves: Inv of what has been read; Fr where it ends in a panic -/
def LRes {α:Type} (b:Nat) (ra:Option Addr) (rc:Nat) (f:Value) (v:Sy.Env) (r:Sy.PR (List α)) (Inv:List α->World->Prop) (Fr:World->Prop) (e:Ending) (w':World):Prop :=
 match r with
 | .ok l j=>e=.returned (.tuple #[])/\Inv l w'/\RdP w' b ra rc f v j
 | .err g=>e=stopE g/\Fr w'
def ORes {α:Type} (b:Nat) (ra:Option Addr) (rc:Nat) (f:Value) (v:Sy.Env) (r:Sy.PR α) (acc:List α) (Inv:List α->World->Prop) (Fr:World->Prop) (e:Ending) (w':World):Prop :=
 match r with
 | .ok a j=>e=.returned (.tuple #[])/\Inv (acc++[a]) w'/\RdP w' b ra rc f v j
 | .err g=>e=stopE g/\Fr w'
theorem listF_eq {α:Type} (v:Sy.Env) (fin:List Nat) (one:Nat->Sy.PR α) (k:Nat) (acc:List α) (i:Nat) :
  Sy.listF v fin one (k+1) acc i=if Sy.sign (v.tk i) [44]=true then (one (i+1)).bind fun a j=>Sy.listF v fin one k (acc++[a]) j else (Sy.must v fin i).bind fun _ j=>.ok acc j:=rfl
set_option maxHeartbeats 2000000 in
theorem list_any {α:Type} (b:Nat) (ra:Option Addr) (rc:Nat) (f:Value) (v:Sy.Env) (fin:List Nat) (s:ByteArray) (hs:Lx.ofS fin=s) (hf:∀ c∈fin,c<256) (one:Nat->Sy.PR α) (hadv:Sy.Adv v one) (n:Nat) (lb:Array Value)
  (he:∀ (args:Array Value) (w:World),(callFunc n args).run Tryz.prog w=.ok (.enter n args) w) (Inv:List α->World->Prop) (Fr:World->Prop)
  (hone:∀ acc j w,Inv acc w->RdP w b ra rc f v j->j<=65536->acc.length<=65537->Calls Tryz.prog n lb w (ORes b ra rc f v (one j) acc Inv Fr))
  (hmod:∀ acc w w',Inv acc w->Mod [b] w w'->Inv acc w') (hfr:∀ acc w,Inv acc w->Fr w)
  (i:Nat) (w:World) (h:RdP w b ra rc f v i) (hI:Inv [] w) (hv:EnvOk v) (hi:i<=v.ws.length) :
  Calls Tryz.prog 87 #[.pointer (some ⟨b,0,none⟩),.string s,.func (.func n) #[] lb] w (LRes b ra rc f v (Sy.list v fin one i) Inv Fr):=by
 have hlen:=hv.len
 have HR:Hid (Sy.list v fin one i=if Sy.sign (v.tk i) fin=true then .ok [] (i+1) else (one i).bind fun a j=>Sy.listF v fin one (v.ws.length+1) [a] j):=Lib.hid rfl
 have HM:=Hxq (may_any b ra rc f v i fin s w h hv (by omega) hs hf)
 have HMu:=Hxq (fun j w h (hj:j<=65536)=>must_any b ra rc f v j fin s w h hv (by omega) hs hf)
 have HMc:=Hxq (fun j w h (hj:j<=65536)=>may_any b ra rc f v j [44] { data:=#[44] } w h hv (by omega) rfl (by decide))
 have HO:=Lib.hid hone;have HMod:=Lib.hid hmod;have HF:=Lib.hid hfr;have HI:=Lib.hid hI;have HA:=Lib.hid hadv
 have hlt1:=fun h=>Sy.sign_lt (v:=v) (i:=i) (s:=fin) h
 generalize Sy.sign (v.tk i) fin=r at *
 generalize hq:Sy.list v fin one i=q at *
 clear hone hmod hfr hI hadv h hs hq
 cases r
 ·have hq:q=(one i).bind fun a j=>Sy.listF v fin one (v.ws.length+1) [a] j:=HR.out
  clear HR hlt1
  cases ho:one i with
  | err g =>
   rw [ho] at hq
   have hq2:q=.err g:=hq
   subst hq2
   have HHo:=Lib.hid ho
   clear hq ho
   go_enter Tryz.func87,Tryz.ntmps87
   go_wp2_with fail
   refine HM.out.mono ?_
   rintro e1 w1 ⟨rfl,h1,m1⟩
   have H1:=Hxq (show RdP w1 b ra rc f v i from h1);have I1:=Hxq (HMod.out _ _ _ HI.out m1)
   clear h1 m1
   go_wp2_with fail
   refine (HO.out [] i w1 I1.out H1.out (by omega) (by simp)).mono ?_
   rw [HHo.out]
   rintro e2 w2 ⟨rfl,f2⟩
   have F2:=Lib.hid f2
   clear f2
   unfold stopE
   go_wp2_with fail
   exact ⟨rfl,rfl,F2.out⟩
  | ok a0 j0 =>
   rw [ho] at hq
   have hq2:q=Sy.listF v fin one (v.ws.length+1) [a0] j0:=hq
   have hj0:=HA.out i a0 j0 hi ho
   have HHo:=Lib.hid ho;have HQ:=Lib.hid hq2
   clear hq hq2 ho
   go_enter Tryz.func87,Tryz.ntmps87
   go_wp2_with fail
   refine HM.out.mono ?_
   rintro e1 w1 ⟨rfl,h1,m1⟩
   have H1:=Hxq (show RdP w1 b ra rc f v i from h1);have I1:=Hxq (HMod.out _ _ _ HI.out m1)
   clear h1 m1
   go_wp2_with fail
   refine (HO.out [] i w1 I1.out H1.out (by omega) (by simp)).mono ?_
   rw [HHo.out]
   rintro e2 w2 ⟨rfl,i2,h2⟩
   have I2:=Lib.hid i2;have H2:=Lib.hid h2
   clear i2 h2
   go_wp2_with fail
   go_loopg [] (v.ws.length+1) (fun gk wr=>∃ (j:Nat) (acc:List α),Inv acc wr/\RdP wr b ra rc f v j/\j<=v.ws.length/\v.ws.length+1<=gk+j/\acc.length<=j+1/\q=Sy.listF v fin one gk acc j)
   case atStart=>exact ⟨j0,[a0],by simpa using I2.out,H2.out,hj0.2,by omega,by simp,HQ.out⟩
   case round =>
    obtain ⟨j,acc,iv,hr,hj,hgk,hal,hq⟩:=hrel
    obtain ⟨g',rfl⟩:∃ g',gk=g'+1:=⟨gk - 1,by omega⟩
    rw [listF_eq] at hq
    have IV:=Lib.hid iv;have HRd:=Lib.hid hr;have HQ2:=Lib.hid hq
    have HMy:=Hxq (HMc.out j wr hr (by omega))
    have hslt:=fun h=>Sy.sign_lt (v:=v) (i:=j) (s:=[44]) h
    clear iv hr hq HQ
    generalize Sy.sign (v.tk j) [44]=sg at *
    cases sg
    ·have hq:q=(Sy.must v fin j).bind fun _ j=>.ok acc j:=HQ2.out
     clear HQ2 hslt
     go_wp2_with fail
     refine HMy.out.mono ?_
     rintro e3 w3 ⟨rfl,h3,m3⟩
     have H3:=Hxq (show RdP w3 b ra rc f v j from h3);have I3:=Hxq (HMod.out _ _ _ IV.out m3)
     have HU:=Hxq (HMu.out j w3 h3 (by omega))
     clear h3 m3
     generalize Sy.must v fin j=mu at *
     cases mu with
     | err g =>
      have hq2:q=.err g:=hq
      subst hq2
      clear hq
      go_wp2_with fail
      refine HU.out.mono ?_
      rintro e4 w4 ⟨rfl,m4⟩
      have F4:=Hxq (HF.out _ _ (HMod.out _ _ _ I3.out m4))
      clear m4
      unfold stopE
      go_wp2_with fail
      exact ⟨rfl,rfl,F4.out⟩
     | ok u j4 =>
      have hq2:q=.ok acc j4:=hq
      subst hq2
      clear hq
      go_wp2_with fail
      refine HU.out.mono ?_
      rintro e4 w4 ⟨x,rfl,hx,h4,m4⟩
      unfold valU at hx
      subst hx
      have I4:=Hxq (HMod.out _ _ _ I3.out m4);have H4:=Lib.hid h4
      clear m4 h4
      go_wp2_with fail
      go_end0
      exact ⟨rfl,I4.out,H4.out⟩
    ·have hq:q=(one (j+1)).bind fun a j=>Sy.listF v fin one g' (acc++[a]) j:=HQ2.out
     have hjl:j<v.ws.length:=hslt rfl
     clear HQ2 hslt
     cases ho:one (j+1) with
     | err g =>
      rw [ho] at hq
      have hq2:q=.err g:=hq
      subst hq2
      have HHo2:=Lib.hid ho
      clear hq ho
      go_wp2_with fail
      refine HMy.out.mono ?_
      rintro e3 w3 ⟨rfl,h3,m3⟩
      have H3:=Hxq (show RdP w3 b ra rc f v (j+1) from h3);have I3:=Hxq (HMod.out _ _ _ IV.out m3)
      clear h3 m3
      go_wp2_with fail
      refine (HO.out acc (j+1) w3 I3.out H3.out (by omega) (by omega)).mono ?_
      rw [HHo2.out]
      rintro e4 w4 ⟨rfl,f4⟩
      have F4:=Lib.hid f4
      clear f4
      unfold stopE
      go_wp2_with fail
      exact ⟨rfl,rfl,F4.out⟩
     | ok a1 j1 =>
      rw [ho] at hq
      have hq2:q=Sy.listF v fin one g' (acc++[a1]) j1:=hq
      have hj1:=HA.out (j+1) a1 j1 (by omega) ho
      have HHo2:=Lib.hid ho;have HQ3:=Lib.hid hq2
      clear hq hq2 ho
      go_wp2_with fail
      refine HMy.out.mono ?_
      rintro e3 w3 ⟨rfl,h3,m3⟩
      have H3:=Hxq (show RdP w3 b ra rc f v (j+1) from h3);have I3:=Hxq (HMod.out _ _ _ IV.out m3)
      clear h3 m3
      go_wp2_with fail
      refine (HO.out acc (j+1) w3 I3.out H3.out (by omega) (by omega)).mono ?_
      rw [HHo2.out]
      rintro e4 w4 ⟨rfl,i4,h4⟩
      have I4:=Lib.hid i4;have H4:=Lib.hid h4
      clear i4 h4
      go_wp2_with fail
      go_roundg g'
      case measure=>omega
      case rel=>exact ⟨j1,acc++[a1],I4.out,H4.out,hj1.2,by omega,by simp;omega,HQ3.out⟩
 ·have hq:q=.ok [] (i+1):=HR.out
  subst hq
  clear HR hlt1
  go_enter Tryz.func87,Tryz.ntmps87
  go_wp2_with fail
  refine HM.out.mono ?_
  rintro e1 w1 ⟨rfl,h1,m1⟩
  have H1:=Hxq (show RdP w1 b ra rc f v (i+1) from h1);have I1:=Hxq (HMod.out _ _ _ HI.out m1)
  clear h1 m1
  go_wp2_with fail
  refine bodyPost_ret (results_none rfl _ _ _) rfl ?_
  exact ⟨rfl,I1.out,H1.out⟩
end Go.Proofs.YtppigckioalhhaaGreatDoorR
