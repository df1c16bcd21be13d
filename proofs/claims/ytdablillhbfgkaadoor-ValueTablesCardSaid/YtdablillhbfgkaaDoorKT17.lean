/- THE TEXTS MERGED: VtOpen VtLaw PfVTab. -/
import Derived.Test.YtdablillhbfgkaaDoorKT16
import Derived.ProofKit
import Derived.OpenShut
import Derived.LaidMore
import Derived.Stop.LaidErr
import Derived.Stop.Joined
import Derived.Deep.Slices
import Derived.Deep.Fields
import Derived.Test.YtdablillhbfgkaaDoorCards
import Derived.Test.YtdablillhbfgkaaDoorTie
import Derived.ShutString
import Derived.SizedLaws
import Derived.JoinedCond
import Derived.Deep.CondSized
import Derived.Deep.DeepHandedRow
import Derived.Deep.DeepWitnessRowRef
import Derived.SevenTiedAt
namespace Go.Proofs.YtdablillhbfgkaaDoor
open Go.ChangeShapes Go.WideShapes Go.ChangeAt Go.RowKit
set_option linter.unusedVariables false
set_option linter.unusedSimpArgs false
set_option maxRecDepth 100000
theorem gTabV : Tryd.prog.globalNamed "internal/strconv.uint64pow10" = some 2 := by kernel_rfl
theorem gRngV : Tryd.prog.globalNamed "strconv.ErrRange" = some 1 := by kernel_rfl
theorem gSynW : Tryd.prog.globalNamed "strconv.ErrSyntax" = some 0 := by kernel_rfl
theorem tRngV:(Tryd.prog.globals[1]?).map (·.type)=some 99:=by kernel_rfl
theorem tSynV:(Tryd.prog.globals[0]?).map (·.type)=some 99:=by kernel_rfl
theorem tTabV:(Tryd.prog.globals[2]?).map (·.type)=some 172:=by kernel_rfl
theorem starEV : "*" ++ "errors.errorString" = "*errors.errorString" := by decide
theorem rowEV (u : TypeId) (h : Tryd.prog.typeName? 3 u = some "*errors.errorString") : u = 167 :=
  typeName_ptr_named (nm := "errors.errorString") (by rw [starEV]; kernel_rfl) (by kernel_rfl) (by decide) u (by rw [starEV]; exact h)
theorem globV_of_laid {W:World} (h:laidMetH Tryd.prog Rows.valueTablesRow.laid W):GlobV W:=by
  rw [MakeChecks.laidMetH_plain _ _ _ (by kernel_rfl)] at h
  have h2:=h.tail.tail
  have h3:=h2.tail
  obtain ⟨a0,s0,hv0,-⟩:=laid_sentinel h3 gRngV tRngV Tryd.underlying99 rowEV Tryd.underlying167 Tryd.underlying169 rfl rfl Tryd.underlying9 (by kernel_rfl) (by kernel_rfl)
  obtain ⟨a1,s1,hv1,-⟩:=laid_sentinel h3.tail gSynW tSynV Tryd.underlying99 rowEV Tryd.underlying167 Tryd.underlying169 rfl rfl Tryd.underlying9 (by kernel_rfl) (by kernel_rfl)
  exact ⟨Lib.tabIs_of_head (zs:=Lib.pow10Tab) gTabV tTabV Tryd.underlying172 Tryd.underlying108 (by kernel_rfl) (by kernel_rfl) h2,⟨_,_,hv1⟩,⟨_,_,hv0⟩⟩
theorem Tryd.underVal:∃ fs f0 f1 f2,Tryd.prog.underlying 28=some (.struct fs)/\fs=#[f0,f1,f2]/\f0.offset=0/\f1.offset=1/\f2.offset=2/\f0.type=3/\f1.type=3/\f2.type=9 :=
  ⟨_,_,_,_,Tryd.underlying28,rfl,rfl,rfl,rfl,rfl,rfl,rfl⟩
/-- one value, out of its reading -/
theorem open_vin_cells {H:Type} {enc:TypeId × Value->H} {W:World} {fuel:Nat} {cs:List Value} {x:DataW H × List MemPlace}
    (h:DataW.trod enc Tryd.prog W 0 (fun _=>true) true fuel 28 cs=some x):∃ v:Va.Val,cs=(valV v).toList/\VIn v:=by
  obtain ⟨fs,f0,f1,f2,hu,rfl,o0,o1,o2,t0,t1,t2⟩:=Tryd.underVal
  obtain ⟨ys,n,-,hx,hlen,hyl,hf⟩:=DataW.trod_struct hu h
  rw [show Tryd.prog.cellsOf 28=3 by kernel_rfl] at hlen
  match cs,hlen,ys,hyl with
  | [c0,c1,c2],_,[y0,y1,y2],_ =>
    have h0:=hf 0 f0 rfl
    have h1:=hf 1 f1 rfl
    have h2:=hf 2 f2 rfl
    rw [o0,t0,show Tryd.prog.cellsOf 3=1 by kernel_rfl] at h0
    rw [o1,t1,show Tryd.prog.cellsOf 3=1 by kernel_rfl] at h1
    rw [o2,t2,show Tryd.prog.cellsOf 9=1 by kernel_rfl] at h2
    simp at h0 h1 h2
    obtain ⟨k,e0,e0',w0⟩:=DataW.trod_int Tryd.underlying3 h0
    obtain ⟨m,e1,e1',w1⟩:=DataW.trod_int Tryd.underlying3 h1
    obtain ⟨s,e2,e2',w2⟩:=DataW.trod_string Tryd.underlying9 h2
    simp at e0 e1 e2
    subst e0 e1 e2
    refine ⟨⟨k,m,Cod.str s⟩,?_,⟨w0,w1,?_⟩,Cod.str_lt s⟩
    · simp [valV,Lx.ofS_str]
    · rw [Lx.ofS_str];exact w2
/-- a step of the script as it lies: Other, Kind, N, K -/
structure TOp where
  other:Bool
  kind:Int
  n:Int
  v:Va.Val
structure TOpAt (w:World) (b o:Nat) (x:TOp):Prop where
  c0:w.cell? ⟨b,o,none⟩=some (.bool x.other)
  c1:w.cell? ⟨b,o+1,none⟩=some (.int .i64 x.kind)
  c2:w.cell? ⟨b,o+2,none⟩=some (.int .i64 x.n)
  c3:w.cell? ⟨b,o+3,none⟩=some (.int .i64 x.v.k)
  c4:w.cell? ⟨b,o+4,none⟩=some (.int .i64 x.v.n)
  c5:w.cell? ⟨b,o+5,none⟩=some (.string (Lx.ofS x.v.s))
  vin:VIn x.v
def TOps (w:World) (v:Value) (xs:List TOp):Prop :=
  (∃ a c,v=.slice a 0 c/\xs=[]) \/
   ∃ b off cap,v=.slice (some ⟨b,off,none⟩) xs.length cap/\∀ i (h:i<xs.length),TOpAt w b (off+i * 6) xs[i]
theorem TOps.at {w w':World} {a:Option Addr} {c:Nat} {xs:List TOp} (h:TOps w (.slice a xs.length c) xs) (hm:Mod [] w w') (i:Nat) (hi:i<xs.length) :
    ∃ b off,a=some ⟨b,off,none⟩/\TOpAt w' b (off+i * 6) xs[i]:=by
  rcases h with ⟨a',c',e,rfl⟩ | ⟨b,off,cap,e,hc⟩
  · simp at hi
  · simp only [Value.slice.injEq,true_and] at e
    have x:=hc i hi
    exact ⟨b,off,e.1,hm.cell x.c0 (by simp),hm.cell x.c1 (by simp),hm.cell x.c2 (by simp),hm.cell x.c3 (by simp),hm.cell x.c4 (by simp),hm.cell x.c5 (by simp),x.vin⟩
theorem exists_list {α:Type} (P:Nat->α->Prop):∀ (n:Nat),(∀ i,i<n->∃ x,P i x)->∃ xs:List α,xs.length=n/\∀ i (hi:i<xs.length),P i xs[i]
  | 0,_=>⟨[],rfl,fun i hi=>by simp at hi⟩
  | n+1,h=>by
    obtain ⟨xs,hl,hp⟩:=exists_list P n (fun i hi=>h i (by omega))
    obtain ⟨x,hx⟩:=h n (by omega)
    refine ⟨xs++[x],by simp [hl],fun i hi=>?_⟩
    by_cases e:i<xs.length
    · rw [List.getElem_append_left e];exact hp i e
    · have:i=n:=by simp at hi;omega
      subst this
      have e2:(xs++[x])[i]=x:=by
        rw [List.getElem_append_right (by omega)];simp [hl]
      rw [e2];exact hx
theorem Tryd.underOp:∃ fs f0 f1 f2 f3,Tryd.prog.underlying 38=some (.struct fs)/\fs=#[f0,f1,f2,f3]/\(f0.offset=0/\f1.offset=1/\f2.offset=2/\f3.offset=3)/\f0.type=4/\f1.type=3/\f2.type=3/\f3.type=28 :=
  ⟨_,_,_,_,_,Tryd.underlying38,rfl,⟨rfl,rfl,rfl,rfl⟩,rfl,rfl,rfl,rfl⟩
theorem open_top {H:Type} {enc:TypeId × Value->H} {W:World} {fuel:Nat} {cs:List Value} {x:DataW H × List MemPlace}
    (h:DataW.trod enc Tryd.prog W 0 (fun _=>true) true fuel 38 cs=some x) :
    ∃ r:TOp,cs=[.bool r.other,.int .i64 r.kind,.int .i64 r.n,.int .i64 r.v.k,.int .i64 r.v.n,.string (Lx.ofS r.v.s)]/\VIn r.v:=by
  obtain ⟨fs,f0,f1,f2,f3,hu,rfl,⟨o0,o1,o2,o3⟩,t0,t1,t2,t3⟩:=Tryd.underOp
  obtain ⟨ys,n,-,hx,hlen,hyl,hf⟩:=DataW.trod_struct hu h
  rw [show Tryd.prog.cellsOf 38=6 by kernel_rfl] at hlen
  match cs,hlen,ys,hyl with
  | [c0,c1,c2,c3,c4,c5],_,[y0,y1,y2,y3],_ =>
    have h0:=hf 0 f0 rfl
    have h1:=hf 1 f1 rfl
    have h2:=hf 2 f2 rfl
    have h3:=hf 3 f3 rfl
    rw [o0,t0,show Tryd.prog.cellsOf 4=1 by kernel_rfl] at h0
    rw [o1,t1,show Tryd.prog.cellsOf 3=1 by kernel_rfl] at h1
    rw [o2,t2,show Tryd.prog.cellsOf 3=1 by kernel_rfl] at h2
    rw [o3,t3,show Tryd.prog.cellsOf 28=3 by kernel_rfl] at h3
    simp at h0 h1 h2 h3
    obtain ⟨b,e0,e0'⟩:=DataW.trod_bool Tryd.underlying4 h0
    obtain ⟨m,e1,e1',w1⟩:=DataW.trod_int Tryd.underlying3 h1
    obtain ⟨k,e2,e2',w2⟩:=DataW.trod_int Tryd.underlying3 h2
    obtain ⟨v,e3,hv⟩:=open_vin_cells h3
    simp [valV] at e0 e1 e2 e3
    obtain ⟨e3,e4,e5⟩:=e3
    subst e0 e1 e2 e3 e4 e5
    exact ⟨⟨b,m,k,v⟩,rfl,hv⟩
theorem add_plain (b o k:Nat):(⟨b,o,none⟩:Addr).add k=⟨b,o+k,none⟩:=by
  simp [Addr.add]
theorem open_tops {H:Type} {enc:TypeId × Value->H} {W:World} {a:Option Addr} {len cap:Nat} {d:DataW H} {p:List MemPlace}
    (h:DataW.Trod enc Tryd.prog W 0 (fun _=>true) true 22 (.slice a len cap) d p) :
    ∃ xs:List TOp,xs.length=len/\TOps W (.slice a len cap) xs/\(len=0\/∃ els sp,d=.slice els sp/\els.length=len):=by
  obtain ⟨fuel,hf⟩:=h
  rcases Go.Deep.open_slice Tryd.underlying22 hf with ⟨hcs,hx⟩ | ⟨x,l,c,m,n,D,Pl,hcs,hb,hl,hm,hmm,hx,hi⟩
  · simp [Value.cells] at hcs
    obtain ⟨rfl,rfl,rfl⟩:=hcs
    exact ⟨[],rfl,.inl ⟨_,_,rfl,rfl⟩,.inl rfl⟩
  · simp [Value.cells] at hcs
    obtain ⟨rfl,rfl,rfl⟩:=hcs
    simp only [if_true] at hmm
    subst hmm
    have hC:Tryd.prog.cellsOf 38=6:=by kernel_rfl
    rw [hC] at hi
    obtain ⟨xs,hxl,hxp⟩:=exists_list (fun i (r:TOp)=>(W.cell? (x.add (i * 6))=some (.bool r.other)/\W.cell? ((x.add (i * 6)).add 1)=some (.int .i64 r.kind)/\W.cell? ((x.add (i * 6)).add 2)=some (.int .i64 r.n)/\W.cell? ((x.add (i * 6)).add 3)=some (.int .i64 r.v.k)/\W.cell? ((x.add (i * 6)).add 4)=some (.int .i64 r.v.n)/\W.cell? ((x.add (i * 6)).add 5)=some (.string (Lx.ofS r.v.s)))/\VIn r.v) len (fun i hil=>by
      obtain ⟨cs',hc,ht⟩:=hi i (by omega)
      obtain ⟨r,rfl,hv⟩:=open_top ht
      obtain ⟨-,-,hat⟩:=World.cells?_some hc
      have h0:=hat 0 (by omega)
      have h1:=hat 1 (by omega)
      have h2:=hat 2 (by omega)
      have h3:=hat 3 (by omega)
      have h4:=hat 4 (by omega)
      have h5:=hat 5 (by omega)
      exact ⟨r,⟨by simpa [Addr.add] using h0,by simpa using h1,by simpa using h2,by simpa using h3,by simpa using h4,by simpa using h5⟩,hv⟩)
    simp only [Prod.mk.injEq] at hx
    refine ⟨xs,hxl,?_,.inr ⟨_,_,hx.1,by simp⟩⟩
    rcases Nat.eq_zero_or_pos len with h0 | h0
    · subst h0
      exact .inl ⟨_,_,rfl,List.eq_nil_of_length_eq_zero hxl⟩
    · obtain ⟨b,off,spot⟩:=x
      have hspot:spot=none:=by
        have:=(hxp 0 (by omega)).1.1
        simp [Addr.add] at this
        simpa using World.cell?_spot this
      subst hspot
      refine .inr ⟨b,off,_,by rw [hxl],fun i hi=>?_⟩
      obtain ⟨⟨h0,h1,h2,h3,h4,h5⟩,hv⟩:=hxp i hi
      rw [add_plain] at h0
      rw [add_plain,add_plain] at h1 h2 h3 h4 h5
      exact ⟨h0,h1,h2,h3,h4,h5,hv⟩
open Go.RowKit Go.Maps
def sv0 (p0 b0 p1 b1:Nat) (k:Nat):SV:=if k=0 then ⟨p0,b0,.map [],none,0,none,0,[]⟩ else ⟨p1,b1,.map [],none,0,none,0,[]⟩
theorem Wo.begin {w0 W:World} {wb p0 b0 p1 b1:Nat} (hw:W.heap[wb]?=some (.cells #[.pointer (some ⟨p0,0,none⟩),.pointer (some ⟨p1,0,none⟩),.slice none 0 0,.slice none 0 0,.nilFunc,.int .i64 0,.bool false] 35 (0,0)))
  (h0:TabB W p0 b0 (.map []) none 0 []) (h1:TabB W p1 b1 (.map []) none 0 []) (hd:p0≠p1/\p0≠b1/\b0≠p1/\b0≠b1) (hn:wb≠p0/\wb≠b0/\wb≠p1/\wb≠b1)
  (hb:w0.heap.size<=wb/\w0.heap.size<=p0/\w0.heap.size<=b0/\w0.heap.size<=p1/\w0.heap.size<=b1) (hm:Mod [] w0 W) :
  Wo w0 W wb #[.pointer (some ⟨p0,0,none⟩),.pointer (some ⟨p1,0,none⟩),.slice none 0 0,.slice none 0 0,.nilFunc,.int .i64 0,.bool false] (sv0 p0 b0 p1 b1) .nilFunc 0:=by
 have hF:∀ k,(sv0 p0 b0 p1 b1 k).F=if k=0 then [p0,b0] else [p1,b1]:=fun k=>by
  unfold sv0
  split <;> rfl
 refine ⟨fun k hk=>?_,rfl,rfl,rfl,fun i j hi hj hn b hb hb2=>?_,by omega,.inl rfl,fun k hk b hb2=>?_,hb.1,hm⟩
 ·rcases (show k=0\/k=1 by omega) with rfl | rfl
  ·refine ⟨by omega,hw,rfl,rfl,⟨h0,World.ownsRow_nil _ _ _ _,fun k hk=>by simp [sv0,SV.x,fp]⟩,?_⟩
   rw [hF];simp;exact ⟨hn.1,hn.2.1⟩
  ·refine ⟨by omega,hw,rfl,rfl,⟨h1,World.ownsRow_nil _ _ _ _,fun k hk=>by simp [sv0,SV.x,fp]⟩,?_⟩
   rw [hF];simp;exact ⟨hn.2.2.1,hn.2.2.2⟩
 ·rw [hF] at hb hb2
  rcases (show i=0\/i=1 by omega) with rfl | rfl <;> rcases (show j=0\/j=1 by omega) with rfl | rfl
  ·exact hn rfl
  ·simp at hb hb2;omega
  ·simp at hb hb2;omega
  ·exact hn rfl
 ·rw [hF] at hb2
  split at hb2 <;> simp at hb2 <;> omega
set_option maxHeartbeats 16000000 in
theorem ValueTables_any (a:Option Addr) (c:Nat) (xs:List TOp) (hl:xs.length<=4398046511000) (w:World) (hx:TOps w (.slice a xs.length c) xs) (hG:GlobV w) :
  Calls Tryd.prog 3 #[.slice a xs.length c] w fun e w'=>e=.returned (.bool true)/\Mod [] w w':=by
 obtain ⟨R,hR⟩:∃ R,R=fun (e:Ending) (w':World)=>e=.returned (.bool true)/\Mod [] w w':=⟨_,rfl⟩
 rw [<-hR]
 have HR:=Lib.hid hR;have HX:=Lib.hid hx;have HG:=Lib.hid hG
 clear hR hx hG
 go_enter Tryd.func3,Tryd.ntmps3
 go_wp2_with fail
 refine Calls.mono (awake_any w HG.out) ?_
 rintro e1 w1 ⟨rfl,m1⟩
 go_wp2_with fail
 refine Calls.mono (new_any w1) ?_
 rintro e2 w2 ⟨p0,b0,rfl,hT0,hp0,hb0,m2⟩
 go_wp2_with fail
 refine Calls.mono (new_any w2) ?_
 rintro e3 w3 ⟨p1,b1,rfl,hT1,hp1,hb1,m3⟩
 have l0:=lt_of_block hT0.at_;have k0:=hT0.map.lt;have l1:=lt_of_block hT1.at_;have k1:=hT1.map.lt
 have z1:=m1.size;have z3:=m3.size
 have eA:=heap_alloc_new w3 (Obj.cells #[.pointer (some ⟨p0,0,none⟩),.pointer (some ⟨p1,0,none⟩),.slice none 0 0,.slice none 0 0,.nilFunc,.int .i64 0,.bool false] 35)
 have mA:=(Mod.refl [] w3).alloc (Obj.cells #[.pointer (some ⟨p0,0,none⟩),.pointer (some ⟨p1,0,none⟩),.slice none 0 0,.slice none 0 0,.nilFunc,.int .i64 0,.bool false] 35)
 have mm:=(m1.trans m2 (by simp)).trans (m3.trans mA (by simp)) (by simp)
 have hW:=Wo.begin (w0:=w) eA (hT0.keep (m3.trans mA (by simp)) (by simp) (by simp) (by simp)) (hT1.keep mA (by simp) (by simp) (by simp)) ⟨by omega,by omega,by omega,by omega⟩ ⟨by omega,by omega,by omega,by omega⟩ ⟨by omega,by omega,by omega,by omega,by omega⟩ mm
 have q0:=cell_at eA 0;have q1:=cell_at eA 1
 simp only [List.getElem?_toArray,List.getElem?_cons_zero,List.getElem?_cons_succ] at q0 q1
 have HW:=Lib.hid hW
 clear hT0 hT1 m1 m2 m3 eA mA mm hW l0 k0 l1 k1 hp0 hb0 hp1 hb1
 go_wp2_with fail
 generalize w3.alloc (Obj.cells _ 35)=w4 at *
 generalize w3.heap.size=wb at *
 clear q0 q1
 go_loopw [5,6] (fun iv u wr=>∃ (i:Nat),i<=xs.length/\iv=.int .i64 (i:Nat)/\∃ (cs:Array Value) (sv:Nat->SV) (hd:Value) (of:Nat),Wo w wr wb cs sv hd of/\∀ k,k<2->(sv k).l.length<=i) (fun iv u _=>xs.length - (intOf iv).toNat)
 case atStart=>exact ⟨0,Nat.zero_le _,rfl,_,_,_,_,HW.out,fun k hk=>by unfold sv0;split <;> simp⟩
 case round =>
  obtain ⟨i,hi,rfl,cs,sv,hd,of,hwo,hle⟩:=hrel
  by_cases hlt:i<xs.length
  ·have hiI:(i:Int)<(xs.length:Int):=by omega
   have hi0:(0:Int)<=(i:Int):=by omega
   obtain ⟨b,off,rfl,hop⟩:=HX.out.at hwo.mod i hlt
   obtain ⟨o0,o1,o2,o3,o4,o5,hvin⟩:=hop
   have HWO:=Lib.hid hwo
   clear hwo
   generalize xs[i]=x at *
   go_wp2_with fail
   refine Calls.mono (play_any w wb i cs sv hd of x.other x.kind x.n x.v hvin hle (by omega) wr HWO.out) ?_
   rintro e4 w5 ⟨rfl,cs',sv',hd',of',hW5,hle5⟩
   have H5:=Lib.hid hW5
   clear hW5 o0 o1 o2 o3 o4 o5
   go_wp2_with fail
   go_roundw
   case rel=>exact ⟨i+1,hlt,by go_num,_,_,_,_,H5.out,hle5⟩
   case measure=>simp [intOf];omega
  ·obtain rfl:i=xs.length:=by omega
   have hiI:¬ (xs.length:Int)<(xs.length:Int):=by omega
   have HWO:=Lib.hid hwo
   clear hwo
   go_wp2_with fail
   go_loopw [7,8] (fun iv u wq=>∃ (i:Nat),i<=2/\iv=.int .i64 (i:Nat)/\Wo w wq wb cs sv hd of) (fun iv u _=>2 - (intOf iv).toNat)
   case atStart=>exact ⟨0,by omega,rfl,HWO.out⟩
   case round =>
    obtain ⟨i,hi2,rfl,hwo⟩:=hrel
    by_cases hlt2:i<2
    ·have hiI2:(i:Int)<2:=by omega
     have hi0:(0:Int)<=(i:Int):=by omega
     have P:=hwo.pl i hlt2
     have c0:=(cell_at P.blk i).trans P.c0
     have HW2:=Lib.hid hwo;have HP:=Lib.hid P
     have hlM:=hle i hlt2
     have hVz:VIn Va.zero:=⟨⟨by decide,by decide,by decide⟩,by simp [Va.zero]⟩
     have hpp:(Value.pointer (some ⟨(sv i).p,0,none⟩)).cells=#[Value.pointer (some ⟨(sv i).p,0,none⟩)]:=rfl
     clear hwo P
     go_wp2_with fail
     refine Calls.mono (all_any (.pointer (some ⟨(sv i).p,0,none⟩)) wr rfl hpp) ?_
     rintro e5 w6 ⟨rfl,hbox,m6⟩
     have HW6:=Hxq (HW2.out.past m6)
     have P6:=HW6.out.pl i hlt2
     have hwl:=lt_of_block HP.out.blk
     have hqF:wr.heap.size∉(sv i).F:=fun hs=>by have:=HP.out.side.lt _ hs;omega
     unfold tabF
     go_wp2_with fail
     refine Calls.mono (walks_plain wb i wr.heap.size cs (sv i) Va.zero (-1) hVz (by omega) w6 P6 hbox (by omega) hqF) ?_
     rintro e6 w7 ⟨rfl,m7⟩
     have HW7:=Hxq (HW6.out.past m7)
     have P7:=HW7.out.pl i hlt2
     have d0:=(cell_at P7.blk i).trans P7.c0
     have d2:=(cell_at P7.blk (2+i)).trans P7.c2
     rw [show (sv i).x=.slice (sv i).xa (sv i).l.length (sv i).xc from rfl] at d2
     have HP7:=Lib.hid P7
     clear P6 P7 m6 m7 hbox c0
     go_upto_region 15 with fail
     refine tl_region (fun wS=>Mod [] w7 wS) [] (by kernel_rfl) ?_
     have hHeld:Mod [] w7 w7.drew:=(Mod.refl [] w7).drew
     try simp only [Act.put,Lq1,Lq2,Lq3]
     generalize w7.drew=wd at *
     refine TlAny.take 0 (v:=?_) hHeld ?_ ?_ ?_
     rotate_left 1
     ·first
       | (refine Or.inl ⟨by rfl,?_⟩;intro wS hSw;replace hSw:Mod [] w7 wS:=hSw;skip;clear hSw;go_simp;all_goals with_reducible rfl)
       | (refine Or.inr ⟨by kernel_rfl,?_⟩;with_reducible rfl)
     ·exact fun _ _ _ h=>h
     try simp only [Act.put,Lq1,Lq2,Lq3]
     refine TlAny.take 1 (v:=?_) hHeld ?_ ?_ ?_
     rotate_left 1
     ·first
       | (refine Or.inl ⟨by rfl,?_⟩;intro wS hSw;replace hSw:Mod [] w7 wS:=hSw;skip;clear hSw;go_simp;all_goals with_reducible rfl)
       | (refine Or.inr ⟨by kernel_rfl,?_⟩;with_reducible rfl)
     ·exact fun _ _ _ h=>h
     try simp only [Act.put,Lq1,Lq2,Lq3]
     refine TlAny.take 2 (v:=?_) hHeld ?_ ?_ ?_
     rotate_left 1
     ·first
       | (refine Or.inl ⟨by rfl,?_⟩;intro wS hSw;replace hSw:Mod [] w7 wS:=hSw;skip;clear hSw;go_simp;all_goals with_reducible rfl)
       | (refine Or.inr ⟨by kernel_rfl,?_⟩;with_reducible rfl)
     ·exact fun _ _ _ h=>h
     try simp only [Act.put,Lq1,Lq2,Lq3]
     refine TlAny.take 3 (v:=?_) hHeld ?_ ?_ ?_
     rotate_left 1
     ·first
       | (refine Or.inl ⟨by rfl,?_⟩;intro wS hSw;replace hSw:Mod [] w7 wS:=hSw;skip;clear hSw;go_simp;all_goals with_reducible rfl)
       | (refine Or.inr ⟨by kernel_rfl,?_⟩;with_reducible rfl)
     ·exact fun _ _ _ h=>h
     try simp only [Act.put,Lq1,Lq2,Lq3]
     refine TlAny.take 4 (v:=?_) hHeld ?_ ?_ ?_
     rotate_left 1
     ·first
       | (refine Or.inl ⟨by rfl,?_⟩;intro wS hSw;replace hSw:Mod [] w7 wS:=hSw;skip;clear hSw;go_simp;all_goals with_reducible rfl)
       | (refine Or.inr ⟨by kernel_rfl,?_⟩;with_reducible rfl)
     ·exact fun _ _ _ h=>h
     try simp only [Act.put,Lq1,Lq2,Lq3]
     refine TlAny.take 5 (v:=?_) hHeld ?_ ?_ ?_
     rotate_left 1
     ·first
       | (refine Or.inl ⟨by rfl,?_⟩;intro wS hSw;replace hSw:Mod [] w7 wS:=hSw;skip;clear hSw;go_simp;all_goals with_reducible rfl)
       | (refine Or.inr ⟨by kernel_rfl,?_⟩;with_reducible rfl)
     ·exact fun _ _ _ h=>h
     try simp only [Act.put,Lq1,Lq2,Lq3]
     refine TlAny.take 6 (v:=?_) hHeld ?_ ?_ ?_
     rotate_left 1
     ·first
       | (refine Or.inl ⟨by rfl,?_⟩;intro wS hSw;replace hSw:Mod [] w7 wS:=hSw;skip;clear hSw;go_simp;all_goals with_reducible rfl)
       | (refine Or.inr ⟨by kernel_rfl,?_⟩;with_reducible rfl)
     ·exact fun _ _ _ h=>h
     try simp only [Act.put,Lq1,Lq2,Lq3]
     refine TlAny.take 7 (v:=?_) hHeld ?_ ?_ ?_
     rotate_left 1
     ·first
       | (refine Or.inl ⟨by rfl,?_⟩;intro wS hSw;replace hSw:Mod [] w7 wS:=hSw;skip;clear hSw;go_simp;all_goals with_reducible rfl)
       | (refine Or.inr ⟨by kernel_rfl,?_⟩;with_reducible rfl)
     ·exact fun _ _ _ h=>h
     try simp only [Act.put,Lq1,Lq2,Lq3]
     refine TlAny.take 8 (v:=?_) hHeld ?_ ?_ ?_
     rotate_left 1
     ·first
       | (refine Or.inl ⟨by rfl,?_⟩;intro wS hSw;replace hSw:Mod [] w7 wS:=hSw;have p:=hSw.cell d0 (by simp);clear hSw;go_simp;all_goals with_reducible rfl)
       | (refine Or.inr ⟨by kernel_rfl,?_⟩;with_reducible rfl)
     ·exact fun _ _ _ h=>h
     try simp only [Act.put,Lq1,Lq2,Lq3]
     refine TlAny.take 10 (v:=?_) hHeld ?_ ?_ ?_
     rotate_left 1
     ·first
       | (refine Or.inl ⟨by rfl,?_⟩;intro wS hSw;replace hSw:Mod [] w7 wS:=hSw;skip;clear hSw;go_simp;all_goals with_reducible rfl)
       | (refine Or.inr ⟨by kernel_rfl,?_⟩;with_reducible rfl)
     ·exact fun _ _ _ h=>h
     try simp only [Act.put,Lq1,Lq2,Lq3]
     refine TlAny.take 11 (v:=?_) hHeld ?_ ?_ ?_
     rotate_left 1
     ·first
       | (refine Or.inl ⟨by rfl,?_⟩;intro wS hSw;replace hSw:Mod [] w7 wS:=hSw;skip;clear hSw;go_simp;all_goals with_reducible rfl)
       | (refine Or.inr ⟨by kernel_rfl,?_⟩;with_reducible rfl)
     ·exact fun _ _ _ h=>h
     try simp only [Act.put,Lq1,Lq2,Lq3]
     refine TlAny.take 12 (v:=?_) hHeld ?_ ?_ ?_
     rotate_left 1
     ·first
       | (refine Or.inl ⟨by rfl,?_⟩;intro wS hSw;replace hSw:Mod [] w7 wS:=hSw;skip;clear hSw;go_simp;all_goals with_reducible rfl)
       | (refine Or.inr ⟨by kernel_rfl,?_⟩;with_reducible rfl)
     ·exact fun _ _ _ h=>h
     try simp only [Act.put,Lq1,Lq2,Lq3]
     refine TlAny.take 13 (v:=?_) hHeld ?_ ?_ ?_
     rotate_left 1
     ·first
       | (refine Or.inl ⟨by rfl,?_⟩;intro wS hSw;replace hSw:Mod [] w7 wS:=hSw;skip;clear hSw;go_simp;all_goals with_reducible rfl)
       | (refine Or.inr ⟨by kernel_rfl,?_⟩;with_reducible rfl)
     ·exact fun _ _ _ h=>h
     try simp only [Act.put,Lq1,Lq2,Lq3]
     refine TlAny.take 14 (v:=?_) hHeld ?_ ?_ ?_
     rotate_left 1
     ·first
       | (refine Or.inl ⟨by rfl,?_⟩;intro wS hSw;replace hSw:Mod [] w7 wS:=hSw;skip;clear hSw;go_simp;all_goals with_reducible rfl)
       | (refine Or.inr ⟨by kernel_rfl,?_⟩;with_reducible rfl)
     ·exact fun _ _ _ h=>h
     try simp only [Act.put,Lq1,Lq2,Lq3]
     refine TlAny.take 15 (v:=?_) hHeld ?_ ?_ ?_
     rotate_left 1
     ·first
       | (refine Or.inl ⟨by rfl,?_⟩;intro wS hSw;replace hSw:Mod [] w7 wS:=hSw;have p:=hSw.cell d2 (by simp);clear hSw;go_simp;all_goals with_reducible rfl)
       | (refine Or.inr ⟨by kernel_rfl,?_⟩;with_reducible rfl)
     ·exact fun _ _ _ h=>h
     try simp only [Act.put,Lq1,Lq2,Lq3]
     refine TlAny.take 16 (v:=?_) hHeld ?_ ?_ ?_
     rotate_left 1
     ·first
       | (refine Or.inl ⟨by rfl,?_⟩;intro wS hSw;replace hSw:Mod [] w7 wS:=hSw;skip;clear hSw;go_simp;all_goals with_reducible rfl)
       | (refine Or.inr ⟨by kernel_rfl,?_⟩;with_reducible rfl)
     ·exact fun _ _ _ h=>h
     try simp only [Act.put,Lq1,Lq2,Lq3]
     refine TlAny.one 9 ?_
     intro K hK
     go_simp
     refine Calls.mono (len_any (sv i).p (sv i).bm (sv i).D (sv i).va (sv i).vc (sv i).l wd (HP7.out.side.keep hHeld (by simp)).tab) ?_
     rintro e8 w8 ⟨rfl,hm2⟩
     replace hHeld:=hHeld.trans hm2 (by simp)
     clear hm2
     refine hK.out _ _ (fun _=>hHeld) ?_
     clear hK K
     try simp only [Act.put,Lq1,Lq2,Lq3]
     refine TlAny.one 17 ?_
     intro K hK
     go_simp
     refine hK.out _ _ (fun _=>hHeld) ?_
     clear hK K
     try simp only [Act.put,Lq1,Lq2,Lq3]
     refine TlAny.one 18 ?_
     intro K hK
     go_simp
     refine hK.out _ _ (fun _=>hHeld) ?_
     clear hK K
     try simp only [Act.put,Lq1,Lq2,Lq3]
     refine TlAny.fin ?_
     have HF:=Hxq (HW7.out.past hHeld)
     clear hHeld d0 d2
     go_wp2_with fail
     go_roundw
     case rel=>exact ⟨i+1,hlt2,by go_num,HF.out⟩
     case measure=>simp [intOf];omega
    ·obtain rfl:i=2:=by omega
     have HW2:=Lib.hid hwo
     clear hwo
     go_wp2_with fail
     refine Calls.mono (nothing_any wr) ?_
     rintro e7 w8 ⟨rfl,m8⟩
     have HF:=Hxq (HW2.out.mod.trans m8 (by simp))
     clear m8
     go_wp2_with fail
     rw [HR.out]
     exact ⟨rfl,HF.out⟩
end Go.Proofs.YtdablillhbfgkaaDoor
namespace Go.Proofs.YtdablillhbfgkaaDoor.pValueTables
open Go.ChangeShapes Go.WideShapes Go.ChangeAt Go.RowKit
open Go.ChangeMaps (open_string shut_string)
set_option linter.unusedVariables false
set_option maxRecDepth 100000
set_option maxHeartbeats 1000000
theorem own:ownKnob Tryd.prog.godebug=none:=by kernel_rfl
theorem laidOut:laidOutB Tryd.prog=true:=by kernel_rfl
theorem contract (H:Type) (enc:TypeId × Value->H) (W:World) (base:Nat) (args:Array Value) (ds gs:List (DataW H)) (before:List MemPlace)
  (hval:∀ (j:Nat) t v,Tryd.f3.params[j]?=some t->args[j]?=some v->Value.okWide Tryd.prog W .any base t v)
  (hW:DataW.Whole enc Tryd.prog Tryd.f3.params.toList Rows.valueTablesSpec.vars false W args.toList ds gs before)
  (hsz0:(DataW.weightsEach Tryd.prog (Tryd.f3.params.toList++Rows.valueTablesSpec.plain.varTypes Tryd.prog) (ds++gs)).all (·<=reachBytes)=true)
  (hL:laidMetH Tryd.prog Rows.valueTablesRow.laid W) :
  Calls Tryd.prog 3 args W fun e W'=>∃ v,e=.returned v/\Rows.valueTablesSpec.post enc Tryd.prog Tryd.f3 false true false false W args v W':=by
 have hW':=hW
 have hG:=globV_of_laid hL
 obtain ⟨p,q,hA0,hV,rfl,hfz,hnd⟩:=hW
 have hA:DataW.TrodAll enc Tryd.prog W 0 (fun _=>true) true Tryd.f3.params.toList args.toList ds p:=hA0
 rw [Tryd.params3] at hA hval hsz0
 obtain ⟨v0,vs0,d0,ds0,p0,q0,hargs,rfl,rfl,h0,r0⟩:=trodAll_cons hA
 obtain ⟨rfl,rfl,rfl⟩:=trodAll_nil r0
 obtain rfl:args=#[v0]:=by cases args;simp_all
 obtain ⟨rfl,rfl⟩:=trodVars_none hV
 have k0:=h0
 have lt0:∀ x∈p0,x.block<W.heap.size:=by obtain ⟨m,hm⟩:=k0;exact DataW.trod_lt m _ _ _ hm
 obtain ⟨o0,len0,cap0,rfl⟩:=okWide_slice Tryd.underlying22 (hval 0 22 v0 rfl rfl)
 obtain ⟨xs0,hxl0,hi0,hd0⟩:=open_tops h0
 subst hxl0
 have hl0:xs0.length * 56<=140737488351232:=by
  rcases hd0 with h | ⟨els,sp,rfl,he⟩
  ·omega
  ·have:=sized_slice hsz0 (j:=0) (t:=22) (e:=38) rfl rfl Tryd.underlying22
   rw [show Tryd.prog.bytesOf 38=56 by kernel_rfl] at this
   simp only [reachBytes] at this
   omega
 clear hA0
 refine (ValueTables_any o0 cap0 xs0 (by omega) W hi0 hG).mono fun e W' ⟨he,hm⟩=>?_
 subst he
 have bel:Below W.heap.size W W':=hm.below (Nat.le_refl _) (by simp)
 exact ⟨_,rfl,_,_,_,[],_,[],hW',trodAll_mk1 (shut_bool Tryd.underlying4 _),(trodAll_cons_mk (Below.trod laidOut (by kernel_rfl) (of_decide_eq_true (by kernel_rfl)) k0 bel lt0) trodAll_mk0),rfl,bel.frame _,fun h=>by cases h⟩
theorem door_met (os:Os):laidMetH Tryd.prog Rows.valueTablesRow.laid ((World.doorLaid Tryd.prog 62 os).forCall (fun _ _=>0) ⟨#[],#[.slice none 0 0],[]⟩).memory:=by
 rw [MakeChecks.laidMetH_plain _ _ _ (by kernel_rfl)]
 exact laidMet_of_run' 8 (by kernel_rfl) (by kernel_rfl)
theorem reads (os:Os) {H:Type} (enc:TypeId × Value->H):∃ places,DataW.whole enc Tryd.prog ((World.doorLaid Tryd.prog 62 os).forCall (fun _ _=>0) ⟨#[],#[.slice none 0 0],[]⟩).memory Tryd.f3.params.toList Rows.valueTablesSpec.vars false (#[.slice none 0 0]:Array Value).toList 8=some ([.nil],[],places) :=
 ⟨[],by kernel_rfl⟩
theorem lifted (os:Os) (started:os.Started) (H:Type) (enc:TypeId × Value->H) (F:Stop.Interp) :
  ReturnsInHanded {} Tryd.checked os 3 .any ((OpenSpec.ofChange Rows.valueTablesSpec).preRow enc Tryd.prog Tryd.f3 Rows.valueTablesRow.domain false Rows.valueTablesRow.laid) (((OpenSpec.ofChange Rows.valueTablesSpec).at F).post enc Tryd.prog Tryd.f3 false true false false):=by
 obtain ⟨places,hx⟩:=reads os enc
 refine returnsInHanded_of_row (C:=Tryd.checked) (s:=OpenSpec.ofChange Rows.valueTablesSpec) own started (by kernel_rfl) Tryd.func3
  (witness_row_atRef (enc:=enc) (C:=Tryd.checked) false (World.doorLaid Tryd.prog 62 os) #[.slice none 0 0] rfl (by kernel_rfl) (by kernel_rfl) (by kernel_rfl)
   (OpenSpec.preRow_of_cond 8 hx (by kernel_rfl) (fun k hk=>by cases hk) (by kernel_rfl) (door_met os))) ?_
 intro W base args ds gs before hval hW _ _ hsz hL _ _
 exact contract H enc W base args ds gs before hval hW hsz hL
theorem said:Rows.ValueTablesSaid :=
 OpenClaim.holds_of_cond 3 Tryd.f3 rfl rfl rfl rfl rfl rfl rfl ⟨rfl,rfl,rfl,rfl,rfl⟩ rfl rfl rfl rfl rfl (by kernel_rfl) Tryd.func3 (by kernel_rfl)
  (of_decide_eq_true (by kernel_rfl)) (by unfold Func.isWrapper;first | (rw [if_pos (by decide +kernel)];kernel_rfl) | (rw [if_neg (by decide +kernel)];exact ⟨rfl,rfl⟩))
  (fun os started H enc _ F=>by rw [OpenClaim.pre_eq_preRow];exact lifted os started H enc F)
theorem plain (f : FuncId) (fn : Func) (hf : Tryd.pinned.checked.prog.funcNamed "pedigree/pedigreelaw02.ValueTables" = some f) (hfn : Tryd.pinned.checked.prog.funcs[f]? = some fn) :
  true=Tryd.pinned.checked.prog.looks []/\∀ (j:Nat) t,fn.params[j]?=some t->Tryd.pinned.checked.prog.wantsStandIn t=false:=by
 obtain rfl : f = 3 := Option.some.inj ((show Tryd.prog.funcNamed "pedigree/pedigreelaw02.ValueTables" = some 3 by kernel_rfl).symm.trans hf) |>.symm
 obtain rfl:fn=Tryd.f3:=(Option.some.inj (Tryd.func3.symm.trans hfn)).symm
 refine ⟨by kernel_rfl,fun j t ht=>?_⟩
 rw [Tryd.params3] at ht
 have hm:t∈[22]:=by simpa using Array.mem_of_getElem? ht
 have hall:([22].all fun u=>!Tryd.prog.wantsStandIn u)=true:=by kernel_rfl
 exact (show Tryd.prog.wantsStandIn t=false by simpa using List.all_eq_true.1 hall t hm)
/-- THE STATEMENT -/
theorem proved:Rows.ValueTablesCardSaid :=
 Claim7.holds_tied_plain_at .later [] _ _ _ _ said (fun _ h=>by cases h) (by kernel_rfl) (fun _ h=>by cases h) valueTables_row_tie rfl ⟨rfl,rfl⟩ (by kernel_rfl) rfl plain (by kernel_rfl)
end Go.Proofs.YtdablillhbfgkaaDoor.pValueTables
