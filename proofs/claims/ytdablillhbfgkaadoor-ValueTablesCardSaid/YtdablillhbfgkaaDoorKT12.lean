/- THE TEXTS MERGED: VtWalk VtPl. -/
import Derived.Test.YtdablillhbfgkaaDoorKT11
import Derived.Laws.EntriesVeiled
namespace Go.Proofs.YtdablillhbfgkaaDoor
open Go.RowKit Go.Maps Go.Shelf
set_option linter.unusedVariables false
set_option linter.unusedSimpArgs false
set_option maxRecDepth 100000
attribute [local go_sem] Oper.semAt_some
/-- what a walk leaves -/
def WalkR (w:World) (wb k:Nat) (cs:Array Value) (s:SV) (v:Va.Val) (mid:Bool) (e:Ending) (w':World):Prop :=
 e=.returned (.bool true)/\(mid=false->Mod [] w w')/\∃ s':SV,(s'.l=s.l\/(mid=true/\s'.l=tput s.l v))/\s'.p=s.p/\Place w' wb k (cs.setIfInBounds (2+k) s'.x) s'/\(∀ j∈s'.F,j∈s.F\/w.heap.size<=j)/\Mod (wb :: s.F) w w'
theorem seq2_nil (a:Fn) (b c:Array Value) (w:World):(binOp BinOp.eql 33 (.func a b c) .nilFunc).run Tryd.prog w=.ok (.bool false) w:=rfl
/-- nothing has been written but what is new -/
theorem WalkR.same {w w':World} {wb k:Nat} {cs:Array Value} {s:SV} {v:Va.Val} {mid:Bool} (h:Place w wb k cs s) (hm:Mod [] w w'):WalkR w wb k cs s v mid (.returned (.bool true)) w' :=
 ⟨rfl,fun _=>hm,s,.inl rfl,rfl,by rw [enum_set_self h.c2];exact h.keep hm (by simp) (by simp),fun j hj=>.inl hj,hm.mono (by simp)⟩
theorem WI.ends {w:World} {wb k q:Nat} {cs:Array Value} {s:SV} {v:Va.Val} {most:Int} {mid:Bool} {b13 b14:Nat} {ua:Option Addr} {uc Z:Nat} {r:Bool} {n:Nat} {A:World} (h:WI w wb k q cs s v most mid b13 b14 ua uc Z r n A) (hb:WB w wb q s b13 b14 ua uc Z) {S:List Nat} {C:World} (hm:Mod S A C)
  (hS:∀ j∈S,w.heap.size<=j/\j<Z+2):WalkR w wb k cs s v mid (.returned (.bool true)) C:=by
 obtain ⟨s',h1,h2,h3,h4,h5,h6⟩:=h.st
 have b1:=hb.hw;have b3:=hb.h13;have b4:=hb.h14
 have M:=h.mod
 refine ⟨rfl,fun e=>?_,s',h1,h2,h4.keep hm (fun hs=>by have:=(hS _ hs).1;omega) (fun j hj hs=>?_),fun j hj=>(h3 j hj).imp id (fun h=>by omega),?_⟩
 ·subst e
  rw [if_neg (by simp)] at M
  exact M.trans hm (fun t ht=>.inr (hS t ht).1)
 ·have:=hS j hs
  rcases h3 j hj with h | h
  ·have:=hb.sF j h;omega
  ·omega
 ·refine Mod.trans (S:=wb :: s.F) (M.mono ?_) hm (fun t ht=>.inr (hS t ht).1)
  cases mid
  ·simp
  ·simp only [if_true];exact fun t ht=>.inl ht
set_option maxHeartbeats 16000000 in
theorem walks_gen (wb k q:Nat) (cs:Array Value) (s:SV) (v:Va.Val) (most:Int) (mid:Bool) (hv:VIn v) (hl:s.l.length+(if mid=true then 1 else 0)<=4398046511103) (w:World) (hP:Place w wb k cs s)
  (hq:w.heap[q]?=some (.cells #[.pointer (some ⟨s.p,0,none⟩)] 25 (0,0))) (hqw:q≠wb) (hqF:q∉s.F)
  (hrec:mid=true->∀ (s2:SV) (cs2:Array Value) (W:World),Place W wb k cs2 s2->W.heap[q]?=some (.cells #[.pointer (some ⟨s2.p,0,none⟩)] 25 (0,0))->q∉s2.F->s2.l.length<=4398046511103 ->
   Calls Tryd.prog 9 #[.pointer (some ⟨wb,0,none⟩),tabF q,.int .i64 (k:Nat),.int .i64 (-1),.bool false,.agg (valV v)] W fun e W'=>e=.returned (.bool true)/\Mod [] W W') :
  Calls Tryd.prog 9 #[.pointer (some ⟨wb,0,none⟩),tabF q,.int .i64 (k:Nat),.int .i64 most,.bool mid,.agg (valV v)] w (WalkR w wb k cs s v mid):=by
 have hk2:=hP.k2
 have hk0:(0:Int)<=(k:Int):=by omega
 have hkI:(k:Int)<2:=by omega
 have hnil:=seq2_nil
 have HRC:=Lib.hid hrec;have HP:=Lib.hid hP;have HQ:=Lib.hid hq
 have hqlt:=lt_of_block hq;have hwlt:=lt_of_block hP.blk
 clear hrec hP hq
 obtain ⟨R,hR⟩:∃ R,R=WalkR w wb k cs s v mid:=⟨_,rfl⟩
 rw [<-hR]
 have HR:=Lib.hid hR
 clear hR
 unfold valV tabF at *
 refine (callsIn_wide (n:=5)).1 ?_
 refine callsIn_of_wp_marks Tryd.func9 rfl trivial ?_
 refine wpIn_wide.2 ?_
 simp only [Tryd.ntmps9,List.size_toArray,List.length_cons,List.length_nil,Nat.reduceAdd,Nat.reduceSub,Array.replicate_succ,Array.replicate_zero,List.push_toArray,List.append_toArray,List.nil_append,List.cons_append]
 go_upto_region 1 with fail
 rename_i Kx hKx
 have e6:=heap_alloc_new w (Obj.cells #[Value.pointer (some ⟨wb,0,none⟩)] 24)
 have m6:=(Mod.refl [] w).alloc (Obj.cells #[Value.pointer (some ⟨wb,0,none⟩)] 24)
 have z6:(w.alloc (Obj.cells #[Value.pointer (some ⟨wb,0,none⟩)] 24)).heap.size=w.heap.size+1:=by rw [World.size_alloc]
 generalize w.alloc (Obj.cells _ 24)=x6 at *
 have e7:=heap_alloc_new x6 (Obj.cells #[Value.func (Fn.func 31) #[] #[Value.pointer (some ⟨q,0,none⟩)]] 33)
 rw [z6] at e7
 have m7:=(Mod.refl [] x6).alloc (Obj.cells #[Value.func (Fn.func 31) #[] #[Value.pointer (some ⟨q,0,none⟩)]] 33)
 have z7:(x6.alloc (Obj.cells #[Value.func (Fn.func 31) #[] #[Value.pointer (some ⟨q,0,none⟩)]] 33)).heap.size=w.heap.size+1+1:=by rw [World.size_alloc,z6]
 generalize x6.alloc (Obj.cells _ 33)=x7 at *
 replace e6:=m7.at e6 (by simp)
 have e8:=heap_alloc_new x7 (Obj.cells #[Value.int .i64 (k:Nat)] 3)
 rw [z7] at e8
 have m8:=(Mod.refl [] x7).alloc (Obj.cells #[Value.int .i64 (k:Nat)] 3)
 have z8:(x7.alloc (Obj.cells #[Value.int .i64 (k:Nat)] 3)).heap.size=w.heap.size+1+1+1:=by rw [World.size_alloc,z7]
 generalize x7.alloc (Obj.cells _ 3)=x8 at *
 replace e6:=m8.at e6 (by simp)
 replace e7:=m8.at e7 (by simp)
 have e9:=heap_alloc_new x8 (Obj.cells #[Value.int .i64 most] 3)
 rw [z8] at e9
 have m9:=(Mod.refl [] x8).alloc (Obj.cells #[Value.int .i64 most] 3)
 have z9:(x8.alloc (Obj.cells #[Value.int .i64 most] 3)).heap.size=w.heap.size+1+1+1+1:=by rw [World.size_alloc,z8]
 generalize x8.alloc (Obj.cells _ 3)=x9 at *
 replace e6:=m9.at e6 (by simp)
 replace e7:=m9.at e7 (by simp)
 replace e8:=m9.at e8 (by simp)
 have e10:=heap_alloc_new x9 (Obj.cells #[Value.bool mid] 4)
 rw [z9] at e10
 have m10:=(Mod.refl [] x9).alloc (Obj.cells #[Value.bool mid] 4)
 have z10:(x9.alloc (Obj.cells #[Value.bool mid] 4)).heap.size=w.heap.size+1+1+1+1+1:=by rw [World.size_alloc,z9]
 generalize x9.alloc (Obj.cells _ 4)=x10 at *
 replace e6:=m10.at e6 (by simp)
 replace e7:=m10.at e7 (by simp)
 replace e8:=m10.at e8 (by simp)
 replace e9:=m10.at e9 (by simp)
 have e11:=heap_alloc_new x10 (Obj.cells #[Value.int .i64 v.k,Value.int .i64 v.n,Value.string (Lx.ofS v.s)] 28)
 rw [z10] at e11
 have m11:=(Mod.refl [] x10).alloc (Obj.cells #[Value.int .i64 v.k,Value.int .i64 v.n,Value.string (Lx.ofS v.s)] 28)
 have z11:(x10.alloc (Obj.cells #[Value.int .i64 v.k,Value.int .i64 v.n,Value.string (Lx.ofS v.s)] 28)).heap.size=w.heap.size+1+1+1+1+1+1:=by rw [World.size_alloc,z10]
 generalize x10.alloc (Obj.cells _ 28)=x11 at *
 replace e6:=m11.at e6 (by simp)
 replace e7:=m11.at e7 (by simp)
 replace e8:=m11.at e8 (by simp)
 replace e9:=m11.at e9 (by simp)
 replace e10:=m11.at e10 (by simp)
 have e12:=heap_alloc_new x11 (Obj.cells #[Value.bool false] 4)
 rw [z11] at e12
 have m12:=(Mod.refl [] x11).alloc (Obj.cells #[Value.bool false] 4)
 have z12:(x11.alloc (Obj.cells #[Value.bool false] 4)).heap.size=w.heap.size+1+1+1+1+1+1+1:=by rw [World.size_alloc,z11]
 generalize x11.alloc (Obj.cells _ 4)=x12 at *
 replace e6:=m12.at e6 (by simp)
 replace e7:=m12.at e7 (by simp)
 replace e8:=m12.at e8 (by simp)
 replace e9:=m12.at e9 (by simp)
 replace e10:=m12.at e10 (by simp)
 replace e11:=m12.at e11 (by simp)
 have M12:=Hxq (m6.trans (m7.trans (m8.trans (m9.trans (m10.trans (m11.trans m12 (by simp)) (by simp)) (by simp)) (by simp)) (by simp)) (by simp))
 have E6:=Lib.hid e6
 have E7:=Lib.hid e7
 have E8:=Lib.hid e8
 have E9:=Lib.hid e9
 have E10:=Lib.hid e10
 have E11:=Lib.hid e11
 have E12:=Lib.hid e12
 clear m6 m7 m8 m9 m10 m11 m12 z6 z7 z8 z9 z10 z11
 have d6:=cell_at e6 0;have d8:=cell_at e8 0
 have P12:=Hxq (HP.out.keep M12.out (by simp) (by simp));have Q12:=Hxq (M12.out.at HQ.out (by simp))
 have c2:=(cell_at P12.out.blk (2+k)).trans P12.out.c2
 simp only [List.getElem?_toArray,List.getElem?_cons_zero] at d6 d8
 clear e6 e7 e8 e9 e10 e11 e12
 have key:∀ (b13:Nat) (ua:Option Addr) (uc:Nat) (wz:World),Mod [] x12 wz->wz.heap[b13]?=some (.cells #[.slice ua s.l.length uc] 30 (0,0))->wz.ownsRow 0 28 3 (.slice ua s.l.length uc) s.l.length (rowVals s.l) ->
   x12.heap.size<=b13->(∀ j∈fp (.slice ua s.l.length uc),x12.heap.size<=j/\j≠b13)->Kx { tmps:=#[Value.pointer (some ⟨wb,0,none⟩),Value.func (Fn.func 31) #[] #[Value.pointer (some ⟨q,0,none⟩)],Value.int .i64 (k:Nat),Value.int .i64 most,Value.bool mid,Value.agg #[Value.int .i64 v.k,Value.int .i64 v.n,Value.string (Lx.ofS v.s)],Value.pointer (some ⟨w.heap.size,0,none⟩),Value.pointer (some ⟨w.heap.size+1,0,none⟩),Value.pointer (some ⟨w.heap.size+1+1,0,none⟩),Value.pointer (some ⟨w.heap.size+1+1+1,0,none⟩),Value.pointer (some ⟨w.heap.size+1+1+1+1,0,none⟩),Value.pointer (some ⟨w.heap.size+1+1+1+1+1,0,none⟩),Value.pointer (some ⟨w.heap.size+1+1+1+1+1+1,0,none⟩),Value.pointer (some ⟨b13,0,none⟩),undef,undef,undef,undef,undef,Value.pointer (some ⟨wb,0,none⟩),Value.int .i64 (k:Nat),Value.pointer (some ⟨wb,0,none⟩),Value.pointer (some ⟨wb,2,none⟩),Value.pointer (some ⟨wb,2+k,none⟩),s.x,Value.slice ua s.l.length uc,undef,undef,undef,undef,undef,undef,undef,undef,undef,undef,undef,undef,undef,undef,undef,undef,undef,undef,undef,undef,undef,undef,undef,undef,undef,undef,undef,undef,undef,undef,undef,undef,undef,undef,undef,undef,undef,undef,undef,undef,undef,undef,undef,undef,undef,undef,undef,undef,undef,undef,undef,undef,undef],defers:=[] } wz:=by
  intro b13 ua uc wz mz ez oz hb13 hbu
  refine hKx _ _ ?_
  clear hKx
  have EZ:=Lib.hid ez;have MZ:=Lib.hid mz;have OZ:=Lib.hid oz;have BU:=Lib.hid hbu
  have mN:=(Mod.refl [] wz).alloc (Obj.cells #[.int .i64 0] 3)
  have eN:=heap_alloc_new wz (Obj.cells #[.int .i64 0] 3)
  have c7:=mN.cell (cell_at (mz.at E7.out (by simp)) 0) (by simp);have c9:=mN.cell (cell_at (mz.at E9.out (by simp)) 0) (by simp)
  have E12':=mN.at (mz.at E12.out (by simp)) (by simp)
  have c12:=cell_at E12' 0;have f12:=free_at E12' 0
  simp only [List.getElem?_toArray,List.getElem?_cons_zero] at c7 c9 c12
  have HZ:=Hxq (lt_of_block ez);have MN:=Lib.hid mN;have EN:=Lib.hid eN;have E12'':=Lib.hid E12'
  clear ez mz oz hbu mN eN E12'
  by_cases hm0:most=0
  ·subst hm0
   go_wp2_with fail
   have hm9:=(Mod.refl [w.heap.size+1+1+1+1+1+1] (wz.alloc (Obj.cells #[.int .i64 0] 3))).setCell (p:=⟨w.heap.size+1+1+1+1+1+1,0,none⟩) (.inl (by simp)) (.bool true)
   have hc:=World.cell?_setCell_same' (wz.alloc (Obj.cells #[.int .i64 0] 3)) ⟨w.heap.size+1+1+1+1+1+1,0,none⟩ (.bool true) (by rw [c12];rfl)
   rw [HR.out]
   refine ⟨.bool true,by simp [results,Tryd.results9,go_sem,hc],?_⟩
   exact WalkR.same HP.out ((M12.out.trans (MZ.out.trans MN.out (by simp)) (by simp)).trans hm9 (by simp;omega))
  ·go_wp2_with fail
   have mN:=MN.out;have eN:=EN.out;have zN:(wz.alloc (Obj.cells #[.int .i64 0] 3)).heap.size=wz.heap.size+1:=by rw [World.size_alloc]
   have E12N:=E12''.out
   clear c7 c9 c12 f12 MN EN E12''
   generalize wz.alloc (Obj.cells #[.int .i64 0] 3)=wY at *
   have mY:=MZ.out.trans mN (by simp)
   have mW:=M12.out.trans mY (by simp)
   have hsF:=HP.out.side.lt
   have hbz:=HZ.out
   have hWB:WB w wb q s b13 wz.heap.size ua uc wY.heap.size:=⟨hwlt,hqlt,hqw,hqF,hsF,⟨by omega,hbz⟩,by omega,fun j hj=>by
    have h1:=BU.out j hj;have h2:=fp_lt OZ.out j hj;exact ⟨by omega,by omega,h1.2,by omega⟩⟩
   have hWI:WI w wb k q cs s v most mid b13 wz.heap.size ua uc wY.heap.size false 0 wY :=
    ⟨mY.at E6.out (by simp),mY.at E7.out (by simp),mY.at E8.out (by simp),mY.at E9.out (by simp),mY.at E10.out (by simp),mY.at E11.out (by simp),mY.at E12.out (by simp),mN.at EZ.out (by simp),eN,
     ⟨mN.owns OZ.out (by simp),fun j hj=>by have h1:=BU.out j hj;omega⟩,mW.at HQ.out (by simp),⟨s,.inl rfl,rfl,fun j hj=>.inl hj,by rw [enum_set_self HP.out.c2];exact HP.out.keep mW (by simp) (by simp),fun _=>rfl,fun _=>rfl⟩,
     (RAt.of (xs:=[]) (by rw [List.append_nil];exact HP.out.side.tab.row)).keep (vc:=s.vc) mW (by simp),mW.mono (by simp)⟩
   have HWB:=Lib.hid hWB;have HWI:=Lib.hid hWI
   have hso:=HP.out.side.tab.slOk
   have hat:=cell_at HP.out.side.tab.at_ 1
   simp only [List.getElem?_toArray,List.getElem?_cons_zero,List.getElem?_cons_succ] at hat
   have HMW:=Lib.hid mW
   have HZN:=Lib.hid zN
   clear zN mN eN E12N mY mW hsF hWB hWI EZ MZ OZ BU E6 E7 E8 E9 E10 E11 E12 M12 P12 Q12 c2 d6 d8
   generalize wz.heap.size=b14 at *
   refine (wpIn_wide (n:=9)).1 ?_
   refine wp_seqM (gf:=31) (lb:=#[.pointer (some ⟨q,0,none⟩)]) rfl (enters_of Tryd.func31 (by kernel_rfl) rfl) (it_any _ q s.p s.va s.vc s.l hso (by omega)) (fun _ _=>rfl)
    (fun pre W=>WI w wb k q cs s v most mid b13 b14 ua uc wY.heap.size false pre.length W/\pre <+: s.l) (fun c pre W=>c=.ret/\∃ n,WI w wb k q cs s v most mid b13 b14 ua uc wY.heap.size true n W)
    (fun pre A C hs hm=>⟨hs.1.step HWB.out hm,hs.2⟩) (fun c pre A C hs hm=>⟨hs.1,hs.2.imp fun n hn=>hn.step HWB.out hm⟩) (fun pre A hs=>hs.1.rat) (fun W hm=>⟨⟨_,hm.at HWI.out.box (by simp)⟩,(HMW.out.trans hm (by simp)).cell hat (by simp)⟩) ⟨HWI.out,by simp⟩
    (fun pre x a' W=>∃ bx,a'={ tmps:=#[Value.pointer (some ⟨wb,0,none⟩),Value.func (Fn.func 31) #[] #[Value.pointer (some ⟨q,0,none⟩)],Value.int .i64 (k:Nat),Value.int .i64 most,Value.bool mid,Value.agg #[Value.int .i64 v.k,Value.int .i64 v.n,Value.string (Lx.ofS v.s)],Value.pointer (some ⟨w.heap.size,0,none⟩),Value.pointer (some ⟨w.heap.size+1,0,none⟩),Value.pointer (some ⟨w.heap.size+1+1,0,none⟩),Value.pointer (some ⟨w.heap.size+1+1+1,0,none⟩),Value.pointer (some ⟨w.heap.size+1+1+1+1,0,none⟩),Value.pointer (some ⟨w.heap.size+1+1+1+1+1,0,none⟩),Value.pointer (some ⟨w.heap.size+1+1+1+1+1+1,0,none⟩),Value.pointer (some ⟨b13,0,none⟩),Value.pointer (some ⟨b14,0,none⟩),Value.int .i64 (pre.length:Nat),Value.pointer (some ⟨bx,0,none⟩),undef,undef,Value.pointer (some ⟨wb,0,none⟩),Value.int .i64 (k:Nat),Value.pointer (some ⟨wb,0,none⟩),Value.pointer (some ⟨wb,2,none⟩),Value.pointer (some ⟨wb,2+k,none⟩),s.x,Value.slice ua s.l.length uc,Value.func (Fn.func 31) #[] #[Value.pointer (some ⟨q,0,none⟩)],Value.bool false,Value.int .i64 most,Value.bool false,Value.func (Fn.func 31) #[] #[Value.pointer (some ⟨q,0,none⟩)],Value.int .i64 (pre.length:Nat),Value.agg (valV x),undef,undef,undef,undef,undef,undef,undef,undef,undef,undef,undef,undef,undef,undef,undef,undef,undef,undef,undef,undef,undef,undef,undef,undef,undef,undef,undef,undef,undef,undef,undef,undef,undef,undef,undef,undef,undef,undef,undef,undef,undef,undef,undef,undef,undef,undef],defers:=[] }/\W.heap[bx]?=some (.cells (valV x) 28 (0,0))/\wY.heap.size+1<bx)
    ?hx ?assign ?body ?done ?stop
   case hx =>
    rintro pre x a' A C ⟨bx,rfl,hb,hbx⟩ hm
    exact ⟨bx,rfl,hm.at hb (by simp;omega),hbx⟩
   case assign =>
    rintro l pre x W K ⟨hi,hpf⟩ hlt hK
    unfold encT valV
    gi_wp2_with fail
    exact hK _ _ ((Mod.refl [] W).alloc _) ⟨hi.step HWB.out (((Mod.refl [] W).alloc _).mono (by simp)),hpf⟩ ⟨W.heap.size,rfl,heap_alloc_new W _,by omega⟩
   case body =>
    rintro l pre x a' W ⟨hi,-⟩ ⟨bx,rfl,hb,hbx⟩ hpf hlt
    obtain ⟨hln,hat2⟩:=pre_at hpf
    have hE:s.l[pre.length]'hln=x:=by rw [List.getElem?_eq_getElem hln] at hat2;simpa using hat2
    obtain ⟨g1,o1,e1,hva⟩:=hi.row.vrow.at pre.length hln
    rw [hE] at hva
    obtain ⟨a0,a1,a2⟩:=hva
    subst e1
    have t0:=cell_at hb 0;have t1:=cell_at hb 1;have t2:=cell_at hb 2
    have c9:=cell_at hi.e9 0;have c10:=cell_at hi.e10 0;have c13:=cell_at hi.e13 0;have c14:=cell_at hi.e14 0
    have f14:=free_at hi.e14 0;have f12:=free_at hi.e12 0
    have HW2:=HWB.out
    have c12:=cell_at hi.e12 0
    unfold valV at t0 t1 t2
    simp only [List.getElem?_toArray,List.getElem?_cons_zero,List.getElem?_cons_succ] at t0 t1 t2 c9 c10 c13 c14 c12
    have hiI:(pre.length:Int)<(s.l.length:Int):=by omega
    have hi0:(0:Int)<=(pre.length:Int):=by omega
    have hge:decide (s.l.length<=pre.length)=false:=by simp;omega
    have h13:=HW2.h13;have h14:=HW2.h14
    have hne1:w.heap.size+1+1+1≠b14:=by omega
    have hne2:b14≠w.heap.size+1+1+1:=by omega
    have hne3:w.heap.size+1+1+1+1+1+1≠b14:=by omega
    have hne4:b14≠w.heap.size+1+1+1+1+1+1:=by omega
    have hlen:(pre++[x]).length=pre.length+1:=by simp
    have HI:=Lib.hid hi;have HPF:=Lib.hid hpf;have HLEN:=Lib.hid hlen
    clear hi hat2 hb hE hpf HW2 hlen
    unfold valV
    gi_wp2_with fail
    refine wpIn_region_quiet_lit (by kernel_rfl) (by kernel_rfl) (by kernel_rfl) ?_
    repeat (go_big_quiet_step (fail))
    refine wpQuiet_nil ?_
    intro _ hw'
    obtain ⟨nq,hw''⟩:=hw'
    subst hw''
    have HI2:=Hxq (HI.out.step HWB.out (((Mod.refl [] W).drewN nq).mono (by simp)))
    cases mid with
    | false =>
     by_cases hmo:(pre.length:Int)+1=most
     ·gi_wp2_with fail
      have hS:=HI2.out.store HWB.out (pre.length+1) (by omega)
      rw [show ((pre.length+1:Nat):Int)=most by omega] at hS
      have hm9:=((Mod.refl [b14,w.heap.size+1+1+1+1+1+1] W).drewN nq).setCell (p:=⟨b14,0,none⟩) (.inl (by simp)) (.int .i64 most)
      have hm10:=hm9.setCell (p:=⟨w.heap.size+1+1+1+1+1+1,0,none⟩) (.inl (by simp)) (.bool true)
      exact ⟨Kp.of hm10 (by omega) (by simp;omega) (by simp;omega),rfl,_,hS.says HWB.out true⟩
     ·gi_wp2_with fail
      have hS:=HI2.out.store HWB.out (pre.length+1) (by omega)
      have hm9:=((Mod.refl [b14] W).drewN nq).setCell (p:=⟨b14,0,none⟩) (.inl (by simp)) (.int .i64 ((pre.length:Int)+1))
      refine ⟨Kp.of hm9 (by omega) (by simp;omega) (by simp;omega),?_,HPF.out⟩
      rw [HLEN.out]
      exact hS
    | true =>
     by_cases hn0:pre.length=0
     ·obtain rfl:pre=[]:=List.eq_nil_of_length_eq_zero hn0
      simp only [List.length_nil,Int.natCast_zero] at c14 hiI hi0 HI2
      have hz0:decide (s.l.length<=0)=false:=hge
      have c6:=cell_at HI.out.e6 0;have c7:=cell_at HI.out.e7 0;have c8:=cell_at HI.out.e8 0;have d0:=cell_at HI.out.e11 0;have d1:=cell_at HI.out.e11 1;have d2:=cell_at HI.out.e11 2
      simp only [List.getElem?_toArray,List.getElem?_cons_zero,List.getElem?_cons_succ] at c6 c7 c8 d0 d1 d2
      have hno:∀ j,w.heap.size<=j->j∉wb :: s.F:=fun j hj hs=>by rcases List.mem_cons.1 hs with e | hs;omega;have:=HWB.out.sF j hs;omega
      gi_wp2_with fail
      have pl:Place (W.drewN nq) wb k cs s:=by
       obtain ⟨s0,-,-,-,pl,-,h0⟩:=HI2.out.st
       have e:=h0 rfl
       subst e
       rwa [enum_set_self HP.out.c2] at pl
      have hZ2:wY.heap.size+2<=(W.drewN nq).heap.size:=hlt
      have hl1:s.l.length<=4398046511102:=by simp at hl;omega
      refine ⟨trivial,CallsIn.inRound l (callsIn_wide.2 ?_)⟩
      refine (wput_any wb k pl.k2 cs s v hv hl1 _ pl.blk pl.c0 pl.c2 pl.side pl.nin).mono ?_
      rintro e1 W1 hr
      obtain ⟨s2,hl2,pl2,hp2,hq2,hk1,hk2',hnext⟩:=HI2.out.put HWB.out hZ2 HP.out.c2 hr
      obtain ⟨rfl,s1,-,-,-,-,-,hm1,-⟩:=hr
      have hsz1:=hm1.size
      have hzz:wY.heap.size+2<=W1.heap.size:=by omega
      have p6:=hm1.cell c6 (hno _ (by simp));have p7:=hm1.cell c7 (hno _ (by simp));have p8:=hm1.cell c8 (hno _ (by simp;omega));have p9:=hm1.cell c9 (hno _ (by simp;omega));have p12:=hm1.at HI2.out.e12 (hno _ (by omega));have p14:=hm1.at HI2.out.e14 (hno _ (by omega))
      have q0:=hm1.cell d0 (hno _ (by simp;omega));have q1:=hm1.cell d1 (hno _ (by simp;omega));have q2:=hm1.cell d2 (hno _ (by simp;omega))
      have hbx2:W1.heap[q]?=some (.cells #[.pointer (some ⟨s2.p,0,none⟩)] 25 (0,0)):=by
       rw [hp2]
       exact hm1.at HI2.out.box (fun hs=>by rcases List.mem_cons.1 hs with e | hs;exact hqw e;exact hqF hs)
      have hl3:s2.l.length<=4398046511103:=by
       rw [hl2,tput]
       split
       ·omega
       ·rw [List.length_append,List.length_singleton];omega
      have PL2:=Lib.hid pl2;have HB2:=Lib.hid hbx2;have HNX:=Lib.hid hnext;have K1:=Lib.hid hk1;have K2:=Lib.hid hk2'
      clear pl pl2 hbx2 hnext hk1 hk2' c6 c7 c8 c9 c10 c12 c13 c14 d0 d1 d2 a0 a1 a2 t0 t1 t2 f14 f12 hm1
      gi_wp2_with fail
      refine ⟨trivial,CallsIn.inRound l (callsIn_wide.2 ?_)⟩
      refine (HRC.out (by simp) s2 _ W1 PL2.out HB2.out hq2 hl3).mono ?_
      rintro e2 W2 ⟨rfl,hm2⟩
      have r9:=hm2.cell p9 (by simp);have e12:=hm2.at p12 (by simp);have e14:=hm2.at p14 (by simp)
      have r12:=cell_at e12 0;have f12:=free_at e12 0;have r14:=cell_at e14 0;have f14:=free_at e14 0
      simp only [List.getElem?_toArray,List.getElem?_cons_zero] at r12 r14
      have hsz2:=hm2.size
      have HM2:=Lib.hid hm2
      clear p6 p7 p8 p9 p12 p14 q0 q1 q2 e12 e14 hm2
      have hS:=HNX.out 1 (by simp) W2 HM2.out
      have HS:=Lib.hid hS
      clear hS
      have kp:∀ C,Mod [b14,w.heap.size+1+1+1+1+1+1] W2 C->Kp wY.heap.size W C:=fun C hC =>
       ⟨((hC.block _ (by omega) (by simp;omega)).trans (HM2.out.block _ (by omega) (by simp))).trans K1.out,((hC.block _ (by omega) (by simp;omega)).trans (HM2.out.block _ (by omega) (by simp))).trans K2.out⟩
      have KP:=Lib.hid kp
      clear kp
      by_cases hmo:(1:Int)=most
      ·gi_wp2_with fail
       have hS:=HS.out
       rw [show ((1:Nat):Int)=most by omega] at hS
       have hm9:=(Mod.refl [b14,w.heap.size+1+1+1+1+1+1] W2).setCell (p:=⟨b14,0,none⟩) (.inl (by simp)) (.int .i64 most)
       have hm10:=hm9.setCell (p:=⟨w.heap.size+1+1+1+1+1+1,0,none⟩) (.inl (by simp)) (.bool true)
       exact ⟨KP.out _ hm10,rfl,_,hS.says HWB.out true⟩
      ·gi_wp2_with fail
       have hS:=HS.out
       have hm9:=(Mod.refl [b14,w.heap.size+1+1+1+1+1+1] W2).setCell (p:=⟨b14,0,none⟩) (.inl (by simp)) (.int .i64 1)
       exact ⟨KP.out _ hm9,hS,HPF.out⟩
     ·have hn0I:¬ (pre.length:Int)=0:=by omega
      have hn0B:((pre.length:Int) == 0)=false:=by simpa using hn0
      by_cases hmo:(pre.length:Int)+1=most
      ·gi_wp2_with fail
       have hS:=HI2.out.store HWB.out (pre.length+1) (by omega)
       rw [show ((pre.length+1:Nat):Int)=most by omega] at hS
       have hm9:=((Mod.refl [b14,w.heap.size+1+1+1+1+1+1] W).drewN nq).setCell (p:=⟨b14,0,none⟩) (.inl (by simp)) (.int .i64 most)
       have hm10:=hm9.setCell (p:=⟨w.heap.size+1+1+1+1+1+1,0,none⟩) (.inl (by simp)) (.bool true)
       exact ⟨Kp.of hm10 (by omega) (by simp;omega) (by simp;omega),rfl,_,hS.says HWB.out true⟩
      ·gi_wp2_with fail
       have hS:=HI2.out.store HWB.out (pre.length+1) (by omega)
       have hm9:=((Mod.refl [b14] W).drewN nq).setCell (p:=⟨b14,0,none⟩) (.inl (by simp)) (.int .i64 ((pre.length:Int)+1))
       refine ⟨Kp.of hm9 (by omega) (by simp;omega) (by simp;omega),?_,HPF.out⟩
       rw [HLEN.out]
       exact hS
   case done =>
    rintro D xs W hD rfl ⟨hi,-⟩ hK
    have c13:=cell_at hi.e13 0;have c14:=cell_at hi.e14 0;have c12:=cell_at hi.e12 0
    have f12:=free_at hi.e12 0
    simp only [List.getElem?_toArray,List.getElem?_cons_zero,List.getElem?_cons_succ] at c13 c14 c12
    have HI:=Lib.hid hi;have HK:=Lib.hid hK
    clear hi hK
    go_wp2_with fail
    have hK2:=(KeepsOthers.setCell W ⟨w.heap.size+1+1+1+1+1+1,0,none⟩ (.bool true)).same D _ HK.out rfl
    have hWS:=HI.out.says HWB.out true
    have hD2:D<(W.setCell ⟨w.heap.size+1+1+1+1+1+1,0,none⟩ (.bool true)).heap.size:=lt_of_block hK2
    have h13:=HWB.out.h13;have h14:=HWB.out.h14
    have hc2:=cell_at ((mod_putObj (W.setCell ⟨w.heap.size+1+1+1+1+1+1,0,none⟩ (.bool true)) D (.deferred none)).at hWS.e12 (by rw [Msq];omega)) 0
    simp only [List.getElem?_toArray,List.getElem?_cons_zero] at hc2
    refine ⟨by simp,.inl ⟨_,_,rfl,run_takeDeferred hK2,?_⟩⟩
    rw [HR.out]
    refine ⟨.bool true,by simp [results,Tryd.results9,go_sem,hc2],?_⟩
    exact hWS.ends HWB.out (mod_putObj _ _ _) (fun j hj=>by rw [Msq] at hj;omega)
   case stop =>
    rintro D c pre W hD hSp ⟨rfl,n,hi⟩ hK
    have hD2:D<W.heap.size:=lt_of_block hK
    have h13:=HWB.out.h13;have h14:=HWB.out.h14
    have hc2:=cell_at ((mod_putObj W D (.deferred none)).at hi.e12 (by rw [Msq];omega)) 0
    simp only [List.getElem?_toArray,List.getElem?_cons_zero] at hc2
    have HI:=Lib.hid hi;have HK:=Lib.hid hK
    clear hi hK
    gi_wp2_with fail
    refine ⟨by simp,.inl ⟨_,_,rfl,run_takeDeferred HK.out,?_⟩⟩
    rw [HR.out]
    refine ⟨.bool true,by simp [results,Tryd.results9,go_sem,hc2],?_⟩
    exact HI.out.ends HWB.out (mod_putObj _ _ _) (fun j hj=>by rw [Msq] at hj;omega)
 refine Code.wp_mono (Q:=Exit.then Kx (fun _ _ _=>False)) (fun e a w h=>by cases e <;> first | exact h | exact h.elim) ?_
 refine tl_region (fun wS=>Mod [] x12 wS) [] (by kernel_rfl) ?_
 have hHeld:Mod [] x12 x12.drew:=(Mod.refl [] x12).drew
 try simp only [Act.put,Lq1,Lq2,Lq3]
 generalize x12.drew=wd at *
 refine TlAny.take 0 (v:=?_) hHeld ?_ ?_ ?_
 rotate_left 1
 ·refine Or.inl ⟨by rfl,?_⟩
  intro wS hSw
  replace hSw:Mod [] x12 wS:=hSw
  have p:=hSw.cell d6 (by simp)
  clear hSw
  go_simp
  all_goals with_reducible rfl
 ·exact fun _ _ _ h=>h
 try simp only [Act.put,Lq1,Lq2,Lq3]
 refine TlAny.take 1 (v:=?_) hHeld ?_ ?_ ?_
 rotate_left 1
 ·refine Or.inl ⟨by rfl,?_⟩
  intro wS hSw
  replace hSw:Mod [] x12 wS:=hSw
  have p:=hSw.cell d8 (by simp)
  clear hSw
  go_simp
  all_goals with_reducible rfl
 ·exact fun _ _ _ h=>h
 try simp only [Act.put,Lq1,Lq2,Lq3]
 refine TlAny.take 2 (v:=?_) hHeld ?_ ?_ ?_
 rotate_left 1
 ·refine Or.inl ⟨by rfl,?_⟩
  intro wS hSw
  replace hSw:Mod [] x12 wS:=hSw
  clear hSw
  go_simp
  all_goals with_reducible rfl
 ·exact fun _ _ _ h=>h
 try simp only [Act.put,Lq1,Lq2,Lq3]
 refine TlAny.take 3 (v:=?_) hHeld ?_ ?_ ?_
 rotate_left 1
 ·refine Or.inl ⟨by rfl,?_⟩
  intro wS hSw
  replace hSw:Mod [] x12 wS:=hSw
  clear hSw
  go_simp
  all_goals with_reducible rfl
 ·exact fun _ _ _ h=>h
 try simp only [Act.put,Lq1,Lq2,Lq3]
 refine TlAny.take 4 (v:=?_) hHeld ?_ ?_ ?_
 rotate_left 1
 ·refine Or.inl ⟨by rfl,?_⟩
  intro wS hSw
  replace hSw:Mod [] x12 wS:=hSw
  clear hSw
  go_simp
  all_goals with_reducible rfl
 ·exact fun _ _ _ h=>h
 try simp only [Act.put,Lq1,Lq2,Lq3]
 refine TlAny.take 5 (v:=?_) hHeld ?_ ?_ ?_
 rotate_left 1
 ·refine Or.inl ⟨by rfl,?_⟩
  intro wS hSw
  replace hSw:Mod [] x12 wS:=hSw
  have p:=hSw.cell c2 (by simp)
  clear hSw
  go_simp
  all_goals with_reducible rfl
 ·exact fun _ _ _ h=>h
 try simp only [Act.put,Lq1,Lq2,Lq3]
 obtain ⟨iV,hV0,hV1,hV2,hV3⟩:=info_valT
 have hwd:=hHeld.size
 refine TlAny.two 6 7 ?_ ?_
 ·intro K hK
  refine step_append_src _ rfl _ _ 30 30 rfl 28 iV (.agg (valV Va.zero)) 3 32 Tryd.underlying30 hV0 hV1 hV2 hV3 rfl (.slice none 0 0) 0 [] rfl (World.ownsRow_nil _ _ _ _) _ s.l.length (rowVals s.l) rfl (src_vals (P12.out.side.keep hHeld (by simp)).vrow) (by unfold maxLen;omega) (by omega) ?_
  intro v1 w1 hown1 hm1 hf1
  rw [Nat.zero_add] at hown1
  obtain ⟨ua,uc,rfl⟩:=owns_slice hown1
  have hHeld1:=hHeld.trans hm1 (by simp [fp])
  refine hK.out _ _ (fun _=>hHeld1) ?_
  clear hK K
  try simp only [Act.put,Lq1,Lq2,Lq3]
  refine TlAny.one 7 ?_
  intro K hK
  go_simp
  refine hK.out _ _ (fun _=>hHeld1.alloc _) ?_
  clear hK K
  try simp only [Act.put,Lq1,Lq2,Lq3]
  have eA:=heap_alloc_new w1 (Obj.cells #[.slice ua s.l.length uc] 30)
  have mA:=(Mod.refl [] w1).alloc (Obj.cells #[.slice ua s.l.length uc] 30)
  have hHeld3:=hHeld1.trans mA (by simp)
  have hz1:=hHeld1.size
  have KF:=key w1.heap.size ua uc _ hHeld3 eA (mA.owns hown1 (by simp)) (by omega) (fun j hj=>by have:=fp_lt hown1 j hj;have h2:=hf1 j (by simpa using hj);simp [fp] at h2;omega)
  refine TlAny.one 8 ?_
  intro K hK
  go_simp
  refine hK.out _ _ (fun _=>hHeld3) ?_
  clear hK K
  try simp only [Act.put,Lq1,Lq2,Lq3]
  refine TlAny.fin ?_
  exact KF
 ·intro K hK
  go_simp
  refine hK.out _ _ (fun _=>hHeld.alloc _) ?_
  clear hK K
  try simp only [Act.put,Lq1,Lq2,Lq3]
  generalize hwa:wd.alloc (Obj.cells _ 30)=wa at *
  have mA:Mod [] wd wa:=by rw [<-hwa];exact (Mod.refl [] wd).alloc _
  have eA:wa.heap[wd.heap.size]?=some (.cells #[.slice none 0 0] 30 (0,0)):=by rw [<-hwa];exact heap_alloc_new wd _
  have hHeldA:=hHeld.trans mA (by simp)
  have hla:=lt_of_block eA
  clear hwa
  refine TlAny.one 6 ?_
  intro K hK
  refine step_append_src _ rfl _ _ 30 30 rfl 28 iV (.agg (valV Va.zero)) 3 32 Tryd.underlying30 hV0 hV1 hV2 hV3 rfl (.slice none 0 0) 0 [] rfl (World.ownsRow_nil _ _ _ _) _ s.l.length (rowVals s.l) rfl (src_vals (P12.out.side.keep hHeldA (by simp)).vrow) (by unfold maxLen;omega) (by omega) ?_
  intro v1 w1 hown1 hm1 hf1
  rw [Nat.zero_add] at hown1
  obtain ⟨ua,uc,rfl⟩:=owns_slice hown1
  have hHeld1:=hHeldA.trans hm1 (by simp [fp])
  refine hK.out _ _ (fun _=>hHeld1) ?_
  clear hK K
  try simp only [Act.put,Lq1,Lq2,Lq3]
  have e1:=hm1.at eA (by simp [fp])
  have hm9:=(Mod.refl [wd.heap.size] w1).setCell (p:=⟨wd.heap.size,0,none⟩) (.inl (by simp)) (.slice ua s.l.length uc)
  have h9:=setCell_at e1 0 (.slice ua s.l.length uc)
  have q1:=cell_at e1 0
  have f1:w1.frozen? ⟨wd.heap.size,0,none⟩=false:=free_at e1 0
  simp only [List.getElem?_toArray,List.getElem?_cons_zero] at q1
  have hnw:∀ j∈fp (.slice ua s.l.length uc),wa.heap.size<=j:=fun j hj=>by have h2:=hf1 j (by simpa using hj);simp [fp] at h2;omega
  have hHeld3:Mod [] x12 _:=hHeld1.trans hm9 (fun t ht=>.inr (by rw [Msq] at ht;omega))
  have KF:=key wd.heap.size ua uc _ hHeld3 h9 (hm9.owns hown1 (fun j hj hs=>by rw [Msq] at hs;have:=hnw j hj;omega)) (by omega) (fun j hj=>by have:=hnw j hj;omega)
  refine TlAny.one 8 ?_
  intro K hK
  go_simp
  refine hK.out _ _ (fun _=>hHeld3) ?_
  clear hK K
  try simp only [Act.put,Lq1,Lq2,Lq3]
  refine TlAny.fin ?_
  exact KF
/-- a walk in which nothing is put -/
theorem walks_plain (wb k q:Nat) (cs:Array Value) (s:SV) (v:Va.Val) (most:Int) (hv:VIn v) (hl:s.l.length<=4398046511103) (w:World) (hP:Place w wb k cs s)
  (hq:w.heap[q]?=some (.cells #[.pointer (some ⟨s.p,0,none⟩)] 25 (0,0))) (hqw:q≠wb) (hqF:q∉s.F) :
  Calls Tryd.prog 9 #[.pointer (some ⟨wb,0,none⟩),tabF q,.int .i64 (k:Nat),.int .i64 most,.bool false,.agg (valV v)] w fun e w'=>e=.returned (.bool true)/\Mod [] w w' :=
 (walks_gen wb k q cs s v most false hv (by simpa using hl) w hP hq hqw hqF (fun h=>by cases h)).mono fun e w' h=>⟨h.1,h.2.1 rfl⟩
theorem walks_any (wb k q:Nat) (cs:Array Value) (s:SV) (v:Va.Val) (most:Int) (mid:Bool) (hv:VIn v) (hl:s.l.length<=4398046511102) (w:World) (hP:Place w wb k cs s)
  (hq:w.heap[q]?=some (.cells #[.pointer (some ⟨s.p,0,none⟩)] 25 (0,0))) (hqw:q≠wb) (hqF:q∉s.F) :
  Calls Tryd.prog 9 #[.pointer (some ⟨wb,0,none⟩),tabF q,.int .i64 (k:Nat),.int .i64 most,.bool mid,.agg (valV v)] w (WalkR w wb k cs s v mid) :=
 walks_gen wb k q cs s v most mid hv (by split <;> omega) w hP hq hqw hqF (fun _ s2 cs2 W hP2 hq2 hF2 hl2=>walks_plain wb k q cs2 s2 v (-1) hv hl2 W hP2 hq2 hqw hF2)
open Go.RowKit Go.Maps
/-- the law's world: two tables with their lists, the iterator that is held -/
structure Wo (w0 W:World) (wb:Nat) (cs:Array Value) (sv:Nat->SV) (hd:Value) (of:Nat):Prop where
 pl:∀ k,k<2->Place W wb k cs (sv k)
 sz:cs.size=7
 c4:cs[4]?=some hd
 c5:cs[5]?=some (.int .i64 (of:Nat))
 dj:∀ i j,i<2->j<2->i≠j->∀ b∈(sv i).F,b∉(sv j).F
 of2:of<2
 held:hd=.nilFunc\/∃ q,hd=tabF q/\W.heap[q]?=some (.cells #[.pointer (some ⟨(sv of).p,0,none⟩)] 25 (0,0))/\q≠wb/\∀ k,k<2->q∉(sv k).F
 new:∀ k,k<2->∀ b∈(sv k).F,w0.heap.size<=b
 wbn:w0.heap.size<=wb
 mod:Mod [] w0 W
theorem Wo.past {w0 W W':World} {wb:Nat} {cs:Array Value} {sv:Nat->SV} {hd:Value} {of:Nat} (h:Wo w0 W wb cs sv hd of) (hm:Mod [] W W'):Wo w0 W' wb cs sv hd of :=
 ⟨fun k hk=>(h.pl k hk).keep hm (by simp) (by simp),h.sz,h.c4,h.c5,h.dj,h.of2,h.held.imp id (fun ⟨q,h1,h2,h3⟩=>⟨q,h1,hm.at h2 (by simp),h3⟩),h.new,h.wbn,h.mod.trans hm (by simp)⟩
/-- one of the tables has turned -/
theorem Wo.upd {w0 W W':World} {wb:Nat} {cs:Array Value} {sv:Nat->SV} {hd:Value} {of:Nat} (h:Wo w0 W wb cs sv hd of) (k:Nat) (hk:k<2) (s':SV) (hp:Place W' wb k (cs.setIfInBounds (2+k) s'.x) s') (he:s'.p=(sv k).p)
  (hf:∀ j∈s'.F,j∈(sv k).F\/W.heap.size<=j) (hm:Mod (wb :: (sv k).F) W W'):Wo w0 W' wb (cs.setIfInBounds (2+k) s'.x) (fun i=>if i=k then s' else sv i) hd of:=by
 have hws:=h.mod.size
 have oth:∀ i,i<2->i≠k->∀ b∈(sv i).F,b∉wb :: (sv k).F:=fun i hi hn b hb hs=>by
  rcases List.mem_cons.1 hs with rfl | hs
  ·exact (h.pl i hi).nin hb
  ·exact h.dj i k hi hk hn b hb hs
 refine ⟨fun i hi=>?_,by simp [h.sz],?_,?_,fun i j hi hj hn b hb=>?_,h.of2,?_,fun i hi b hb=>?_,h.wbn,h.mod.trans hm (fun t ht=>?_)⟩
 ·by_cases e:i=k
  ·subst e;simp only [if_pos];exact hp
  ·simp only [if_neg e]
   exact ⟨hi,hp.blk,by rw [Array.getElem?_setIfInBounds_ne (by omega)];exact (h.pl i hi).c0,by rw [Array.getElem?_setIfInBounds_ne (by omega)];exact (h.pl i hi).c2,(h.pl i hi).side.keep hm (oth i hi e),(h.pl i hi).nin⟩
 ·rw [Array.getElem?_setIfInBounds_ne (by omega)];exact h.c4
 ·rw [Array.getElem?_setIfInBounds_ne (by omega)];exact h.c5
 ·by_cases e:i=k
  ·subst e
   simp only [if_pos] at hb
   rw [if_neg (Ne.symm hn)]
   intro hb2
   rcases hf b hb with hb | hb
   ·exact h.dj i j hi hj hn b hb hb2
   ·have:=(h.pl j hj).side.lt b hb2;omega
  ·rw [if_neg e] at hb
   by_cases e2:j=k
   ·subst e2
    simp only [if_pos]
    intro hb2
    rcases hf b hb2 with hb2 | hb2
    ·exact h.dj i j hi hj hn b hb hb2
    ·have:=(h.pl i hi).side.lt b hb;omega
   ·rw [if_neg e2];exact h.dj i j hi hj hn b hb
 ·refine h.held.imp id (fun ⟨q,h1,h2,h3,h4⟩=>⟨q,h1,?_,h3,fun i hi hq=>?_⟩)
  ·have e:(if of=k then s' else sv of).p=(sv of).p:=by
    by_cases e:of=k
    ·rw [if_pos e,he,e]
    ·rw [if_neg e]
   rw [e]
   exact hm.at h2 (fun hs=>by rcases List.mem_cons.1 hs with e | hs;exact h3 e;exact h4 k hk hs)
  ·by_cases e:i=k
   ·subst e
    simp only [if_pos] at hq
    rcases hf q hq with hq | hq
    ·exact h4 i hi hq
    ·have:=lt_of_block h2;omega
   ·rw [if_neg e] at hq;exact h4 i hi hq
 ·by_cases e:i=k
  ·subst e
   simp only [if_pos] at hb
   rcases hf b hb with hb | hb
   ·exact h.new i hi b hb
   ·omega
  ·rw [if_neg e] at hb;exact h.new i hi b hb
 ·rcases List.mem_cons.1 ht with rfl | ht
  ·exact .inr h.wbn
  ·exact .inr (h.new k hk t ht)
/-- what a step of the script leaves -/
def PlayR (w0:World) (wb M:Nat) (e:Ending) (w':World):Prop :=
 e=.returned (.bool true)/\∃ (cs':Array Value) (sv':Nat->SV) (hd':Value) (of':Nat),Wo w0 w' wb cs' sv' hd' of'/\∀ k,k<2->(sv' k).l.length<=M+1
theorem PlayR.same {w0 W W':World} {wb M:Nat} {cs:Array Value} {sv:Nat->SV} {hd:Value} {of:Nat} (h:Wo w0 W wb cs sv hd of) (hM:∀ k,k<2->(sv k).l.length<=M) (hm:Mod [] W W'):PlayR w0 wb M (.returned (.bool true)) W' :=
 ⟨rfl,cs,sv,hd,of,h.past hm,fun k hk=>by have:=hM k hk;omega⟩
theorem tput_len (l:List Va.Val) (v:Va.Val):(tput l v).length<=l.length+1:=by
 unfold tput
 split
 ·omega
 ·rw [List.length_append,List.length_singleton];exact Nat.le_refl _
theorem PlayR.walk {w0 W W1 W':World} {wb M k:Nat} {cs:Array Value} {sv:Nat->SV} {hd:Value} {of:Nat} {v:Va.Val} {mid:Bool} {e:Ending} (h:Wo w0 W wb cs sv hd of) (hM:∀ k,k<2->(sv k).l.length<=M) (hk:k<2) (hm:Mod [] W W1) (hr:WalkR W1 wb k cs (sv k) v mid e W'):PlayR w0 wb M e W':=by
 obtain ⟨rfl,-,s',h1,h2,h3,h4,h5⟩:=hr
 refine ⟨rfl,_,_,_,_,(h.past hm).upd k hk s' h3 h2 h4 h5,fun i hi=>?_⟩
 by_cases e:i=k
 ·subst e
  simp only [if_pos]
  have:=hM i hi
  have:=tput_len (sv i).l v
  rcases h1 with h1 | ⟨-,h1⟩ <;> rw [h1] <;> omega
 ·rw [if_neg e];have:=hM i hi;omega
theorem PlayR.put {w0 W W1 W':World} {wb M k:Nat} {cs:Array Value} {sv:Nat->SV} {hd:Value} {of:Nat} {v:Va.Val} {e:Ending} (h:Wo w0 W wb cs sv hd of) (hM:∀ k,k<2->(sv k).l.length<=M) (hk:k<2) (hm:Mod [] W W1) (hr:WPutR W1 wb k cs (sv k) v e W'):PlayR w0 wb M e W':=by
 obtain ⟨rfl,s',h1,h2,h3,h4,h5,h6,h7⟩:=hr
 refine ⟨rfl,_,_,_,_,(h.past hm).upd k hk s' (((h.past hm).pl k hk).put h2 h3 h4 h5) h2 h4 h6,fun i hi=>?_⟩
 by_cases e:i=k
 ·subst e
  simp only [if_pos]
  have:=hM i hi
  have:=tput_len (sv i).l v
  rw [h1];omega
 ·rw [if_neg e];have:=hM i hi;omega
theorem seq2_neq (a:Fn) (b c:Array Value) (w:World):(binOp BinOp.neq 33 (.func a b c) .nilFunc).run Tryd.prog w=.ok (.bool true) w:=rfl
theorem seq2_neq_nil (w:World):(binOp BinOp.neq 33 .nilFunc .nilFunc).run Tryd.prog w=.ok (.bool false) w:=rfl
/-- an iterator is taken -/
theorem Wo.take {w0 W W':World} {wb:Nat} {cs:Array Value} {sv:Nat->SV} {hd:Value} {of:Nat} (h:Wo w0 W wb cs sv hd of) (k q:Nat) (hk:k<2)
  (hb:W.heap[q]?=some (.cells #[.pointer (some ⟨(sv k).p,0,none⟩)] 25 (0,0))) (hqw:q≠wb) (hqF:∀ i,i<2->q∉(sv i).F)
  (hm:Mod [wb] W W') (hw:W'.heap[wb]?=some (.cells ((cs.setIfInBounds 4 (tabF q)).setIfInBounds 5 (.int .i64 (k:Nat))) 35 (0,0))) :
  Wo w0 W' wb ((cs.setIfInBounds 4 (tabF q)).setIfInBounds 5 (.int .i64 (k:Nat))) sv (tabF q) k:=by
 have hz:=h.sz
 refine ⟨fun i hi=>?_,by simp [hz],by simp [hz],by simp [hz],h.dj,hk,.inr ⟨q,rfl,hm.at hb (by simpa using hqw),hqw,hqF⟩,h.new,h.wbn,h.mod.trans hm (fun t ht=>by rw [Msq] at ht;subst ht;exact .inr h.wbn)⟩
 have p:=h.pl i hi
 refine ⟨hi,hw,?_,?_,p.side.keep hm (fun j hj hs=>by rw [Msq] at hs;subst hs;exact p.nin hj),p.nin⟩
 ·rw [Array.getElem?_setIfInBounds_ne (by omega),Array.getElem?_setIfInBounds_ne (by omega)];exact p.c0
 ·rw [Array.getElem?_setIfInBounds_ne (by omega),Array.getElem?_setIfInBounds_ne (by omega)];exact p.c2
/-- one of the tables is another one's copy now -/
theorem Wo.copy {w0 W W':World} {wb:Nat} {cs cs':Array Value} {sv:Nat->SV} {hd hd':Value} {of:Nat} (h:Wo w0 W wb cs sv hd of) (j:Nat) (hj:j<2) (s':SV) (hs:Side W' s') (hF:∀ b∈s'.F,W.heap.size<=b)
  (hm:Mod [wb] W W') (hw:W'.heap[wb]?=some (.cells cs' 35 (0,0))) (hz:cs'.size=7) (h0:cs'[j]?=some (.pointer (some ⟨s'.p,0,none⟩))) (h2:cs'[2+j]?=some s'.x)
  (ho:∀ i,i<2->i≠j->cs'[i]?=cs[i]?/\cs'[2+i]?=cs[2+i]?) (h4:cs'[4]?=some hd') (h5:cs'[5]?=cs[5]?) (hh:hd'=.nilFunc\/(hd'=hd/\of≠j)) :
  Wo w0 W' wb cs' (fun i=>if i=j then s' else sv i) hd' of:=by
 have hwl:=lt_of_block (h.pl 0 (by omega)).blk
 have hn:∀ i,i<2->∀ b∈(sv i).F,b∉[wb]:=fun i hi b hb hs=>by rw [Msq] at hs;subst hs;exact (h.pl i hi).nin hb
 have hws:=h.mod.size
 refine ⟨fun i hi=>?_,hz,h4,h5.trans h.c5,fun i k hi hk hn b hb=>?_,h.of2,?_,fun i hi b hb=>?_,h.wbn,h.mod.trans hm (fun t ht=>by rw [Msq] at ht;subst ht;exact .inr h.wbn)⟩
 ·by_cases e:i=j
  ·subst e;simp only [if_pos]
   exact ⟨hi,hw,h0,h2,hs,fun hb=>by have:=hF _ hb;omega⟩
  ·simp only [if_neg e]
   exact ⟨hi,hw,(ho i hi e).1.trans (h.pl i hi).c0,(ho i hi e).2.trans (h.pl i hi).c2,(h.pl i hi).side.keep hm (hn i hi),(h.pl i hi).nin⟩
 ·by_cases e:i=j
  ·subst e
   rw [if_pos rfl] at hb
   rw [if_neg (Ne.symm hn)]
   intro hb2
   have:=hF b hb
   have:=(h.pl k hk).side.lt b hb2
   omega
  ·rw [if_neg e] at hb
   by_cases e2:k=j
   ·subst e2
    rw [if_pos rfl]
    intro hb2
    have:=hF b hb2
    have:=(h.pl i hi).side.lt b hb
    omega
   ·rw [if_neg e2];exact h.dj i k hi hk hn b hb
 ·rcases hh with hh | ⟨hh,hof⟩
  ·exact .inl hh
  ·subst hh
   refine h.held.imp id (fun ⟨q,g1,g2,g3,g4⟩=>⟨q,g1,?_,g3,fun i hi hq=>?_⟩)
   ·rw [if_neg hof];exact hm.at g2 (by simpa using g3)
   ·by_cases e:i=j
    ·subst e
     rw [if_pos rfl] at hq
     have:=hF q hq
     have:=lt_of_block g2
     omega
    ·rw [if_neg e] at hq;exact g4 i hi hq
 ·by_cases e:i=j
  ·subst e;rw [if_pos rfl] at hb;have:=hF b hb;omega
  ·rw [if_neg e] at hb;exact h.new i hi b hb
end Go.Proofs.YtdablillhbfgkaaDoor
