/- THE TEXTS MERGED: VtKeep VtPut VtAll VtIdx VtClone VtNil Seq. -/
import Derived.Test.YtdablillhbfgkaaDoorKT8
import Derived.Lib.SliceRun
import Derived.RangeFuncNested
import Derived.RangeFuncBound
import Derived.RangeFuncCalls
import Derived.RangeFuncLeaves
import Derived.Shelf.Abstract
import Derived.Shelf.RegionOpen
import Derived.OwnWalkIn
import Derived.TacticsInMore
import Derived.LoopNIn
import Derived.LoopIn
import Derived.OrdersIn
namespace Go.Proofs.YtdablillhbfgkaaDoor
open Go.RowKit
set_option linter.unusedVariables false
section
variable {P:Program} (w:World)
/-- append keeps what the old slice shows -/
theorem run_append_own_keep (t tx ty e:TypeId) (i:TypeInfo) (z:Value) (size bytes:Nat) (ht:P.underlying t=some (.slice e)) (hi:P.info? e=some i) (hz:i.zero=some z)
  (hsize:i.size=size) (hby:i.bytes=bytes) (hzs:z.cells.size=size)
  (v:Value) (n:Nat) (xs:List Value) (hown:w.ownsRow 0 e size v n xs)
  (x:Value) (m:Nat) (news:List Value) (hs:Src P size tx x m news w)
  (h63:n+m<=maxLen) (hbytes:(n+m) * bytes<=140737488355328) :
  ∃ v' w',(Builtin.append_ #[t,tx] ty #[v,x]).run P w=.ok v' w'/\w'.ownsRow 0 e size v' (n+m) (xs++news)/\Mod (fp v) w w' /\
   (∀ k∈fp v',k∈fp v\/w.heap.size<=k)/\(Mod [] w w'\/fp v'=fp v):=by
 subst hsize
 subst hby
 have hl:=hs.newsLen
 have hsmall:n+m<=9223372036854775807:=by simp only [maxLen] at h63;omega
 have hlen:(xs++news).length=(n+m) * i.size:=by rw [List.length_append,hown.1,hl,Nat.add_mul]
 have grown:∀ (old:Nat),old<n+m ->
   (w.drew.alloc (.cells ((xs++news).toArray++Builtin.zeroCells z.cells (grownCap w (n+m) old e - (n+m))) e)).ownsRow 0 e i.size
    (.slice (some ⟨w.heap.size,0,none⟩) (n+m) (grownCap w (n+m) old e)) (n+m) (xs++news):=by
  intro old ho
  have hge:=grownCap_ge w (n+m) old e
  have hcm:grownCap w (n+m) old e<=maxLen:=grownCap_le_maxLen w (n+m) old e h63
  refine ⟨hlen,.inr ⟨w.heap.size,_,_,rfl,Nat.zero_le _,heap_alloc_new w.drew _,hge,hcm,?_,?_⟩⟩
  ·simp only [Array.size_append,List.size_toArray,size_zeroCells,hzs,hlen,<-Nat.add_mul]
   congr 1
   omega
  ·simp only [Array.toList_append]
   rw [<-hlen]
   exact List.take_left
 have gmod:∀ (o:Obj) (S:List Nat),Mod S w (w.drew.alloc o):=fun o S=>((Mod.refl S w).drew).alloc o
 rcases hown.2 with ⟨rfl,rfl⟩ | ⟨g,cap,cur,rfl,hbg,hg,hnc,hcm,hcs,htake⟩
 ·have hx:xs=[]:=List.eq_nil_of_length_eq_zero (by simpa using hown.1)
  subst hx
  by_cases hm:m=0
  ·subst hm
   have hn:news=[]:=List.eq_nil_of_length_eq_zero (by simpa using hl)
   subst hn
   refine ⟨.slice none 0 0,w,?_,World.ownsRow_nil w 0 e i.size,Mod.refl _ _,by simp [fp],.inl (Mod.refl _ _)⟩
   have hc:(Builtin.firstCells i.size 0 x).run P w=.ok #[] w:=hs.cells
   rcases hs.kind with ⟨e',hk⟩ | hk <;> simp [Builtin.append_,run_underlying ht,run_underlying hk,sizeOf,typeInfo,hi,hs.len,hc]
  ·have hr:=run_append_grow_src (P:=P) w t tx ty e i z ht hi hz none 0 0 [] (run_firstCells_none w.drew i.size 0 0 0) x m news hs (by omega) (by omega) (growslice_fits (by omega) hbytes)
   have hgr:=grown 0 (by omega)
   simp only [Nat.zero_add,List.nil_append] at hgr hr ⊢
   exact ⟨_,_,hr,hgr,gmod _ _,by simp [fp],.inl (gmod _ _)⟩
 ·by_cases hroom:n+m<=cap
  ·have hfit:n * i.size+news.length<=cur.size:=by rw [hl,hcs,<-Nat.add_mul];exact Nat.mul_le_mul_right _ hroom
   have hr:=run_append_room_own (P:=P) w t tx ty e i ht hi g n cap cur hg x m news hs hroom hfit
   refine ⟨_,_,hr,⟨hlen,.inr ⟨g,cap,_,rfl,hbg,setRow_heap w g cur _ e _ hg,hroom,hcm,?_,?_⟩⟩,⟨rfl,rfl,rfl,by simp,fun k _ hk=>setRow_other w g k _ (fun e=>hk (by simp [fp,e]))⟩,by simp [fp],.inr (by simp [fp])⟩
   ·simp only [List.size_toArray,List.length_append,List.length_take,List.length_drop,Array.length_toList]
    omega
   ·rw [htake,<-hlen]
    exact List.take_left
  ·have holds:∀ j u,xs[j]?=some u->w.cell? ((⟨g,0,none⟩:Addr).add j)=some u:=hown.cells (g:=g) rfl
   have hr:=run_append_grow_src (P:=P) w t tx ty e i z ht hi hz (some ⟨g,0,none⟩) n cap xs (run_firstCells_some w.drew i.size n ⟨g,0,none⟩ n cap xs hown.1 (by simpa using holds)) x m news hs (by omega) (by omega) (growslice_fits (by omega) hbytes)
   exact ⟨_,_,hr,grown cap (by omega),gmod _ _,by simp [fp],.inl (gmod _ _)⟩
theorem step_append_keep {ops:Array Oper} {o:Oper} {a:Act} {K:Act->World->Prop} {Q:Exit->Act->World->Prop} {E:Prop} (hgd:o.guard=none) (s x:Operand) (t tx:TypeId)
  (ho:o.op=.call { callee:=.builtin .append,args:=#[s,x],argTypes:=#[t,tx] })
  (e:TypeId) (i:TypeInfo) (z:Value) (size bytes:Nat) (ht:P.underlying t=some (.slice e)) (hi:P.info? e=some i) (hz:i.zero=some z)
  (hsize:i.size=size) (hby:i.bytes=bytes) (hzs:z.cells.size=size)
  (v:Value) (n:Nat) (xs:List Value) (hs:a.eval s=v) (hown:w.ownsRow 0 e size v n xs)
  (vx:Value) (m:Nat) (news:List Value) (hx:a.eval x=vx) (hsrc:Src P size tx vx m news w)
  (h63:n+m<=maxLen) (hbytes:(n+m) * bytes<=140737488355328)
  (h:∀ v' w',w'.ownsRow 0 e size v' (n+m) (xs++news)->Mod (fp v) w w'->(∀ k∈fp v',k∈fp v\/w.heap.size<=k)->(Mod [] w w'\/fp v'=fp v)->K (a.put o.dst v') w') :
  if Region.wanted o (yielded ops a.tmps)=true then Oper.wp P o a w K Q else E:=by
 have hw:Region.wanted o (yielded ops a.tmps)=true:=by simp [Region.wanted,hgd]
 rw [if_pos hw]
 obtain ⟨v',w',hr,h2,h3,h4,h5⟩:=run_append_own_keep (P:=P) w t tx o.type e i z size bytes ht hi hz hsize hby hzs v n xs hown vx m news hsrc h63 hbytes
 unfold Oper.wp execOp
 simp only [ho,resolve,invoke,builtin,Sem.run_bind,Sem.run_pure,Result.andThen_ok,List.map_toArray,List.map_cons,List.map_nil,hs,hx,hr]
 exact h v' w' h2 h3 h4 h5
end
/-- what the slice at va shows: the things of l -/
def RAt (w:World) (va:Option Addr) (l:List Va.Val):Prop:=∀ g,va=some ⟨g,0,none⟩->∀ j u,(rowVals l)[j]?=some u->w.cell? ⟨g,j,none⟩=some u
theorem RAt.keep {S:List Nat} {w w':World} {va:Option Addr} {vc:Nat} {l:List Va.Val} (h:RAt w va l) (hm:Mod S w w') (hn:∀ k∈fp (.slice va l.length vc),k∉S):RAt w' va l:=by
 rintro g rfl j u hu
 exact hm.cell (h g rfl j u hu) (hn g (by simp [fp]))
theorem RAt.of {w:World} {va:Option Addr} {vc n:Nat} {l:List Va.Val} {xs:List Value} (h:w.ownsRow 0 28 3 (.slice va n vc) n (rowVals l++xs)):RAt w va l:=by
 rintro g rfl j u hu
 have c:=h.cells (g:=g) rfl j u (by rw [List.getElem?_append_left (List.getElem?_eq_some_iff.1 hu).1];exact hu)
 rwa [addr_add,Nat.zero_add] at c
/-- the old slice shows what it showed -/
theorem RAt.grown {w w':World} {va va':Option Addr} {vc vc' n:Nat} {l:List Va.Val} {xs:List Value} (h:RAt w va l) (ho:w'.ownsRow 0 28 3 (.slice va' n vc') n (rowVals l++xs))
  (hk:Mod [] w w'\/fp (.slice va' n vc')=fp (.slice va l.length vc)):RAt w' va l:=by
 rcases hk with hm | e
 ·exact h.keep (vc:=vc) hm (by simp)
 ·rintro g rfl j u hu
  have e2:va'=some ⟨g,0,none⟩:=by
   rcases ho.2 with ⟨h1,h2⟩ | ⟨g2,cap,cur,h1,-⟩
   ·simp only [Value.slice.injEq] at h1;rw [h1.1] at e;simp [fp] at e
   ·simp only [Value.slice.injEq] at h1
    rw [h1.1] at e ⊢
    simp only [fp,List.cons.injEq,and_true] at e
    rw [e]
  exact RAt.of (e2 ▸ ho) g rfl j u hu
open Go.RowKit Go.Maps
set_option linter.unusedVariables false
set_option linter.unusedSimpArgs false
set_option maxRecDepth 100000
theorem mod_grown {w w':World} {b:Nat} (h:w.grownBy w' (some b)):Mod [b] w w' :=
 ⟨h.os,h.tape,h.output,h.size,fun k hk hn=>h.block k hk (by simpa using fun e=>hn (by simp [e]))⟩
theorem wf_nat (n:Nat) (h:n<=4398046511103):(Lit.int .i64 (n:Nat)).wf=true:=by
 show (decide (IntKind.i64.min<=(n:Int)) && decide ((n:Int)<=IntKind.i64.max))=true
 rw [show IntKind.i64.min=-9223372036854775808 by rfl,show IntKind.i64.max=9223372036854775807 by rfl,Bool.and_eq_true,decide_eq_true_eq,decide_eq_true_eq]
 omega
theorem info_valT:∃ i,Tryd.prog.info? 28=some i/\i.zero=some (.agg (valV Va.zero))/\i.size=3/\i.bytes=32:=by
 have h:=Tryd.infoVal
 cases e:Tryd.prog.info? 28 with
 | none=>rw [e] at h;cases h
 | some i =>
  rw [e] at h
  simp only [Option.map_some,Option.some.injEq,Prod.mk.injEq] at h
  exact ⟨i,rfl,h.1,h.2.1,h.2.2⟩
/-- what a table holds behind Put -/
def tput (l:List Va.Val) (v:Va.Val):List Va.Val:=if v∈l then l else l++[v]
/-- what Put leaves -/
def VtPutR (w:World) (p bm:Nat) (va:Option Addr) (vc:Nat) (l:List Va.Val) (v:Va.Val) (e:Ending) (w':World):Prop :=
 e=.returned (.int .i64 ((tput l v).idxOf v:Nat))/\(∃ (D':DataW Value) (va':Option Addr) (vc':Nat),TabB w' p bm D' va' vc' (tput l v)/\∀ k∈fp (.slice va' (tput l v).length vc'),k∈fp (.slice va l.length vc)\/w.heap.size<=k)/\Mod (p :: bm :: fp (.slice va l.length vc)) w w'/\RAt w' va l
theorem TabB.grow {w w':World} {p bm:Nat} {D:DataW Value} {va va':Option Addr} {vc vc':Nat} {l:List Va.Val} {v:Va.Val} (h:TabB w p bm D va vc l) (hv:VIn v) (hn:v∉l)
  (h1:w'.heap[p]?=some (.cells #[.map (some bm),.slice va' (l.length+1) vc'] 74 (0,0)))
  (h2:w'.ownsMap Tryd.prog 28 (plainElem Tryd.prog 3) bm (l.length+1) (D.put (vkey v) (.lit (.int .i64 (l.length:Nat)))))
  (h3:w'.ownsRow 0 28 3 (.slice va' (l.length+1) vc') (l.length+1) (rowVals l++(valV v).toList))
  (h4:p∉fp (.slice va' (l.length+1) vc')) (h5:bm∉fp (.slice va' (l.length+1) vc')) :
  TabB w' p bm (D.put (vkey v) (.lit (.int .i64 (l.length:Nat)))) va' vc' (l++[v]):=by
 have hD:IsMap D:=h.map.isMap
 have e:rowVals (l++[v])=rowVals l++(valV v).toList:=by rw [rowVals_app];simp [rowVals]
 refine ⟨by simpa using h1,by simpa using h2,by rw [e];simpa using h3,h.ne,by simpa using h4,by simpa using h5,fun x hx=>?_,has_put hD hv h.has _,num_put hD hv h.vin hn h.num,fun i j x hi hj=>?_⟩
 ·rcases List.mem_append.1 hx with hx | hx
  ·exact h.vin x hx
  ·rw [Msq] at hx;subst hx;exact hv
 ·have li:=(List.getElem?_eq_some_iff.1 hi).1
  have lj:=(List.getElem?_eq_some_iff.1 hj).1
  rw [List.length_append,List.length_singleton] at li lj
  by_cases a:i<l.length
  ·rw [List.getElem?_append_left a] at hi
   by_cases b:j<l.length
   ·rw [List.getElem?_append_left b] at hj
    exact h.dup i j x hi hj
   ·obtain rfl:j=l.length:=by omega
    rw [List.getElem?_append_right (Nat.le_refl _),Nat.sub_self,List.getElem?_cons_zero,Option.some.injEq] at hj
    subst hj
    exact absurd (List.mem_of_getElem? hi) hn
  ·obtain rfl:i=l.length:=by omega
   rw [List.getElem?_append_right (Nat.le_refl _),Nat.sub_self,List.getElem?_cons_zero,Option.some.injEq] at hi
   subst hi
   by_cases b:j<l.length
   ·rw [List.getElem?_append_left b] at hj
    exact absurd (List.mem_of_getElem? hj) hn
   ·omega
set_option maxHeartbeats 8000000 in
theorem tabput_any (p bm:Nat) (D:DataW Value) (va:Option Addr) (vc:Nat) (l:List Va.Val) (v:Va.Val) (hv:VIn v) (hl:l.length<=4398046511102) (w:World) (h:TabB w p bm D va vc l) :
  Calls Tryd.prog 35 #[.pointer (some ⟨p,0,none⟩),.agg (valV v)] w (VtPutR w p bm va vc l v):=by
 have mA:=(Mod.refl [] w).alloc (Obj.cells (valV v) 28)
 have eA:=heap_alloc_new w (Obj.cells (valV v) 28)
 have HL:=Hxq (fun w' hm=>h.look v hv w' hm)
 have HK:=Hxq (key_val v hv.1)
 have H0:=Lib.hid h
 have hlt:=lt_of_block h.at_
 have hpm:=h.ne
 have HU:Hid (∀ {Q:Exit->Act->World->Prop},True):=Lib.hid trivial
 have hmx:l.length<maxLen:=by unfold maxLen;omega
 have hwf:=wf_nat l.length (by omega)
 obtain ⟨iV,hV0,hV1,hV2,hV3⟩:=info_valT
 clear h HU
 obtain ⟨R,hR⟩:∃ R,R=VtPutR w p bm va vc l v:=⟨_,rfl⟩
 rw [<-hR]
 have HR:=Lib.hid hR
 clear hR
 obtain ⟨iN,hiN⟩:∃ iN:Int,iN=(tnum l v:Nat):=⟨_,rfl⟩
 rw [<-hiN] at HL
 have HN:=Lib.hid hiN
 obtain ⟨bI,hbI⟩:∃ bI,decide (v∈l)=bI:=⟨_,rfl⟩
 rw [hbI] at HL
 have HB:=Lib.hid hbI
 clear hiN hbI
 have ev:valV v=#[.int .i64 v.k,.int .i64 v.n,.string (Lx.ofS v.s)]:=rfl
 rw [ev] at mA eA HL HK ⊢
 clear ev
 go_enter Tryd.func35,Tryd.ntmps35
 go_upto_region 1 with fail
 generalize w.alloc (Obj.cells _ 28)=w0 at *
 generalize hq:w.heap.size=q at *
 have M0:=Lib.hid mA;have N0:=Lib.hid eA;have P0:=Hxq (mA.at H0.out.at_ (by simp));have B0:=Hxq (ownsMap_modT H0.out.map mA (by simp))
 clear mA eA
 have c0:=cell_at P0.out 0;have c1:=cell_at P0.out 1
 have d0:=cell_at N0.out 0;have d1:=cell_at N0.out 1;have d2:=cell_at N0.out 2
 simp only [List.getElem?_toArray,List.getElem?_cons_zero,List.getElem?_cons_succ] at c0 c1 d0 d1 d2
 go_upto_region 3 with fail
 refine tl_region (fun wS=>Mod [] w0 wS) [] (by kernel_rfl) ?_
 have hHeld:Mod [] w0 w0.drew:=(Mod.refl [] w0).drew
 try simp only [Act.put,Lq1,Lq2,Lq3]
 generalize w0.drew=wd at *
 refine TlAny.take 0 (v:=?_) hHeld ?_ ?_ ?_
 rotate_left 1
 ·refine Or.inl ⟨by rfl,?_⟩
  intro wS hSw
  replace hSw:Mod [] w0 wS:=hSw
  clear hSw
  go_simp
  all_goals with_reducible rfl
 ·exact fun _ _ _ h=>h
 try simp only [Act.put,Lq1,Lq2,Lq3]
 refine TlAny.take 1 (v:=?_) hHeld ?_ ?_ ?_
 rotate_left 1
 ·refine Or.inl ⟨by rfl,?_⟩
  intro wS hSw
  replace hSw:Mod [] w0 wS:=hSw
  clear hSw
  go_simp
  all_goals with_reducible rfl
 ·exact fun _ _ _ h=>h
 try simp only [Act.put,Lq1,Lq2,Lq3]
 refine TlAny.take 2 (v:=?_) hHeld ?_ ?_ ?_
 rotate_left 1
 ·refine Or.inl ⟨by rfl,?_⟩
  intro wS hSw
  replace hSw:Mod [] w0 wS:=hSw
  clear hSw
  go_simp
  all_goals with_reducible rfl
 ·exact fun _ _ _ h=>h
 try simp only [Act.put,Lq1,Lq2,Lq3]
 refine TlAny.take 3 (v:=?_) hHeld ?_ ?_ ?_
 rotate_left 1
 ·refine Or.inl ⟨by rfl,?_⟩
  intro wS hSw
  replace hSw:Mod [] w0 wS:=hSw
  have p:=hSw.cell c0 (by simp)
  clear hSw
  go_simp
  all_goals with_reducible rfl
 ·exact fun _ _ _ h=>h
 try simp only [Act.put,Lq1,Lq2,Lq3]
 refine TlAny.take 4 (v:=?_) hHeld ?_ ?_ ?_
 rotate_left 1
 ·refine Or.inl ⟨by rfl,?_⟩
  intro wS hSw
  replace hSw:Mod [] w0 wS:=hSw
  have p0:=hSw.cell d0 (by simp);have p1:=hSw.cell d1 (by simp);have p2:=hSw.cell d2 (by simp)
  clear hSw
  go_simp
  all_goals with_reducible rfl
 ·exact fun _ _ _ h=>h
 try simp only [Act.put,Lq1,Lq2,Lq3]
 refine TlAny.take 5 (v:=.tuple #[.int .i64 iN,.bool bI]) hHeld ?_ ?_ ?_
 ·refine Or.inl ⟨by rfl,?_⟩
  intro wS hSw
  replace hSw:Mod [] w0 wS:=hSw
  have hrun:=HL.out wS (ownsMap_modT B0.out hSw (by simp))
  clear hSw
  go_simp
 ·exact fun _ _ _ h=>h
 try simp only [Act.put,Lq1,Lq2,Lq3]
 refine TlAny.take 6 (v:=?_) hHeld ?_ ?_ ?_
 rotate_left 1
 ·refine Or.inl ⟨by rfl,?_⟩
  intro wS hSw
  replace hSw:Mod [] w0 wS:=hSw
  clear hSw
  go_simp
  all_goals with_reducible rfl
 ·exact fun _ _ _ h=>h
 try simp only [Act.put,Lq1,Lq2,Lq3]
 refine TlAny.take 7 (v:=?_) hHeld ?_ ?_ ?_
 rotate_left 1
 ·refine Or.inl ⟨by rfl,?_⟩
  intro wS hSw
  replace hSw:Mod [] w0 wS:=hSw
  clear hSw
  go_simp
  all_goals with_reducible rfl
 ·exact fun _ _ _ h=>h
 try simp only [Act.put,Lq1,Lq2,Lq3]
 refine TlAny.take 8 (v:=?_) hHeld ?_ ?_ ?_
 rotate_left 1
 ·refine Or.inl ⟨by rfl,?_⟩
  intro wS hSw
  replace hSw:Mod [] w0 wS:=hSw
  clear hSw
  go_simp
  all_goals with_reducible rfl
 ·exact fun _ _ _ h=>h
 try simp only [Act.put,Lq1,Lq2,Lq3]
 refine TlAny.take 9 (v:=?_) hHeld ?_ ?_ ?_
 rotate_left 1
 ·refine Or.inl ⟨by rfl,?_⟩
  intro wS hSw
  replace hSw:Mod [] w0 wS:=hSw
  clear hSw
  go_simp
  all_goals with_reducible rfl
 ·exact fun _ _ _ h=>h
 try simp only [Act.put,Lq1,Lq2,Lq3]
 refine TlAny.take 10 (v:=?_) hHeld ?_ ?_ ?_
 rotate_left 1
 ·refine Or.inl ⟨by rfl,?_⟩
  intro wS hSw
  replace hSw:Mod [] w0 wS:=hSw
  clear hSw
  go_simp
  all_goals with_reducible rfl
 ·exact fun _ _ _ h=>h
 try simp only [Act.put,Lq1,Lq2,Lq3]
 refine TlAny.fin ?_
 have m3:=hHeld
 have M3:=Hxq (M0.out.trans hHeld (by simp));have N3:=Hxq (hHeld.at N0.out (by simp));have P3:=Hxq (hHeld.at P0.out (by simp));have B3:=Hxq (ownsMap_modT B0.out hHeld (by simp))
 clear m3 hHeld c0 c1 d0 d1 d2
 by_cases hin:v∈l
 ·have hb:bI=true:=by rw [<-HB.out,decide_eq_true hin]
  subst hb
  go_wp2_with fail
  rw [HR.out]
  refine ⟨by show Ending.returned (Value.int .i64 iN)=_;rw [HN.out,tput,if_pos hin,tnum,if_pos hin],⟨D,va,vc,?_,?_⟩,M3.out.mono (by simp),(RAt.of (xs:=[]) (by rw [List.append_nil];exact H0.out.row)).keep (vc:=vc) M3.out (by simp)⟩
  ·rw [tput,if_pos hin];exact H0.out.keep M3.out (by simp) (by simp) (by simp)
  ·rw [tput,if_pos hin];exact fun k hk=>.inl hk
 ·have hb:bI=false:=by rw [<-HB.out,decide_eq_false hin]
  subst hb
  have c0:=cell_at P3.out 0;have c1:=cell_at P3.out 1
  have d0:=cell_at N3.out 0;have d1:=cell_at N3.out 1;have d2:=cell_at N3.out 2
  simp only [List.getElem?_toArray,List.getElem?_cons_zero,List.getElem?_cons_succ] at c0 c1 d0 d1 d2
  go_upto_region 7 with fail
  refine tl_region (fun wS=>Mod [] wd wS) [6] (by kernel_rfl) ?_
  have hHeld:Mod [] wd wd.drew:=(Mod.refl [] wd).drew
  try simp only [Act.put,Lq1,Lq2,Lq3]
  generalize wd.drew=we at *
  refine TlAny.take 0 (v:=?_) hHeld ?_ ?_ ?_
  rotate_left 1
  ·refine Or.inl ⟨by rfl,?_⟩
   intro wS hSw
   replace hSw:Mod [] wd wS:=hSw
   clear hSw
   go_simp
   all_goals with_reducible rfl
  ·exact fun _ _ _ h=>h
  try simp only [Act.put,Lq1,Lq2,Lq3]
  refine TlAny.take 1 (v:=?_) hHeld ?_ ?_ ?_
  rotate_left 1
  ·refine Or.inl ⟨by rfl,?_⟩
   intro wS hSw
   replace hSw:Mod [] wd wS:=hSw
   clear hSw
   go_simp
   all_goals with_reducible rfl
  ·exact fun _ _ _ h=>h
  try simp only [Act.put,Lq1,Lq2,Lq3]
  refine TlAny.take 2 (v:=?_) hHeld ?_ ?_ ?_
  rotate_left 1
  ·refine Or.inl ⟨by rfl,?_⟩
   intro wS hSw
   replace hSw:Mod [] wd wS:=hSw
   clear hSw
   go_simp
   all_goals with_reducible rfl
  ·exact fun _ _ _ h=>h
  try simp only [Act.put,Lq1,Lq2,Lq3]
  refine TlAny.take 3 (v:=?_) hHeld ?_ ?_ ?_
  rotate_left 1
  ·refine Or.inl ⟨by rfl,?_⟩
   intro wS hSw
   replace hSw:Mod [] wd wS:=hSw
   have p:=hSw.cell c0 (by simp)
   clear hSw
   go_simp
   all_goals with_reducible rfl
  ·exact fun _ _ _ h=>h
  try simp only [Act.put,Lq1,Lq2,Lq3]
  refine TlAny.take 4 (v:=?_) hHeld ?_ ?_ ?_
  rotate_left 1
  ·refine Or.inl ⟨by rfl,?_⟩
   intro wS hSw
   replace hSw:Mod [] wd wS:=hSw
   have p0:=hSw.cell d0 (by simp);have p1:=hSw.cell d1 (by simp);have p2:=hSw.cell d2 (by simp)
   clear hSw
   go_simp
   all_goals with_reducible rfl
  ·exact fun _ _ _ h=>h
  try simp only [Act.put,Lq1,Lq2,Lq3]
  refine TlAny.take 5 (v:=?_) hHeld ?_ ?_ ?_
  rotate_left 1
  ·refine Or.inl ⟨by rfl,?_⟩
   intro wS hSw
   replace hSw:Mod [] wd wS:=hSw
   clear hSw
   go_simp
   all_goals with_reducible rfl
  ·exact fun _ _ _ h=>h
  try simp only [Act.put,Lq1,Lq2,Lq3]
  obtain ⟨wi,hrun,hown,hgrow⟩:=(ownsMap_modT B3.out hHeld (by simp)).update (val:=.int .i64 (l.length:Nat)) (d:=.lit (.int .i64 (l.length:Nat))) (ps:=[]) lawVal Tryd.underlying72 hmx HK.out (plainElem_int Tryd.underlying3 hwf)
  refine TlAny.one 6 ?_
  intro K hK
  go_simp
  refine hK.out _ _ (fun hN=>absurd hN (by decide)) ?_
  clear hK K
  try simp only [Act.put,Lq1,Lq2,Lq3]
  have hg:=mod_grown hgrow
  clear hrun hgrow
  refine TlAny.fin ?_
  have M7:Hid (Mod [bm] w wi):=Hxq (((M3.out.trans hHeld (by simp)).mono (T:=[bm]) (by simp)).trans hg (by simp))
  have hbm:=H0.out.map.lt
  have P8:=Hxq (hg.at (hHeld.at P3.out (by simp)) (by rw [Msq];exact hpm))
  have N8:=Hxq (hg.at (hHeld.at N3.out (by simp)) (by rw [Msq];omega))
  have R8:=Hxq (M7.out.owns H0.out.row (fun k hk hs=>H0.out.rm (by rw [Msq] at hs;subst hs;exact hk)))
  have B8:=Lib.hid hown
  have hTl:∀ k∈fp (.slice va l.length vc),k<w.heap.size:=fun k hk=>fp_lt H0.out.row k hk
  have hpT:=H0.out.rp;have hmT:=H0.out.rm
  clear hown hg hHeld c0 c1 d0 d1 d2 P3 N3 B3
  have c1:=cell_at P8.out 1
  have d0:=cell_at N8.out 0;have d1:=cell_at N8.out 1;have d2:=cell_at N8.out 2
  simp only [List.getElem?_toArray,List.getElem?_cons_zero,List.getElem?_cons_succ] at c1 d0 d1 d2
  obtain ⟨T,hT⟩:∃ T:List Nat,T=fp (.slice va l.length vc):=⟨_,rfl⟩
  rw [<-hT] at hTl hpT hmT
  have hqT:q∉T:=fun hk=>by have:=hTl q hk;omega
  go_upto_region 8 with fail
  refine tl_region (fun wS=>Mod T wi wS) [0,1,2,3,8,9,10] (by kernel_rfl) ?_
  have hHeld:Mod T wi wi.drew:=(Mod.refl T wi).drew
  have N0:Mod [] wi wi.drew:=(Mod.refl [] wi).drew
  try simp only [Act.put,Lq1,Lq2,Lq3]
  generalize wi.drew=wj at *
  refine TlAny.pure 0 (v:=?_) ?_ ?_ ?_
  rotate_left 1
  ·refine Or.inl ⟨by rfl,?_⟩
   intro wS _
   go_simp
   all_goals with_reducible rfl
  ·exact fun _ _ _ h=>h
  try simp only [Act.put,Lq1,Lq2,Lq3]
  refine TlAny.pure 1 (v:=?_) ?_ ?_ ?_
  rotate_left 1
  ·refine Or.inl ⟨by rfl,?_⟩
   intro wS _
   go_simp
   all_goals with_reducible rfl
  ·exact fun _ _ _ h=>h
  try simp only [Act.put,Lq1,Lq2,Lq3]
  refine TlAny.pure 2 (v:=?_) ?_ ?_ ?_
  rotate_left 1
  ·refine Or.inl ⟨by rfl,?_⟩
   intro wS _
   go_simp
   all_goals with_reducible rfl
  ·exact fun _ _ _ h=>h
  try simp only [Act.put,Lq1,Lq2,Lq3]
  refine TlAny.pure 3 (v:=?_) ?_ ?_ ?_
  rotate_left 1
  ·refine Or.inl ⟨by rfl,?_⟩
   intro wS _
   go_simp
   all_goals with_reducible rfl
  ·exact fun _ _ _ h=>h
  try simp only [Act.put,Lq1,Lq2,Lq3]
  refine TlAny.take 4 (v:=?_) hHeld ?_ ?_ ?_
  rotate_left 1
  ·refine Or.inl ⟨by rfl,?_⟩
   intro wS hSw
   replace hSw:Mod T wi wS:=hSw
   have p:=hSw.cell c1 hpT
   clear hSw
   go_simp
   all_goals with_reducible rfl
  ·exact fun _ _ _ h=>h
  try simp only [Act.put,Lq1,Lq2,Lq3]
  refine TlAny.take 5 (v:=?_) hHeld ?_ ?_ ?_
  rotate_left 1
  ·refine Or.inl ⟨by rfl,?_⟩
   intro wS hSw
   replace hSw:Mod T wi wS:=hSw
   have p0:=hSw.cell d0 hqT;have p1:=hSw.cell d1 hqT;have p2:=hSw.cell d2 hqT
   clear hSw
   go_simp
   all_goals with_reducible rfl
  ·exact fun _ _ _ h=>h
  try simp only [Act.put,Lq1,Lq2,Lq3]
  refine TlAny.one 6 ?_
  intro K hK
  go_simp
  refine hK.out _ _ (fun _=>hHeld.alloc _) ?_
  clear hK K
  try simp only [Act.put,Lq1,Lq2,Lq3]
  have xb:=heap_alloc_new wj (Obj.cells #[.int .i64 v.k,.int .i64 v.n,.string (Lx.ofS v.s)] 28)
  have mb:=(Mod.refl [] wj).alloc (Obj.cells #[.int .i64 v.k,.int .i64 v.n,.string (Lx.ofS v.s)] 28)
  generalize wj.alloc (Obj.cells _ 28)=wk at *
  generalize wj.heap.size=xx at *
  have N1:=N0.trans mb (by simp)
  have hzk:=N1.size
  have hz8:=M7.out.size
  have SRC:=Hxq (src_val (t:=v) xb)
  have RK:=Hxq (N1.owns R8.out (by simp))
  have PK:=Hxq (N1.at P8.out (by simp))
  have BK:=Hxq (ownsMap_modT B8.out N1 (by simp))
  clear mb xb N0
  refine TlAny.one 7 ?_
  intro K hK
  refine step_append_keep _ rfl _ _ 30 30 rfl 28 iV (.agg (valV Va.zero)) 3 32 Tryd.underlying30 hV0 hV1 hV2 hV3 rfl (.slice va l.length vc) l.length (rowVals l) rfl RK.out _ 1 (valV v).toList rfl SRC.out (by unfold maxLen;omega) (by omega) ?_
  intro v5 w5 hown5 hm5 hf5 hk5
  obtain ⟨ua5,uc5,rfl⟩:=owns_slice hown5
  have KR5:=Hxq (RAt.grown (vc:=vc) (RAt.of (xs:=[]) (by rw [List.append_nil];exact RK.out)) hown5 hk5)
  rw [<-hT] at hm5 hf5
  have P5:=Hxq (hm5.at PK.out hpT)
  have MP5:=Hxq (ownsMap_modT BK.out hm5 hmT)
  have OW5:=Lib.hid hown5
  have HF:=Lib.hid hf5
  have q5:w5.cell? ⟨p,1,none⟩=some (.slice va l.length vc):=cell_at P5.out 1
  have f5:w5.frozen? ⟨p,1,none⟩=false:=free_at P5.out 1
  replace hHeld:Mod T wi w5:=(N1.mono (by simp)).trans hm5 (fun t ht=>.inl ht)
  clear hown5 hm5 hf5 hk5 N1
  refine hK.out _ _ (fun _=>hHeld) ?_
  clear hK K
  try simp only [Act.put,Lq1,Lq2,Lq3]
  refine TlAny.pure 8 (v:=?_) ?_ ?_ ?_
  rotate_left 1
  ·refine Or.inl ⟨by rfl,?_⟩
   intro wS _
   go_simp
   all_goals with_reducible rfl
  ·exact fun _ _ _ h=>h
  try simp only [Act.put,Lq1,Lq2,Lq3]
  refine TlAny.pure 9 (v:=?_) ?_ ?_ ?_
  rotate_left 1
  ·refine Or.inl ⟨by rfl,?_⟩
   intro wS _
   go_simp
   all_goals with_reducible rfl
  ·exact fun _ _ _ h=>h
  try simp only [Act.put,Lq1,Lq2,Lq3]
  refine TlAny.one 10 ?_
  intro K hK
  go_simp
  refine hK.out _ _ (fun hN=>absurd hN (by decide)) ?_
  clear hK K
  try simp only [Act.put,Lq1,Lq2,Lq3]
  refine TlAny.fin ?_
  have hm9:=(Mod.refl [p] w5).setCell (p:=⟨p,1,none⟩) (.inl (by simp)) (.slice ua5 (l.length+1) uc5)
  have h9:=setCell_at P5.out 1 (.slice ua5 (l.length+1) uc5)
  have hpz:p∉fp (.slice ua5 (l.length+1) uc5):=fun hk=>by rcases HF.out p hk with h | h;exact hpT h;omega
  have hbz:bm∉fp (.slice ua5 (l.length+1) uc5):=fun hk=>by rcases HF.out bm hk with h | h;exact hmT h;omega
  have hfin:TabB (w5.setCell ⟨p,1,none⟩ (.slice ua5 (l.length+1) uc5)) p bm (D.put (vkey v) (.lit (.int .i64 (l.length:Nat)))) ua5 uc5 (l++[v]) :=
   H0.out.grow hv hin (by simpa using h9) (ownsMap_modT MP5.out hm9 (by rw [Msq];exact fun e=>hpm e.symm)) (hm9.owns OW5.out (fun k hk hs=>hpz (by rw [Msq] at hs;subst hs;exact hk))) hpz hbz
  have HFI:=Lib.hid hfin
  have HMM:Hid (Mod (p :: bm :: T) w (w5.setCell ⟨p,1,none⟩ (.slice ua5 (l.length+1) uc5))):=Hxq (((M7.out.mono (T:=p :: bm :: T) (by simp)).trans hHeld (fun t ht=>.inl (by simp [ht]))).trans hm9 (fun t ht=>.inl (by rw [Msq] at ht;simp [ht])))
  have KRF:=Hxq (KR5.out.keep (vc:=vc) hm9 (fun k hk hs=>hpT (by rw [hT];rw [Msq] at hs;subst hs;exact hk)))
  clear hm9 h9 hfin hHeld q5 f5
  go_wp2_with fail
  rw [HR.out]
  refine ⟨?_,⟨D.put (vkey v) (.lit (.int .i64 (l.length:Nat))),ua5,uc5,?_,?_⟩,?_,?_⟩
  ·show Ending.returned (Value.int .i64 (l.length:Nat))=_
   rw [tput,if_neg hin,List.idxOf_append,if_neg hin]
   simp
  ·rw [tput,if_neg hin];exact HFI.out
  ·rw [tput,if_neg hin,List.length_append,List.length_singleton,<-hT];intro k hk;rcases HF.out k hk with h | h;exact .inl h;exact .inr (by omega)
  ·rw [<-hT];exact HMM.out
  ·exact KRF.out
/-- an iterator over the table that block q holds -/
def tabF (q:Nat):Value:=.func (.func 31) #[] #[.pointer (some ⟨q,0,none⟩)]
theorem all_any (t:Value) (w:World) (ht:t.oneCell'=true) (hc:t.cells=#[t]):Calls Tryd.prog 10 #[t] w fun e w'=>e=.returned (tabF w.heap.size)/\w'.heap[w.heap.size]?=some (.cells #[t] 25 (0,0))/\Mod [] w w':=by
 have mA:=(Mod.refl [] w).alloc (Obj.cells #[t] 25)
 have eA:=heap_alloc_new w (Obj.cells #[t] 25)
 have MA:=Lib.hid mA;have EA:=Lib.hid eA
 clear mA eA
 unfold tabF
 go_enter Tryd.func10,Tryd.ntmps10
 go_wp2_with fail
 go_ret
 exact ⟨rfl,EA.out,MA.out⟩
/-- a thing's number in a list; -1, if it is not there -/
def lat (l:List Va.Val) (v:Va.Val):Int:=if v∈l then (l.idxOf v:Nat) else -1
theorem idxOf_of {l:List Va.Val} {v:Va.Val} {k:Nat} (h:l[k]?=some v) (hn:v∉l.take k):l.idxOf v=k:=by
 have hm:=List.mem_of_getElem? h
 obtain ⟨e1,e2⟩:=idxOf_first hm
 rcases Nat.lt_trichotomy (l.idxOf v) k with a | a | a
 ·exact absurd (List.mem_of_getElem? (i:=l.idxOf v) (by rw [List.getElem?_take,if_pos a];exact e1)) hn
 ·exact a
 ·exact absurd h (e2 k a)
set_option maxHeartbeats 1000000 in
theorem idx_any (u:Value) (l:List Va.Val) (v:Va.Val) (hx:∀ x∈l,VB x) (hy:VB v) (hl:l.length<=140737488355328) (w:World) (h:VRow w u l) :
  Calls Tryd.prog 28 #[u,.agg (valV v)] w fun e w'=>e=.returned (.int .i64 (lat l v))/\Mod [] w w':=by
 obtain ⟨a,c,rfl⟩:=h.lit
 have mA:=(Mod.refl [] w).alloc (Obj.cells #[.int .i64 v.k,.int .i64 v.n,.string (Lx.ofS v.s)] 28)
 have eA:=heap_alloc_new w (Obj.cells #[.int .i64 v.k,.int .i64 v.n,.string (Lx.ofS v.s)] 28)
 have H:=Lib.hid h
 clear h
 unfold valV
 go_enter Tryd.func28,Tryd.ntmps28
 go_upto_region 1 with fail
 generalize w.alloc (Obj.cells _ 28)=w0 at *
 generalize hq:w.heap.size=q at *
 have M0:=Lib.hid mA;have N0:=Lib.hid eA
 clear mA eA
 go_wp2_with fail
 go_loopw [5] (fun iv wr=>∃ k:Nat,k<=l.length/\iv=.int .i64 (k:Nat)/\v∉l.take k/\Mod [] w0 wr) (fun iv _=>l.length - (intOf iv).toNat)
 case atStart=>exact ⟨0,Nat.zero_le _,rfl,by simp,Mod.refl _ _⟩
 case round =>
  obtain ⟨k,hk,rfl,hal,hmr⟩:=hrel
  have d0:=hmr.cell (cell_at N0.out 0) (by simp);have d1:=hmr.cell (cell_at N0.out 1) (by simp);have d2:=hmr.cell (cell_at N0.out 2) (by simp)
  by_cases hlt:k<l.length
  ·have hkI:(k:Int)<(l.length:Int):=by omega
   have hk0:(0:Int)<=(k:Int):=by omega
   obtain ⟨b,off,rfl,hv⟩:=((H.out.past M0.out (by simp)).past hmr (by simp)).at k hlt
   obtain ⟨c00,c01,c02⟩:=hv
   have hxk:=hx _ (List.getElem_mem hlt)
   have hgk:l[k]?=some l[k]:=List.getElem?_eq_getElem hlt
   have htk:l.take (k+1)=l.take k++[l[k]]:=List.take_succ_eq_append_getElem hlt
   generalize l[k]=x at *
   by_cases e:x=v
   ·subst e
    have HE:Hid (lat l x=(k:Nat)):=Hxq (by rw [lat,if_pos (List.mem_of_getElem? hgk),idxOf_of hgk hal])
    clear hal hgk htk
    go_wp2_with fail
    go_quiet (fail)
    go_wp2_with fail
    go_ret
    exact ⟨by rw [HE.out];rfl,M0.out.trans (by first | exact hmr.drewN _ | exact hmr.drew | exact hmr) (by simp)⟩
   ·have HN:Hid (v∉l.take (k+1)):=Hxq (by rw [htk];simp [hal,Ne.symm e])
    have hne:¬ (x.k=v.k/\x.n=v.n/\x.s=v.s):=fun hh=>e (val_ext hh.1 hh.2.1 hh.2.2)
    clear hal hgk htk e
    by_cases e1:x.k=v.k
    ·by_cases e2:x.n=v.n
     ·have e3:=ofS_beq hxk hy (fun e3=>hne ⟨e1,e2,e3⟩)
      rw [<-e1] at d0
      rw [<-e2] at d1
      clear e1 e2 hne hxk
      go_wp2_with fail
      go_quiet (fail)
      go_wp2_with fail
      go_roundw
      case rel=>exact ⟨k+1,by omega,by go_num,HN.out,by first | exact hmr.drewN _ | exact hmr.drew | exact hmr⟩
      case measure=>simp [intOf];omega
     ·have e3:(x.n == v.n)=false:=by rw [beq_eq_false_iff_ne];exact e2
      rw [<-e1] at d0
      clear e1 hne hxk
      go_wp2_with fail
      go_quiet (fail)
      go_wp2_with fail
      go_roundw
      case rel=>exact ⟨k+1,by omega,by go_num,HN.out,by first | exact hmr.drewN _ | exact hmr.drew | exact hmr⟩
      case measure=>simp [intOf];omega
    ·have e3:(x.k == v.k)=false:=by rw [beq_eq_false_iff_ne];exact e1
     clear hne hxk
     go_wp2_with fail
     go_quiet (fail)
     go_wp2_with fail
     go_roundw
     case rel=>exact ⟨k+1,by omega,by go_num,HN.out,by first | exact hmr.drewN _ | exact hmr.drew | exact hmr⟩
     case measure=>simp [intOf];omega
  ·obtain rfl:k=l.length:=by omega
   have hkI:¬ (l.length:Int)<(l.length:Int):=by omega
   have HE:Hid (lat l v=-1):=Hxq (by rw [List.take_length] at hal;rw [lat,if_neg hal])
   clear hal
   go_wp2_with fail
   go_ret
   exact ⟨by rw [HE.out];rfl,M0.out.trans (by first | exact hmr.drewN _ | exact hmr.drew | exact hmr) (by simp)⟩
set_option maxHeartbeats 4000000 in
theorem clone_any (ts:List Va.Val) (hl:ts.length<=4398046511103) (u:Value) (w:World) (h:VRow w u ts) :
  Calls Tryd.prog 61 #[u] w fun e w'=>∃ v,e=.returned v/\VOwn w' w.heap.size v ts/\Mod [] w w':=by
 obtain ⟨i0,hinf,hz0,hz1,hz2⟩:=info_parts Tryd.infoVal
 have q1:∀ (w:World) (a:Option Addr) (n c n' c':Nat),(binOp .eql 30 (.slice a n c) (.slice none n' c')).run Tryd.prog w=.ok (.bool a.isNone) w:=fun w a n c n' c'=>Lib.run_eql_slice_nil w _ _ a n c n' c' Tryd.underlying30
 obtain ⟨a,c,rfl⟩:=h.lit
 cases a with
 | none =>
  obtain rfl:ts=[]:=by
   rcases h with ⟨a,c,-,h⟩ | ⟨b,off,cap,h,-⟩
   ·exact h
   ·cases h
  clear h
  go_enter Tryd.func61,Tryd.ntmps61
  go_wp2
  go_ret
  exact ⟨_,rfl,VOwn.nil _ _,Mod.refl _ _⟩
 | some ad =>
  have m1:=(Mod.refl [] w).alloc (Obj.cells #[] 28)
  have S1:=Hxq (src_vals (h.past m1 (by simp)))
  have O1:Hid ((w.alloc (Obj.cells #[] 28)).ownsRow 0 28 3 (.slice (some ⟨w.heap.size,0,none⟩) 0 0) 0 []):=Hxq (World.ownsRow_made w #[] 0 (Nat.zero_le _) (Nat.zero_le _) rfl)
  have M1:=Lib.hid m1
  clear h m1
  go_enter Tryd.func61,Tryd.ntmps61
  go_wp2_with (at_builtin;refine wpList_append_src _ rfl _ _ 30 30 rfl 28 i0 (.agg (valV Va.zero)) 3 32 Tryd.underlying30 hinf hz0 hz1 hz2 rfl (.slice (some ⟨w.heap.size,0,none⟩) 0 0) 0 [] rfl O1.out _ ts.length (rowVals ts) rfl S1.out (by unfold maxLen;omega) (by omega) ?_)
  intro v' w1 hown hmod hfresh hnil
  have hm:Mod [] w w1:=M1.out.trans hmod (fun t ht=>.inr (by simp [fp] at ht;omega))
  have HO:Hid (VOwn w1 w.heap.size v' ts/\Mod [] w w1):=Lib.hid ⟨⟨by simpa using hown,fun k hk=>by have:=hfresh k hk;simp [fp] at this;omega⟩,hm⟩
  clear hown hmod hfresh hnil hm
  go_wp2_with fail
  go_ret
  exact ⟨_,rfl,HO.out⟩
theorem len_nil (w:World):Calls Tryd.prog 11 #[.pointer none] w fun e w'=>e=.returned (.int .i64 0)/\Mod [] w w':=by
 go_enter Tryd.func11,Tryd.ntmps11
 go_wp2_with fail
 go_ret
 exact ⟨rfl,Mod.refl _ _⟩
theorem copy_nil (w:World):Calls Tryd.prog 30 #[.pointer none] w fun e w'=>e=.returned (.pointer none)/\Mod [] w w':=by
 go_enter Tryd.func30,Tryd.ntmps30
 go_wp2_with fail
 go_ret
 exact ⟨rfl,Mod.refl _ _⟩
theorem put_nil (v:Va.Val) (w:World):Calls Tryd.prog 35 #[.pointer none,.agg (valV v)] w fun e w'=>e=.returned (.int .i64 0)/\Mod [] w w':=by
 have mA:=Hxq ((Mod.refl [] w).alloc (Obj.cells #[.int .i64 v.k,.int .i64 v.n,.string (Lx.ofS v.s)] 28))
 unfold valV
 go_enter Tryd.func35,Tryd.ntmps35
 go_wp2_with fail
 go_ret
 exact ⟨rfl,mA.out⟩
theorem find_nil (v:Va.Val) (w:World):Calls Tryd.prog 27 #[.pointer none,.agg (valV v)] w fun e w'=>e=.returned (.tuple #[.int .i64 0,.bool false])/\Mod [] w w':=by
 have mA:=Hxq ((Mod.refl [] w).alloc (Obj.cells #[.int .i64 v.k,.int .i64 v.n,.string (Lx.ofS v.s)] 28))
 unfold valV
 go_enter Tryd.func27,Tryd.ntmps27
 go_wp2_with fail
 go_ret2
 exact ⟨rfl,mA.out⟩
set_option maxHeartbeats 1000000 in
theorem at_nil (i:Int) (w:World):Calls Tryd.prog 29 #[.pointer none,.int .i64 i] w fun e w'=>e=.returned (.tuple #[.agg #[.int .i64 0,.int .i64 0,.string ⟨#[]⟩],.bool false])/\Mod [] w w':=by
 have mA:=(Mod.refl [] w).alloc (Obj.cells #[.int .i64 0,.int .i64 0,.string ⟨#[]⟩] 28)
 have eA:=heap_alloc_new w (Obj.cells #[.int .i64 0,.int .i64 0,.string ⟨#[]⟩] 28)
 have MA:=Lib.hid mA;have EA:=Lib.hid eA
 clear mA eA
 go_enter Tryd.func29,Tryd.ntmps29
 go_upto_region 2 with fail
 generalize w.alloc (Obj.cells _ 28)=w0 at *
 generalize hq:w.heap.size=q at *
 have mB:=(Mod.refl [] w0).alloc (Obj.cells #[.int .i64 0,.int .i64 0,.string ⟨#[]⟩] 28)
 have eB:=heap_alloc_new w0 (Obj.cells #[.int .i64 0,.int .i64 0,.string ⟨#[]⟩] 28)
 have nA:=mB.at EA.out (by simp)
 have d0:=cell_at nA 0;have d1:=cell_at nA 1;have d2:=cell_at nA 2
 have b0:=cell_at eB 0;have b1:=cell_at eB 1;have b2:=cell_at eB 2
 simp only [List.getElem?_toArray,List.getElem?_cons_zero,List.getElem?_cons_succ] at d0 d1 d2 b0 b1 b2
 have fq:=fun j=>free_at nA j
 have HS:=Hxq (setCs_row (vs:=[.int .i64 0,.int .i64 0,.string ⟨#[]⟩]) nA rfl)
 have HM:=Hxq ((MA.out.trans mB (by simp)).trans (setCs_mod q [.int .i64 0,.int .i64 0,.string ⟨#[]⟩] 0 _) (fun t ht=>.inr (by rw [Msq] at ht;omega)))
 clear mB eB nA
 go_wp2_with fail
 refine bodyPost_ret (res_at rfl _ _ q #[.int .i64 0,.int .i64 0,.string ⟨#[]⟩] _ _ (.bool false) rfl rfl HS.out (by kernel_rfl)) rfl ⟨rfl,HM.out⟩
open Go.RowKit Go.Shelf
attribute [local go_sem] Oper.semAt_some
theorem mod_putObj (W:World) (l:Nat) (o:Obj):Mod [l] W (W.putObj l o):=⟨rfl,rfl,rfl,by simp,fun k _ hk=>World.putObj_heap_other (by simpa using hk)⟩
/-- no operation of these is a defer statement -/
def noDefer (l:List Oper):Bool:=l.all fun o=>match o.op with | .defer _=>false | _=>true
theorem noDefer_spec {l:List Oper} (h:noDefer l=true):∀ o∈l,∀ c,o.op≠.defer c:=by
 intro o ho c hc
 have:=List.all_eq_true.1 h o ho
 simp [hc] at this
section
variable {P:Program} {C:World->Prop} {l n:Nat}
theorem wpIn_of_quiet {o:Oper} {a:Act} {K:Act->Prop} {K':Act->World->Prop} {Q':Exit->Act->World->Prop} {w:World} (hd:∀ c,o.op≠.defer c) (hw:C w) (h:∀ a w',C w'->K a->K' a w') (hh:o.quiet P a C K) :
  o.wpIn (Fence.wide.inRound l) n P a w K' Q':=by
 obtain ⟨v,h1,h2⟩:=hh
 have h3:=h1 w hw
 unfold Oper.quietAt at h3
 refine ⟨fun _ _=>trivial,?_⟩
 rw [Oper.semAt_eq _ _ _ hd]
 generalize (execOp a.eval o).run P w=r at *
 cases r with
 | ok x w' =>
  cases x <;> simp only [Oper.quietUpon] at h3 <;> simp only [Oper.uponIn]
  case value u =>
   obtain ⟨e1,e2⟩:=h3
   rw [e1,e2]
   exact h _ _ hw h2
  case skip =>
   obtain ⟨e1,e2⟩:=h3
   rw [e1,<-e2]
   exact h _ _ hw h2
  case enter f args =>
   obtain ⟨e1,hc⟩:=h3
   rw [e1]
   exact ⟨fun hh=>(by cases hh),CallsIn.inRound l (CallsIn.mono (callsIn_wide.2 hc) fun e w'' ⟨he,hw''⟩=>by subst he;exact h _ _ hw'' h2)⟩
 | halt x w'=>simp only [Oper.quietUpon] at h3
theorem wpAnyIn_of_quiet {ops:Array Oper} {md:Region.Mode} (hd:∀ o∈ops.toList,∀ c,o.op≠.defer c) {Q:Act->Prop} {Q':Exit->Act->World->Prop} (hQ:∀ a w,C w->Q a->Q' .normal a w):∀ (fuel:Nat) (listed:Array Bool) (a:Act) (w:World),C w ->
  wpAnyQ P md ops C Q fuel listed a->wpAnyIn (Fence.wide.inRound l) n P md ops Q' fuel listed a w
 | 0,_,_,_,hw,h=>⟨h.1,hQ _ _ hw h.2⟩
 | fuel+1,_,a,w,hw,h=>⟨fun h0=>hQ _ _ hw (h.1 h0),fun i hi=>by
  have hh:=h.2 i hi
  unfold qOp at hh
  unfold wpOpIn
  split
  ·rename_i ho;simp only [ho] at hh;exact wpAnyIn_of_quiet hd hQ fuel _ _ _ hw hh
  ·rename_i o ho
   simp only [ho] at hh
   split
   ·rename_i hwn
    simp only [hwn,if_true] at hh
    exact wpIn_of_quiet (hd o (by rw [<-Array.getElem?_toList] at ho;exact List.mem_of_getElem? ho)) hw (fun a' w' hw'=>wpAnyIn_of_quiet hd hQ fuel _ a' w' hw') hh
   ·rename_i hwn
    simp only [hwn] at hh
    exact ⟨fun _ _=>trivial,wpAnyIn_of_quiet hd hQ fuel _ _ _ hw hh⟩⟩
/-- a drawn region that only reads, in a round -/
theorem wpIn_region_quiet_lit {id:Nat} {Q:Exit->Act->World->Prop} {a:Act} {w:World} {ops:List Oper} (hm:P.follows .mixedOrders=true) (hB:Region.lexB .any ops.toArray=true) (hd:noDefer ops=true)
  (h:wpQuiet P ops.toArray (fun w'=>∃ n,w'=w.drewN n) (fun a'=>∀ w',(∃ n,w'=w.drewN n)->Q .normal a' w') ops a):(Code.region id ops.toArray true).wpIn (Fence.wide.inRound l) n P Q a w:=by
 simp only [Region.lexB,Bool.and_eq_true] at hB
 refine wpIn_region_any hm (wpAnyIn_of_quiet (C:=fun w'=>∃ n,w'=w.drewN n) (by simpa using noDefer_spec hd) (Q:=fun a'=>∀ w',(∃ n,w'=w.drewN n)->Q .normal a' w') (fun _ w' hw' h=>h w' hw') _ _ _ _ ⟨1,rfl⟩ ?_)
 have:=wpAnyQ_lex (C:=fun w'=>∃ n,w'=w.drewN n) (md:=.any) (Q:=fun a'=>∀ w',(∃ n,w'=w.drewN n)->Q .normal a' w') hB.1 ops 0 (Array.replicate ops.toArray.size false) a (by simp) (by simpa using hB.2) h
 simpa using this
end
end Go.Proofs.YtdablillhbfgkaaDoor
