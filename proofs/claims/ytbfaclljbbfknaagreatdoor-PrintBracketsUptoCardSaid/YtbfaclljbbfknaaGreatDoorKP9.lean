/- THE TEXTS MERGED: SyList SyAtom SyAtom2 SyDeep. -/
import Derived.Test.YtbfaclljbbfknaaGreatDoorKP8
import Derived.Deep.RegionLaw
namespace Go.Proofs.YtbfaclljbbfknaaGreatDoor
open Go.RowKit
set_option linter.unusedVariables false
set_option linter.unusedSimpArgs false
set_option maxRecDepth 100000
/-- what a call of a list's kind leaves: Inv of what has been read; Fr where it ends in a panic -/
def LRes {α:Type} (b:Nat) (ra:Option Addr) (rc:Nat) (f:Value) (v:Sy.Env) (r:Sy.PR (List α)) (Inv:List α->World->Prop) (Fr:World->Prop) (e:Ending) (w':World):Prop :=
 match r with
 | .ok l j=>e=.returned (.tuple #[])/\Inv l w'/\RdP w' b ra rc f v j
 | .err g=>e=stopE g/\Fr w'
def ORes {α:Type} (b:Nat) (ra:Option Addr) (rc:Nat) (f:Value) (v:Sy.Env) (r:Sy.PR α) (acc:List α) (Inv:List α->World->Prop) (Fr:World->Prop) (e:Ending) (w':World):Prop :=
 match r with
 | .ok a j=>e=.returned (.tuple #[])/\Inv (acc++[a]) w'/\RdP w' b ra rc f v j
 | .err g=>e=stopE g/\Fr w'
theorem listF_eq {α:Type} (v:Sy.Env) (fin:List Nat) (one:Nat->Sy.PR α) (k:Nat) (acc:List α) (i:Nat) :
  Sy.listF v fin one (k+1) acc i=if Sy.sign (v.tk i) [44]=true then (one (i+1)).bind fun a j=>Sy.listF v fin one k (acc++[a]) j else (Sy.must v fin i).bind fun _ j=>.ok acc j:=rfl
set_option maxHeartbeats 2000000 in
theorem list_any {α:Type} (b:Nat) (ra:Option Addr) (rc:Nat) (f:Value) (v:Sy.Env) (fin:List Nat) (s:ByteArray) (hs:Lx.ofS fin=s) (hf:∀ c∈fin,c<256) (one:Nat->Sy.PR α) (hadv:Sy.Adv v one) (n:Nat) (lb:Array Value)
  (he:∀ (args:Array Value) (w:World),(callFunc n args).run Tryz.prog w=.ok (.enter n args) w) (Inv:List α->World->Prop) (Fr:World->Prop)
  (hone:∀ acc j w,Inv acc w->RdP w b ra rc f v j->j<=65536->acc.length<=65537->Calls Tryz.prog n lb w (ORes b ra rc f v (one j) acc Inv Fr))
  (hmod:∀ acc w w',Inv acc w->Mod [b] w w'->Inv acc w') (hfr:∀ acc w,Inv acc w->Fr w)
  (i:Nat) (w:World) (h:RdP w b ra rc f v i) (hI:Inv [] w) (hv:EnvOk v) (hi:i<=v.ws.length) :
  Calls Tryz.prog 59 #[.pointer (some ⟨b,0,none⟩),.string s,.func (.func n) #[] lb] w (LRes b ra rc f v (Sy.list v fin one i) Inv Fr):=by
 have hlen:=hv.len
 have HR:Hid (Sy.list v fin one i=if Sy.sign (v.tk i) fin=true then .ok [] (i+1) else (one i).bind fun a j=>Sy.listF v fin one (v.ws.length+1) [a] j):=Lib.hid rfl
 have HM:=Hxq (may_any b ra rc f v i fin s w h hv (by omega) hs hf)
 have HMu:=Hxq (fun j w h (hj:j<=65536)=>must_any b ra rc f v j fin s w h hv (by omega) hs hf)
 have HMc:=Hxq (fun j w h (hj:j<=65536)=>may_any b ra rc f v j [44] { data:=#[44] } w h hv (by omega) rfl (by decide))
 have HO:=Lib.hid hone;have HMod:=Lib.hid hmod;have HF:=Lib.hid hfr;have HI:=Lib.hid hI;have HA:=Lib.hid hadv
 have hlt1:=fun h=>Sy.sign_lt (v:=v) (i:=i) (s:=fin) h
 generalize Sy.sign (v.tk i) fin=r at *
 generalize hq:Sy.list v fin one i=q at *
 clear hone hmod hfr hI hadv h hs hq
 cases r
 ·have hq:q=(one i).bind fun a j=>Sy.listF v fin one (v.ws.length+1) [a] j:=HR.out
  clear HR hlt1
  cases ho:one i with
  | err g =>
   rw [ho] at hq
   have hq2:q=.err g:=hq
   subst hq2
   have HHo:=Lib.hid ho
   clear hq ho
   go_enter Tryz.func59,Tryz.ntmps59
   go_wp2_with fail
   refine HM.out.mono ?_
   rintro e1 w1 ⟨rfl,h1,m1⟩
   have H1:=Hxq (show RdP w1 b ra rc f v i from h1);have I1:=Hxq (HMod.out _ _ _ HI.out m1)
   clear h1 m1
   go_wp2_with fail
   refine (HO.out [] i w1 I1.out H1.out (by omega) (by simp)).mono ?_
   rw [HHo.out]
   rintro e2 w2 ⟨rfl,f2⟩
   have F2:=Lib.hid f2
   clear f2
   unfold stopE
   go_wp2_with fail
   exact ⟨rfl,rfl,F2.out⟩
  | ok a0 j0 =>
   rw [ho] at hq
   have hq2:q=Sy.listF v fin one (v.ws.length+1) [a0] j0:=hq
   have hj0:=HA.out i a0 j0 hi ho
   have HHo:=Lib.hid ho;have HQ:=Lib.hid hq2
   clear hq hq2 ho
   go_enter Tryz.func59,Tryz.ntmps59
   go_wp2_with fail
   refine HM.out.mono ?_
   rintro e1 w1 ⟨rfl,h1,m1⟩
   have H1:=Hxq (show RdP w1 b ra rc f v i from h1);have I1:=Hxq (HMod.out _ _ _ HI.out m1)
   clear h1 m1
   go_wp2_with fail
   refine (HO.out [] i w1 I1.out H1.out (by omega) (by simp)).mono ?_
   rw [HHo.out]
   rintro e2 w2 ⟨rfl,i2,h2⟩
   have I2:=Lib.hid i2;have H2:=Lib.hid h2
   clear i2 h2
   go_wp2_with fail
   go_loopg [] (v.ws.length+1) (fun gk wr=>∃ (j:Nat) (acc:List α),Inv acc wr/\RdP wr b ra rc f v j/\j<=v.ws.length/\v.ws.length+1<=gk+j/\acc.length<=j+1/\q=Sy.listF v fin one gk acc j)
   case atStart=>exact ⟨j0,[a0],by simpa using I2.out,H2.out,hj0.2,by omega,by simp,HQ.out⟩
   case round =>
    obtain ⟨j,acc,iv,hr,hj,hgk,hal,hq⟩:=hrel
    obtain ⟨g',rfl⟩:∃ g',gk=g'+1:=⟨gk - 1,by omega⟩
    rw [listF_eq] at hq
    have IV:=Lib.hid iv;have HRd:=Lib.hid hr;have HQ2:=Lib.hid hq
    have HMy:=Hxq (HMc.out j wr hr (by omega))
    have hslt:=fun h=>Sy.sign_lt (v:=v) (i:=j) (s:=[44]) h
    clear iv hr hq HQ
    generalize Sy.sign (v.tk j) [44]=sg at *
    cases sg
    ·have hq:q=(Sy.must v fin j).bind fun _ j=>.ok acc j:=HQ2.out
     clear HQ2 hslt
     go_wp2_with fail
     refine HMy.out.mono ?_
     rintro e3 w3 ⟨rfl,h3,m3⟩
     have H3:=Hxq (show RdP w3 b ra rc f v j from h3);have I3:=Hxq (HMod.out _ _ _ IV.out m3)
     have HU:=Hxq (HMu.out j w3 h3 (by omega))
     clear h3 m3
     generalize Sy.must v fin j=mu at *
     cases mu with
     | err g =>
      have hq2:q=.err g:=hq
      subst hq2
      clear hq
      go_wp2_with fail
      refine HU.out.mono ?_
      rintro e4 w4 ⟨rfl,m4⟩
      have F4:=Hxq (HF.out _ _ (HMod.out _ _ _ I3.out m4))
      clear m4
      unfold stopE
      go_wp2_with fail
      exact ⟨rfl,rfl,F4.out⟩
     | ok u j4 =>
      have hq2:q=.ok acc j4:=hq
      subst hq2
      clear hq
      go_wp2_with fail
      refine HU.out.mono ?_
      rintro e4 w4 ⟨x,rfl,hx,h4,m4⟩
      unfold valU at hx
      subst hx
      have I4:=Hxq (HMod.out _ _ _ I3.out m4);have H4:=Lib.hid h4
      clear m4 h4
      go_wp2_with fail
      go_end0
      exact ⟨rfl,I4.out,H4.out⟩
    ·have hq:q=(one (j+1)).bind fun a j=>Sy.listF v fin one g' (acc++[a]) j:=HQ2.out
     have hjl:j<v.ws.length:=hslt rfl
     clear HQ2 hslt
     cases ho:one (j+1) with
     | err g =>
      rw [ho] at hq
      have hq2:q=.err g:=hq
      subst hq2
      have HHo2:=Lib.hid ho
      clear hq ho
      go_wp2_with fail
      refine HMy.out.mono ?_
      rintro e3 w3 ⟨rfl,h3,m3⟩
      have H3:=Hxq (show RdP w3 b ra rc f v (j+1) from h3);have I3:=Hxq (HMod.out _ _ _ IV.out m3)
      clear h3 m3
      go_wp2_with fail
      refine (HO.out acc (j+1) w3 I3.out H3.out (by omega) (by omega)).mono ?_
      rw [HHo2.out]
      rintro e4 w4 ⟨rfl,f4⟩
      have F4:=Lib.hid f4
      clear f4
      unfold stopE
      go_wp2_with fail
      exact ⟨rfl,rfl,F4.out⟩
     | ok a1 j1 =>
      rw [ho] at hq
      have hq2:q=Sy.listF v fin one g' (acc++[a1]) j1:=hq
      have hj1:=HA.out (j+1) a1 j1 (by omega) ho
      have HHo2:=Lib.hid ho;have HQ3:=Lib.hid hq2
      clear hq hq2 ho
      go_wp2_with fail
      refine HMy.out.mono ?_
      rintro e3 w3 ⟨rfl,h3,m3⟩
      have H3:=Hxq (show RdP w3 b ra rc f v (j+1) from h3);have I3:=Hxq (HMod.out _ _ _ IV.out m3)
      clear h3 m3
      go_wp2_with fail
      refine (HO.out acc (j+1) w3 I3.out H3.out (by omega) (by omega)).mono ?_
      rw [HHo2.out]
      rintro e4 w4 ⟨rfl,i4,h4⟩
      have I4:=Lib.hid i4;have H4:=Lib.hid h4
      clear i4 h4
      go_wp2_with fail
      go_roundg g'
      case measure=>omega
      case rel=>exact ⟨j1,acc++[a1],I4.out,H4.out,hj1.2,by omega,by simp;omega,HQ3.out⟩
 ·have hq:q=.ok [] (i+1):=HR.out
  subst hq
  clear HR hlt1
  go_enter Tryz.func59,Tryz.ntmps59
  go_wp2_with fail
  refine HM.out.mono ?_
  rintro e1 w1 ⟨rfl,h1,m1⟩
  have H1:=Hxq (show RdP w1 b ra rc f v (i+1) from h1);have I1:=Hxq (HMod.out _ _ _ HI.out m1)
  clear h1 m1
  go_wp2_with fail
  refine bodyPost_ret (results_none rfl _ _ _) rfl ?_
  exact ⟨rfl,I1.out,H1.out⟩
section
variable {P:Program} (w:World)
theorem step_append_src {ops:Array Oper} {o:Oper} {a:Act} {K:Act->World->Prop} {Q:Exit->Act->World->Prop} {E:Prop} (hgd:o.guard=none) (s x:Operand) (t tx:TypeId)
  (ho:o.op=.call { callee:=.builtin .append,args:=#[s,x],argTypes:=#[t,tx] })
  (e:TypeId) (i:TypeInfo) (z:Value) (size bytes:Nat) (ht:P.underlying t=some (.slice e)) (hi:P.info? e=some i) (hz:i.zero=some z)
  (hsize:i.size=size) (hby:i.bytes=bytes) (hzs:z.cells.size=size)
  (v:Value) (n:Nat) (xs:List Value) (hs:a.eval s=v) (hown:w.ownsRow 0 e size v n xs)
  (vx:Value) (m:Nat) (news:List Value) (hx:a.eval x=vx) (hsrc:Src P size tx vx m news w)
  (h63:n+m<=maxLen) (hbytes:(n+m) * bytes<=140737488355328)
  (h:∀ v' w',w'.ownsRow 0 e size v' (n+m) (xs++news)->Mod (fp v) w w'->(∀ k∈fp v',k∈fp v\/w.heap.size<=k)->K (a.put o.dst v') w') :
  if Region.wanted o (yielded ops a.tmps)=true then Oper.wp P o a w K Q else E:=by
 have hw:Region.wanted o (yielded ops a.tmps)=true:=by simp [Region.wanted,hgd]
 rw [if_pos hw]
 obtain ⟨v',w',hr,h2,h3,h4,h5⟩:=run_append_own_src (P:=P) w t tx o.type e i z size bytes ht hi hz hsize hby hzs v n xs hown vx m news hsrc h63 hbytes
 unfold Oper.wp execOp
 simp only [ho,resolve,invoke,builtin,Sem.run_bind,Sem.run_pure,Result.andThen_ok,List.map_toArray,List.map_cons,List.map_nil,hs,hx,hr]
 exact h v' w' h2 h3 h4
end
/-- one thing, as what is appended -/
theorem src_one {w:World} {g n:Nat} {cs:Array Value} {T TS e:TypeId} {fr:Nat × Nat} (hu:Tryz.prog.underlying TS=some (.slice e)) (h:w.heap[g]?=some (.cells cs T fr)) (hn:cs.size=n) (h1:∀ u∈cs.toList,u.oneCell'=true) :
  Src Tryz.prog n TS (.slice (some ⟨g,0,none⟩) 1 1) 1 cs.toList w:=by
 refine Src.ofSlice w hu ⟨g,0,none⟩ 1 1 _ (by simp [hn]) (fun j u hu=>?_) h1
 rw [addr_add,Nat.zero_add]
 simp [World.cell?,h]
 rw [<-Array.getElem?_toList];exact hu
/-- a list that grows in the second cell of box ab; the reader's pointer in box rb -/
structure AI {α:Type} (T:TypeId) (n:Nat) (cs:α->Array Value) (T0 rT:TypeId) (x:Value) (ys:List Value) (w0:World) (b ab rb:Nat) (acc:List α) (W:World) (va:Option Addr) (vc:Nat):Prop where
 box:W.heap[ab]?=some (.cells (#[x,.slice va acc.length vc]++ys.toArray) T0 (0,0))
 row:W.ownsRow 0 T n (.slice va acc.length vc) acc.length (rowCells cs acc)
 new:∀ k∈fp (.slice va acc.length vc),w0.heap.size<=k/\k≠ab/\k≠rb
 rbx:W.heap[rb]?=some (.cells #[.pointer (some ⟨b,0,none⟩)] rT (0,0))
 abn:w0.heap.size<=ab
 rbn:rb≠b
 ne:ab≠rb
 bl:b<w0.heap.size
 mod:Mod [b] w0 W
section
variable {α:Type} {T:TypeId} {n:Nat} {cs:α->Array Value} {T0 rT:TypeId} {x:Value} {ys:List Value} {w0:World} {b ab rb:Nat} {acc:List α} {W W' W'':World} {va:Option Addr} {vc:Nat}
theorem AI.keep (h:AI T n cs T0 rT x ys w0 b ab rb acc W va vc) (hm:Mod [b] W W'):AI T n cs T0 rT x ys w0 b ab rb acc W' va vc:=by
 have h1:=h.abn
 have h2:=h.rbn
 have h3:=h.bl
 refine ⟨hm.at h.box (by simp;omega),hm.owns h.row (fun k hk=>?_),h.new,hm.at h.rbx (by simp;omega),h.abn,h.rbn,h.ne,h.bl,h.mod.trans hm (by simp)⟩
 have:=(h.new k hk).1
 simp;omega
/-- grown by one, and stored -/
theorem AI.grow {va':Option Addr} {vc':Nat} {a:α} (h:AI T n cs T0 rT x ys w0 b ab rb acc W va vc) (hm:Mod (fp (.slice va acc.length vc)) W W') (hown:W'.ownsRow 0 T n (.slice va' (acc.length+1) vc') (acc.length+1) (rowCells cs acc++(cs a).toList))
  (hf:∀ k∈fp (.slice va' (acc.length+1) vc'),k∈fp (.slice va acc.length vc)\/W.heap.size<=k) :
  AI T n cs T0 rT x ys w0 b ab rb (acc++[a]) (W'.setCell ⟨ab,1,none⟩ (.slice va' (acc.length+1) vc')) va' vc':=by
 have e1:(acc++[a]).length=acc.length+1:=by simp
 have hnew:=h.new
 have hna:ab∉fp (.slice va acc.length vc):=fun hk=>(hnew ab hk).2.1 rfl
 have hnr:rb∉fp (.slice va acc.length vc):=fun hk=>(hnew rb hk).2.2 rfl
 have ha1:=hm.at h.box hna
 have hr1:=hm.at h.rbx hnr
 have hal:=lt_of_block h.box
 have hrl:=lt_of_block h.rbx
 have hsz:=h.mod.size
 have hnew':∀ k∈fp (.slice va' (acc.length+1) vc'),w0.heap.size<=k/\k≠ab/\k≠rb:=fun k hk=>by
  rcases hf k hk with hh | hh
  ·exact hnew k hh
  ·exact ⟨by omega,by omega,by omega⟩
 have hm2:Mod [ab] W' (W'.setCell ⟨ab,1,none⟩ (.slice va' (acc.length+1) vc')):=(Mod.refl [ab] W').setCell (p:=⟨ab,1,none⟩) (.inl (by simp)) _
 have hne:=h.ne
 refine ⟨?_,?_,?_,hm2.at hr1 (by simp;omega),h.abn,h.rbn,h.ne,h.bl,?_⟩
 ·have:=setCell_at ha1 1 (.slice va' (acc.length+1) vc')
  rw [this,e1]
  simp
 ·rw [e1,rowCells_snoc]
  exact hm2.owns hown (fun k hk=>by have:=(hnew' k hk).2.1;simp;omega)
 ·rw [e1];exact hnew'
 ·refine (h.mod.trans hm (fun k hk=>.inr (hnew k hk).1)).trans hm2 (fun k hk=>?_)
  simp at hk
  have:=h.abn
  exact .inr (by omega)
end
theorem tmV_size (t:Pr.Term):(tmV t).size=5:=rfl
theorem tmV_one (t:Pr.Term):∀ u∈(tmV t).toList,u.oneCell'=true:=by
 intro u hu
 simp [tmV] at hu
 rcases hu with rfl | rfl | rfl | rfl | rfl <;> rfl
theorem Tryz.infoTerm:(Tryz.prog.info? 111).map (fun i=>(i.zero,i.size,i.bytes))=some (some (.agg #[Value.int IntKind.i64 0,Value.string ⟨#[]⟩,Value.int IntKind.i64 0,Value.int IntKind.i64 0,Value.string ⟨#[]⟩]),5,56):=by kernel_rfl
def AInvT (x:Value) (w0:World) (b ab rb:Nat) (acc:List Pr.Term) (W:World):Prop:=∃ va vc,AI 111 5 tmV 33 72 x [] w0 b ab rb acc W va vc
set_option maxHeartbeats 2000000 in
theorem atom1_any (b:Nat) (ra:Option Addr) (rc:Nat) (f:Value) (v:Sy.Env) (x:Value) (w0:World) (ab rb:Nat) (acc:List Pr.Term) (j:Nat) (w:World) (hI:AInvT x w0 b ab rb acc w) (h:RdP w b ra rc f v j) (hL:RdL b ra rc f v w0.heap.size) (hv:EnvOk v) (hj:j<=65536) (hn:acc.length<=65537) :
  Calls Tryz.prog 60 #[.pointer (some ⟨ab,0,none⟩),.pointer (some ⟨rb,0,none⟩)] w (ORes b ra rc f v (Sy.term v j) acc (AInvT x w0 b ab rb) (fun w'=>Mod [b] w0 w')):=by
 obtain ⟨i0,hinf,hz0,hz1,hz2⟩:=info_parts Tryz.infoTerm
 obtain ⟨va,vc,hA⟩:=hI
 have HT:=Hxq (fun w h=>term_any b ra rc f v j w h hv (by omega))
 have D1:Hid (w.drew.cell? ⟨ab,1,none⟩=some (.slice va acc.length vc)/\w.drew.cell? ⟨rb,0,none⟩=some (.pointer (some ⟨b,0,none⟩))):=Lib.hid ⟨(cell_at hA.box 1).trans (by simp),cell_at hA.rbx 0⟩
 have HA:=Lib.hid hA;have HH:=Lib.hid h
 clear hA h
 generalize Sy.term v j=r at *
 cases r with
 | err g =>
  go_enter Tryz.func60,Tryz.ntmps60
  go_wp2_with fail
  refine wp_region_held_drew (S:=(fun w':World=>w'.cell? ⟨ab,1,none⟩=some (.slice va acc.length vc)/\w'.cell? ⟨rb,0,none⟩=some (.pointer (some ⟨b,0,none⟩)))) (by kernel_rfl) (by (try dsimp only);exact D1.out) (fun hHeld=>?_)
  refine Tkq 0 (v:=?_) (by assumption) ?_ ?_ ?_
  rotate_left 1
  ·refine .inl ⟨by rfl,?_⟩;intro w hSw;(try dsimp only at hSw);obtain ⟨hS1,hS2⟩:=hSw;go_simp
   all_goals with_reducible rfl
  ·exact fun _ _ _ h=>h
  try simp only [Act.put,Lq1,Lq2,Lq3]
  refine Tkq 1 (v:=?_) (by assumption) ?_ ?_ ?_
  rotate_left 1
  ·refine .inl ⟨by rfl,?_⟩;intro w hSw;(try dsimp only at hSw);obtain ⟨hS1,hS2⟩:=hSw;go_simp
   all_goals with_reducible rfl
  ·exact fun _ _ _ h=>h
  try simp only [Act.put,Lq1,Lq2,Lq3]
  refine Tkq 2 (v:=?_) (by assumption) ?_ ?_ ?_
  rotate_left 1
  ·refine .inl ⟨by rfl,?_⟩;intro w hSw;(try dsimp only at hSw);obtain ⟨hS1,hS2⟩:=hSw;go_simp
   all_goals with_reducible rfl
  ·exact fun _ _ _ h=>h
  try simp only [Act.put,Lq1,Lq2,Lq3]
  refine wpAnyH_ready (rs:=[3]) (by kernel_rfl) (by simp) ?_
  refine AllReadyH.cons (o:=?_) ?_ ?_ AllReadyH.nil
  rotate_left 1
  ·(simp only [Gq1,Gq2,Gq3])<;>rfl
  intro K hK
  go_simp
  refine (HT.out w.drew (HH.out.past ((Mod.refl [] w).drew) (by simp))).mono ?_
  rintro e3 w3 ⟨rfl,m3⟩
  have M3:=Hxq (((Mod.refl [b] w).drew).trans m3 (by simp))
  clear m3
  unfold stopE
  dsimp only
  clear hK K
  go_wp2_with fail
  exact ⟨rfl,rfl,HA.out.mod.trans M3.out (by simp)⟩
 | ok a k =>
  have q1:=D1.out.1
  have q2:=D1.out.2
  have hbl:=HA.out.bl
  have hal:=lt_of_block HA.out.box
  go_enter Tryz.func60,Tryz.ntmps60
  go_wp2_with fail
  go_region_law (first
   | (go_simp;refine (HT.out w.drew (HH.out.past ((Mod.refl [] w).drew) (by simp))).mono ?_;rintro e3 w3 ⟨y3,rfl,hy3,h3,m3⟩;unfold valM at hy3;subst hy3;have m03:=(((Mod.refl [b] w).drew).trans m3 (by simp));have HA3:=Hxq (HA.out.keep m03);have q3:=(cell_at HA3.out.box 1);have q4:=(cell_at HA3.out.rbx 0);have HA4:=Hxq (HA3.out.keep ((Mod.refl [b] w3).alloc (Obj.cells #[.int .i64 a.k,.string a.v,.int .i64 a.x.k,.int .i64 a.x.n,.string (Lx.ofS a.x.s)] 111)));have q6:=(cell_at HA4.out.box 1);have HO3:=Lib.hid HA4.out.row;have HS3:Hid (Src Tryz.prog 5 31 (.slice (some ⟨w3.heap.size,0,none⟩) 1 1) 1 (tmV a).toList (w3.alloc (Obj.cells #[.int .i64 a.k,.string a.v,.int .i64 a.x.k,.int .i64 a.x.n,.string (Lx.ofS a.x.s)] 111))):=Hxq (src_one (TS:=31) Tryz.underlying31 (heap_alloc_new w3 (Obj.cells (tmV a) 111)) rfl (tmV_one a));have H3:=Hxq (h3.past ((Mod.refl [] w3).alloc (Obj.cells #[.int .i64 a.k,.string a.v,.int .i64 a.x.k,.int .i64 a.x.n,.string (Lx.ofS a.x.s)] 111)) (by simp));unfold tmV;clear h3 m3 m03)
   | (refine step_append_src _ rfl _ _ 31 31 rfl 111 i0 (.agg #[Value.int IntKind.i64 0,Value.string ⟨#[]⟩,Value.int IntKind.i64 0,Value.int IntKind.i64 0,Value.string ⟨#[]⟩]) 5 56 Tryz.underlying31 hinf hz0 hz1 hz2 rfl (.slice va acc.length vc) acc.length (rowCells tmV acc) rfl HO3.out _ 1 (tmV a).toList rfl HS3.out (by unfold maxLen;omega) (by omega) ?_;intro v5 w5 hown5 hm5 hf5;obtain ⟨va5,vc5,rfl⟩:=owns_slice hown5;have HG5:=Hxq (HA4.out.grow hm5 hown5 hf5);have q5:=(hm5.cell (cell_at HA4.out.box 1) (fun hk=>(HA4.out.new ab hk).2.1 rfl));have f5:w5.frozen? ⟨ab,1,none⟩=false:=(World.frozen?_of_block (hm5.block ab (lt_of_block HA4.out.box) (fun hk=>(HA4.out.new ab hk).2.1 rfl))).trans (free_at HA4.out.box 1);have MR5:=Hxq ((hm5.mono (T:=ab :: fp (.slice va acc.length vc)) (fun t ht=>.inl (List.mem_cons_of_mem _ ht))).setCell (p:=⟨ab,1,none⟩) (.inl (by simp)) (.slice va5 (acc.length+1) vc5));clear hown5 hm5 hf5))
  all_goals (
   go_wp2_with fail
   go_end0
   refine ⟨rfl,⟨va5,vc5,HG5.out⟩,H3.out.new hL MR5.out (fun t ht=>?_)⟩
   rcases List.mem_cons.1 ht with rfl | ht
   ·exact HA4.out.abn
   ·exact (HA4.out.new t ht).1)
open Go.RowKit
set_option linter.unusedVariables false
set_option linter.unusedSimpArgs false
set_option maxRecDepth 100000
theorem cells2 {w:World} {b:Nat} {a0 a1:Value} {T:TypeId} {fr:Nat × Nat} (h:w.heap[b]?=some (.cells #[a0,a1] T fr)):w.cell? ⟨b,0,none⟩=some a0/\w.cell? ⟨b,1,none⟩=some a1:=⟨cell_at h 0,cell_at h 1⟩
theorem field_text (t:Lx.Tok) (w:World):(Instr.field 93 (.agg #[.int .i64 (t.kind:Nat),.string (Lx.ofS t.text),.int .i64 (t.vk:Nat),.int .i64 (t.num:Nat),.string (Lx.ofS t.sym),.int .i64 (t.line:Nat),.int .i64 (t.col:Nat)]) 1).run Tryz.prog w=.ok (.string (Lx.ofS t.text)) w:=rfl
theorem makeFunc_any (fn:Fn) (first cap:Array Value) (w:World):(Instr.makeFunc fn first cap).run Tryz.prog w=.ok (.func fn first cap) w:=rfl
/-- an atom in memory, newer than n -/
def valA (n:Nat):Pr.Atom->World->Value->Prop:=fun a w x=>∃ u,x=.agg #[.string a.rel,u]/\RowB (fun k=>n<=k) w 5 tmV a.terms u
set_option maxHeartbeats 2000000 in
theorem atom_any (b:Nat) (ra:Option Addr) (rc:Nat) (f:Value) (v:Sy.Env) (i:Nat) (w:World) (h:RdP w b ra rc f v i) (hv:EnvOk v) (hi:i<=v.ws.length) :
  Calls Tryz.prog 34 #[.pointer (some ⟨b,0,none⟩)] w (PRes b ra rc f v (Sy.atom v i) (valA w.heap.size) w):=by
 have hlen:=hv.len
 have mA:=((Mod.refl [] w).alloc (Obj.cells #[Value.pointer (some ⟨b,0,none⟩)] 72)).alloc (Obj.cells #[Value.string ⟨#[]⟩,Value.slice none 0 0] 33)
 have rA:=((Mod.refl [] (w.alloc (Obj.cells #[Value.pointer (some ⟨b,0,none⟩)] 72))).alloc (Obj.cells #[Value.string ⟨#[]⟩,Value.slice none 0 0] 33)).at (heap_alloc_new w (Obj.cells #[Value.pointer (some ⟨b,0,none⟩)] 72)) (by simp)
 have eA:=alloc_at (w0:=w.alloc (Obj.cells #[Value.pointer (some ⟨b,0,none⟩)] 72)) (n:=w.heap.size+1) (Obj.cells #[Value.string ⟨#[]⟩,Value.slice none 0 0] 33) (by simp)
 have hA:=h.past mA (by simp)
 have HN:=Hxq (name_any b ra rc f v i _ hA hv (by omega))
 have hN1:=Sy.adv_name v i
 have HR:Hid (Sy.atom v i=(Sy.name v i).bind fun t j=>(Sy.must v [40] j).bind fun _ j=>(Sy.list v [41] (Sy.term v) j).bind fun l j=>.ok ⟨Sy.txt t.text,l⟩ j):=Lib.hid rfl
 have HLo:=Lib.hid h.low
 have hbl:=h.lt
 have RA:=Lib.hid rA;have EA:=Lib.hid eA;have MA:=Lib.hid mA
 have hmf:=makeFunc_any
 clear h hA eA mA rA
 generalize Sy.name v i=p at *
 generalize hq:Sy.atom v i=q at *
 clear hq
 go_enter Tryz.func34,Tryz.ntmps34
 go_upto_region 1 with fail
 have zA:((w.alloc (Obj.cells #[Value.pointer (some ⟨b,0,none⟩)] 72)).alloc (Obj.cells #[Value.string ⟨#[]⟩,Value.slice none 0 0] 33)).heap.size=w.heap.size+2:=by simp
 generalize (w.alloc (Obj.cells #[Value.pointer (some ⟨b,0,none⟩)] 72)).alloc (Obj.cells #[Value.string ⟨#[]⟩,Value.slice none 0 0] 33)=wA at *
 have r0:=cell_at RA.out 0
 simp only [List.getElem?_toArray,List.getElem?_cons_zero] at r0
 have hnb:w.heap.size∉[b]:=by simp;omega
 have hnb1:w.heap.size+1∉[b]:=by simp;omega
 cases p with
 | err g =>
  have hq:q=.err g:=HR.out
  subst hq
  clear HR hN1
  go_wp2_with fail
  refine HN.out.mono ?_
  rintro e1 w1 ⟨rfl,m1⟩
  have M1:=Hxq ((MA.out.mono (T:=[b]) (by simp)).trans m1 (by simp))
  clear m1
  unfold stopE
  go_wp2_with fail
  exact ⟨rfl,rfl,M1.out⟩
 | ok t j =>
  have hj:=hN1 t j hi rfl
  have HR2:Hid (q=(Sy.must v [40] j).bind fun _ j=>(Sy.list v [41] (Sy.term v) j).bind fun l j=>.ok ⟨Sy.txt t.text,l⟩ j):=Lib.hid HR.out
  clear HR hN1
  have HMu:=Hxq (fun w h=>must_any b ra rc f v j [40] { data:=#[40] } w h hv (by omega) rfl (by decide))
  have hM1:=Sy.adv_must v [40] j
  generalize Sy.must v [40] j=p2 at *
  go_wp2_with fail
  refine HN.out.mono ?_
  rintro e1 w1 ⟨x1,rfl,hx1,h1,m1⟩
  unfold valT at hx1
  subst hx1
  have z1:=m1.size
  have M1:=Hxq ((MA.out.mono (T:=[b]) (by simp)).trans m1 (by simp));have R1:=Hxq (m1.at RA.out hnb);have E1:=Hxq (m1.at EA.out hnb1);have H1:=Lib.hid h1
  clear m1 h1 r0 HN
  have hfd:=fun w=>field_text t w
  unfold tokC
  have mB:=(Mod.refl [] w1).alloc (Obj.cells #[Value.string (Lx.ofS t.text),Value.slice none 0 0] 33)
  have bB:=heap_alloc_new w1 (Obj.cells #[Value.string (Lx.ofS t.text),Value.slice none 0 0] 33)
  have HB:=Hxq (H1.out.past mB (by simp));have RB:=Hxq (mB.at R1.out (by simp));have EB:=Hxq (mB.at E1.out (by simp));have BB:=Lib.hid bB;have MB:=Lib.hid mB
  have zB:(w1.alloc (Obj.cells #[Value.string (Lx.ofS t.text),Value.slice none 0 0] 33)).heap.size=w1.heap.size+1:=by simp
  clear mB bB
  go_upto_region 2 with fail
  clear hfd
  generalize w1.alloc (Obj.cells #[Value.string (Lx.ofS t.text),Value.slice none 0 0] 33)=wB at *
  have r0:=cell_at RB.out 0
  simp only [List.getElem?_toArray,List.getElem?_cons_zero] at r0
  cases p2 with
  | err g =>
   have hq:q=.err g:=HR2.out
   subst hq
   clear HR2 hM1
   go_wp2_with fail
   refine (HMu.out wB HB.out).mono ?_
   rintro e2 w2 ⟨rfl,m2⟩
   have M2:=Hxq ((M1.out.trans MB.out (by simp)).trans m2 (by simp))
   clear m2
   unfold stopE
   go_wp2_with fail
   exact ⟨rfl,rfl,M2.out⟩
  | ok u k =>
   have hk:=hM1 u k hj.2 rfl
   have HR3:Hid (q=(Sy.list v [41] (Sy.term v) k).bind fun l j=>.ok ⟨Sy.txt t.text,l⟩ j):=Lib.hid HR2.out
   clear HR2 hM1
   go_wp2_with fail
   refine (HMu.out wB HB.out).mono ?_
   rintro e2 w2 ⟨x2,rfl,hx2,h2,m2⟩
   unfold valU at hx2
   subst hx2
   have z2:=m2.size
   have hnb2:w1.heap.size∉[b]:=by simp;omega
   have R2:=Hxq (m2.at RB.out hnb);have E2:=Hxq (m2.at EB.out hnb1);have B2:=Hxq (m2.at BB.out hnb2);have H2:=Lib.hid h2;have M2:=Hxq ((MB.out.mono (T:=[b]) (by simp)).trans m2 (by simp))
   clear m2 h2 r0
   have r0:=cell_at R2.out 0
   simp only [List.getElem?_toArray,List.getElem?_cons_zero] at r0
   have hI:AInvT (.string (Lx.ofS t.text)) w1 b w1.heap.size w.heap.size [] w2 :=
    ⟨none,0,B2.out,World.ownsRow_nil _ _ _ _,by simp [fp],R2.out,Nat.le_refl _,by simp at hnb;omega,by omega,by omega,M2.out⟩
   have hLL:RdL b ra rc f v w1.heap.size:=⟨by have:=HLo.out.1;omega,fun k hk=>by have:=HLo.out.2 k hk;omega⟩
   have HLs:=Hxq (list_any b ra rc f v [41] { data:=#[41] } rfl (by decide) (Sy.term v) (Sy.adv_term v) 60 #[.pointer (some ⟨w1.heap.size,0,none⟩),.pointer (some ⟨w.heap.size,0,none⟩)]
    (enter_of Tryz.func60 (by kernel_rfl) rfl) (AInvT (.string (Lx.ofS t.text)) w1 b w1.heap.size w.heap.size) (fun w'=>Mod [b] w1 w')
    (fun acc j W hI h hj hn=>atom1_any b ra rc f v _ w1 _ _ acc j W hI h hLL hv hj hn) (fun acc W W' hI hm=>by obtain ⟨va,vc,hh⟩:=hI;exact ⟨va,vc,hh.keep hm⟩) (fun acc W hI=>by obtain ⟨va,vc,hh⟩:=hI;exact hh.mod)
    k w2 H2.out hI hv hk.2)
   clear hI
   generalize Sy.list v [41] (Sy.term v) k=p3 at *
   cases p3 with
   | err g =>
    have hq:q=.err g:=HR3.out
    subst hq
    clear HR3
    go_wp2_with fail
    refine HLs.out.mono ?_
    rintro e3 w3 ⟨rfl,m3⟩
    have M3:=Hxq (M1.out.trans m3 (by simp))
    clear m3
    unfold stopE
    go_wp2_with fail
    exact ⟨rfl,rfl,M3.out⟩
   | ok l n =>
    have hq:q=.ok ⟨Sy.txt t.text,l⟩ n:=HR3.out
    subst hq
    clear HR3
    go_wp2_with fail
    refine HLs.out.mono ?_
    rintro e3 w3 ⟨rfl,⟨va,vc,hI⟩,h3⟩
    have HI:=Lib.hid hI;have H3:=Lib.hid h3;have E3:=Hxq (hI.mod.at E1.out hnb1)
    have B3:Hid (w3.heap[w1.heap.size]?=some (.cells #[.string (Lx.ofS t.text),.slice va l.length vc] 33 (0,0))):=Hxq (by have:=hI.box;simpa using this)
    obtain ⟨x0,x1⟩:=cells2 B3.out
    obtain ⟨y0,y1⟩:=cells2 E3.out
    have fA:∀ j,w3.frozen? ⟨w.heap.size+1,j,none⟩=false:=fun j=>free_at E3.out j
    clear hI h3 r0
    go_wp2_with fail
    have mR:=setCs_mod (w.heap.size+1) [.string (Lx.ofS t.text),.slice va l.length vc] 0 w3
    refine bodyPost_ret (results_cell_row rfl _ _ _ _ _ _ _ rfl (setCs_row (vs:=[.string (Lx.ofS t.text),.slice va l.length vc]) E3.out rfl) Tryz.underlying33 rfl (by kernel_rfl)) rfl ⟨_,rfl,⟨_,rfl,?_⟩,H3.out.new HLo.out mR (by simp),(M1.out.trans HI.out.mod (by simp)).trans mR (by simp)⟩
    refine (RowB.of_owns (F:=fun k=>w1.heap.size<=k) tmV_size HI.out.row (fun k hk=>(HI.out.new k hk).1)).keep mR (fun s hs=>?_) |>.mono (fun k hk _=>by omega)
    rw [Msq] at hs
    omega
end Go.Proofs.YtbfaclljbbfknaaGreatDoor
namespace Go.Proofs.YtbfaclljbbfknaaGreatDoor.Sy
open Lx (Tok)
open Pr (Ex)
set_option linter.unusedVariables false
theorem chain_deep {v:Env} {line:Nat} {sub:Nat->Nat->PR (Ex × Nat)} {above:Nat} (hs:∀ ab i r j,ab<=16->sub ab i=.ok r j->ab+r.2<=16):∀ (n:Nat) (e:Ex) (d i:Nat) (r:Ex × Nat) (j:Nat),above+d<=16->chainF v line sub above n e d i=.ok r j->above+r.2<=16
 | 0,e,d,i,r,j,hd,h=>by cases h
 | n+1,e,d,i,r,j,hd,h=>by
  rw [chainF] at h
  split at h
  ·cases h;exact hd
  ·split at h
   ·cases h
   ·obtain ⟨x,m,h1,h2⟩:=bind_ok h
    have:=hs (above+1) (i+1) x m (by omega) h1
    exact chain_deep hs n _ _ m r j (by omega) h2
theorem opd_none {v:Env} {i:Nat} (h:operand (v.tk i)=false):(v.tk i).kind≠2/\constant v i=none/\sign (v.tk i) [45]=false/\sign (v.tk i) [40]=false:=by
 unfold operand at h
 simp only [Bool.or_eq_false_iff,decide_eq_false_iff_not] at h
 obtain ⟨h2,h3,h4,hp,h5,h6⟩:=h
 refine ⟨h2,?_,h5,h6⟩
 unfold constant
 rw [if_neg (by omega),if_neg (by rw [hp];simp),if_neg (by rw [h5];simp)]
theorem un17 {v:Env} {n i:Nat} (above:Nat) (h:operand (v.tk i)=false):∃ g,exprF v n 3 above i=.err g:=by
 cases n with
 | zero=>exact ⟨_,rfl⟩
 | succ n =>
  obtain ⟨h2,hc,h5,h6⟩:=opd_none h
  refine ⟨v.give 40 i,?_⟩
  rw [exprF,if_pos rfl,if_neg h2,hc]
  simp only
  rw [if_neg (by rw [h5];simp),if_neg (by rw [h6];simp)]
  unfold must
  rw [if_neg (by rw [h6];simp)]
  rfl
theorem expr_deep (v:Env):∀ (n line above i:Nat) (r:Ex × Nat) (j:Nat),above<=16->exprF v n line above i=.ok r j->above+r.2<=16
 | 0,line,above,i,r,j,ha,h=>by cases h
 | n+1,line,above,i,r,j,ha,h=>by
  rw [exprF] at h
  split at h
  ·split at h
   ·cases h;exact ha
   ·split at h
    ·cases h;exact ha
    ·split at h
     ·split at h
      ·cases h
      ·rename_i hn
       obtain ⟨x,m,h1,h2⟩:=bind_ok h
       cases h2
       by_cases h16:above=16
       ·have ho:operand (v.tk (i+1))=false:=by
         cases e:operand (v.tk (i+1)) with
         | false=>rfl
         | true=>exact absurd ⟨by omega,e⟩ hn
        obtain ⟨g,hg⟩:=un17 (n:=n) (above+1) ho
        rw [hg] at h1
        cases h1
       ·have:=expr_deep v n 3 (above+1) (i+1) x j (by omega) h1
        show above+(x.2+1)<=16
        omega
     ·split at h
      ·cases h
      ·rename_i hn
       obtain ⟨_,m,h1,h2⟩:=bind_ok h
       obtain ⟨x,m2,h3,h4⟩:=bind_ok h2
       obtain ⟨_,m3,h5,h6⟩:=bind_ok h4
       cases h6
       have hs:sign (v.tk i) [40]=true:=by
        unfold must at h1
        split at h1
        ·assumption
        ·cases h1
       have:=expr_deep v n 1 (above+1) m x m2 (by
        by_cases h16:16<=above
        ·exact absurd ⟨hs,h16⟩ hn
        ·omega) h3
       show above+(x.2+1)<=16
       omega
  ·obtain ⟨x,m,h1,h2⟩:=bind_ok h
   have:=expr_deep v n (line+1) above i x m ha h1
   exact chain_deep (fun ab i r j hab hr=>expr_deep v n (line+1) ab i r j hab hr) _ _ _ m r j this h2
end Go.Proofs.YtbfaclljbbfknaaGreatDoor.Sy
