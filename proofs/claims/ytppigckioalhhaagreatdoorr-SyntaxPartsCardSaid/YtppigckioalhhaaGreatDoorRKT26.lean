/- THE TEXTS MERGED: SyGrow RpAtom. -/
import Derived.Test.YtppigckioalhhaaGreatDoorRKT1
import Derived.Test.YtppigckioalhhaaGreatDoorRKT25
import Derived.Test.YtppigckioalhhaaGreatDoorRKT22
import Derived.Test.YtppigckioalhhaaGreatDoorRKT10
namespace Go.Proofs.YtppigckioalhhaaGreatDoorR
open Go.RowKit
set_option linter.unusedVariables false
set_option linter.unusedSimpArgs false
set_option maxRecDepth 100000
/-- what is kept, of things of n cells -/
structure Bears {α:Type} (n:Nat) (cs:α->Array Value) (B:(Nat->Prop)->World->α->Prop):Prop where
 size:∀ x,(cs x).size=n
 keep:∀ {F:Nat->Prop} {S:List Nat} {w w':World} {p:α},B F w p->Mod S w w'->(∀ s∈S,¬ F s)->B F w' p
 mono:∀ {F F':Nat->Prop} {w:World} {p:α},B F w p->(∀ k,F k->k<w.heap.size->F' k)->B F' w p
structure GI {α:Type} (T:TypeId) (n:Nat) (cs:α->Array Value) (B:(Nat->Prop)->World->α->Prop) (S:List Nat) (w0 W:World) (acc:List α) (va:Option Addr) (vc:Nat):Prop where
 row:W.ownsRow 0 T n (.slice va acc.length vc) acc.length (rowCells cs acc)
 new:∀ k∈fp (.slice va acc.length vc),w0.heap.size<=k
 sub:∀ p∈acc,B (fun k=>w0.heap.size<=k/\k∉fp (.slice va acc.length vc)) W p
 low:∀ s∈S,s<w0.heap.size
 mod:Mod S w0 W
section
variable {α:Type} {T:TypeId} {n:Nat} {cs:α->Array Value} {B:(Nat->Prop)->World->α->Prop} {S:List Nat} {w0 W W':World} {acc:List α} {va:Option Addr} {vc:Nat}
theorem GI.nil (hS:∀ s∈S,s<w0.heap.size):GI T n cs B S w0 w0 [] none 0:=⟨World.ownsRow_nil _ _ _ _,by simp [fp],by simp,hS,Mod.refl _ _⟩
theorem GI.keep (hB:Bears n cs B) (h:GI T n cs B S w0 W acc va vc) (hm:Mod S W W'):GI T n cs B S w0 W' acc va vc:=by
 have hl:=h.low
 refine ⟨hm.owns h.row (fun k hk hs=>?_),h.new,fun p hp=>hB.keep (h.sub p hp) hm (fun s hs hh=>?_),h.low,h.mod.trans hm (fun t ht=>.inl ht)⟩
 ·have:=h.new k hk;have:=hl k hs;omega
 ·have:=hl s hs;omega
theorem GI.grow {va':Option Addr} {vc':Nat} {p:α} {m:Nat} (hB:Bears n cs B) (h:GI T n cs B S w0 W acc va vc) (hm:Mod (fp (.slice va acc.length vc)) W W') (hp:B (fun k=>m<=k) W p) (hn:∀ k∈fp (.slice va acc.length vc),k<m) (hn0:w0.heap.size<=m)
  (hown:W'.ownsRow 0 T n (.slice va' (acc.length+1) vc') (acc.length+1) (rowCells cs acc++(cs p).toList)) (hf:∀ k∈fp (.slice va' (acc.length+1) vc'),k∈fp (.slice va acc.length vc)\/W.heap.size<=k) :
  GI T n cs B S w0 W' (acc++[p]) va' vc':=by
 have e1:(acc++[p]).length=acc.length+1:=by simp
 have hnew:=h.new
 have hsz:=h.mod.size
 have hnew':∀ k∈fp (.slice va' (acc.length+1) vc'),w0.heap.size<=k:=fun k hk=>by
  rcases hf k hk with hh | hh
  ·exact hnew k hh
  ·omega
 refine ⟨?_,by rw [e1];exact hnew',?_,h.low,h.mod.trans hm (fun k hk=>.inr (hnew k hk))⟩
 ·rw [e1,rowCells_snoc]
  exact hown
 ·intro q hq
  rw [e1]
  rcases List.mem_append.1 hq with hq | hq
  ·refine hB.mono (hB.keep (hB.mono (F':=fun k=>w0.heap.size<=k/\k∉fp (.slice va acc.length vc)/\k<W.heap.size) (h.sub q hq) (fun k hk hk2=>⟨hk.1,hk.2,hk2⟩)) hm (fun s hs hh=>hh.2.1 hs)) (fun k hk hk2=>⟨hk.1,fun hh=>?_⟩)
   rcases hf k hh with h1 | h1
   ·exact hk.2.1 h1
   ·have:=hk.2.2;omega
  ·rw [Msq] at hq
   subst hq
   refine hB.mono (hB.keep (hB.mono (F':=fun k=>m<=k/\k<W.heap.size) hp (fun k hk hk2=>⟨hk,hk2⟩)) hm (fun s hs hh=>by have:=hn s hs;omega)) (fun k hk hk2=>⟨by omega,fun hh=>?_⟩)
   rcases hf k hh with h1 | h1
   ·have:=hn k h1;omega
   ·have:=hk.2;omega
end
/-- expressions with their arguments' slices -/
abbrev ExU:=Pr.Ex × Value
def csX (p:ExU):Array Value:=exV p.1 p.2
def BX (F:Nat->Prop) (w:World) (p:ExU):Prop:=EB F w p.1 p.2
theorem EB.of_row {F:Nat->Prop} {w:World} {k:Int} {v:ByteArray} {x:Va.Val} {op:Int} {u:Value} (l:List ExU) (h:RowB F w 7 csX l u) (hs:∀ p∈l,BX F w p):EB F w (.mk k v x op (l.map (·.1))) u:=by
 cases h with
 | nil=>exact .nil
 | row hF hb h1 =>
  rename_i g off c
  have:=@EB.row F w k v x op (l.map (·.1)) g off c (fun i=>if h:i<l.length then l[i].2 else .slice none 0 0) hF hb (fun i hi=>by
   rw [List.length_map] at hi
   simp only [dif_pos hi,List.getElem_map]
   exact h1 i hi) (fun i hi=>by
   rw [List.length_map] at hi
   simp only [dif_pos hi,List.getElem_map]
   exact hs _ (List.getElem_mem hi))
  simpa using this
open Go.RowKit
set_option linter.unusedVariables false
set_option linter.unusedSimpArgs false
set_option maxRecDepth 100000
namespace Sy
/-- an atom; bare: of constants alone -/
def atomB (bare:Bool) (v:Env) (i:Nat):PR Pr.Atom :=
 (name v i).bind fun t j=>(must v [40] j).bind fun _ j=>(list v [41] (termB bare v) j).bind fun l j=>.ok ⟨txt t.text,l⟩ j
theorem atomB_false (v:Env):atomB false v=atom v:=by
 funext i
 unfold atomB atom
 rw [termB_false]
theorem adv_termB (bare:Bool) (v:Env):Adv v (termB bare v):=by
 cases bare
 ·rw [termB_false];exact adv_term v
 ·intro j a k hj h
  rw [termB_true] at h
  obtain ⟨c,m,h1,h2⟩:=bind_ok h
  cases h2
  exact adv_value v j c k hj h1
theorem listF_eq2 {α:Type} (v:Env) (fin:List Nat) (one:Nat->PR α) (k:Nat) (acc:List α) (i:Nat) (h:sign (v.tk i) [44]=true) :
  listF v fin one (k+1) acc i=(one (i+1)).bind fun a j=>listF v fin one k (acc++[a]) j:=by rw [listF,if_pos h]
theorem listF_eq3 {α:Type} (v:Env) (fin:List Nat) (one:Nat->PR α) (k:Nat) (acc:List α) (i:Nat) (h:sign (v.tk i) [44]=false) :
  listF v fin one (k+1) acc i=(must v fin i).bind fun _ j=>.ok acc j:=by rw [listF,if_neg (by rw [h];simp)]
end Sy
theorem fin_mod {w w5 w7 w9:World} {b p r:Nat} (h1:Mod [b] w w5) (h2:Mod [b,p] w5 w7) (h3:Mod [r] w7 w9) (hp:w.heap.size<=p) (hr:w.heap.size<=r):Mod [b] w w9 :=
 (h1.trans h2 (fun k hk=>by simp at hk;rcases hk with rfl | rfl;exact .inl (by simp);exact .inr hp)).trans h3 (fun k hk=>by simp at hk;subst hk;exact .inr hr)
def BT (F:Nat->Prop) (w:World) (t:Pr.Term):Prop:=True
theorem bearsT:Bears 5 tmV BT:=⟨tmV_size,fun _ _ _=>trivial,fun _ _=>trivial⟩
def badA (x:Value):Prop:=∃ (s:ByteArray) (a:Option Addr) (n c:Nat),x=.agg #[.string s,.slice a n c]
theorem Tryz.sizeAt:(Tryz.prog.info? 40).map (·.size)=some 2:=by kernel_rfl
theorem load_at {w:World} {b:Nat} {C:Array Value} {T:TypeId} {fr:Nat × Nat} (hg:w.heap[b]?=some (.cells C T fr)) (hc:C.size=2):(loadVar 40 ⟨b,0,none⟩).run Tryz.prog w=.ok (.agg C) w :=
 run_loadVar_row (P:=Tryz.prog) w b T 40 C fr _ hg Tryz.underlying40 rfl (by rw [Tryz.sizeAt,hc])
set_option maxHeartbeats 8000000 in
theorem ratom_any (b:Nat) (ra:Option Addr) (rc:Nat) (L:LX) (v:Sy.Env) (bare:Bool) (i:Nat) (w:World) (h:RpP w b ra rc L v i nf0) (hk:EnvK v) (hi:i<=v.ws.length) :
  Calls Tryz.prog 47 #[.pointer (some ⟨b,0,none⟩),.bool bare] w (RRes b ra rc L v (Sy.atomB bare v i) (valA w.heap.size) badA w):=by
 obtain ⟨i0,hinf,hz0,hz1,hz2⟩:=info_parts Tryz.infoTerm
 have hv:=hk.ok
 have hlen:=hv.len
 have mA:=(Mod.refl [] w).alloc (Obj.cells #[Value.string ⟨#[]⟩,Value.slice none 0 0] 40)
 have hA:=h.past mA (by simp)
 have eA:=heap_alloc_new w (Obj.cells #[Value.string ⟨#[]⟩,Value.slice none 0 0] 40)
 have hsA:(w.alloc (Obj.cells #[Value.string ⟨#[]⟩,Value.slice none 0 0] 40)).heap.size=w.heap.size+1:=by simp
 have HR:Hid (Sy.atomB bare v i=if Sy.plain (v.tk i)=true then (Sy.must v [40] (i+1)).bind fun _ j=>(Sy.list v [41] (Sy.termB bare v) j).bind fun l j=>.ok ⟨Sy.txt (v.tk i).text,l⟩ j else .err (v.give 40 i)):=Hxq (by
  unfold Sy.atomB Sy.name
  split <;> rfl)
 have HW:=Hxq (fun w h=>rword0 b ra rc L v i nf0 w h hv (by omega))
 have HN:=Hxq (fun w=>rname_any (v.tk i) w (hv.tbyte i))
 have HS:=Hxq (fun j w h hj=>rstop_any b ra rc L v j 40 w h hv hj)
 have HTm:=Hxq (fun j w h hj=>rterm_any b ra rc L v bare j w h hk hj)
 have HTa:=Hxq (Sy.adv_termB bare v)
 have hlt:=fun h=>Sy.plain_lt (v:=v) (i:=i) h
 have HIs1:=Hxq (fun j w h hj=>ris_any b ra rc L v j nf0 [41] { data:=#[41] } w h hv hj rfl (by decide))
 have HIs2:=Hxq (fun j w h hj=>ris_any b ra rc L v j nf0 [44] { data:=#[44] } w h hv hj rfl (by decide))
 have HTk1:=Hxq (rtake_any b ra rc L v (i+1) [40] { data:=#[40] })
 have HTk2:=Hxq (fun j w h hj=>rtake_any b ra rc L v j [41] { data:=#[41] } w h hv hj rfl (by decide))
 have HLo:=Lib.hid h.low
 have hbl:=h.lt
 have HH:=Lib.hid hA;have EA:=Lib.hid eA;have MA:=Lib.hid mA
 clear h hA eA mA
 generalize hrp:Sy.plain (v.tk i)=rp at *
 generalize v.tk i=t at *
 generalize Sy.atomB bare v i=q at *
 go_enter Tryz.func47,Tryz.ntmps47
 go_upto_region 1 with fail
 generalize w.alloc (Obj.cells #[Value.string ⟨#[]⟩,Value.slice none 0 0] 40)=wA at *
 go_wp2_with fail
 refine (HW.out wA HH.out).mono ?_
 rintro e1 w1 ⟨rfl,m1⟩
 have z1:=m1.size
 have mT:=(Mod.refl [] w1).alloc (Obj.cells (tokC t) 74)
 have eT:=heap_alloc_new w1 (Obj.cells (tokC t) 74)
 have HB:=Hxq ((HH.out.past m1 (by simp)).past mT (by simp));have MB:=Hxq ((MA.out.trans m1 (by simp)).trans mT (by simp));have AB:=Hxq (mT.at (m1.at EA.out (by simp)) (by simp));have TB:=Lib.hid eT
 have zB:(w1.alloc (Obj.cells (tokC t) 74)).heap.size=w1.heap.size+1:=by simp
 clear m1 mT eT HW
 unfold tokC at *
 go_upto_region 2 with fail
 generalize w1.alloc (Obj.cells _ 74)=wB at *
 obtain ⟨x0,x1,x2,x3,x4,x5,x6⟩:=tok_cells (t:=t) TB.out
 go_wp2_with fail
 refine (HN.out wB).mono ?_
 rintro e3 w3 ⟨rfl,m3⟩
 have A3:=Hxq (m3.at AB.out (by simp));have T3:=Hxq (m3.at TB.out (by simp));have H3:=Hxq (HB.out.past m3 (by simp));have M3:=Hxq (MB.out.trans m3 (by simp));have z3':=m3.size
 clear m3 x0 x1 x2 x3 x4 x5 x6
 cases rp
 ·have hq:q=.err (v.give 40 i):=HR.out
  subst hq
  clear HR
  go_wp2_with fail
  refine (HS.out i w3 H3.out (by omega)).mono ?_
  rintro e4 w4 ⟨rfl,h4,m4⟩
  have H4:=Lib.hid h4;have M4:=Hxq ((M3.out.mono (T:=[b]) (by simp)).trans m4 (by simp));have A4:=Hxq (m4.at A3.out (by simp;omega))
  clear h4 m4
  obtain ⟨r0,r1⟩:=cells2 A4.out
  have fA:∀ j,w4.frozen? ⟨w.heap.size,j,none⟩=false:=fun j=>free_at A4.out j
  go_wp2_with fail
  have mR:=setCs_mod w.heap.size [.string ⟨#[]⟩,.slice none 0 0] 0 w4
  refine bodyPost_ret (res_ct rfl _ _ _ _ _ rfl rfl (load_at (setCs_row (vs:=[.string ⟨#[]⟩,.slice none 0 0]) A4.out rfl) rfl)) rfl ⟨_,rfl,⟨_,_,_,_,rfl⟩,⟨_,H4.out.new HLo.out mR (by simp)⟩,M4.out.trans mR (by simp)⟩
 ·have HR2:Hid (q=(Sy.must v [40] (i+1)).bind fun _ j=>(Sy.list v [41] (Sy.termB bare v) j).bind fun l j=>.ok ⟨Sy.txt t.text,l⟩ j):=Lib.hid HR.out
  have hil:=hlt rfl
  clear HR hlt
  obtain ⟨c0,c1,c2,c3,c4,c5,c6,c7,c8,c9,fz⟩:=H3.out.cells
  have hT:=H3.out.to (i+1)
  have aC:(w3.setCell ⟨b,6,none⟩ (.int .i64 ((i:Int)+1))).heap[w.heap.size]?=_:=hT.2.at A3.out (by simp;omega)
  have tC:(w3.setCell ⟨b,6,none⟩ (.int .i64 ((i:Int)+1))).heap[w1.heap.size]?=_:=hT.2.at T3.out (by simp;omega)
  have HCC:Hid (RpP (w3.setCell ⟨b,6,none⟩ (.int .i64 ((i:Int)+1))) b ra rc L v (i+1) nf0):=Lib.hid hT.1
  have MC:Hid (Mod [b] w (w3.setCell ⟨b,6,none⟩ (.int .i64 ((i:Int)+1)))):=Hxq ((M3.out.mono (T:=[b]) (by simp)).trans hT.2 (by simp))
  clear hT
  go_upto_region 5 with fail
  generalize w3.setCell ⟨b,6,none⟩ (.int .i64 ((i:Int)+1))=wC at *
  clear c0 c1 c2 c3 c4 c5 c6 c7 c8 c9 fz
  obtain ⟨x0,x1,x2,x3,x4,x5,x6⟩:=tok_cells (t:=t) tC
  have AC:=Lib.hid aC;have zC:=MC.out.size
  clear aC tC
  go_upto_region 6 with fail
  have mX:=(Mod.refl [] wC).alloc (Obj.cells #[.string (Lx.ofS t.text),.slice none 0 0] 40)
  have eX:=heap_alloc_new wC (Obj.cells #[.string (Lx.ofS t.text),.slice none 0 0] 40)
  have HX:=Hxq (HCC.out.past mX (by simp));have MX:=Hxq (MC.out.trans mX (by simp));have AX:=Hxq (mX.at AC.out (by simp));have BX:=Lib.hid eX
  have zX:(wC.alloc (Obj.cells #[.string (Lx.ofS t.text),.slice none 0 0] 40)).heap.size=wC.heap.size+1:=by simp
  clear mX eX x0 x1 x2 x3 x4 x5 x6
  generalize wC.alloc (Obj.cells _ 40)=wX at *
  have zAC:=lt_of_block AC.out
  generalize hpa:wC.heap.size=pa at *
  have HTK:=Hxq (HTk1.out wX HX.out hv (by omega) rfl (by decide))
  have hadv:=fun u j h=>Sy.adv_must v [40] (i+1) u j (by omega) h
  clear HTk1
  generalize Sy.must v [40] (i+1)=mu at *
  cases mu with
  | err g =>
   have hq:q=.err g:=HR2.out
   subst hq
   clear HR2 hadv
   go_wp2_with fail
   refine HTK.out.mono ?_
   rintro e4 w4 ⟨rfl,⟨jj,h4⟩,m4⟩
   have H4:=Lib.hid h4;have M4:=Hxq (MX.out.trans m4 (by simp));have A4:=Hxq (m4.at AX.out (by simp;omega))
   clear h4 m4
   obtain ⟨r0,r1⟩:=cells2 A4.out
   have fA:∀ j,w4.frozen? ⟨w.heap.size,j,none⟩=false:=fun j=>free_at A4.out j
   go_wp2_with fail
   have mR:=setCs_mod w.heap.size [.string ⟨#[]⟩,.slice none 0 0] 0 w4
   refine bodyPost_ret (res_ct rfl _ _ _ _ _ rfl rfl (load_at (setCs_row (vs:=[.string ⟨#[]⟩,.slice none 0 0]) A4.out rfl) rfl)) rfl ⟨_,rfl,⟨_,_,_,_,rfl⟩,⟨jj,H4.out.new HLo.out mR (by simp)⟩,M4.out.trans mR (by simp)⟩
  | ok u j =>
   have HR3:Hid (q=(Sy.list v [41] (Sy.termB bare v) j).bind fun l j=>.ok ⟨Sy.txt t.text,l⟩ j):=Lib.hid HR2.out
   have hj:=hadv u j rfl
   clear HR2 hadv
   go_wp2_with fail
   refine HTK.out.mono ?_
   rintro e4 w4 ⟨rfl,h4,m4⟩
   have H4:=Lib.hid h4;have M4:=Hxq (MX.out.trans m4 (by simp));have A4:=Hxq (m4.at AX.out (by simp;omega));have B4:=Hxq (m4.at BX.out (by simp;omega));have z4:=m4.size
   clear h4 m4 HTK
   have HIs:=Hxq (HIs1.out j w4 H4.out (by omega))
   have HL0:Hid (Sy.list v [41] (Sy.termB bare v) j=if Sy.sign (v.tk j) [41]=true then .ok [] (j+1) else (Sy.termB bare v j).bind fun a j=>Sy.listF v [41] (Sy.termB bare v) (v.ws.length+1) [a] j):=Lib.hid rfl
   clear HIs1
   generalize Sy.sign (v.tk j) [41]=rs at *
   generalize Sy.list v [41] (Sy.termB bare v) j=ql at *
   go_wp2_with fail
   refine HIs.out.mono ?_
   rintro e5 w5 ⟨rfl,m5⟩
   have H5:=Hxq (H4.out.past m5 (by simp));have M5:=Hxq (M4.out.trans m5 (by simp));have A5:=Hxq (m5.at A4.out (by simp));have B5:=Hxq (m5.at B4.out (by simp));have z5:=m5.size
   clear m5 HIs
   cases rs
   ·have HL1:Hid (ql=(Sy.termB bare v j).bind fun a j=>Sy.listF v [41] (Sy.termB bare v) (v.ws.length+1) [a] j):=Lib.hid HL0.out
    clear HL0
    go_wp2_with fail
    go_loopg [] (v.ws.length+1) (fun gk wr=>∃ (j:Nat) (acc:List Pr.Term) (va:Option Addr) (vc:Nat),GI 113 5 tmV BT [b,pa] w5 wr acc va vc/\RpP wr b ra rc L v j nf0/\wr.heap[w.heap.size]?=some (.cells #[Value.string ⟨#[]⟩,Value.slice none 0 0] 40 (0,0))/\wr.heap[pa]?=some (.cells #[.string (Lx.ofS t.text),.slice va acc.length vc] 40 (0,0))/\j<=v.ws.length/\v.ws.length+1<=gk+j/\acc.length<=j/\ql=(Sy.termB bare v j).bind fun a j=>Sy.listF v [41] (Sy.termB bare v) gk (acc++[a]) j)
    case atStart=>exact ⟨j,[],none,0,.nil (by simp;omega),H5.out,A5.out,B5.out,hj.2,by omega,by simp,HL1.out⟩
    case round =>
     clear HL1
     obtain ⟨j,acc,va,vc,hG,hr,ha,hb,hj,hgk,hal,hql⟩:=hrel
     have G0:=Lib.hid hG;have R0:=Lib.hid hr;have A0:=Lib.hid ha;have B0:=Lib.hid hb;have HQ:=Lib.hid hql
     have HT1:=Hxq (HTm.out j wr hr (by omega))
     have hta:=fun a k h=>HTa.out j a k hj h
     have z6:=hG.mod.size
     clear hG hr ha hb hql
     generalize Sy.termB bare v j=tm at *
     cases tm with
     | err g =>
      have hq:q=.err g:=by rw [HR3.out,HQ.out];rfl
      subst hq
      clear HR3 HQ hta
      go_wp2_with fail
      refine HT1.out.mono ?_
      rintro e6 w6 ⟨x6,rfl,hx6,⟨jj,h6⟩,m6⟩
      subst hx6
      have mY:=m6.alloc (Obj.cells #[Value.int IntKind.i64 0,Value.string ⟨#[]⟩,Value.int IntKind.i64 0,Value.int IntKind.i64 0,Value.string ⟨#[]⟩] 113)
      have H7:=Hxq (h6.past ((Mod.refl [] w6).alloc (Obj.cells #[Value.int IntKind.i64 0,Value.string ⟨#[]⟩,Value.int IntKind.i64 0,Value.int IntKind.i64 0,Value.string ⟨#[]⟩] 113)) (by simp));have M7:=Hxq (G0.out.mod.trans mY (by simp));have A7:=Hxq (mY.at A0.out (by simp;omega))
      clear h6 m6 mY HT1
      go_upto_region 12 with fail
      generalize w6.alloc (Obj.cells _ 113)=w7 at *
      obtain ⟨r0,r1⟩:=cells2 A7.out
      have fA:∀ j,w7.frozen? ⟨w.heap.size,j,none⟩=false:=fun j=>free_at A7.out j
      go_wp2_with fail
      have mR:=setCs_mod w.heap.size [.string ⟨#[]⟩,.slice none 0 0] 0 w7
      refine bodyPost_ret (res_ct rfl _ _ _ _ _ rfl rfl (load_at (setCs_row (vs:=[.string ⟨#[]⟩,.slice none 0 0]) A7.out rfl) rfl)) rfl ⟨_,rfl,⟨_,_,_,_,rfl⟩,⟨jj,H7.out.new HLo.out mR (by simp)⟩,fin_mod M5.out M7.out mR (by omega) (by omega)⟩
     | ok a k =>
      have HQ2:Hid (ql=Sy.listF v [41] (Sy.termB bare v) gk (acc++[a]) k):=Lib.hid HQ.out
      have hk2:=hta a k rfl
      clear HQ hta
      go_wp2_with fail
      refine HT1.out.mono ?_
      rintro e6 w6 ⟨x6,rfl,hx6,h6,m6⟩
      unfold valM at hx6
      subst hx6
      have mY:=m6.alloc (Obj.cells (tmV a) 113)
      have eY:=heap_alloc_new w6 (Obj.cells (tmV a) 113)
      have H7:=Hxq (h6.past ((Mod.refl [] w6).alloc (Obj.cells (tmV a) 113)) (by simp));have G7:=Hxq (G0.out.keep bearsT (mY.mono (T:=[b,pa]) (by simp)));have A7:=Hxq (mY.at A0.out (by simp;omega));have B7:=Hxq (mY.at B0.out (by simp;omega));have T7:=Lib.hid eY
      have z7:=mY.size
      have hz6:=m6.size
      clear h6 m6 mY eY HT1 G0 A0 B0
      unfold tmV at *
      go_upto_region 12 with fail
      generalize w6.alloc (Obj.cells _ 113)=w7 at *
      obtain ⟨y0,y1,y2,y3,y4⟩:=cells5 T7.out
      have e1:=cell_at B7.out 1
      simp only [List.getElem?_toArray,List.getElem?_cons_zero,List.getElem?_cons_succ] at e1
      have FB:Hid (∀ wZ,wZ=w7.alloc (Obj.cells #[.int .i64 a.k,.string a.v,.int .i64 a.x.k,.int .i64 a.x.n,.string (Lx.ofS a.x.s)] 113)->GI 113 5 tmV BT [b,pa] w5 wZ acc va vc/\Src Tryz.prog 5 38 (.slice (some ⟨w7.heap.size,0,none⟩) 1 1) 1 (tmV a).toList wZ/\Mod [] w7 wZ/\wZ.cell? ⟨pa,1,none⟩=some (.slice va acc.length vc)):=Hxq (fun wZ e=>by
       subst e
       have mZ:=(Mod.refl [] w7).alloc (Obj.cells #[.int .i64 a.k,.string a.v,.int .i64 a.x.k,.int .i64 a.x.n,.string (Lx.ofS a.x.s)] 113)
       exact ⟨G7.out.keep bearsT (mZ.mono (by simp)),src_one (cs:=tmV a) Tryz.underlying38 (heap_alloc_new w7 _) rfl (tmV_one a),mZ,cell_at (mZ.at B7.out (by simp)) 1⟩)
      go_wp2_with (at_builtin;refine wpList_append_src _ rfl _ _ 38 38 rfl 113 i0 (.agg #[Value.int IntKind.i64 0,Value.string ⟨#[]⟩,Value.int IntKind.i64 0,Value.int IntKind.i64 0,Value.string ⟨#[]⟩]) 5 56 Tryz.underlying38 hinf hz0 hz1 hz2 rfl (.slice va acc.length vc) acc.length (rowCells tmV acc) rfl (FB.out _ rfl).1.row _ 1 (tmV a).toList rfl (FB.out _ rfl).2.1 (by unfold maxLen;omega) (by omega) ?_)
      intro v' w8 hown8 hm8 hf8 hn8
      obtain ⟨va8,vc8,rfl⟩:=owns_slice hown8
      obtain ⟨GX,SX,MX2,CX⟩:=FB.out _ rfl
      have hnew:=GX.new
      have hna:pa∉fp (.slice va acc.length vc):=fun hk=>by have:=hnew pa hk;omega
      have hnr:w.heap.size∉fp (.slice va acc.length vc):=fun hk=>by have:=hnew _ hk;omega
      have G8:=Hxq (GX.grow (m:=w7.heap.size+1) bearsT hm8 (p:=a) trivial (fun k hk=>by have:=fp_lt G7.out.row k hk;omega) (by omega) hown8 (fun k hk=>by
       rcases hf8 k hk with hh | hh
       ·exact .inl hh
       ·exact .inr (by simpa using hh)))
      have B8:=hm8.at (MX2.at B7.out (by simp)) hna
      have A8:=Hxq (hm8.at (MX2.at A7.out (by simp)) hnr)
      have H8:=Hxq ((H7.out.past MX2 (by simp)).new HLo.out hm8 (fun k hk=>by have:=hnew k hk;omega))
      have q8:w8.cell? ⟨pa,1,none⟩=some (.slice va acc.length vc):=hm8.cell (p:=⟨pa,1,none⟩) CX hna
      have f8:w8.frozen? ⟨pa,1,none⟩=false:=free_at B8 1
      have mP:Mod [pa] w8 (w8.setCell ⟨pa,1,none⟩ (.slice va8 (acc.length+1) vc8)):=(Mod.refl [pa] w8).setCell (p:=⟨pa,1,none⟩) (.inl (by simp)) _
      have B9:Hid ((w8.setCell ⟨pa,1,none⟩ (.slice va8 (acc.length+1) vc8)).heap[pa]?=some (.cells #[.string (Lx.ofS t.text),.slice va8 (acc.length+1) vc8] 40 (0,0))):=Hxq (by
       have:=setCell_at B8 1 (.slice va8 (acc.length+1) vc8)
       simpa using this)
      have G9:=Hxq (G8.out.keep bearsT (mP.mono (by simp)))
      have A9:=Hxq (mP.at A8.out (by simp;omega))
      have H9:=Hxq (H8.out.new HLo.out mP (by simp;omega))
      clear hnew hna hnr hown8 hm8 hf8 hn8 GX SX MX2 CX FB e1 y0 y1 y2 y3 y4 G8 B8 A8 H8 G7 H7 A7 B7 T7 mP
      go_upto_region 15 with fail
      generalize w8.setCell ⟨pa,1,none⟩ (.slice va8 (acc.length+1) vc8)=w9 at *
      clear q8 f8
      have HI2:=Hxq (HIs2.out k w9 H9.out (by omega))
      obtain ⟨g',rfl⟩:∃ g',gk=g'+1:=⟨gk - 1,by omega⟩
      have hs1:=fun h=>Sy.sign_lt (v:=v) (i:=k) (s:=[44]) h
      have hL2:=Sy.listF_eq2 v [41] (Sy.termB bare v) g' (acc++[a]) k
      have hL3:=Sy.listF_eq3 v [41] (Sy.termB bare v) g' (acc++[a]) k
      generalize Sy.sign (v.tk k) [44]=rc2 at *
      cases rc2
      ·have HQ3:Hid (ql=(Sy.must v [41] k).bind fun _ j=>.ok (acc++[a]) j):=Hxq (by rw [HQ2.out,hL3 rfl])
       clear hL2 hL3 HQ2 hs1
       go_wp2_with fail
       refine HI2.out.mono ?_
       rintro e10 w10 ⟨rfl,m10⟩
       have G10:=Hxq (G9.out.keep bearsT (m10.mono (by simp)));have A10:=Hxq (m10.at A9.out (by simp));have B10:=Hxq (m10.at B9.out (by simp));have H10:=Hxq (H9.out.past m10 (by simp))
       clear m10 G9 A9 B9 H9 HI2
       have mD:=(Mod.refl [] w10).drew
       have HK:=Hxq (HTk2.out k w10.drew (H10.out.past mD (by simp)) (by omega))
       clear mD
       go_upto_region 16 with fail
       have hmu:∀ (mu:Sy.PR Unit),Sy.must v [41] k=mu->q=mu.bind fun _ j=>.ok ⟨Sy.txt t.text,acc++[a]⟩ j:=fun mu e=>by
        rw [HR3.out,HQ3.out,e];cases mu <;> rfl
       have HMu:=Lib.hid hmu
       clear hmu HR3 HQ3
       generalize hmm:Sy.must v [41] k=mu at *
       have hq:=HMu.out mu rfl
       clear HMu hmm
       have QA:=Hxq (show w10.cell? ⟨pa,0,none⟩=some (.string (Lx.ofS t.text)) from cell_at B10.out 0);have QB:=Hxq (show w10.cell? ⟨pa,1,none⟩=some (.slice va8 (acc.length+1) vc8) from cell_at B10.out 1)
       refine wp_region_held_drew (S:=(fun w':World=>Mod [b,w.heap.size] w10 w')) (by kernel_rfl) (by (try dsimp only);exact (Mod.refl [b,w.heap.size] w10).drew) (fun hHeld=>?_)
       refine Tkq 0 (v:=?_) (by assumption) ?_ ?_ ?_
       rotate_left 1
       ·refine .inl ⟨by rfl,?_⟩;intro w hSw;have s0:=hSw.cell QA.out (by simp;omega);have s1:=hSw.cell QB.out (by simp;omega);clear hSw;go_simp
        all_goals with_reducible rfl
       ·exact fun _ _ _ h=>h
       try simp only [Act.put,Lq1,Lq2,Lq3]
       refine Tkq 1 (v:=?_) (by assumption) ?_ ?_ ?_
       rotate_left 1
       ·refine .inl ⟨by rfl,?_⟩;intro w hSw;have s0:=hSw.cell QA.out (by simp;omega);have s1:=hSw.cell QB.out (by simp;omega);clear hSw;go_simp
        all_goals with_reducible rfl
       ·exact fun _ _ _ h=>h
       try simp only [Act.put,Lq1,Lq2,Lq3]
       cases mu with
       | err g =>
        have hq2:q=.err g:=hq
        clear hq
        subst hq2
        refine wpAnyH_ready (rs:=[2]) (by kernel_rfl) (by simp) ?_
        refine AllReadyH.cons (o:=?_) ?_ ?_ AllReadyH.nil
        rotate_left 1
        ·(simp only [Gq1,Gq2,Gq3])<;>rfl
        intro K hK
        go_simp
        refine HK.out.mono ?_
        rintro e12 w12 ⟨rfl,⟨jj,h12⟩,m12⟩
        have N12:=Hxq ((Mod.refl [b] w10).drew.trans m12 (by simp))
        have H12:=Lib.hid h12
        clear m12 h12
        refine hK.out _ _ (by (try dsimp only);exact N12.out.mono (by simp)) (fun hHeld=>?_)
        clear hK K
        try simp only [Act.put,Lq1,Lq2,Lq3]
        refine wpAnyH_ready (rs:=[3]) (by kernel_rfl) (by simp) ?_
        refine AllReadyH.cons (o:=?_) ?_ ?_ AllReadyH.nil
        rotate_left 1
        ·(simp only [Gq1,Gq2,Gq3])<;>rfl
        intro K hK
        have A12:=Hxq (N12.out.at A10.out (by simp;omega));have M12:=Hxq (G10.out.mod.trans (N12.out.mono (T:=[b,pa]) (by simp)) (by simp))
        have RW:=Hxq (RowB.of_owns (F:=fun k=>w.heap.size<k) tmV_size (G10.out.keep bearsT (N12.out.mono (by simp))).row (fun k hk=>by have:=G10.out.new k hk;omega))
        obtain ⟨r0,r1⟩:=cells2 A12.out
        have fA:∀ j,w12.frozen? ⟨w.heap.size,j,none⟩=false:=fun j=>free_at A12.out j
        have mR:=setCs_mod w.heap.size [.string (Lx.ofS t.text),.slice va8 (acc.length+1) vc8] 0 w12
        have N13:=Hxq ((N12.out.mono (T:=[b,w.heap.size]) (by simp)).trans (mR.mono (T:=[b,w.heap.size]) (by simp)) (by simp))
        clear mR
        go_simp
        refine hK.out _ _ (by (try dsimp only);exact N13.out) (fun hHeld=>?_)
        clear hK K
        try simp only [Act.put,Lq1,Lq2,Lq3]
        refine Tkq 4 (v:=?_) (by assumption) ?_ ?_ ?_
        rotate_left 1
        ·refine .inl ⟨by rfl,?_⟩;intro w hSw;have s0:=hSw.cell QA.out (by simp;omega);have s1:=hSw.cell QB.out (by simp;omega);clear hSw;go_simp
         all_goals with_reducible rfl
        ·exact fun _ _ _ h=>h
        try simp only [Act.put,Lq1,Lq2,Lq3]
        refine wpAnyH_done (by kernel_rfl) ?_ _
        clear r0 r1 fA
        go_wp2_with fail
        have mR:=setCs_mod w.heap.size [.string (Lx.ofS t.text),.slice va8 (acc.length+1) vc8] 0 w12
        refine bodyPost_ret (res_ct rfl _ _ _ _ _ rfl rfl (load_at (setCs_row (vs:=[.string (Lx.ofS t.text),.slice va8 (acc.length+1) vc8]) A12.out rfl) rfl)) rfl ⟨_,rfl,⟨_,_,_,_,rfl⟩,⟨jj,H12.out.new HLo.out mR (by simp)⟩,fin_mod M5.out M12.out mR (by omega) (by omega)⟩
       | ok u k2 =>
        have hq2:q=.ok ⟨Sy.txt t.text,acc++[a]⟩ k2:=hq
        clear hq
        subst hq2
        refine wpAnyH_ready (rs:=[2]) (by kernel_rfl) (by simp) ?_
        refine AllReadyH.cons (o:=?_) ?_ ?_ AllReadyH.nil
        rotate_left 1
        ·(simp only [Gq1,Gq2,Gq3])<;>rfl
        intro K hK
        go_simp
        refine HK.out.mono ?_
        rintro e12 w12 ⟨rfl,h12,m12⟩
        have N12:=Hxq ((Mod.refl [b] w10).drew.trans m12 (by simp))
        have H12:=Lib.hid h12
        clear m12 h12
        refine hK.out _ _ (by (try dsimp only);exact N12.out.mono (by simp)) (fun hHeld=>?_)
        clear hK K
        try simp only [Act.put,Lq1,Lq2,Lq3]
        refine wpAnyH_ready (rs:=[3]) (by kernel_rfl) (by simp) ?_
        refine AllReadyH.cons (o:=?_) ?_ ?_ AllReadyH.nil
        rotate_left 1
        ·(simp only [Gq1,Gq2,Gq3])<;>rfl
        intro K hK
        have A12:=Hxq (N12.out.at A10.out (by simp;omega));have M12:=Hxq (G10.out.mod.trans (N12.out.mono (T:=[b,pa]) (by simp)) (by simp))
        have RW:=Hxq (RowB.of_owns (F:=fun k=>w.heap.size<k) tmV_size (G10.out.keep bearsT (N12.out.mono (by simp))).row (fun k hk=>by have:=G10.out.new k hk;omega))
        obtain ⟨r0,r1⟩:=cells2 A12.out
        have fA:∀ j,w12.frozen? ⟨w.heap.size,j,none⟩=false:=fun j=>free_at A12.out j
        have mR:=setCs_mod w.heap.size [.string (Lx.ofS t.text),.slice va8 (acc.length+1) vc8] 0 w12
        have N13:=Hxq ((N12.out.mono (T:=[b,w.heap.size]) (by simp)).trans (mR.mono (T:=[b,w.heap.size]) (by simp)) (by simp))
        clear mR
        go_simp
        refine hK.out _ _ (by (try dsimp only);exact N13.out) (fun hHeld=>?_)
        clear hK K
        try simp only [Act.put,Lq1,Lq2,Lq3]
        refine Tkq 4 (v:=?_) (by assumption) ?_ ?_ ?_
        rotate_left 1
        ·refine .inl ⟨by rfl,?_⟩;intro w hSw;have s0:=hSw.cell QA.out (by simp;omega);have s1:=hSw.cell QB.out (by simp;omega);clear hSw;go_simp
         all_goals with_reducible rfl
        ·exact fun _ _ _ h=>h
        try simp only [Act.put,Lq1,Lq2,Lq3]
        refine wpAnyH_done (by kernel_rfl) ?_ _
        clear r0 r1 fA
        go_wp2_with fail
        have mR:=setCs_mod w.heap.size [.string (Lx.ofS t.text),.slice va8 (acc.length+1) vc8] 0 w12
        refine bodyPost_ret (res_ct rfl _ _ _ _ _ rfl rfl (load_at (setCs_row (vs:=[.string (Lx.ofS t.text),.slice va8 (acc.length+1) vc8]) A12.out rfl) rfl)) rfl ⟨_,rfl,⟨_,rfl,?_⟩,H12.out.new HLo.out mR (by simp),fin_mod M5.out M12.out mR (by omega) (by omega)⟩
        have hRW:=(RW.out.keep mR (fun s hs=>by rw [Msq] at hs;omega)).mono (F':=fun k=>w.heap.size<=k) (fun k hk _=>Nat.le_of_lt hk)
        rw [List.length_append] at hRW
        exact hRW
      ·have HQ3:Hid (ql=(Sy.termB bare v (k+1)).bind fun a' j=>Sy.listF v [41] (Sy.termB bare v) g' (acc++[a]++[a']) j):=Hxq (by rw [HQ2.out,hL2 rfl])
       have hkl:=hs1 rfl
       clear hL2 hL3 HQ2 hs1
       go_wp2_with fail
       refine HI2.out.mono ?_
       rintro e10 w10 ⟨rfl,m10⟩
       have G10:=Hxq (G9.out.keep bearsT (m10.mono (by simp)));have A10:=Hxq (m10.at A9.out (by simp));have B10:=Hxq (m10.at B9.out (by simp));have H10:=Hxq (H9.out.past m10 (by simp))
       clear m10 G9 A9 B9 H9 HI2
       obtain ⟨c0,c1,c2,c3,c4,c5,c6,c7,c8,c9,fz⟩:=H10.out.cells
       have hT:=H10.out.to (k+1)
       have A11:=Hxq (hT.2.at A10.out (by simp;omega));have B11:=Hxq (hT.2.at B10.out (by simp;omega));have G11:=Hxq (G10.out.keep bearsT (hT.2.mono (by simp)));have H11:=Lib.hid hT.1
       clear hT
       go_wp2_with fail
       go_roundg g'
       case measure=>omega
       case rel=>exact ⟨k+1,acc++[a],va8,vc8,G11.out,H11.out,A11.out,by rw [List.length_append];exact B11.out,by omega,by omega,by simp;omega,HQ3.out⟩
   ·have hql:ql=.ok [] (j+1):=HL0.out
    subst hql
    have hq:q=.ok ⟨Sy.txt t.text,[]⟩ (j+1):=HR3.out
    subst hq
    clear HR3 HL0
    obtain ⟨c0,c1,c2,c3,c4,c5,c6,c7,c8,c9,fz⟩:=H5.out.cells
    have hT:=H5.out.to (j+1)
    have aD:(w5.setCell ⟨b,6,none⟩ (.int .i64 ((j:Int)+1))).heap[w.heap.size]?=_:=hT.2.at A5.out (by simp;omega)
    have bD:(w5.setCell ⟨b,6,none⟩ (.int .i64 ((j:Int)+1))).heap[pa]?=_:=hT.2.at B5.out (by simp;omega)
    have HD2:Hid (RpP (w5.setCell ⟨b,6,none⟩ (.int .i64 ((j:Int)+1))) b ra rc L v (j+1) nf0):=Lib.hid hT.1
    have MD2:Hid (Mod [b] w (w5.setCell ⟨b,6,none⟩ (.int .i64 ((j:Int)+1)))):=Hxq ((M5.out.mono (T:=[b]) (by simp)).trans hT.2 (by simp))
    clear hT
    go_upto_region 10 with fail
    generalize w5.setCell ⟨b,6,none⟩ (.int .i64 ((j:Int)+1))=wD at *
    clear c0 c1 c2 c3 c4 c5 c6 c7 c8 c9 fz
    have AD:=Lib.hid aD;have BD:=Lib.hid bD
    obtain ⟨y0,y1⟩:=cells2 bD
    obtain ⟨r0,r1⟩:=cells2 aD
    have fA:∀ j,wD.frozen? ⟨w.heap.size,j,none⟩=false:=fun j=>free_at aD j
    clear aD bD
    go_wp2_with fail
    have mR:=setCs_mod w.heap.size [.string (Lx.ofS t.text),.slice none 0 0] 0 wD
    refine bodyPost_ret (res_ct rfl _ _ _ _ _ rfl rfl (load_at (setCs_row (vs:=[.string (Lx.ofS t.text),.slice none 0 0]) AD.out rfl) rfl)) rfl ⟨_,rfl,⟨_,rfl,.nil⟩,HD2.out.new HLo.out mR (by simp),MD2.out.trans mR (by simp)⟩
end Go.Proofs.YtppigckioalhhaaGreatDoorR
