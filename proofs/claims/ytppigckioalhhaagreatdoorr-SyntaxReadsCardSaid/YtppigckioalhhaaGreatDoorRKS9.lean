/- THE TEXTS MERGED: SyTok SyTok2 SyAdv SyNz. -/
import Derived.Test.YtppigckioalhhaaGreatDoorRKS1
import Derived.Test.YtppigckioalhhaaGreatDoorRKS8
namespace Go.Proofs.YtppigckioalhhaaGreatDoorR
open Go.RowKit
set_option linter.unusedVariables false
set_option linter.unusedSimpArgs false
set_option maxRecDepth 100000
def resU:List (List UInt8):=[[114,101,108,97,116,105,111,110],[110,111,116],[110,117,109],[115,121,109],[109,111,100],[99,111,117,110,116],[115,117,109],[109,105,110],[109,97,120]]
def resB (s:ByteArray):Bool:=resU.contains s.toList
theorem Reserved_any (s:ByteArray) (w:World) :
  Calls Tryz.prog 107 #[.string s] w fun e w'=>e=.returned (.bool (resB s))/\w'=w:=by
 go_enter Tryz.func107,Tryz.ntmps107
 go_wp2
 all_goals (first | (exfalso;simp_all;done) | (go_ret;exact ⟨by congr 1;simp_all [resB,resU],rfl⟩))
theorem toList_ofS (l:List Nat):(Lx.ofS l).toList=l.map UInt8.ofNat:=by rw [ByteArray.toList_eq];simp [Lx.ofS]
theorem map_beq {a l:List Nat} (ha:∀ c∈a,c<256) (hl:∀ c∈l,c<256):(a.map UInt8.ofNat == l.map UInt8.ofNat)=decide (a=l):=by
 rw [<-toList_ofS,<-toList_ofS];exact ofS_beq ha hl
theorem contains_map (R:List (List Nat)) (hR:∀ l∈R,∀ c∈l,c<256) {a:List Nat} (ha:∀ c∈a,c<256):(R.map (·.map UInt8.ofNat)).contains (a.map UInt8.ofNat)=R.contains a:=by
 induction R with
 | nil=>rfl
 | cons l r ih =>
  rw [List.map_cons,List.contains_cons,List.contains_cons,ih (fun x hx=>hR x (List.mem_cons_of_mem _ hx)),map_beq ha (hR l List.mem_cons_self)]
  by_cases h:a=l <;> simp [h]
theorem resB_ofS {tx:List Nat} (h:∀ c∈tx,c<256):resB (Lx.ofS tx)=Sy.resW.contains tx:=by
 unfold resB
 rw [toList_ofS,<-contains_map Sy.resW (by decide) h]
 rfl
theorem plain_any (t:Lx.Tok) (w:World) (ht:∀ c∈t.text,c<256) :
  Calls Tryz.prog 71 #[.agg (tokC t)] w fun e w'=>e=.returned (.bool (Sy.plain t))/\Mod [] w w':=by
 have hq:=resB_ofS ht
 have eA:=heap_alloc_new w (Obj.cells (tokC t) 74)
 obtain ⟨x0,x1,x2,x3,x4,x5,x6⟩:=tok_cells eA
 have MA:=Hxq ((Mod.refl [] w).alloc (Obj.cells (tokC t) 74))
 have hr:Hid (Sy.plain t=(decide (t.kind=1) && !(Sy.resW.contains t.text))):=Lib.hid rfl
 have hW:=fun w=>Reserved_any (Lx.ofS t.text) w
 rw [hq] at hW
 generalize Sy.resW.contains t.text=q at *
 have HW:=Lib.hid hW
 unfold tokC at *
 clear eA ht hq hW
 by_cases h1:t.kind=1
 ·have k1:((t.kind:Int) == 1)=true:=by rw [h1];rfl
  have HR:Hid (Sy.plain t=!q):=Hxq (by rw [hr.out,decide_eq_true h1];rfl)
  clear h1 hr
  go_enter Tryz.func71,Tryz.ntmps71
  go_wp2_with fail
  refine (HW.out _).mono ?_
  rintro e1 w1 ⟨rfl,rfl⟩
  go_wp2_with fail
  go_ret
  exact ⟨by rw [HR.out];rfl,MA.out⟩
 ·have k1:((t.kind:Int) == 1)=false:=by rw [beq_eq_false_iff_ne];omega
  have HR:Hid (Sy.plain t=false):=Hxq (by rw [hr.out,decide_eq_false h1];rfl)
  clear h1 hr
  go_enter Tryz.func71,Tryz.ntmps71
  go_wp2_with fail
  go_ret
  exact ⟨by rw [HR.out];rfl,MA.out⟩
def valT:Lx.Tok->World->Value->Prop:=fun t _ x=>x=.agg (tokC t)
theorem name_any (b:Nat) (ra:Option Addr) (rc:Nat) (f:Value) (v:Sy.Env) (i:Nat) (w:World) (h:RdP w b ra rc f v i) (hv:EnvOk v) (hi:i<=70000) :
  Calls Tryz.prog 86 #[.pointer (some ⟨b,0,none⟩)] w (PRes b ra rc f v (Sy.name v i) valT w):=by
 have mA:=(Mod.refl [] w).alloc (Obj.cells #[Value.int IntKind.i64 0,Value.string ⟨#[]⟩,Value.int IntKind.i64 0,Value.int IntKind.i64 0,Value.string ⟨#[]⟩,Value.int IntKind.i64 0,Value.int IntKind.i64 0] 74)
 have hA:=h.past mA (by simp)
 have eA:=heap_alloc_new w (Obj.cells #[Value.int IntKind.i64 0,Value.string ⟨#[]⟩,Value.int IntKind.i64 0,Value.int IntKind.i64 0,Value.string ⟨#[]⟩,Value.int IntKind.i64 0,Value.int IntKind.i64 0] 74)
 have HP:=Hxq (peek0 b ra rc f v i _ hA hv hi)
 have HB:=Hxq (hv.tbyte i)
 have HR:Hid (Sy.name v i=if Sy.plain (v.tk i)=true then .ok (v.tk i) (i+1) else .err (v.give 40 i)):=Lib.hid rfl
 have HPl:=Hxq (fun w=>plain_any (v.tk i) w HB.out)
 have HH:=Lib.hid hA;have EA:=Lib.hid eA;have MA:=Lib.hid mA
 have hbl:=h.lt
 have HLo:=Lib.hid h.low
 clear h hA eA mA HB
 generalize v.tk i=t at *
 generalize Sy.plain t=r at *
 generalize Sy.name v i=q at *
 go_enter Tryz.func86,Tryz.ntmps86
 go_upto_region 1 with fail
 have hsA:(w.alloc (Obj.cells #[Value.int IntKind.i64 0,Value.string ⟨#[]⟩,Value.int IntKind.i64 0,Value.int IntKind.i64 0,Value.string ⟨#[]⟩,Value.int IntKind.i64 0,Value.int IntKind.i64 0] 74)).heap.size=w.heap.size+1:=by simp
 generalize w.alloc (Obj.cells #[Value.int IntKind.i64 0,Value.string ⟨#[]⟩,Value.int IntKind.i64 0,Value.int IntKind.i64 0,Value.string ⟨#[]⟩,Value.int IntKind.i64 0,Value.int IntKind.i64 0] 74)=wA at *
 go_wp2_with fail
 refine HP.out.mono ?_
 rintro e1 w1 ⟨rfl,m1⟩
 have s1:=m1.size
 have mB:=(Mod.refl [] w1).alloc (Obj.cells (tokC t) 74)
 have eB:=heap_alloc_new w1 (Obj.cells (tokC t) 74)
 have HH:=Hxq ((HH.out.past m1 (by simp)).past mB (by simp));have EA:=Hxq (mB.at (m1.at EA.out (by simp)) (by simp));have MA:=Hxq ((MA.out.trans m1 (by simp)).trans mB (by simp));have EB:=Lib.hid eB
 obtain ⟨x0,x1,x2,x3,x4,x5,x6⟩:=tok_cells eB
 clear m1 mB eB
 unfold tokC at *
 go_upto_region 2 with fail
 generalize w1.alloc (Obj.cells _ 74)=wB at *
 go_wp2_with fail
 refine (HPl.out wB).mono ?_
 rintro e2 w2 ⟨rfl,m2⟩
 have h2:=HH.out.past m2 (by simp)
 have e2:=m2.at EB.out (by simp)
 have a2:=m2.at EA.out (by simp)
 obtain ⟨c0,c1,c2,c3,c4,c5,fz⟩:=h2.cells
 have H2:=Lib.hid h2;have M2:=Hxq (MA.out.trans m2 (by simp));have EA2:=Lib.hid a2;have EB2:=Lib.hid e2
 clear h2 m2 x0 x1 x2 x3 x4 x5 x6
 cases r
 ·obtain rfl:q=.err (v.give 40 i):=HR.out
  clear HR e2 a2
  go_wp2_with fail
  refine (give_any b ra rc f v i 40 w2 H2.out hv hi).mono ?_
  rintro e3 w3 ⟨rfl,m3⟩
  have M3:=Hxq (M2.out.trans m3 (by simp))
  clear m3
  unfold stopE
  go_wp2_with fail
  exact ⟨rfl,rfl,M3.out.mono (by simp)⟩
 ·obtain rfl:q=.ok t (i+1):=HR.out
  have hT:=H2.out.to (i+1)
  have hA3:(w2.setCell ⟨b,1,none⟩ (.int .i64 ((i:Int)+1))).heap[w.heap.size]?=_:=hT.2.at EA2.out (by simp;omega)
  have hB3:(w2.setCell ⟨b,1,none⟩ (.int .i64 ((i:Int)+1))).heap[w1.heap.size]?=_:=hT.2.at EB2.out (by simp;omega)
  have HT:Hid (RdP (w2.setCell ⟨b,1,none⟩ (.int .i64 ((i:Int)+1))) b ra rc f v (i+1)/\Mod [b] w (w2.setCell ⟨b,1,none⟩ (.int .i64 ((i:Int)+1)))):=Lib.hid ⟨hT.1,(M2.out.mono (T:=[b]) (by simp)).trans hT.2 (by simp)⟩
  obtain ⟨x0,x1,x2,x3,x4,x5,x6⟩:=tok_cells hB3
  have fA:∀ j,(w2.setCell ⟨b,1,none⟩ (.int .i64 ((i:Int)+1))).frozen? ⟨w.heap.size,j,none⟩=false:=fun j=>free_at hA3 j
  have y0:=cell_at hA3 0
  have y1:=cell_at hA3 1
  have y2:=cell_at hA3 2
  have y3:=cell_at hA3 3
  have y4:=cell_at hA3 4
  have y5:=cell_at hA3 5
  have y6:=cell_at hA3 6
  simp only [List.getElem?_toArray,List.getElem?_cons_zero,List.getElem?_cons_succ] at y0 y1 y2 y3 y4 y5 y6
  have HA3:=Lib.hid hA3
  clear HR hT e2 a2 hA3 hB3
  go_upto_region 5 with fail
  generalize w2.setCell ⟨b,1,none⟩ (.int .i64 ((i:Int)+1))=w3 at *
  go_wp2_with fail
  have mR:=mod_tok (b:=w.heap.size) (Mod.refl [w.heap.size] w3) (.inl (by simp)) (.int .i64 (t.kind:Nat)) (.string (Lx.ofS t.text)) (.int .i64 (t.vk:Nat)) (.int .i64 (t.num:Nat)) (.string (Lx.ofS t.sym)) (.int .i64 (t.line:Nat)) (.int .i64 (t.col:Nat))
  refine bodyPost_ret (results_cell_row rfl _ _ _ _ _ _ _ rfl (store_tok HA3.out _ _ _ _ _ _ _) Tryz.underlying74 rfl (by kernel_rfl)) rfl ⟨_,rfl,rfl,HT.out.1.new HLo.out mR (by simp),HT.out.2.trans mR (by simp)⟩
/-- cells written one behind the other -/
def setCs (w:World) (b:Nat):Nat->List Value->World
 | _,[]=>w
 | o,v :: r=>setCs (w.setCell ⟨b,o,none⟩ v) b (o+1) r
theorem setCs_mod (b:Nat):∀ (vs:List Value) (o:Nat) (w:World),Mod [b] w (setCs w b o vs)
 | [],o,w=>Mod.refl _ _
 | v :: r,o,w=>((Mod.refl [b] w).setCell (p:=⟨b,o,none⟩) (.inl (by simp)) v).trans (setCs_mod b r (o+1) _) (by simp)
def putL (cs:List Value):Nat->List Value->List Value
 | _,[]=>cs
 | o,v :: r=>putL (cs.set o v) (o+1) r
theorem setCs_heap {b:Nat} {T:TypeId} {fr:Nat × Nat}:∀ (vs:List Value) (o:Nat) (cs:List Value) (w:World),w.heap[b]?=some (.cells cs.toArray T fr) ->
  (setCs w b o vs).heap[b]?=some (.cells (putL cs o vs).toArray T fr)
 | [],o,cs,w,h=>h
 | v :: r,o,cs,w,h=>by
  have:=setCell_at h o v
  rw [List.setIfInBounds_toArray] at this
  exact setCs_heap r (o+1) (cs.set o v) _ this
theorem putL_get:∀ (vs:List Value) (o:Nat) (cs:List Value) (j:Nat),o+vs.length<=cs.length->(putL cs o vs)[j]?=if j<o then cs[j]? else if j<o+vs.length then vs[j - o]? else cs[j]?
 | [],o,cs,j,_=>by
  by_cases h:j<o
  ·rw [if_pos h];rfl
  ·rw [if_neg h,if_neg (by simp;omega)];rfl
 | v :: r,o,cs,j,h=>by
  simp only [List.length_cons] at h ⊢
  rw [putL,putL_get r (o+1) (cs.set o v) j (by simp;omega)]
  by_cases h1:j<o
  ·rw [if_pos (by omega),if_pos h1,List.getElem?_set_ne (by omega)]
  ·rw [if_neg h1]
   by_cases h2:j=o
   ·subst h2
    rw [if_pos (by omega),if_pos (by omega),List.getElem?_set_self (by omega)];simp
   ·rw [if_neg (by omega)]
    by_cases h3:j<o+(r.length+1)
    ·rw [if_pos (by omega),if_pos h3,show j - o=(j - (o+1))+1 by omega,List.getElem?_cons_succ]
    ·rw [if_neg (by omega),if_neg h3,List.getElem?_set_ne (by omega)]
/-- a row written whole -/
theorem setCs_row {w:World} {b:Nat} {cs:Array Value} {T:TypeId} {fr:Nat × Nat} {vs:List Value} (h:w.heap[b]?=some (.cells cs T fr)) (hn:cs.size=vs.length):(setCs w b 0 vs).heap[b]?=some (.cells vs.toArray T fr):=by
 have h2:=setCs_heap vs 0 cs.toList w (by simpa using h)
 rw [h2]
 congr 2
 refine congrArg List.toArray ?_
 apply List.ext_getElem?
 intro j
 rw [putL_get _ _ _ _ (by simp [hn])]
 rw [if_neg (by omega)]
 by_cases hj:j<vs.length
 ·rw [if_pos (by omega)];simp
 ·rw [if_neg (by omega),List.getElem?_eq_none (by simp;omega),List.getElem?_eq_none (by omega)]
theorem placeF_hit {t:Lx.Tok}:∀ (l:List (List Nat)) (n k:Nat) (hk:k<l.length),(∀ j (h:j<k),Sy.sign t (l[j]'(by omega))=false)->Sy.sign t l[k]=true->Sy.placeF t l n=n+k+1
 | s :: r,n,0,hk,_,h=>by simp [Sy.placeF,show Sy.sign t s=true from h]
 | s :: r,n,k+1,hk,hb,h=>by
  have h0:=hb 0 (by omega)
  rw [Sy.placeF,if_neg (by simpa using h0),placeF_hit r (n+1) k (by simpa using hk) (fun j hj=>by simpa using hb (j+1) (by omega)) (by simpa using h)]
  omega
theorem placeF_miss {t:Lx.Tok}:∀ (l:List (List Nat)) (n:Nat),(∀ s∈l,Sy.sign t s=false)->Sy.placeF t l n=0
 | [],n,_=>rfl
 | s :: r,n,h=>by
  rw [Sy.placeF,if_neg (by simpa using h s List.mem_cons_self),placeF_miss r (n+1) (fun x hx=>h x (List.mem_cons_of_mem _ hx))]
set_option maxHeartbeats 1000000 in
theorem place_any (t:Lx.Tok) (g c:Nat) (ss:List (List Nat)) (w:World) (ht:∀ c∈t.text,c<256) (hss:∀ s∈ss,∀ c∈s,c<256) (hn:ss.length<=100)
  (hc:∀ i (h:i<ss.length),w.cell? ⟨g,i,none⟩=some (.string (Lx.ofS ss[i]))) :
  Calls Tryz.prog 76 #[.agg (tokC t),.slice (some ⟨g,0,none⟩) ss.length c] w fun e w'=>e=.returned (.int .i64 (Sy.place t ss:Nat))/\Mod [] w w':=by
 have eA:=heap_alloc_new w (Obj.cells (tokC t) 74)
 have mA:=(Mod.refl [] w).alloc (Obj.cells (tokC t) 74)
 have HT:=Lib.hid ht;have HSS:=Lib.hid hss;have HC:=Hxq (fun i h=>mA.cell (hc i h) (by simp));have EA:=Lib.hid eA;have MA:=Lib.hid mA
 have HS:=Hxq (fun (s:List Nat) (w:World) (hs:∀ c∈s,c<256)=>sign_any t s (Lx.ofS s) w rfl ht hs)
 clear ht hss hc eA mA
 unfold tokC at *
 go_enter Tryz.func76,Tryz.ntmps76
 go_wp2_with fail
 generalize w.alloc (Obj.cells _ 74)=wA at *
 go_loopg [9] ss.length (fun gk iv wr=>∃ k:Nat,ss.length=gk+k/\iv=.int .i64 (k:Nat)/\Mod [] wA wr/\(∀ j (h:j<k) (h2:j<ss.length),Sy.sign t ss[j]=false))
 case atStart=>exact ⟨0,rfl,rfl,Mod.refl _ _,fun j h=>by omega⟩
 case round =>
  obtain ⟨k,hg,rfl,hm,hb⟩:=hrel
  by_cases hk:k<ss.length
  ·have hkI:(k:Int)<(ss.length:Int):=by omega
   have hk0:(0:Int)<=(k:Int):=by omega
   have hcell:=hm.cell (HC.out k hk) (by simp)
   obtain ⟨x0,x1,x2,x3,x4,x5,x6⟩:=tok_cells (hm.at EA.out (by simp))
   have HM:=Lib.hid hm;have HB:=Lib.hid hb;have HG:=Lib.hid hg
   have HS1:=Hxq (HS.out ss[k] wr (HSS.out _ (List.getElem_mem hk)))
   have HP:Hid (Sy.sign t ss[k]=true->Sy.place t ss=k+1):=Hxq (fun h=>by
    have:=placeF_hit ss 0 k hk (fun j hj=>hb j hj (by omega)) h
    unfold Sy.place;omega)
   have HN:Hid (Sy.sign t ss[k]=false->∀ j (h:j<k+1) (h2:j<ss.length),Sy.sign t ss[j]=false):=Hxq (fun h j hj h2=>by
    by_cases e:j=k
    ·subst e;exact h
    ·exact hb j (by omega) h2)
   generalize ss[k]=s at *
   generalize Sy.sign t s=r at *
   clear hm hb hg
   go_wp2_with fail
   refine HS1.out.mono ?_
   rintro e1 w1 ⟨rfl,m1⟩
   have M1:=Hxq (HM.out.trans m1 (by simp))
   clear m1 x0 x1 x2 x3 x4 x5 x6
   cases r
   ·have HN2:=Hxq (HN.out rfl)
    clear HN HP
    go_wp2_with fail
    go_roundg (gk - 1)
    case measure=>have:=HG.out;omega
    case rel=>exact ⟨k+1,by have:=HG.out;omega,by go_num,M1.out,HN2.out⟩
   ·have HP2:=Hxq (HP.out rfl)
    clear HN HP
    go_wp2_with fail
    go_ret
    exact ⟨by rw [HP2.out];rfl,MA.out.trans M1.out (by simp)⟩
  ·have hkI:¬ (k:Int)<(ss.length:Int):=by omega
   have HM:=Lib.hid hm
   have HP:Hid (Sy.place t ss=0):=Hxq (placeF_miss ss 0 (fun s hs=>by
    obtain ⟨j,hj,rfl⟩:=List.getElem_of_mem hs
    exact hb j (by omega) hj))
   clear hm hb hg
   go_wp2_with fail
   go_ret
   exact ⟨by rw [HP.out];rfl,MA.out.trans HM.out (by simp)⟩
end Go.Proofs.YtppigckioalhhaaGreatDoorR
namespace Go.Proofs.YtppigckioalhhaaGreatDoorR.Sy
open Lx (Tok)
open Pr (Term Atom Ex Li Rul Rel Prog)
set_option linter.unusedVariables false
set_option linter.unusedSimpArgs false
/-- it goes on, and not beyond the words -/
def Adv {α:Type} (v:Env) (one:Nat->PR α):Prop:=∀ j a k,j<=v.ws.length->one j=.ok a k->j<=k/\k<=v.ws.length
theorem bind_ok {α β:Type} {p:PR α} {f:α->Nat->PR β} {b:β} {k:Nat} (h:p.bind f=.ok b k):∃ a j,p=.ok a j/\f a j=.ok b k:=by
 cases p with
 | ok a j=>exact ⟨a,j,rfl,h⟩
 | err e=>cases h
theorem tk_lt {v:Env} {i:Nat} (h:v.tk i≠zT):i<v.ws.length:=by
 by_cases hk:i<v.ws.length
 ·exact hk
 ·exact absurd (by unfold Env.tk;rw [List.getD_eq_getElem?_getD,List.getElem?_eq_none (by omega)];rfl) h
theorem kind_lt {v:Env} {i:Nat} (h:(v.tk i).kind≠0):i<v.ws.length:=tk_lt (fun e=>h (by rw [e];rfl))
theorem sign_kind {t:Tok} {s:List Nat} (h:sign t s=true):t.kind≠0:=by
 unfold sign at h
 simp only [Bool.and_eq_true,Bool.or_eq_true,decide_eq_true_eq] at h
 omega
theorem sign_lt {v:Env} {i:Nat} {s:List Nat} (h:sign (v.tk i) s=true):i<v.ws.length:=kind_lt (sign_kind h)
theorem plain_lt {v:Env} {i:Nat} (h:plain (v.tk i)=true):i<v.ws.length:=by
 refine kind_lt ?_
 unfold plain at h
 simp only [Bool.and_eq_true,decide_eq_true_eq] at h
 omega
theorem placeF_pos {t:Tok}:∀ (l:List (List Nat)) (n:Nat),0<placeF t l n->t.kind≠0
 | [],n,h=>by simp [placeF] at h
 | s :: r,n,h=>by
  rw [placeF] at h
  split at h
  ·rename_i hs;exact sign_kind hs
  ·exact placeF_pos r (n+1) h
theorem adv_must (v:Env) (s:List Nat):Adv v (must v s):=by
 intro j a k hj h
 unfold must at h
 split at h
 ·rename_i hs
  have:=sign_lt hs
  cases h;omega
 ·cases h
theorem adv_name (v:Env):Adv v (name v):=by
 intro j a k hj h
 unfold name at h
 split at h
 ·rename_i hs
  have:=plain_lt hs
  cases h;omega
 ·cases h
theorem constant_adv {v:Env} {j:Nat} {c:Va.Val} {n:Nat} (h:constant v j=some (c,n)):0<n/\j+n<=v.ws.length:=by
 unfold constant at h
 split at h
 ·rename_i hk
  have:j<v.ws.length:=kind_lt (by omega)
  cases h;omega
 ·split at h
  ·rename_i hp
   have:=plain_lt hp
   cases h;omega
  ·split at h
   ·rename_i hs
    have:j+1<v.ws.length:=kind_lt (by rw [hs.2];omega)
    cases h;omega
   ·cases h
theorem adv_value (v:Env):Adv v (value v):=by
 intro j a k hj h
 unfold value at h
 split at h
 ·rename_i c n hc
  have:=constant_adv hc
  cases h;omega
 ·cases h
theorem adv_term (v:Env):Adv v (term v):=by
 intro j a k hj h
 unfold term at h
 split at h
 ·rename_i hk
  have:j<v.ws.length:=kind_lt (by omega)
  cases h;omega
 ·split at h
  ·rename_i hs
   have:=sign_lt hs
   cases h;omega
  ·obtain ⟨c,m,h1,h2⟩:=bind_ok h
   cases h2
   exact adv_value v j c k hj h1
theorem adv_listF {α:Type} {v:Env} {fin:List Nat} {one:Nat->PR α} (hone:Adv v one):∀ (n:Nat) (acc:List α),Adv v (listF v fin one n acc)
 | 0,acc=>fun j a k hj h=>by cases h
 | n+1,acc=>by
  intro j a k hj h
  rw [listF] at h
  split at h
  ·rename_i hs
   have:=sign_lt hs
   obtain ⟨x,m,h1,h2⟩:=bind_ok h
   have h3:=hone (j+1) x m (by omega) h1
   have h4:=adv_listF hone n (acc++[x]) m a k h3.2 h2
   omega
  ·obtain ⟨x,m,h1,h2⟩:=bind_ok h
   have h3:=adv_must v fin j x m hj h1
   cases h2
   omega
theorem adv_list {α:Type} {v:Env} {fin:List Nat} {one:Nat->PR α} (hone:Adv v one):Adv v (list v fin one):=by
 intro j a k hj h
 unfold list at h
 split at h
 ·rename_i hs
  have:=sign_lt hs
  cases h;omega
 ·obtain ⟨x,m,h1,h2⟩:=bind_ok h
  have h3:=hone j x m hj h1
  have h4:=adv_listF hone _ [x] m a k h3.2 h2
  omega
theorem adv_atom (v:Env):Adv v (atom v):=by
 intro j a k hj h
 obtain ⟨t,m,h1,h2⟩:=bind_ok h
 obtain ⟨_,m2,h3,h4⟩:=bind_ok h2
 obtain ⟨l,m3,h5,h6⟩:=bind_ok h4
 cases h6
 have a1:=adv_name v j t m hj h1
 have a2:=adv_must v _ m _ m2 a1.2 h3
 have a3:=adv_list (adv_term v) m2 l k a2.2 h5
 omega
theorem adv_ty (v:Env):Adv v (ty v):=by
 intro j a k hj h
 unfold ty at h
 split at h
 ·cases h
 ·rename_i hn
  have:j<v.ws.length:=kind_lt (placeF_pos _ _ (Nat.pos_of_ne_zero hn))
  cases h;omega
theorem adv_relation (v:Env):Adv v (relation v):=by
 intro j a k hj h
 obtain ⟨t,m,h1,h2⟩:=bind_ok h
 obtain ⟨_,m2,h3,h4⟩:=bind_ok h2
 obtain ⟨l,m3,h5,h6⟩:=bind_ok h4
 cases h6
 have a1:=adv_name v j t m hj h1
 have a2:=adv_must v _ m _ m2 a1.2 h3
 have a3:=adv_list (adv_ty v) m2 l k a2.2 h5
 omega
theorem level_lt {v:Env} {i:Nat} (h:(level (v.tk i)).1≠0):i<v.ws.length:=by
 unfold level at h
 split at h
 ·exact sign_lt ‹_›
 ·split at h
  ·exact sign_lt ‹_›
  ·split at h
   ·exact sign_lt ‹_›
   ·split at h
    ·exact sign_lt ‹_›
    ·split at h
     ·exact sign_lt ‹_›
     ·exact absurd rfl h
theorem adv_chainF {v:Env} {line:Nat} {sub:Nat->Nat->PR (Ex × Nat)} {above:Nat} (hl:line≠0) (hs:∀ ab,Adv v (sub ab)):∀ (n:Nat) (e:Ex) (d:Nat),Adv v (chainF v line sub above n e d)
 | 0,e,d=>fun j a k hj h=>by cases h
 | n+1,e,d=>by
  intro j a k hj h
  rw [chainF] at h
  split at h
  ·cases h;omega
  ·rename_i hne
   have hj2:j<v.ws.length:=level_lt (by omega)
   split at h
   ·cases h
   ·obtain ⟨x,m,h1,h2⟩:=bind_ok h
    have h3:=hs _ (j+1) x m (by omega) h1
    have h4:=adv_chainF hl hs n _ _ m a k h3.2 h2
    omega
theorem adv_exprF (v:Env):∀ (n line above:Nat),line≠0->Adv v (exprF v n line above)
 | 0,line,above,_=>fun j a k hj h=>by cases h
 | n+1,line,above,hl=>by
  intro j a k hj h
  rw [exprF] at h
  split at h
  ·split at h
   ·rename_i hk
    have:j<v.ws.length:=kind_lt (by omega)
    cases h;omega
   ·split at h
    ·rename_i c m hc
     have:=constant_adv hc
     cases h;omega
    ·split at h
     ·rename_i hs
      have:=sign_lt hs
      split at h
      ·cases h
      ·obtain ⟨x,m,h1,h2⟩:=bind_ok h
       cases h2
       have:=adv_exprF v n 3 (above+1) (by omega) (j+1) _ k (by omega) h1
       omega
     ·split at h
      ·cases h
      ·obtain ⟨_,m,h1,h2⟩:=bind_ok h
       obtain ⟨x,m2,h3,h4⟩:=bind_ok h2
       obtain ⟨_,m3,h5,h6⟩:=bind_ok h4
       cases h6
       have a1:=adv_must v _ j _ m hj h1
       have a2:=adv_exprF v n 1 (above+1) (by omega) m x m2 a1.2 h3
       have a3:=adv_must v _ m2 _ k a2.2 h5
       omega
  ·obtain ⟨x,m,h1,h2⟩:=bind_ok h
   have a1:=adv_exprF v n (line+1) above (by omega) j x m hj h1
   have a2:=adv_chainF hl (fun ab=>adv_exprF v n (line+1) ab (by omega)) _ _ _ m a k a1.2 h2
   omega
theorem adv_expr (v:Env):Adv v (expr v):=by
 intro j a k hj h
 obtain ⟨x,m,h1,h2⟩:=bind_ok h
 cases h2
 exact adv_exprF v 60 1 0 (by omega) j _ k hj h1
theorem adv_bodyF {v:Env} {one:Nat->PR Li} (hone:Adv v one):∀ (n:Nat) (acc:List Li),Adv v (bodyF v one n acc)
 | 0,acc=>fun j a k hj h=>by cases h
 | n+1,acc=>by
  intro j a k hj h
  rw [bodyF] at h
  split at h
  ·rename_i hs
   have:=sign_lt hs
   obtain ⟨x,m,h1,h2⟩:=bind_ok h
   have h3:=hone (j+1) x m (by omega) h1
   have h4:=adv_bodyF hone n (acc++[x]) m a k h3.2 h2
   omega
  ·cases h;omega
theorem adv_bodyOf {v:Env} {one:Nat->PR Li} (hone:Adv v one):Adv v (bodyOf v one):=by
 intro j a k hj h
 obtain ⟨x,m,h1,h2⟩:=bind_ok h
 have h3:=hone j x m hj h1
 have h4:=adv_bodyF hone _ [x] m a k h3.2 h2
 omega
theorem adv_aggOf {v:Env} {one:Nat->PR Li} (hone:Adv v one) (br:Nat) {j k:Nat} {a:Ag} (hj:j+3<=v.ws.length) (h:aggOf v one br j=.ok a k):j+3<=k/\k<=v.ws.length:=by
 unfold aggOf at h
 split at h
 ·cases h
 ·obtain ⟨_,m,h1,h2⟩:=bind_ok h
  obtain ⟨o,m2,h3,h4⟩:=bind_ok h2
  obtain ⟨bd,m3,h5,h6⟩:=bind_ok h4
  obtain ⟨_,m4,h7,h8⟩:=bind_ok h6
  cases h8
  have a1:=adv_must v _ (j+3) _ m hj h1
  have a2:m<=m2/\m2<=v.ws.length:=by
   split at h3
   ·obtain ⟨x,n1,g1,g2⟩:=bind_ok h3
    obtain ⟨_,n2,g3,g4⟩:=bind_ok g2
    cases g4
    have b1:=adv_expr v m _ n1 a1.2 g1
    have b2:=adv_must v _ n1 _ m2 b1.2 g3
    omega
   ·cases h3;omega
  have a3:=adv_bodyOf hone m2 bd m3 a2.2 h5
  have a4:=adv_must v _ m3 _ k a3.2 h7
  omega
theorem adv_litF (v:Env):∀ (n br:Nat),Adv v (litF v n br)
 | 0,br=>fun j a k hj h=>by cases h
 | n+1,br=>by
  intro j a k hj h
  rw [litF] at h
  split at h
  ·rename_i hs
   have:=sign_lt hs
   obtain ⟨x,m,h1,h2⟩:=bind_ok h
   cases h2
   have:=adv_atom v (j+1) _ k (by omega) h1
   omega
  ·split at h
   ·obtain ⟨x,m,h1,h2⟩:=bind_ok h
    cases h2
    exact adv_atom v j _ k hj h1
   ·split at h
    ·rename_i hc
     have:j+2<v.ws.length:=kind_lt (placeF_pos _ _ hc.2.2)
     obtain ⟨g,m,h1,h2⟩:=bind_ok h
     cases h2
     have:=adv_aggOf (adv_litF v n (br+1)) br (by omega) h1
     omega
    ·obtain ⟨l,m,h1,h2⟩:=bind_ok h
     have a1:=adv_expr v j l m hj h1
     split at h2
     ·cases h2
     ·rename_i hc
      have:m<v.ws.length:=kind_lt (placeF_pos _ _ (Nat.pos_of_ne_zero hc))
      obtain ⟨r,m2,h3,h4⟩:=bind_ok h2
      cases h4
      have a2:=adv_expr v (m+1) r k (by omega) h3
      omega
theorem adv_lit (v:Env) (br:Nat):Adv v (lit v br):=adv_litF v _ br
theorem adv_body (v:Env):Adv v (body v):=adv_bodyOf (adv_lit v 0)
theorem adv_rule (v:Env):Adv v (rule v):=by
 intro j a k hj h
 obtain ⟨x,m,h1,h2⟩:=bind_ok h
 obtain ⟨b,m2,h3,h4⟩:=bind_ok h2
 cases h4
 have a1:=adv_atom v j x m hj h1
 split at h3
 ·rename_i hs
  have:=sign_lt hs
  have:=adv_body v (m+1) b k (by omega) h3
  omega
 ·cases h3;omega
def Nz {α:Type} (p:PR α):Prop:=∀ f,p=.err f->f.1≠0
section
variable {α β:Type} {v:Env}
theorem Nz.bind {p:PR α} {f:α->Nat->PR β} (h:Nz p) (hf:∀ a i,Nz (f a i)):Nz (p.bind f):=by
 cases p with
 | ok a i=>exact hf a i
 | err e=>exact fun g hg=>by cases hg;exact h e rfl
theorem nz_ok (a:α) (i:Nat):Nz (.ok a i):=fun f h=>by cases h
theorem nz_give (hv:v.last.1≠0) (c i:Nat) (hc:c≠0):Nz (.err (v.give c i):PR α):=fun f h=>by
 cases h
 unfold Env.give
 split
 ·exact hc
 ·exact hv
theorem nz_last (hv:v.last.1≠0):Nz (.err v.last:PR α):=fun f h=>by cases h;exact hv
theorem nz_must (hv:v.last.1≠0) (s:List Nat) (i:Nat):Nz (must v s i):=by
 unfold must
 split
 ·exact nz_ok _ _
 ·exact nz_give hv _ _ (by decide)
theorem nz_listF (hv:v.last.1≠0) (fin:List Nat) {one:Nat->PR α} (h:∀ i,Nz (one i)):∀ (n:Nat) (acc:List α) (i:Nat),Nz (listF v fin one n acc i)
 | 0,acc,i=>nz_last hv
 | n+1,acc,i=>by
  rw [listF]
  split
  ·exact (h _).bind fun a j=>nz_listF hv fin h n _ j
  ·exact (nz_must hv _ _).bind fun _ j=>nz_ok _ _
theorem nz_list (hv:v.last.1≠0) (fin:List Nat) {one:Nat->PR α} (h:∀ i,Nz (one i)) (i:Nat):Nz (list v fin one i):=by
 unfold list
 split
 ·exact nz_ok _ _
 ·exact (h _).bind fun a j=>nz_listF hv fin h _ _ j
theorem nz_name (hv:v.last.1≠0) (i:Nat):Nz (name v i):=by
 unfold name
 split
 ·exact nz_ok _ _
 ·exact nz_give hv _ _ (by decide)
theorem nz_value (hv:v.last.1≠0) (i:Nat):Nz (value v i):=by
 unfold value
 split
 ·exact nz_ok _ _
 ·exact nz_give hv _ _ (by decide)
theorem nz_term (hv:v.last.1≠0) (i:Nat):Nz (term v i):=by
 unfold term
 split
 ·exact nz_ok _ _
 ·split
  ·exact nz_ok _ _
  ·exact (nz_value hv _).bind fun _ _=>nz_ok _ _
theorem nz_atom (hv:v.last.1≠0) (i:Nat):Nz (atom v i):=(nz_name hv _).bind fun _ _=>(nz_must hv _ _).bind fun _ j=>(nz_list hv _ (nz_term hv) j).bind fun _ _=>nz_ok _ _
theorem nz_chain (hv:v.last.1≠0) {line:Nat} {sub:Nat->Nat->PR (Ex × Nat)} (h:∀ ab i,Nz (sub ab i)) {above:Nat}:∀ (n:Nat) (e:Ex) (d i:Nat),Nz (chainF v line sub above n e d i)
 | 0,e,d,i=>nz_last hv
 | n+1,e,d,i=>by
  rw [chainF]
  split
  ·exact nz_ok _ _
  ·split
   ·exact nz_give hv _ _ (by decide)
   ·exact (h _ _).bind fun _ j=>nz_chain hv h n _ _ j
theorem nz_exprF (hv:v.last.1≠0):∀ (k line above i:Nat),Nz (exprF v k line above i)
 | 0,line,above,i=>nz_last hv
 | k+1,line,above,i=>by
  rw [exprF]
  split
  ·split
   ·exact nz_ok _ _
   ·split
    ·exact nz_ok _ _
    ·split
     ·split
      ·exact nz_give hv _ _ (by decide)
      ·exact (nz_exprF hv k _ _ _).bind fun _ _=>nz_ok _ _
     ·split
      ·exact nz_give hv _ _ (by decide)
      ·exact (nz_must hv _ _).bind fun _ j=>(nz_exprF hv k _ _ j).bind fun _ j=>(nz_must hv _ j).bind fun _ _=>nz_ok _ _
  ·exact (nz_exprF hv k _ _ _).bind fun _ j=>nz_chain hv (fun ab i=>nz_exprF hv k _ ab i) _ _ _ j
theorem nz_expr (hv:v.last.1≠0) (i:Nat):Nz (expr v i):=(nz_exprF hv _ _ _ _).bind fun _ _=>nz_ok _ _
theorem nz_bodyF (hv:v.last.1≠0) {one:Nat->PR Li} (h:∀ i,Nz (one i)):∀ (n:Nat) (acc:List Li) (i:Nat),Nz (bodyF v one n acc i)
 | 0,acc,i=>nz_last hv
 | n+1,acc,i=>by
  rw [bodyF]
  split
  ·exact (h _).bind fun a j=>nz_bodyF hv h n _ j
  ·exact nz_ok _ _
theorem nz_bodyOf (hv:v.last.1≠0) {one:Nat->PR Li} (h:∀ i,Nz (one i)) (i:Nat):Nz (bodyOf v one i):=(h _).bind fun a j=>nz_bodyF hv h _ _ j
theorem nz_agg (hv:v.last.1≠0) {one:Nat->PR Li} (h:∀ i,Nz (one i)) (br i:Nat):Nz (aggOf v one br i):=by
 unfold aggOf
 split
 ·exact nz_give hv _ _ (by decide)
 ·refine (nz_must hv _ _).bind fun _ j=>Nz.bind ?_ fun o j=>(nz_bodyOf hv h j).bind fun _ j=>(nz_must hv _ j).bind fun _ _=>nz_ok _ _
  split
  ·exact (nz_expr hv _).bind fun _ j=>(nz_must hv _ j).bind fun _ _=>nz_ok _ _
  ·exact nz_ok _ _
theorem nz_litF (hv:v.last.1≠0):∀ (k br i:Nat),Nz (litF v k br i)
 | 0,br,i=>nz_last hv
 | k+1,br,i=>by
  rw [litF]
  split
  ·exact (nz_atom hv _).bind fun _ _=>nz_ok _ _
  ·split
   ·exact (nz_atom hv _).bind fun _ _=>nz_ok _ _
   ·split
    ·exact (nz_agg hv (fun i=>nz_litF hv k _ i) _ _).bind fun _ _=>nz_ok _ _
    ·refine (nz_expr hv _).bind fun _ j=>?_
     split
     ·exact nz_give hv _ _ (by decide)
     ·exact (nz_expr hv _).bind fun _ _=>nz_ok _ _
theorem nz_lit (hv:v.last.1≠0) (br i:Nat):Nz (lit v br i):=nz_litF hv _ _ _
theorem nz_rule (hv:v.last.1≠0) (i:Nat):Nz (rule v i):=by
 unfold rule
 refine (nz_atom hv _).bind fun _ j=>Nz.bind ?_ fun _ _=>nz_ok _ _
 split
 ·exact nz_bodyOf hv (fun i=>nz_lit hv 0 i) _
 ·exact nz_ok _ _
theorem nz_relation (hv:v.last.1≠0) (i:Nat):Nz (relation v i):=(nz_name hv _).bind fun _ _=>(nz_must hv _ _).bind fun _ j=>(nz_list hv _ (fun i=>by
  unfold ty
  split
  ·exact nz_give hv _ _ (by decide)
  ·exact nz_ok _ _) j).bind fun _ _=>nz_ok _ _
theorem nz_progF (hv:v.last.1≠0):∀ (n:Nat) (p:Prog) (i:Nat),Nz (progF v n p i)
 | 0,p,i=>nz_last hv
 | n+1,p,i=>by
  rw [progF]
  split
  ·split
   ·exact (nz_relation hv _).bind fun _ j=>(nz_must hv _ j).bind fun _ j=>nz_progF hv n _ j
   ·exact (nz_rule hv _).bind fun _ j=>(nz_must hv _ j).bind fun _ j=>nz_progF hv n _ j
  ·exact nz_ok _ _
theorem nz_prog (hv:v.last.1≠0) (i:Nat):Nz (prog v i):=nz_progF hv _ _ _
theorem nz_whole (hv:v.last.1≠0) {one:Nat->PR α} (h:Nz (one 0)):Nz (whole v one):=by
 unfold whole
 refine h.bind fun a i=>?_
 split
 ·exact nz_give hv _ _ (by decide)
 ·exact nz_ok _ _
end
theorem adv_progF (v:Env):∀ (n:Nat) (p:Prog),Adv v (progF v n p)
 | 0,p=>fun j a k hj h=>by cases h
 | n+1,p=>by
  intro j a k hj h
  rw [progF] at h
  split at h
  ·rename_i hl
   split at h
   ·obtain ⟨x,m,h1,h2⟩:=bind_ok h
    have h3:=adv_relation v (j+1) x m (by omega) h1
    obtain ⟨_,m2,h4,h5⟩:=bind_ok h2
    have h6:=adv_must v _ m _ m2 h3.2 h4
    have:=adv_progF v n _ m2 a k h6.2 h5
    omega
   ·obtain ⟨x,m,h1,h2⟩:=bind_ok h
    have h3:=adv_rule v j x m hj h1
    obtain ⟨_,m2,h4,h5⟩:=bind_ok h2
    have h6:=adv_must v _ m _ m2 h3.2 h4
    have:=adv_progF v n _ m2 a k h6.2 h5
    omega
  ·cases h;omega
theorem adv_prog (v:Env):Adv v (prog v):=adv_progF v _ _
theorem env_last (s:List Nat):(envOf s).last.1≠0:=by
 unfold envOf
 simp only
 split
 ·exact (by decide:(42:Nat)≠0)
 ·assumption
end Go.Proofs.YtppigckioalhhaaGreatDoorR.Sy
