/- THE TEXTS MERGED: ReRow ReKey ReMap ReNew. -/
import Derived.Test.YtdpgbnohelepiaaKN1
import Derived.Laws.Tables
import Derived.Deep.WholeRow
import Derived.Deep.MidRow
import Derived.Maps.RangeWalk
import Derived.Maps.OwnSet
import Derived.Maps.OwnOps
import Derived.DeepKeys4
import Derived.Carry
import Derived.Laws.IdiomCopy
namespace Go.Proofs.Ytdpgbnohelepiaa
open Go.RowKit
set_option linter.unusedVariables false
set_option linter.unusedSimpArgs false
set_option maxRecDepth 100000
theorem cell_at {w:World} {b:Nat} {cs:Array Value} {T:TypeId} {fr:Nat × Nat} (h:w.heap[b]?=some (.cells cs T fr)) (i:Nat):w.cell? ⟨b,i,none⟩=cs[i]?:=by simp [World.cell?,h]
theorem free_at {w:World} {b:Nat} {cs:Array Value} {T:TypeId} (h:w.heap[b]?=some (.cells cs T (0,0))) (i:Nat):w.frozen? ⟨b,i,none⟩=false:=by simp [World.frozen?,h]
section
variable {P:Program} {ops:Array Oper} {rest:List Oper} {o:Oper} {a:Act} {w:World} {Q:Exit->Act->World->Prop}
theorem wpList_load_row (hgd:o.guard=none) (ty:TypeId) (x:Operand) (ho:o.op=.load ty x) (g:Nat) (cs:Array Value) (t:TypeId) (fr:Nat × Nat) (hx:a.eval x=.pointer (some ⟨g,0,none⟩)) (hg:w.heap[g]?=some (.cells cs t fr))
  (d:TypeDesc) (hu:P.underlying ty=some d) (hd:(match d with | .struct _ | .array _ _=>true | _=>false)=true) (hi:(P.info? ty).map (·.size)=some cs.size) (h:wpList P ops Q rest (a.put o.dst (.agg cs)) w):wpList P ops Q (o :: rest) a w :=
 wpList_plain hgd fun K hK=>by
  unfold Oper.wp execOp
  simp only [ho,hx,Instr.loadAt,Instr.sureAddr,Sem.run_bind,Sem.run_pure,Result.andThen_ok,run_loadVar_row w g t ty cs fr d hg hu hd hi]
  exact hK _ _ h
theorem wpList_store_new (hgd:o.guard=none) (ty:TypeId) (x y:Operand) (ho:o.op=.store ty x y) (w0:World) (g:Nat) (cells old:Array Value) (t:TypeId) (hx:a.eval x=.pointer (some ⟨g,0,none⟩)) (hy:a.eval y=.agg cells)
  (hw:w=w0.alloc (.cells old t)) (hgg:g=w0.heap.size) (hi:(P.info? ty).map (·.size)=some cells.size) (hold:old.size=cells.size) (h1:cells.toList.all (·.oneCell')=true)
  (h:wpList P ops Q rest (a.put o.dst undef) (w0.alloc (.cells cells t))):wpList P ops Q (o :: rest) a w:=by
 subst hw;subst hgg
 refine wpList_store_row hgd ty x y ho _ cells hx hy t old (heap_alloc_last w0 _) hi hold (by rw [<-Array.all_toList];exact h1) ?_
 rw [World.setRow_alloc_new]
 exact h
theorem wpList_store_at (hgd:o.guard=none) (ty:TypeId) (x y:Operand) (ho:o.op=.store ty x y) (g:Nat) (cells old:Array Value) (t:TypeId) (hx:a.eval x=.pointer (some ⟨g,0,none⟩)) (hy:a.eval y=.agg cells)
  (hg:w.heap[g]?=some (.cells old t (0,0))) (hi:(P.info? ty).map (·.size)=some cells.size) (hold:old.size=cells.size) (h1:cells.toList.all (·.oneCell')=true)
  (h:wpList P ops Q rest (a.put o.dst undef) (w.setRow g cells)):wpList P ops Q (o :: rest) a w :=
 wpList_store_row hgd ty x y ho _ cells hx hy t old hg hi hold (by rw [<-Array.all_toList];exact h1) h
end
theorem Mod.setRow (w:World) (g:Nat) (cs:Array Value):Mod [g] w (w.setRow g cs) :=
 ⟨rfl,rfl,rfl,by simp,fun k hk hn=>setRow_other w g k cs (by simpa using hn)⟩
theorem wpList_copy_valsT {ops:Array Oper} {rest:List Oper} {o:Oper} {a:Act} {Q:Exit->Act->World->Prop} (w:World) (T:TypeId) (hgd:o.guard=none) (d s:Operand)
  (ho:o.op=.call { callee:=.builtin .copy,args:=#[d,s],argTypes:=#[24,24] })
  (g dLen dCap:Nat) (sp:Option Addr) (sCap:Nat) (ts:List Va.Val) (hd:a.eval d=.slice (some ⟨g,0,none⟩) dLen dCap) (hs:a.eval s=.slice sp ts.length sCap)
  (cur:List Value) (hg:w.heap[g]?=some (.cells cur.toArray T (0,0))) (hle:ts.length<=dLen) (hcl:cur.length=dLen * 3) (hr:VRow w (.slice sp ts.length sCap) ts)
  (h:∀ w',Hid (w'.heap[g]?=some (.cells (rowVals ts++cur.drop (ts.length * 3)).toArray T (0,0)))->Mod [g] w w'->wpList Try.prog ops Q rest (a.put o.dst (goInt ts.length)) w') :
  wpList Try.prog ops Q (o :: rest) a w:=by
 have hu:=Try.underlying24
 have hsz:(Try.prog.info? 47).map (·.size)=some 3:=by kernel_rfl
 have hmin:Nat.min ts.length dLen=ts.length:=Nat.min_eq_left hle
 refine wpList_plain hgd fun K hK=>?_
 by_cases h0:ts.length=0
 ·have hrun:=run_copy_nonek (P:=Try.prog) w 24 24 o.type 47 3 (some ⟨g,0,none⟩) sp dLen dCap ts.length sCap hu hsz (by rw [hmin];exact h0)
  unfold Oper.wp
  simp [execOp,ho,resolve,invoke,builtin,hd,hs,hrun,Result.andThen]
  have:=h w (Hxq (by obtain rfl:ts=[]:=List.eq_nil_of_length_eq_zero h0;simpa [rowVals] using hg)) (Mod.refl _ _)
  rw [h0] at this
  exact hK _ _ this
 ·obtain ⟨b,off,rfl,-⟩:=hr.at 0 (by omega)
  have hv:∀ i (h:i<ts.length),ValAt w b (off+i * 3) ts[i]:=by
   intro i hi
   obtain ⟨b',off',e,hv⟩:=hr.at i hi
   simp only [Option.some.injEq,Addr.mk.injEq,and_true] at e
   obtain ⟨rfl,rfl⟩:=e
   exact hv
  have hrun:=run_copy_rowk (P:=Try.prog) w 24 24 o.type 47 3 g 0 dLen dCap ⟨b,off,none⟩ ts.length sCap cur.toArray T (rowVals ts) hu hsz hg (by rw [rowVals_len,hmin]) (VRow.src (c:=0) hv) (by rw [rowVals_len];simp only [List.size_toArray];omega) (rowVals_one ts)
  rw [hmin] at hrun
  unfold Oper.wp
  simp [execOp,ho,resolve,invoke,builtin,hd,hs,hrun,Result.andThen]
  refine hK _ _ (h _ ?_ ?_)
  ·refine Lib.hid ?_
   have:=setRow_heap w g cur.toArray (rowVals ts++cur.drop (ts.length * 3)).toArray T _ hg
   simpa [rowVals_len] using this
  ·exact ⟨rfl,rfl,rfl,by simp [World.setRow],fun k hk hn=>setRow_other w g k _ (by simpa using hn)⟩
def setCs (w:World) (b:Nat):Nat->List Value->World
 | _,[]=>w
 | o,v :: r=>setCs (w.setCell ⟨b,o,none⟩ v) b (o+1) r
theorem setCs_mod (b:Nat):∀ (vs:List Value) (o:Nat) (w:World),Mod [b] w (setCs w b o vs)
 | [],o,w=>Mod.refl _ _
 | v :: r,o,w=>((Mod.refl [b] w).setCell (p:=⟨b,o,none⟩) (.inl (by simp)) v).trans (setCs_mod b r (o+1) _) (by simp)
def putLc (cs:List Value):Nat->List Value->List Value
 | _,[]=>cs
 | o,v :: r=>putLc (cs.set o v) (o+1) r
theorem setCs_heap {b:Nat} {T:TypeId} {fr:Nat × Nat}:∀ (vs:List Value) (o:Nat) (cs:List Value) (w:World),w.heap[b]?=some (.cells cs.toArray T fr) ->
  (setCs w b o vs).heap[b]?=some (.cells (putLc cs o vs).toArray T fr)
 | [],o,cs,w,h=>h
 | v :: r,o,cs,w,h=>by
  have:=setCell_at h o v
  rw [List.setIfInBounds_toArray] at this
  exact setCs_heap r (o+1) (cs.set o v) _ this
theorem putLc_get:∀ (vs:List Value) (o:Nat) (cs:List Value) (j:Nat),o+vs.length<=cs.length->(putLc cs o vs)[j]?=if j<o then cs[j]? else if j<o+vs.length then vs[j - o]? else cs[j]?
 | [],o,cs,j,_=>by
  by_cases h:j<o
  ·rw [if_pos h];rfl
  ·rw [if_neg h,if_neg (by simp;omega)];rfl
 | v :: r,o,cs,j,h=>by
  simp only [List.length_cons] at h ⊢
  rw [putLc,putLc_get r (o+1) (cs.set o v) j (by simp;omega)]
  by_cases h1:j<o
  ·rw [if_pos (by omega),if_pos h1,List.getElem?_set_ne (by omega)]
  ·rw [if_neg h1]
   by_cases h2:j=o
   ·subst h2
    rw [if_pos (by omega),if_pos (by omega),List.getElem?_set_self (by omega)];simp
   ·rw [if_neg (by omega)]
    by_cases h3:j<o+(r.length+1)
    ·rw [if_pos (by omega),if_pos h3,show j - o=(j - (o+1))+1 by omega,List.getElem?_cons_succ]
    ·rw [if_neg (by omega),if_neg h3,List.getElem?_set_ne (by omega)]
/-- a row written whole -/
theorem setCs_row {w:World} {b:Nat} {cs:Array Value} {T:TypeId} {fr:Nat × Nat} {vs:List Value} (h:w.heap[b]?=some (.cells cs T fr)) (hn:cs.size=vs.length):(setCs w b 0 vs).heap[b]?=some (.cells vs.toArray T fr):=by
 have h2:=setCs_heap vs 0 cs.toList w (by simpa using h)
 rw [h2]
 congr 2
 refine congrArg List.toArray ?_
 apply List.ext_getElem?
 intro j
 rw [putLc_get _ _ _ _ (by simp [hn])]
 rw [if_neg (by omega)]
 by_cases hj:j<vs.length
 ·rw [if_pos (by omega)];simp
 ·rw [if_neg (by omega),List.getElem?_eq_none (by simp;omega),List.getElem?_eq_none (by omega)]
/-- a tuple's key -/
def keyC (ts:List Va.Val):Array Value:=(rowVals (ts++List.replicate (8 - ts.length) Va.zero)).toArray
theorem keyC_size {ts:List Va.Val} (h:ts.length<=8):(keyC ts).size=24:=by
 unfold keyC
 rw [List.size_toArray,rowVals_len,List.length_append,List.length_replicate]
 omega
theorem keyC_drop (ts:List Va.Val) (h:ts.length<=8):rowVals ts++(rowVals (List.replicate 8 Va.zero)).drop (ts.length * 3)=rowVals (ts++List.replicate (8 - ts.length) Va.zero):=by
 have e:List.replicate 8 Va.zero=List.replicate ts.length Va.zero++List.replicate (8 - ts.length) Va.zero:=by rw [List.replicate_append_replicate];congr 1;omega
 rw [e,rowVals_app,List.drop_left' (by rw [rowVals_len,List.length_replicate]),rowVals_app]
theorem keyC_one (ts:List Va.Val):(keyC ts).toList.all (·.oneCell')=true:=by
 rw [List.all_eq_true]
 intro v hv
 exact rowVals_one _ v (by simpa [keyC] using hv)
theorem zero24:(#[Value.int .i64 0,Value.int .i64 0,Value.string ⟨#[]⟩,Value.int .i64 0,Value.int .i64 0,Value.string ⟨#[]⟩,Value.int .i64 0,Value.int .i64 0,Value.string ⟨#[]⟩,Value.int .i64 0,Value.int .i64 0,Value.string ⟨#[]⟩,Value.int .i64 0,Value.int .i64 0,Value.string ⟨#[]⟩,Value.int .i64 0,Value.int .i64 0,Value.string ⟨#[]⟩,Value.int .i64 0,Value.int .i64 0,Value.string ⟨#[]⟩,Value.int .i64 0,Value.int .i64 0,Value.string ⟨#[]⟩]:Array Value)=(rowVals (List.replicate 8 Va.zero)).toArray:=rfl
open Go.RowKit
set_option linter.unusedVariables false
set_option linter.unusedSimpArgs false
set_option maxRecDepth 100000
theorem two_vars0 (w:World) (A B:Array Value) (S T:TypeId):((w.alloc (.cells A S)).alloc (.cells B T)).heap[w.heap.size]?=some (.cells A S (0,0))/\((w.alloc (.cells A S)).alloc (.cells B T)).heap[w.heap.size+1]?=some (.cells B T (0,0))/\Mod [] w ((w.alloc (.cells A S)).alloc (.cells B T))/\((w.alloc (.cells A S)).alloc (.cells B T)).heap.size=w.heap.size+2:=by
 have m2:=(Mod.refl [] (w.alloc (.cells A S))).alloc (.cells B T)
 have h1:=heap_alloc_new w (.cells A S)
 have h2:=heap_alloc_new (w.alloc (.cells A S)) (.cells B T)
 have hz:(w.alloc (.cells A S)).heap.size=w.heap.size+1:=by simp
 rw [hz] at h2
 exact ⟨m2.at h1 (by simp),h2,((Mod.refl [] w).alloc _).alloc _,by simp⟩
theorem res_key {fn:Func} {p u:Tmp} (h:fn.results=#[.cell p 68,.tmp u]) (tmps:Array Value) (w:World) (b:Nat) (cs:Array Value) (T:TypeId) (fr:Nat × Nat) (x:Value)
  (hp:tmps.getD p undef=.pointer (some ⟨b,0,none⟩)) (hx:tmps.getD u undef=x) (hg:w.heap[b]?=some (.cells cs T fr)) (hc:(Try.prog.info? 68).map (·.size)=some cs.size) :
  (results fn tmps).run Try.prog w=.ok (.tuple #[.agg cs,x]) w:=by
 have hl:=run_loadVar_row (P:=Try.prog) w b T 68 cs fr _ hg Try.underlying68 rfl hc
 rw [results_cell_tmp h,hp,hx]
 simp [asAddr,hl]
theorem res_note {fn:Func} {p u:Tmp} (h:fn.results=#[.cell p 34,.tmp u]) (tmps:Array Value) (w:World) (b:Nat) (cs:Array Value) (T:TypeId) (fr:Nat × Nat) (x:Value)
  (hp:tmps.getD p undef=.pointer (some ⟨b,0,none⟩)) (hx:tmps.getD u undef=x) (hg:w.heap[b]?=some (.cells cs T fr)) (hc:(Try.prog.info? 34).map (·.size)=some cs.size) :
  (results fn tmps).run Try.prog w=.ok (.tuple #[.agg cs,x]) w:=by
 have hl:=run_loadVar_row (P:=Try.prog) w b T 34 cs fr _ hg Try.underlying34 rfl hc
 rw [results_cell_tmp h,hp,hx]
 simp [asAddr,hl]
theorem keyOf_nil (u:Value) (w:World) (n c:Nat) (a:Option Addr) (hu:u=.slice a n c):Calls Try.prog 24 #[.pointer none,u] w fun e w'=>e=.returned (.tuple #[.agg (keyC []),.bool false])/\Mod [] w w':=by
 subst hu
 have hv:=two_vars0 w #[Value.int .i64 0,Value.int .i64 0,Value.string ⟨#[]⟩,Value.int .i64 0,Value.int .i64 0,Value.string ⟨#[]⟩,Value.int .i64 0,Value.int .i64 0,Value.string ⟨#[]⟩,Value.int .i64 0,Value.int .i64 0,Value.string ⟨#[]⟩,Value.int .i64 0,Value.int .i64 0,Value.string ⟨#[]⟩,Value.int .i64 0,Value.int .i64 0,Value.string ⟨#[]⟩,Value.int .i64 0,Value.int .i64 0,Value.string ⟨#[]⟩,Value.int .i64 0,Value.int .i64 0,Value.string ⟨#[]⟩] #[Value.int .i64 0,Value.int .i64 0,Value.string ⟨#[]⟩,Value.int .i64 0,Value.int .i64 0,Value.string ⟨#[]⟩,Value.int .i64 0,Value.int .i64 0,Value.string ⟨#[]⟩,Value.int .i64 0,Value.int .i64 0,Value.string ⟨#[]⟩,Value.int .i64 0,Value.int .i64 0,Value.string ⟨#[]⟩,Value.int .i64 0,Value.int .i64 0,Value.string ⟨#[]⟩,Value.int .i64 0,Value.int .i64 0,Value.string ⟨#[]⟩,Value.int .i64 0,Value.int .i64 0,Value.string ⟨#[]⟩] 68 68
 rw [zero24] at hv
 go_enter Try.func24,Try.ntmps24
 go_upto_region 2 with fail
 rw [zero24]
 obtain ⟨x0,x1,m0,z0⟩:=hv
 generalize (w.alloc (Obj.cells _ 68)).alloc (Obj.cells _ 68)=w0 at *
 have hk:(rowVals (List.replicate 8 Va.zero)).toArray=keyC []:=rfl
 rw [hk] at x0 x1
 have hks:(keyC []).size=24:=keyC_size (by simp)
 have h1:=keyC_one []
 obtain ⟨K,hKK⟩:∃ K,keyC []=K:=⟨_,rfl⟩
 rw [hKK] at x0 x1 hks h1
 have HKK:=Lib.hid hKK
 clear hKK
 have hKs:(Try.prog.info? 68).map (·.size)=some K.size:=by rw [hks];kernel_rfl
 have HK:=Lib.hid hKs;have H1:=Lib.hid h1;have X0:=Lib.hid x0;have X1:=Lib.hid x1;have M0:=Lib.hid m0
 have hst:=setRow_heap w0 w.heap.size K K 68 _ x0
 have HS:=Lib.hid hst
 have hms:=Mod.setRow w0 w.heap.size K
 have HM:=Lib.hid hms
 clear hKs h1 x0 x1 m0 hks hk hst hms
 go_wp2_with (first | refine wpList_load_row rfl 68 _ rfl (w.heap.size+1) K 68 (0,0) rfl X1.out _ Try.underlying68 rfl HK.out ?_ | refine wpList_store_at rfl 68 _ _ rfl w.heap.size K K 68 rfl rfl X0.out HK.out rfl H1.out ?_)
 refine bodyPost_ret (res_key rfl _ _ _ _ _ _ (.bool false) rfl rfl HS.out HK.out) rfl ⟨by rw [HKK.out],M0.out.trans HM.out (fun t ht=>.inr (by rw [Msq] at ht;omega))⟩
set_option maxHeartbeats 4000000 in
theorem keyOf_any (p:Nat) (n:Nat) (ts:List Va.Val) (u:Value) (w:World) (hp:w.cell? ⟨p,0,none⟩=some (.int .i64 (n:Nat))) (hl:ts.length=n) (hn:n<=8) (hr:VRow w u ts) :
  Calls Try.prog 24 #[.pointer (some ⟨p,0,none⟩),u] w fun e w'=>e=.returned (.tuple #[.agg (keyC ts),.bool true])/\Mod [] w w':=by
 obtain ⟨ua,uc,rfl⟩:=hr.lit
 have hv:=two_vars0 w #[Value.int .i64 0,Value.int .i64 0,Value.string ⟨#[]⟩,Value.int .i64 0,Value.int .i64 0,Value.string ⟨#[]⟩,Value.int .i64 0,Value.int .i64 0,Value.string ⟨#[]⟩,Value.int .i64 0,Value.int .i64 0,Value.string ⟨#[]⟩,Value.int .i64 0,Value.int .i64 0,Value.string ⟨#[]⟩,Value.int .i64 0,Value.int .i64 0,Value.string ⟨#[]⟩,Value.int .i64 0,Value.int .i64 0,Value.string ⟨#[]⟩,Value.int .i64 0,Value.int .i64 0,Value.string ⟨#[]⟩] #[Value.int .i64 0,Value.int .i64 0,Value.string ⟨#[]⟩,Value.int .i64 0,Value.int .i64 0,Value.string ⟨#[]⟩,Value.int .i64 0,Value.int .i64 0,Value.string ⟨#[]⟩,Value.int .i64 0,Value.int .i64 0,Value.string ⟨#[]⟩,Value.int .i64 0,Value.int .i64 0,Value.string ⟨#[]⟩,Value.int .i64 0,Value.int .i64 0,Value.string ⟨#[]⟩,Value.int .i64 0,Value.int .i64 0,Value.string ⟨#[]⟩,Value.int .i64 0,Value.int .i64 0,Value.string ⟨#[]⟩] 68 68
 rw [zero24] at hv
 go_enter Try.func24,Try.ntmps24
 go_upto_region 2 with fail
 rw [zero24]
 obtain ⟨x0,x1,m0,z0⟩:=hv
 generalize (w.alloc (Obj.cells _ 68)).alloc (Obj.cells _ 68)=w0 at *
 have hp0:=m0.cell hp (by simp)
 have hz:w.heap.size∉[w.heap.size+1]:=by simp
 have X0:=Lib.hid x0;have X1:=Lib.hid x1;have M0:=Lib.hid m0;have HR:=Hxq (hr.past m0 (by simp))
 clear x0 x1 m0 hr hp
 have hne:((ts.length:Int) != (n:Int))=false:=by rw [bne_eq_false_iff_eq];omega
 have HL:=Lib.hid hl
 have hle:ts.length<=8:=by omega
 clear hl
 go_upto_region 4 with fail
 go_wp2_with (with_reducible refine wpList_copy_valsT _ 68 rfl _ _ rfl (w.heap.size+1) 8 8 ua uc ts rfl rfl (rowVals (List.replicate 8 Va.zero)) X1.out hle (by rw [rowVals_len,List.length_replicate]) HR.out ?_)
 intro w1 hw1 m1
 replace hw1:=hw1.out
 have hd:=keyC_drop ts hle
 rw [show List.replicate 8 Va.zero=[Va.zero,Va.zero,Va.zero,Va.zero,Va.zero,Va.zero,Va.zero,Va.zero] from rfl] at hd
 rw [hd] at hw1
 clear hd
 replace hw1:=Lib.hid hw1
 have X0':=Hxq (m1.at X0.out hz)
 have M1:=Hxq (M0.out.trans m1 (fun t ht=>.inr (by rw [Msq] at ht;omega)))
 have hk:(rowVals (ts++List.replicate (8 - ts.length) Va.zero)).toArray=keyC ts:=rfl
 replace hw1:=hw1.out
 rw [hk] at hw1
 have hks:(keyC ts).size=24:=keyC_size hle
 have h1:=keyC_one ts
 clear m1 hk HR X1 X0
 obtain ⟨K,hKK⟩:∃ K,keyC ts=K:=⟨_,rfl⟩
 rw [hKK] at hw1 hks h1
 replace hw1:=Lib.hid hw1
 have HKK:=Lib.hid hKK
 clear hKK
 have hKs:(Try.prog.info? 68).map (·.size)=some K.size:=by rw [hks];kernel_rfl
 have hKz:(rowVals (List.replicate 8 Va.zero)).toArray.size=K.size:=by rw [hks];rfl
 have HK:=Lib.hid hKs;have H1:=Lib.hid h1;have HZ:=Lib.hid hKz
 have hst:=setRow_heap w1 w.heap.size _ K 68 _ X0'.out
 have HS:=Lib.hid hst
 have HM:=Hxq (Mod.setRow w1 w.heap.size K)
 clear hKs h1 hks hst hKz
 go_wp2_with (first | refine wpList_load_row rfl 68 _ rfl (w.heap.size+1) K 68 (0,0) rfl hw1.out _ Try.underlying68 rfl HK.out ?_ | refine wpList_store_at rfl 68 _ _ rfl w.heap.size K _ 68 rfl rfl X0'.out HK.out HZ.out H1.out ?_)
 refine bodyPost_ret (res_key rfl _ _ _ _ _ _ (.bool true) rfl rfl HS.out HK.out) rfl ⟨by rw [HKK.out],M1.out.trans HM.out (fun t ht=>.inr (by rw [Msq] at ht;omega))⟩
open Go.RowKit Go.Maps
theorem laidOutP:laidOutB Try.prog=true:=by kernel_rfl
theorem lawKey:Keyed Try.prog 68 :=
 Keyed.of_law (deep_law_laid laidOutP (m:=5) (by omega) (of_decide_eq_true (by kernel_rfl)) (by kernel_rfl) (by kernel_rfl))
theorem lawU16:Keyed Try.prog 79:=int_keyed Try.underlying79
/-- an element as it is -/
def idR (v:Value):Option (DataW Value × List MemPlace):=some (.held v,[])
/-- a relation's block; its maps -/
structure RelB (w:World) (p:Nat) (n:Int) (b1 b2 b5:Nat) (D1 D2:DataW Value) (n1 n2:Nat):Prop where
 at_:w.heap[p]?=some (.cells #[.int .i64 n,.map (some b1),.map (some b2),.int .i32 0,.int .u32 0,.slice none 0 0,.map (some b5)] 66 (0,0))
 rows:w.ownsMap Try.prog 68 idR b1 n1 D1
 fresh:w.ownsMap (H:=Value) Try.prog 68 unitElem b2 n2 D2
 index:w.heap[b5]?=some (.map #[] 0)
 ne12:b1≠b2
 ne15:b1≠b5
 ne25:b2≠b5
theorem ownsMap_mod {H:Type} {P:Program} {k:TypeId} {R:Value->Option (DataW H × List MemPlace)} {b n:Nat} {D:DataW H} {S:List Nat} {w w':World} (h:w.ownsMap P k R b n D) (hm:Mod S w w') (hb:b∉S):w'.ownsMap P k R b n D:=by
 obtain ⟨es,clock,h1,h2⟩:=h
 exact ⟨es,clock,hm.at h1 hb,h2⟩
theorem mod_grown {w w':World} {b:Nat} (h:w.grownBy w' (some b)):Mod [b] w w' :=
 ⟨h.os,h.tape,h.output,h.size,fun k hk hn=>h.block k hk (by simpa using fun e=>hn (by simp [e]))⟩
section
variable {P:Program} {ops:Array Oper} {rest:List Oper} {o:Oper} {a:Act} {w:World} {Q:Exit->Act->World->Prop}
theorem run_store_one (w:World) (ty:TypeId) (g i:Nat) (v:Value) (cs:Array Value) (T:TypeId) (hg:w.heap[g]?=some (.cells cs T (0,0))) (hi:i<cs.size) (hs:(P.info? ty).map (·.size)=some 1) (hc:v.cells=#[v]) (h1:v.oneCell'=true) :
  (Instr.storeAt ty (.pointer (some ⟨g,i,none⟩)) v).run P w=.ok () (w.setCell ⟨g,i,none⟩ v):=by
 have:=run_storeCells_cells (P:=P) g i [v] 0 w (fun j hj=>by
  obtain rfl:j=0:=by simpa using hj
  have e:=cell_at hg i;rw [Array.getElem?_eq_getElem hi] at e;show (w.cell? ⟨g,i+0+0,none⟩).isSome=true;simp only [Nat.add_zero];rw [e];rfl) (fun j hj=>free_at hg _) (fun x hx=>by rw [Msq] at hx;subst hx;exact h1)
 cases hq:P.info? ty with
 | none=>simp [hq] at hs
 | some q =>
  have hq1:q.size=1:=by simpa [hq] using hs
  simp [Instr.storeAt,Instr.sureAddr,storeVar,sizeOf,typeInfo,hq,hq1,hc,this,World.setCells]
/-- a store into one cell; the world behind it is told by the row alone -/
theorem wpList_store_gen (hgd:o.guard=none) (ty:TypeId) (x y:Operand) (ho:o.op=.store ty x y) (g i:Nat) (v:Value) (cs:Array Value) (T:TypeId) (hx:a.eval x=.pointer (some ⟨g,i,none⟩)) (hy:a.eval y=v)
  (hg:w.heap[g]?=some (.cells cs T (0,0))) (hi:i<cs.size) (hs:(P.info? ty).map (·.size)=some 1) (hc:v.cells=#[v]) (h1:v.oneCell'=true)
  (h:∀ w',Hid (w'.heap[g]?=some (.cells (cs.setIfInBounds i v) T (0,0)))->Hid (Mod [g] w w')->wpList P ops Q rest (a.put o.dst undef) w'):wpList P ops Q (o :: rest) a w :=
 wpList_plain hgd fun K hK=>by
  have hrun:=run_store_one (P:=P) w ty g i v cs T hg hi hs hc h1
  unfold Oper.wp execOp
  simp only [ho,hx,hy,hrun,Sem.run_bind,Sem.run_pure,Result.andThen_ok]
  exact hK _ _ (h _ (Hxq (setCell_at hg i v)) (Hxq ((Mod.refl [g] w).setCell (p:=⟨g,i,none⟩) (.inl (by simp)) v)))
end
set_option maxHeartbeats 2000000 in
theorem clear_any (p:Nat) (n:Int) (m1 m2 m3 s:Value) (w:World) (h:w.heap[p]?=some (.cells #[.int .i64 n,m1,m2,.int .i32 0,.int .u32 0,s,m3] 66 (0,0))) :
  Calls Try.prog 20 #[.pointer (some ⟨p,0,none⟩)] w fun e w'=>e=.returned (.tuple #[])/\(∃ b1 b2 b5,RelB w' p n b1 b2 b5 (.map []) (.map []) 0 0/\w.heap.size<=b1/\w.heap.size<=b2/\w.heap.size<=b5)/\Mod [p] w w':=by
 have hmm:=@run_makeMap Try.prog
 have H0:=Lib.hid h
 have hlt:=lt_of_block h
 have mA:=((Mod.refl [] w).alloc (Obj.map #[] 0)).alloc (Obj.map #[] 0)
 have eA:=mA.at h (by simp)
 have zA:((w.alloc (Obj.map #[] 0)).alloc (Obj.map #[] 0)).heap.size=w.heap.size+2:=by simp
 have b1:((w.alloc (Obj.map #[] 0)).alloc (Obj.map #[] 0)).heap[w.heap.size]?=some (.map #[] 0):=((Mod.refl [] _).alloc (Obj.map #[] 0)).at (heap_alloc_new w _) (by simp)
 have b2:((w.alloc (Obj.map #[] 0)).alloc (Obj.map #[] 0)).heap[w.heap.size+1]?=some (.map #[] 0):=by
  have:=heap_alloc_new (w.alloc (Obj.map #[] 0)) (Obj.map #[] 0)
  rwa [show (w.alloc (Obj.map #[] 0)).heap.size=w.heap.size+1 by simp] at this
 have c1:=cell_at eA 1;have c2:=cell_at eA 2
 simp only [List.getElem?_toArray,List.getElem?_cons_zero,List.getElem?_cons_succ] at c1 c2
 have f:=fun j=>free_at eA j
 have MA:=Lib.hid mA;have EA:=Lib.hid eA;have B1:=Lib.hid b1;have B2:=Lib.hid b2
 clear h eA mA b1 b2
 go_enter Try.func20,Try.ntmps20
 go_wp2_with (with_reducible refine wpList_store_gen rfl _ _ _ rfl p 1 (.map (some w.heap.size)) _ _ rfl rfl EA.out (by simp) (by kernel_rfl) rfl rfl ?_)
 intro wa xa ma
 go_wp2_with (with_reducible refine wpList_store_gen rfl _ _ _ rfl p 2 (.map (some (w.heap.size+1))) _ _ rfl rfl xa.out (by simp) (by kernel_rfl) rfl rfl ?_)
 intro wb xb mb
 have hp1:w.heap.size∉[p]:=by rw [Msq];omega
 have hp2:w.heap.size+1∉[p]:=by rw [Msq];omega
 have mAB:=Hxq ((MA.out.mono (T:=[p]) (by simp)).trans (ma.out.trans mb.out (by simp)) (by simp))
 have C1:=Hxq (mb.out.at (ma.out.at B1.out hp1) hp1);have C2:=Hxq (mb.out.at (ma.out.at B2.out hp2) hp2)
 have zb:=(ma.out.trans mb.out (by simp)).size
 rw [zA] at zb
 have hp3:wb.heap.size∉[p]:=by rw [Msq];omega
 have mC:=(Mod.refl [] wb).alloc (Obj.map #[] 0)
 have xC:=mC.at xb.out (by simp)
 have b3:=heap_alloc_new wb (Obj.map #[] 0)
 have D1:=Hxq (mC.at C1.out (by simp));have D2:=Hxq (mC.at C2.out (by simp));have XC:=Lib.hid xC;have B3:=Lib.hid b3;have MC:=Hxq (mAB.out.trans mC (by simp))
 clear mC xC b3 c1 c2 f
 go_upto_region 2 with fail
 go_wp2_with (with_reducible refine wpList_store_gen rfl _ _ _ rfl p 5 (.slice none 0 0) _ _ rfl rfl XC.out (by simp) (by kernel_rfl) rfl rfl ?_)
 intro wc xc mc
 go_wp2_with (with_reducible refine wpList_store_gen rfl _ _ _ rfl p 6 (.map (some wb.heap.size)) _ _ rfl rfl xc.out (by simp) (by kernel_rfl) rfl rfl ?_)
 intro wd xd md
 have hm:=mc.out.trans md.out (by simp)
 have g1:=hm.at D1.out hp1;have g2:=hm.at D2.out hp2;have g3:=hm.at B3.out hp3
 have HM:=Hxq (MC.out.trans hm (by simp))
 have HR:Hid (RelB wd p n w.heap.size (w.heap.size+1) wb.heap.size (.map []) (.map []) 0 0):=Lib.hid ⟨xd.out,⟨#[],0,g1,⟨by simp,MapKept.stamped_empty 0,by simp⟩,Nat.le_refl _,rfl⟩,⟨#[],0,g2,⟨by simp,MapKept.stamped_empty 0,by simp⟩,Nat.le_refl _,rfl⟩,g3,by omega,by omega,by omega⟩
 clear hm g1 g2 g3
 go_wp2_with fail
 first | go_end0 | refine bodyPost_ret (results_none rfl _ _ _) rfl ?_
 exact ⟨rfl,⟨_,_,_,HR.out,Nat.le_refl _,by omega,by omega⟩,HM.out⟩
open Go.RowKit Go.Maps
set_option linter.unusedVariables false
set_option linter.unusedSimpArgs false
set_option maxRecDepth 100000
theorem mod_none {w w':World} (h:w.grownBy w' none):Mod [] w w':=⟨h.os,h.tape,h.output,h.size,fun k hk hn=>h.block k hk (by simp)⟩
theorem new_bad (n:Int) (hn:8<n) (w:World):Calls Try.prog 6 #[.int .i64 n] w fun e w'=>e=.returned (.tuple #[.pointer none,.int .i64 1])/\w'=w:=by
 have h0:¬ n<0:=by omega
 go_enter Try.func6,Try.ntmps6
 go_wp2_with fail
 go_ret2
 exact ⟨rfl,rfl⟩
set_option maxHeartbeats 2000000 in
theorem new_any (n:Int) (h0:0<=n) (h8:n<=8) (w:World):Calls Try.prog 6 #[.int .i64 n] w fun e w'=>∃ b1 b2 b5,e=.returned (.tuple #[.pointer (some ⟨w.heap.size,0,none⟩),.int .i64 0])/\RelB w' w.heap.size n b1 b2 b5 (.map []) (.map []) 0 0/\w.heap.size<b1/\w.heap.size<b2/\w.heap.size<b5/\Mod [] w w':=by
 have n0:¬ n<0:=by omega
 have n8:¬ 8<n:=by omega
 have mA:=(Mod.refl [] w).alloc (Obj.cells #[.int .i64 n,.map none,.map none,.int .i32 0,.int .u32 0,.slice none 0 0,.map none] 66)
 have eA:=heap_alloc_new w (Obj.cells #[.int .i64 n,.map none,.map none,.int .i32 0,.int .u32 0,.slice none 0 0,.map none] 66)
 have zA:(w.alloc (Obj.cells #[.int .i64 n,.map none,.map none,.int .i32 0,.int .u32 0,.slice none 0 0,.map none] 66)).heap.size=w.heap.size+1:=by simp
 go_enter Try.func6,Try.ntmps6
 go_upto_region 4 with fail
 generalize w.alloc (Obj.cells _ 66)=w0 at *
 have HC:=Hxq (clear_any w.heap.size n _ _ _ _ w0 eA)
 have MA:=Lib.hid mA
 clear mA eA h0 h8
 go_wp2_with fail
 refine HC.out.mono ?_
 rintro e1 w1 ⟨rfl,⟨b1,b2,b5,hR,g1,g2,g5⟩,m1⟩
 have HR:=Lib.hid hR;have M1:=Hxq (MA.out.trans m1 (fun t ht=>.inr (by rw [Msq] at ht;omega)))
 clear hR m1 HC MA
 go_wp2_with fail
 go_ret2
 exact ⟨b1,b2,b5,rfl,HR.out,by omega,by omega,by omega,M1.out⟩
set_option maxHeartbeats 4000000 in
theorem lay_none (p:Nat) (n:Int) (b1 b2 b5:Nat) (D1 D2:DataW Value) (n1 n2:Nat) (K:Array Value) (old x:Option Addr) (w:World) (hR:RelB w p n b1 b2 b5 D1 D2 n1 n2) (hK:(Try.prog.info? 68).map (·.size)=some K.size) :
  Calls Try.prog 27 #[.pointer (some ⟨p,0,none⟩),.agg K,.pointer old,.pointer x] w fun e w'=>e=.returned (.tuple #[])/\RelB w' p n b1 b2 b5 D1 D2 n1 n2/\Mod [p] w w':=by
 have mA:=(Mod.refl [] w).alloc (Obj.cells K 68)
 have HR:=Lib.hid hR
 have eA:=mA.at hR.at_ (by simp)
 have iA:=mA.at hR.index (by simp)
 have MA:=Lib.hid mA;have EA:=Lib.hid eA;have IA:=Lib.hid iA
 clear mA eA iA hR
 go_enter Try.func27,Try.ntmps27
 go_upto_region 1 with fail
 generalize w.alloc (Obj.cells K 68)=w0 at *
 go_wp2_with (with_reducible refine wpList_store_gen rfl _ _ _ rfl p 5 (.slice none 0 0) _ _ rfl rfl EA.out (by simp) (by kernel_rfl) rfl rfl ?_)
 intro w1 x1 m1
 have c6:=cell_at x1.out 6
 simp only [List.setIfInBounds_toArray,List.set_cons_succ,List.set_cons_zero,List.getElem?_toArray,List.getElem?_cons_zero,List.getElem?_cons_succ] at c6
 have hb5:b5∉[p]:=by
  rw [Msq]
  rintro rfl
  have h1:=EA.out
  rw [IA.out] at h1
  cases h1
 have I1:=Hxq (m1.out.at IA.out hb5)
 have hown:w1.ownsMap (H:=Unit) Try.prog 79 (fun _=>none) b5 0 (.map []):=⟨#[],0,I1.out,⟨by simp,MapKept.stamped_empty 0,by simp⟩,Nat.le_refl _,rfl⟩
 have HO:=Lib.hid hown
 clear hown
 go_wp2_with (first | (at_range;refine wpList_range_own _ rfl _ 64 rfl 79 87 lawU16 Try.underlying64 _ b5 0 _ rfl HO.out ?_;intro w2 hrg2 hg2 hs2) | fail)
 have HRG:=Lib.hid hrg2;have HG2:=Lib.hid hg2
 have M2:=Hxq ((MA.out.mono (T:=[p]) (by simp)).trans (m1.out.trans (mod_none hg2) (by simp)) (by simp))
 have X2:=Hxq ((mod_none hg2).at x1.out (by simp));have I2:=Hxq ((mod_none hg2).at I1.out (by simp))
 have hz1:w.heap.size<=w1.heap.size:=Nat.le_trans MA.out.size m1.out.size
 have hp0:p<w1.heap.size:=lt_of_block x1.out
 clear hrg2 hg2 c6
 go_frame
 go_loopw [25] (fun _ wr=>∃ left cnt,wr.ranges (H:=Unit) Try.prog 79 (fun _=>none) b5 w1.heap.size 0 (.map []) left cnt/\Mod [w1.heap.size] w2 wr) (fun _ wr=>wr.rangeLeft b5 w1.heap.size)
 case atStart=>exact ⟨_,_,HRG.out,Mod.refl _ _⟩
 case round =>
  obtain ⟨left,cnt,hrg,hm⟩:=hrel
  have HM:=Lib.hid hm
  clear hm
  go_wp2_with (first | (at_next;refine wpList_next_ranges _ rfl _ rfl 79 lawU16 (fun _=>none) (fun (x:Int)=>Value.int .u16 x) (fun (e:Empty)=>nomatch e) (fun key kl hk=>by obtain ⟨x,rfl,-⟩:=Maps.keyOf_int_inv Try.underlying79 hk;exact ⟨x,rfl⟩) (fun v y hv=>by cases hv) b5 w1.heap.size 0 _ _ _ rfl hrg ?_ ?_))
  ·intro hc0 hl0
   go_wp2_with fail
   go_end0
   have hne:∀ b,b<w1.heap.size->b∉[w1.heap.size]:=fun b hb=>by rw [Msq];omega
   have hM:=M2.out.trans HM.out (fun t ht=>.inr (by rw [Msq] at ht;omega))
   have hr1:b1∉[p]:=by
    rw [Msq];rintro rfl
    obtain ⟨es,cl,h,-⟩:=HR.out.rows
    rw [HR.out.at_] at h;cases h
   have hr2:b2∉[p]:=by
    rw [Msq];rintro rfl
    obtain ⟨es,cl,h,-⟩:=HR.out.fresh
    rw [HR.out.at_] at h;cases h
   have hi5:b5<w1.heap.size:=lt_of_block I1.out
   exact ⟨rfl,⟨HM.out.at X2.out (hne p hp0),ownsMap_mod HR.out.rows hM hr1,ownsMap_mod HR.out.fresh hM hr2,HM.out.at I2.out (hne b5 hi5),HR.out.ne12,HR.out.ne15,HR.out.ne25⟩,hM⟩
end Go.Proofs.Ytdpgbnohelepiaa
