/- THE TEXTS MERGED: VtSeq VtIt VtCopy VtWo. -/
import Derived.Test.YtdablillhbfgkaaDoorKT9
import Derived.Sort.BigQuietIn
import Derived.Shelf.SlMaps.Clone
namespace Go.Proofs.YtdablillhbfgkaaDoor
open Go.RowKit Go.Shelf
set_option linter.unusedVariables false
attribute [local go_sem] Oper.semAt_some
/-- an iterator's contract; Ln0: what it leans on at the beginning; Ln: in every round -/
def SeqM {α:Type} (P:Program) (n:Nat) (g:Nat) (lb:Array Value) (encs:List α->α->Array Value) (Ln0 Ln:World->Prop) (S Sp:List α->Prop) (Nx:List α->α->Prop):Prop :=
 ∀ (l:Nat) (J Jx:List α->World->Prop) (W:World),(∀ s A C,J s A->Mod [] A C->J s C)->(∀ s A C,Jx s A->Mod [] A C->Jx s C)->(∀ s A,J s A->Ln A)->Ln0 W ->
  (∀ pre x W1,J pre W1->Nx pre x->YieldAt Fence.wide (n - 1) P l (encs pre x) W1 fun e W' =>
   (e=.returned (.bool true)/\J (pre++[x]) W')\/(e=.returned (.bool false)/\Jx (pre++[x]) W')) ->
  J [] W ->
  CallsIn Fence.wide n P g (#[.func (.yield l) #[] #[]]++lb) W fun e W'=>(∃ v,e=.returned v)/\((∃ xs,S xs/\J xs W')\/(∃ pre,Sp pre/\Jx pre W'))
/-- the loop's record and its deferred calls stand -/
def Kp (D:Nat) (W W':World):Prop:=W'.heap[D]?=W.heap[D]?/\W'.heap[D+1]?=W.heap[D+1]?
theorem Kp.of {D:Nat} {S:List Nat} {W W':World} (h:Mod S W W') (hl:D+1<W.heap.size) (h1:D∉S) (h2:D+1∉S):Kp D W W':=⟨h.block D (by omega) h1,h.block (D+1) hl h2⟩
/-- how the body of a round may be left -/
def seqPostM {α:Type} (D:Nat) (I:List α->World->Prop) (Ix:Code->List α->World->Prop) (xs:List α) (W:World):Exit->Act->World->Prop
 | .normal,_,W'=>Kp D W W'/\I xs W'
 | .ret,_,W'=>Kp D W W'/\Ix .ret xs W'
 | .exit id,_,W'=>Kp D W W'/\Ix (.exit id) xs W'
 | .goto t,_,W'=>Kp D W W'/\Ix (.goto t) xs W'
 | .panic _,_,_=>False
 | .outgrown,_,_=>False
theorem wp_seqM {α:Type} {P:Program} {n:Nat} {g:Operand} {ps:Array Tmp} {assign body:Code} {Q:Exit->Act->World->Prop} {a:Act} {w:World}
  {gf:Nat} {lb:Array Value} (hg:a.eval g=.func (.func gf) #[] lb) (eg:∀ args w,(callFunc gf args).run P w=.ok (.enter gf args) w)
  {encs:List α->α->Array Value} {Ln0 Ln:World->Prop} {S Sp:List α->Prop} {Nx:List α->α->Prop} (hseq:SeqM P (n - 1) gf lb encs Ln0 Ln S Sp Nx) (hps:∀ pre x,(encs pre x).size=ps.size)
  (I:List α->World->Prop) (Ix:Code->List α->World->Prop) (hI:∀ s A C,I s A->Mod [w.heap.size+1] A C->I s C) (hIx:∀ c s A C,Ix c s A->Mod [w.heap.size+1] A C->Ix c s C)
  (hLn:∀ s A,I s A->Ln A) (hLn0:∀ W,Mod [] w W->Ln0 W) (h0:I [] w)
  (Ax:List α->α->Act->World->Prop) (hAx:∀ pre x a' A C,Ax pre x a' A->Mod [w.heap.size+1] A C->Ax pre x a' C)
  (hassign:∀ (l:Nat) (pre:List α) (x:α) (W:World) (K:Act->World->Prop),I pre W->w.heap.size+1<W.heap.size->(∀ a' W',Mod [] W W'->I pre W'->Ax pre x a' W'->K a' W') ->
   assign.wpIn (Fence.wide.inRound l) (n - 1 - 1) P (Exit.then K (fun _ _ _=>False)) { tmps:=(ps.zip (encs pre x)).foldl (fun t (p,v)=>t.setIfInBounds p v) a.tmps,defers:=[] } W)
  (hbody:∀ (l:Nat) (pre:List α) (x:α) (a':Act) (W:World),I pre W->Ax pre x a' W->Nx pre x->w.heap.size+1<W.heap.size->body.wpIn (Fence.wide.inRound l) (n - 1 - 1) P (seqPostM w.heap.size I Ix (pre++[x]) W) a' W)
  (hdone:∀ (D:Nat) (xs:List α) (W:World),w.heap.size=D->S xs->I xs W->W.heap[D]?=some (.deferred (some []))->Q .normal { a with defers:={ target:=.collected D,args:=#[] } :: a.defers } W)
  (hstop:∀ (D:Nat) (c:Code) (pre:List α) (W:World),w.heap.size=D->Sp pre->Ix c pre W->W.heap[D]?=some (.deferred (some []))->c.wpIn Fence.wide n P Q { a with defers:={ target:=.collected D,args:=#[] } :: a.defers } W) :
  (Code.rangeFunc g ps assign body).wpIn Fence.wide n P Q a w:=by
 refine wpIn_rangeFunc ?_
 intro fn hfn
 generalize hR:w.heap.size+1=R at *
 obtain ⟨rec,hrec⟩:∃ rec:LoopState->Option Code->Loop,rec=fun st pe=>{ state:=st,pending:=pe,fn,tmps:=a.tmps,params:=ps,assign,body,defers:=w.heap.size }:=⟨_,rfl⟩
 obtain ⟨W1,hW1⟩:∃ W1,(w.alloc (.deferred (some []))).alloc (.loop (rec .ready none))=W1:=⟨_,rfl⟩
 have hs1:W1.heap.size=R+1:=by rw [<-hW1];simp;omega
 have hmw:Mod [] w W1:=by rw [<-hW1];exact ((Mod.refl [] w).alloc _).alloc _
 have hL1:W1.heap[R]?=some (.loop (rec .ready none)):=by
  rw [<-hW1,<-hR];have:=World.alloc_heap_new (w.alloc (.deferred (some []))) (.loop (rec .ready none));rwa [World.size_alloc] at this
 have hK1:W1.heap[w.heap.size]?=some (.deferred (some [])):=by
  rw [<-hW1];exact (Below.heap_alloc _ _ _ (by simp)).trans (World.alloc_heap_new w _)
 have up:∀ {A C:World},Mod [] A C->Mod [R] A C:=fun h=>h.mono (by simp)
 have hI1:I [] W1:=hI _ _ _ h0 (up hmw)
 refine ⟨R,[{ target:=.collected w.heap.size,args:=#[] }],W1,{ target:=.fn (.func gf) lb,args:=#[.func (.yield R) #[] #[]] },W1,gf,
  #[.func (.yield R) #[] #[]]++lb,W1,?_,?_,?_,?_,fun h=>(by cases h),?_⟩
 ·rw [<-hW1,hrec,<-hR];exact run_enterLoop_outer _ _ _ _ _
 ·simp only [resolve,hg]
  simp [go_sem]
 ·intro f' hf';trivial
 ·simp [invoke,go_sem,eg]
 ·refine (hseq R
   (fun pre W=>I pre W/\W.heap[R]?=some (.loop (rec .ready none))/\W.heap[w.heap.size]?=some (.deferred (some [])))
   (fun pre W=>∃ c,Ix c pre W/\W.heap[R]?=some (.loop (rec .done (some c)))/\W.heap[w.heap.size]?=some (.deferred (some [])))
   W1
   (fun s A C hs hb=>⟨hI _ _ _ hs.1 (up hb),hb.at hs.2.1 (by simp),hb.at hs.2.2 (by simp)⟩)
   (fun s A C hs hb=>by
    obtain ⟨c,hc,hl,hk⟩:=hs
    exact ⟨c,hIx c _ _ _ hc (up hb),hb.at hl (by simp),hb.at hk (by simp)⟩)
   (fun s A hs=>hLn s A hs.1) (hLn0 _ hmw) ?_ ⟨hI1,hL1,hK1⟩).mono ?_
  ·rintro pre x W ⟨hi,hl,hk⟩ hlen
   have hlt:R<W.heap.size:=(Array.getElem?_eq_some_iff.1 hl).1
   have hy:=run_yield (P:=P) (args:=encs pre x) hl (by rw [hrec];exact hps pre x)
   rw [hrec] at hy
   refine ⟨fn,_,assign,body,hy,roundIn_of_wpIn hfn (hassign _ pre x W _ hi (by omega) ?_)⟩
   intro a2 W2 m2 i2 x2
   have hl2:=m2.at hl (by simp)
   have hk2:=m2.at hk (by simp)
   have hlt2:R<W2.heap.size:=lt_of_block hl2
   refine ⟨_,run_beginRound hl2 (by rw [hrec]),?_⟩
   have hl3:(W2.putObj R (.loop { rec .ready none with state:=.busy })).heap[R]?=some (.loop { rec .ready none with state:=.busy }):=World.putObj_heap_same hlt2
   have hk3:(W2.putObj R (.loop { rec .ready none with state:=.busy })).heap[w.heap.size]?=some (.deferred (some [])):=(World.putObj_heap_other (by omega)).trans hk2
   have m3:=mod_putObj W2 R (.loop { rec .ready none with state:=.busy })
   generalize hW3:W2.putObj R (.loop { rec .ready none with state:=.busy })=W3 at *
   have hlt3:R<W3.heap.size:=lt_of_block hl3
   refine wpIn_mono (hbody _ pre x _ _ (hI _ _ _ i2 m3) (hAx _ _ _ _ _ x2 m3) hlen (by omega)) ?_
   have fin:∀ (jump:Option Code) (W4:World),Kp w.heap.size W3 W4 ->
     (Instr.endRound R jump).run P W4=.ok (.bool jump.isNone) (W4.putObj R (.loop (rec (if jump.isNone then .ready else .done) jump))) /\
     (W4.putObj R (.loop (rec (if jump.isNone then .ready else .done) jump))).heap[R]?=some (.loop (rec (if jump.isNone then .ready else .done) jump)) /\
     (W4.putObj R (.loop (rec (if jump.isNone then .ready else .done) jump))).heap[w.heap.size]?=some (.deferred (some [])) /\
     Mod [R] W4 (W4.putObj R (.loop (rec (if jump.isNone then .ready else .done) jump))):=fun jump W4 m4=>by
    have hl4:W4.heap[R]?=some (.loop { rec .ready none with state:=.busy }):=(by have:=m4.2;rw [hR] at this;exact this.trans hl3)
    have hk4:=m4.1.trans hk3
    have hlt4:R<W4.heap.size:=lt_of_block hl4
    have:=run_endRound (P:=P) jump hl4
    rw [hrec] at this ⊢
    exact ⟨this,World.putObj_heap_same hlt4,(World.putObj_heap_other (by omega)).trans hk4,mod_putObj _ _ _⟩
   rintro e a3 W4 hp
   cases e with
   | normal =>
    obtain ⟨m4,hi4⟩:=hp
    obtain ⟨hr,hl4,hk4,hm4⟩:=fin none W4 m4
    exact ⟨_,_,hr,.inl ⟨rfl,⟨hI _ _ _ hi4 hm4,hl4,hk4⟩⟩⟩
   | ret =>
    obtain ⟨m4,hi4⟩:=hp
    obtain ⟨hr,hl4,hk4,hm4⟩:=fin (some .ret) W4 m4
    exact ⟨_,_,hr,.inr ⟨rfl,.ret,hIx _ _ _ _ hi4 hm4,hl4,hk4⟩⟩
   | exit id =>
    obtain ⟨m4,hi4⟩:=hp
    obtain ⟨hr,hl4,hk4,hm4⟩:=fin (some (.exit id)) W4 m4
    exact ⟨_,_,hr,.inr ⟨rfl,.exit id,hIx _ _ _ _ hi4 hm4,hl4,hk4⟩⟩
   | goto t =>
    obtain ⟨m4,hi4⟩:=hp
    obtain ⟨hr,hl4,hk4,hm4⟩:=fin (some (.goto t)) W4 m4
    exact ⟨_,_,hr,.inr ⟨rfl,.goto t,hIx _ _ _ _ hi4 hm4,hl4,hk4⟩⟩
   | panic ch=>exact hp.elim
   | outgrown=>exact hp.elim
  ·rintro e W2 ⟨⟨v,rfl⟩,(⟨xs,hS,hi,hl,hk⟩ | ⟨pre,hSp,c,hi,hl,hk⟩)⟩
   ·exact ⟨none,_,by have:=run_endLoop (P:=P) hl (by rw [hrec];simp);rw [hrec] at this;exact this,hdone _ xs _ rfl hS (hI _ _ _ hi (mod_putObj _ _ _)) ((World.putObj_heap_other (by omega)).trans hk)⟩
   ·exact ⟨some c,_,by have:=run_endLoop (P:=P) hl (by rw [hrec];simp);rw [hrec] at this;exact this,hstop _ c pre _ rfl hSp (hIx c _ _ _ hi (mod_putObj _ _ _)) ((World.putObj_heap_other (by omega)).trans hk)⟩
open Go.RowKit Go.Shelf Go.Maps
set_option linter.unusedSimpArgs false
set_option maxRecDepth 100000
attribute [local go_sem] Oper.semAt_some
/-- a slice of things, as it must be -/
def SlOk (va:Option Addr) (vc:Nat) (l:List Va.Val):Prop:=l.length<=vc/\((va=none/\l=[])\/∃ g,va=some ⟨g,0,none⟩)
theorem TabB.slOk {w:World} {p bm:Nat} {D:DataW Value} {va:Option Addr} {vc:Nat} {l:List Va.Val} (h:TabB w p bm D va vc l):SlOk va vc l:=by
 rcases h.row.2 with ⟨h1,h2⟩ | ⟨g,cap,cur,h1,-,-,hc,-⟩
 ·simp only [Value.slice.injEq] at h1
  exact ⟨by omega,.inl ⟨h1.1,List.eq_nil_of_length_eq_zero h2⟩⟩
 ·simp only [Value.slice.injEq] at h1
  obtain ⟨rfl,-,rfl⟩:=h1
  exact ⟨hc,.inr ⟨g,rfl⟩⟩
theorem RAt.at {w:World} {g:Nat} {l:List Va.Val} (h:RAt w (some ⟨g,0,none⟩) l) (i:Nat) (hi:i<l.length) :
  w.cell? ⟨g,i * 3,none⟩=some (.int .i64 l[i].k)/\w.cell? ⟨g,i * 3+1,none⟩=some (.int .i64 l[i].n)/\w.cell? ⟨g,i * 3+2,none⟩=some (.string (Lx.ofS l[i].s)):=by
 obtain ⟨e0,e1,e2⟩:=rowVals_get l i hi
 exact ⟨h g rfl _ _ e0,h g rfl _ _ e1,h g rfl _ _ e2⟩
def encT (pre:List Va.Val) (x:Va.Val):Array Value:=#[.int .i64 (pre.length:Nat),.agg (valV x)]
/-- what the iterator leans on when it begins -/
def ItLn0 (q p:Nat) (va:Option Addr) (vc:Nat) (l:List Va.Val) (W:World):Prop:=(∃ T,W.heap[q]?=some (.cells #[.pointer (some ⟨p,0,none⟩)] T (0,0)))/\W.cell? ⟨p,1,none⟩=some (.slice va l.length vc)
theorem pre_at {l pre:List Va.Val} {x:Va.Val} (h:pre++[x] <+: l):pre.length<l.length/\l[pre.length]?=some x:=by
 obtain ⟨r,rfl⟩:=h
 exact ⟨by simp,by simp⟩
theorem take_pre {l:List Va.Val} {k:Nat} (h:k<l.length):l.take k++[l[k]]=l.take (k+1):=by rw [List.take_succ_eq_append_getElem h]
set_option maxHeartbeats 4000000 in
theorem it_any (n q p:Nat) (va:Option Addr) (vc:Nat) (l:List Va.Val) (hs:SlOk va vc l) (hl:l.length<=4398046511103) :
  SeqM Tryd.prog n 31 #[.pointer (some ⟨q,0,none⟩)] encT (ItLn0 q p va vc l) (fun W=>RAt W va l) (fun xs=>xs=l) (fun pre=>pre <+: l/\pre≠[]) (fun pre x=>pre++[x] <+: l):=by
 rintro lp J Jx W hJ hJx hLn ⟨⟨T0,hq⟩,hp⟩ hY h0
 have hq0:=cell_at hq 0
 simp only [List.getElem?_toArray,List.getElem?_cons_zero] at hq0
 have HY:=Lib.hid hY;have HJ:=Lib.hid hJ;have HLn:=Lib.hid hLn;have H0:=Lib.hid h0
 obtain ⟨hvc,hva⟩:=hs
 have HV:=Lib.hid hva
 clear hY hJ hJx hLn h0 hq hva
 have hlI:(l.length:Int)<=(vc:Int):=by omega
 refine callsIn_of_wp Tryd.func31 rfl trivial ?_
 simp only [Tryd.ntmps31,List.size_toArray,List.length_cons,List.length_nil,Nat.reduceAdd,Nat.reduceSub,Array.replicate_succ,Array.replicate_zero,List.push_toArray,List.append_toArray,List.nil_append,List.cons_append]
 gi_wp2_with fail
 gi_big_quiet_th (fail)
 gi_wp2_with fail
 have mD:Mod [] W (W.drewN nq):=(Mod.refl [] W).drewN nq
 have HJ1:=Hxq (HJ.out _ _ _ H0.out mD)
 clear mD H0
 gi_loopw [18] (fun iv wr=>∃ k:Nat,k<=l.length/\iv=.int .i64 (k:Nat)/\J (l.take k) wr) (fun iv _=>l.length - (intOf iv).toNat)
 case atStart=>exact ⟨0,Nat.zero_le _,rfl,by simpa using HJ1.out⟩
 case round =>
  obtain ⟨k,hk,rfl,hj⟩:=hrel
  by_cases hlt:k<l.length
  ·have hkI:(k:Int)<(l.length:Int):=by omega
   have hk0:(0:Int)<=(k:Int):=by omega
   obtain ⟨g,rfl⟩:∃ g,va=some ⟨g,0,none⟩:=by
    rcases HV.out with ⟨-,h⟩ | h
    ·rw [h] at hlt;simp at hlt
    ·exact h
   obtain ⟨r0,r1,r2⟩:=(HLn.out _ _ hj).at k hlt
   have hpre:l.take k++[l[k]] <+: l:=by rw [take_pre hlt];exact List.take_prefix _ _
   have htk:=take_pre hlt
   have hlen:(l.take k).length=k:=by rw [List.length_take];omega
   have mA:=(Mod.refl [] wr).alloc (Obj.cells #[.int .i64 l[k].k,.int .i64 l[k].n,.string (Lx.ofS l[k].s)] 28)
   have hY:=HY.out (l.take k) l[k] _ (HJ.out _ _ _ hj mA) hpre
   unfold encT valV at hY
   rw [hlen,htk] at hY
   obtain ⟨fn,tmps,assign,body,hy,hR⟩:=hY
   have HR:=Lib.hid hR;have HP:=Lib.hid hpre;have HT:=Lib.hid htk
   clear hR hj mA hpre htk
   gi_wp2_with fail
   refine ⟨fun h=>(by cases h),HR.out.mono ?_⟩
   have hlt1:k+1<=l.length:=hlt
   have hne:l.take (k+1)≠[]:=fun h=>by have:=congrArg List.length h;rw [List.length_take,List.length_nil] at this;omega
   rintro e W3 (⟨rfl,hj3⟩ | ⟨rfl,hjx⟩)
   ·have HJ3:=Lib.hid hj3
    clear hj3 hy r0 r1 r2 hp hq0
    gi_wp2_with fail
    go_roundw
    case rel=>exact ⟨k+1,hlt1,by go_num,HJ3.out⟩
    case measure=>simp [intOf];omega
   ·clear hy r0 r1 r2 hp hq0
    gi_wp2_with fail
    refine bodyPost_ret (results_none rfl _ _ _) rfl ?_
    exact ⟨⟨_,rfl⟩,.inr ⟨_,⟨List.take_prefix _ _,hne⟩,hjx⟩⟩
  ·obtain rfl:k=l.length:=by omega
   have hkI:¬ (l.length:Int)<(l.length:Int):=by omega
   rw [List.take_length] at hj
   have HJ2:=Lib.hid hj
   clear hj
   gi_wp2_with fail
   go_end0
   exact ⟨⟨_,rfl⟩,.inl HJ2.out⟩
/-- over a nil table -/
theorem it_nil (n q:Nat) :
  SeqM Tryd.prog n 31 #[.pointer (some ⟨q,0,none⟩)] encT (fun W=>∃ T,W.heap[q]?=some (.cells #[.pointer none] T (0,0))) (fun _=>True) (fun xs=>xs=[]) (fun _=>False) (fun _ _=>False):=by
 rintro lp J Jx W hJ hJx hLn ⟨T0,hq⟩ hY h0
 have hq0:=cell_at hq 0
 simp only [List.getElem?_toArray,List.getElem?_cons_zero] at hq0
 have H0:=Lib.hid h0
 clear hY hJ hJx hLn h0 hq
 refine callsIn_of_wp Tryd.func31 rfl trivial ?_
 simp only [Tryd.ntmps31,List.size_toArray,List.length_cons,List.length_nil,Nat.reduceAdd,Nat.reduceSub,Array.replicate_succ,Array.replicate_zero,List.push_toArray,List.append_toArray,List.nil_append,List.cons_append]
 gi_wp2_with fail
 refine bodyPost_ret (results_none rfl _ _ _) rfl ?_
 exact ⟨⟨_,rfl⟩,.inl ⟨[],rfl,H0.out⟩⟩
theorem mclone_any (b:Nat) (es:Array MapEntry) (clock:Nat) (w:World) (hb:w.heap[b]?=some (.map es clock)) :
  Calls Tryd.prog 60 #[.map (some b)] w fun e w'=>e=.returned (.map (some w.heap.size))/\w'=w.alloc (.map es clock):=by
 have hq:=fun w=>run_eql_map_nil_sl (P:=Tryd.prog) w 72 _ _ (some b) Tryd.underlying72
 go_enter Tryd.func60,Tryd.ntmps60
 go_wp2
 rw [run_callFunc_extern Tryd.func78 (by kernel_rfl) (by kernel_rfl) (by kernel_rfl) (e:=Extern.MapsClone.clone) (by kernel_rfl),run_maps_clone_sl w 72 hb]
 simp only [Result.andThen]
 rw [Oper.upon_value]
 go_wp2
 rw [run_typeAssert_map_sl _ 72 20 _ _ _ Tryd.underlying72]
 simp only [Result.andThen]
 rw [Oper.upon_value]
 go_wp2
 go_ret
 exact ⟨rfl,rfl⟩
/-- the map, cloned -/
theorem mclone_owns (b n:Nat) (D:DataW Value) (w:World) (hown:w.ownsMap Tryd.prog 28 (plainElem Tryd.prog 3) b n D) :
  Calls Tryd.prog 60 #[.map (some b)] w fun e w'=>e=.returned (.map (some w.heap.size))/\w'.ownsMap Tryd.prog 28 (plainElem Tryd.prog 3) w.heap.size n D/\w'.heap.size=w.heap.size+1/\Mod [] w w':=by
 obtain ⟨es,clock,hb,F,hs,hD⟩:=hown
 refine (mclone_any b es clock w hb).mono fun e w' ⟨he,hw⟩=>?_
 subst hw
 exact ⟨he,⟨es,clock,heap_alloc_new w _,F,hs,hD⟩,by simp,(Mod.refl [] w).alloc _⟩
set_option maxHeartbeats 8000000 in
theorem copy_any (p bm:Nat) (D:DataW Value) (va:Option Addr) (vc:Nat) (l:List Va.Val) (hl:l.length<=4398046511103) (w:World) (h:TabB w p bm D va vc l) :
  Calls Tryd.prog 30 #[.pointer (some ⟨p,0,none⟩)] w fun e w'=>∃ p' bm' va' vc',e=.returned (.pointer (some ⟨p',0,none⟩))/\TabB w' p' bm' D va' vc' l/\w.heap.size<=p'/\w.heap.size<=bm'/\(∀ k∈fp (.slice va' l.length vc'),w.heap.size<=k)/\Mod [] w w':=by
 have HR:=Hxq (VOwn.vrow (base:=0) ⟨h.row,fun k _=>Nat.zero_le k⟩)
 have c0:=cell_at h.at_ 0;have c1:=cell_at h.at_ 1
 simp only [List.getElem?_toArray,List.getElem?_cons_zero,List.getElem?_cons_succ] at c0 c1
 have H0:=Lib.hid h
 clear h
 go_enter Tryd.func30,Tryd.ntmps30
 go_upto_region 3 with fail
 refine tl_region (fun wS=>Mod [] w wS) [] (by kernel_rfl) ?_
 have hHeld:Mod [] w w.drew:=(Mod.refl [] w).drew
 try simp only [Act.put,Lq1,Lq2,Lq3]
 generalize w.drew=wd at *
 refine TlAny.take 0 (v:=?_) hHeld ?_ ?_ ?_
 rotate_left 1
 ·refine Or.inl ⟨by rfl,?_⟩
  intro wS hSw
  replace hSw:Mod [] w wS:=hSw
  clear hSw
  go_simp
  all_goals with_reducible rfl
 ·exact fun _ _ _ h=>h
 try simp only [Act.put,Lq1,Lq2,Lq3]
 refine TlAny.take 1 (v:=?_) hHeld ?_ ?_ ?_
 rotate_left 1
 ·refine Or.inl ⟨by rfl,?_⟩
  intro wS hSw
  replace hSw:Mod [] w wS:=hSw
  clear hSw
  go_simp
  all_goals with_reducible rfl
 ·exact fun _ _ _ h=>h
 try simp only [Act.put,Lq1,Lq2,Lq3]
 refine TlAny.take 2 (v:=?_) hHeld ?_ ?_ ?_
 rotate_left 1
 ·refine Or.inl ⟨by rfl,?_⟩
  intro wS hSw
  replace hSw:Mod [] w wS:=hSw
  clear hSw
  go_simp
  all_goals with_reducible rfl
 ·exact fun _ _ _ h=>h
 try simp only [Act.put,Lq1,Lq2,Lq3]
 refine TlAny.take 3 (v:=?_) hHeld ?_ ?_ ?_
 rotate_left 1
 ·refine Or.inl ⟨by rfl,?_⟩
  intro wS hSw
  replace hSw:Mod [] w wS:=hSw
  have p:=hSw.cell c0 (by simp)
  clear hSw
  go_simp
  all_goals with_reducible rfl
 ·exact fun _ _ _ h=>h
 try simp only [Act.put,Lq1,Lq2,Lq3]
 refine TlAny.take 5 (v:=?_) hHeld ?_ ?_ ?_
 rotate_left 1
 ·refine Or.inl ⟨by rfl,?_⟩
  intro wS hSw
  replace hSw:Mod [] w wS:=hSw
  clear hSw
  go_simp
  all_goals with_reducible rfl
 ·exact fun _ _ _ h=>h
 try simp only [Act.put,Lq1,Lq2,Lq3]
 refine TlAny.take 6 (v:=?_) hHeld ?_ ?_ ?_
 rotate_left 1
 ·refine Or.inl ⟨by rfl,?_⟩
  intro wS hSw
  replace hSw:Mod [] w wS:=hSw
  clear hSw
  go_simp
  all_goals with_reducible rfl
 ·exact fun _ _ _ h=>h
 try simp only [Act.put,Lq1,Lq2,Lq3]
 refine TlAny.take 7 (v:=?_) hHeld ?_ ?_ ?_
 rotate_left 1
 ·refine Or.inl ⟨by rfl,?_⟩
  intro wS hSw
  replace hSw:Mod [] w wS:=hSw
  clear hSw
  go_simp
  all_goals with_reducible rfl
 ·exact fun _ _ _ h=>h
 try simp only [Act.put,Lq1,Lq2,Lq3]
 refine TlAny.take 8 (v:=?_) hHeld ?_ ?_ ?_
 rotate_left 1
 ·refine Or.inl ⟨by rfl,?_⟩
  intro wS hSw
  replace hSw:Mod [] w wS:=hSw
  have p:=hSw.cell c1 (by simp)
  clear hSw
  go_simp
  all_goals with_reducible rfl
 ·exact fun _ _ _ h=>h
 try simp only [Act.put,Lq1,Lq2,Lq3]
 refine TlAny.one 4 ?_
 intro K hK
 go_simp
 refine Calls.mono (mclone_owns bm l.length D wd (ownsMap_modT H0.out.map hHeld (by simp))) ?_
 rintro e1 w1 ⟨rfl,hmp,hsz,hm⟩
 have hHeld1:=hHeld.trans hm (by simp)
 refine hK.out _ _ (fun _=>hHeld1) ?_
 clear hK K
 try simp only [Act.put,Lq1,Lq2,Lq3]
 have HMP:=Lib.hid hmp
 have zz:=hHeld1.size
 have zw:=hHeld.size
 generalize wd.heap.size=bmN at *
 clear hmp hm hsz
 refine TlAny.one 9 ?_
 intro K hK
 go_simp
 refine Calls.mono (clone_any l hl _ w1 (HR.out.past hHeld1 (by simp))) ?_
 rintro e2 w2 ⟨v2,rfl,hv2,hm2⟩
 obtain ⟨ua,uc,rfl⟩:=hv2.lit
 have hHeld2:=hHeld1.trans hm2 (by simp)
 refine hK.out _ _ (fun _=>hHeld2) ?_
 clear hK K
 try simp only [Act.put,Lq1,Lq2,Lq3]
 have HM2:=Hxq (ownsMap_modT HMP.out hm2 (by simp))
 have HV2:=Hxq (hv2.base (b':=w.heap.size) (by omega))
 have NB:=Hxq (show bmN∉fp (.slice ua l.length uc) from fun hk=>by have:=hv2.new _ hk;have:=HMP.out.lt;omega)
 have HB:=Hxq (show w.heap.size<=bmN by omega)
 clear hv2 hm2
 have z2:=hHeld2.size
 have eA:=heap_alloc_new w2 (Obj.cells #[.map (some bmN),.slice ua l.length uc] 74)
 have mA:=(Mod.refl [] w2).alloc (Obj.cells #[.map (some bmN),.slice ua l.length uc] 74)
 have hlt:=HM2.out.lt
 have hF:=Hxq (fun k hk=>fp_lt HV2.out.row k hk)
 have hT:TabB (w2.alloc (Obj.cells #[.map (some bmN),.slice ua l.length uc] 74)) w2.heap.size bmN D ua uc l:=⟨eA,ownsMap_modT HM2.out mA (by simp),mA.owns HV2.out.row (by simp),by omega,fun hk=>by have:=hF.out _ hk;omega,NB.out,H0.out.vin,H0.out.has,H0.out.num,H0.out.dup⟩
 have HT:=Lib.hid hT
 have hHeld3:=hHeld2.trans mA (by simp)
 have H3:=Lib.hid hHeld3
 clear eA mA hT
 refine TlAny.one 10 ?_
 intro K hK
 go_simp
 refine hK.out _ _ (fun _=>hHeld2) ?_
 clear hK K
 try simp only [Act.put,Lq1,Lq2,Lq3]
 refine TlAny.one 11 ?_
 intro K hK
 go_simp
 refine hK.out _ _ (fun _=>hHeld3) ?_
 clear hK K
 try simp only [Act.put,Lq1,Lq2,Lq3]
 refine TlAny.one 12 ?_
 intro K hK
 go_simp
 refine hK.out _ _ (fun _=>hHeld3) ?_
 clear hK K
 try simp only [Act.put,Lq1,Lq2,Lq3]
 refine TlAny.fin ?_
 clear hHeld3 hHeld2 hHeld1
 go_wp2_with fail
 go_ret
 exact ⟨_,_,_,_,rfl,HT.out,by omega,HB.out,HV2.out.new,H3.out⟩
open Go.RowKit Go.Maps
/-- where a table and its list lie -/
structure SV where
 p:Nat
 bm:Nat
 D:DataW Value
 va:Option Addr
 vc:Nat
 xa:Option Addr
 xc:Nat
 l:List Va.Val
def SV.x (s:SV):Value:=.slice s.xa s.l.length s.xc
def SV.tf (s:SV):List Nat:=s.p :: s.bm :: fp (.slice s.va s.l.length s.vc)
/-- the blocks of both -/
def SV.F (s:SV):List Nat:=s.tf++fp s.x
structure Side (w:World) (s:SV):Prop where
 tab:TabB w s.p s.bm s.D s.va s.vc s.l
 own:w.ownsRow 0 28 3 s.x s.l.length (rowVals s.l)
 dis:∀ k∈s.tf,k∉fp s.x
theorem Side.keep {S:List Nat} {w w':World} {s:SV} (h:Side w s) (hm:Mod S w w') (hS:∀ k∈s.F,k∉S):Side w' s:=by
 have h1:∀ k∈s.tf,k∉S:=fun k hk=>hS k (List.mem_append_left _ hk)
 exact ⟨h.tab.keep hm (h1 _ (by simp [SV.tf])) (h1 _ (by simp [SV.tf])) (fun k hk=>h1 k (by simp [SV.tf,hk])),hm.owns h.own (fun k hk=>hS k (List.mem_append_right _ hk)),h.dis⟩
theorem Side.lt {w:World} {s:SV} (h:Side w s):∀ k∈s.F,k<w.heap.size:=by
 intro k hk
 rcases List.mem_append.1 hk with hk | hk
 ·rcases List.mem_cons.1 hk with rfl | hk
  ·exact lt_of_block h.tab.at_
  ·rcases List.mem_cons.1 hk with rfl | hk
   ·exact h.tab.map.lt
   ·exact fp_lt h.tab.row k hk
 ·exact fp_lt h.own k hk
theorem Side.vrow {w:World} {s:SV} (h:Side w s):VRow w s.x s.l:=VOwn.vrow (base:=0) ⟨h.own,fun k _=>Nat.zero_le k⟩
theorem Side.vb {w:World} {s:SV} (h:Side w s):∀ x∈s.l,VB x:=fun x hx=>(h.tab.vin x hx).2
/-- the number that Put tells is the law's -/
theorem num_law (l:List Va.Val) (v:Va.Val):((tput l v).idxOf v:Int)=if lat l v<0 then (l.length:Int) else lat l v:=by
 unfold tput lat
 by_cases h:v∈l
 ·rw [if_pos h,if_pos h,if_neg (by omega)]
 ·rw [if_neg h,if_neg h,if_pos (by omega),List.idxOf_append,if_neg h]
  simp
theorem lat_neg (l:List Va.Val) (v:Va.Val):lat l v<0 ↔ v∉l:=by
 unfold lat
 by_cases h:v∈l
 ·rw [if_pos h];simp [h]
 ·rw [if_neg h];simp [h]
end Go.Proofs.YtdablillhbfgkaaDoor
