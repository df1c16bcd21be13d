/- THE TEXTS MERGED: ReAwake Seq ReNone ReTold ReNil. -/
import Derived.Test.YtdpgbnohelepiaaKN3
import Derived.RangeFuncNested
import Derived.RangeFuncBound
import Derived.RangeFuncCalls
import Derived.RangeFuncLeaves
import Derived.Shelf.Abstract
import Derived.Shelf.RegionOpen
import Derived.OwnWalkIn
import Derived.TacticsInMore
import Derived.LoopNIn
import Derived.LoopIn
import Derived.OrdersIn
import Derived.Laws.EntriesVeiled
namespace Go.Proofs.Ytdpgbnohelepiaa
open Go.RowKit Go.Maps
set_option linter.unusedVariables false
set_option linter.unusedSimpArgs false
set_option maxRecDepth 100000
theorem RelB.past {w w':World} {p:Nat} {n:Int} {b1 b2 b5:Nat} {D1 D2:DataW Value} {n1 n2:Nat} (h:RelB w p n b1 b2 b5 D1 D2 n1 n2) (hm:Mod [] w w'):RelB w' p n b1 b2 b5 D1 D2 n1 n2 :=
 ⟨hm.at h.at_ (by simp),ownsMap_mod h.rows hm (by simp),ownsMap_mod h.fresh hm (by simp),hm.at h.index (by simp),h.ne12,h.ne15,h.ne25⟩
theorem isMap_put {D:DataW Value} (h:IsMap D) (k:Lit) (d:DataW Value):IsMap (D.put k d):=by
 obtain ⟨es,rfl⟩:=h
 exact ⟨_,rfl⟩
theorem num_any (n:Int) (w:World):Calls Try.prog 23 #[.int .i64 n] w fun e w'=>e=.returned (.agg #[.int .i64 1,.int .i64 n,.string ⟨#[]⟩])/\Mod [] w w':=by
 have mA:=(Mod.refl [] w).alloc (Obj.cells #[.int .i64 1,.int .i64 n,.string ⟨#[]⟩] 47)
 have eA:=heap_alloc_new w (Obj.cells #[.int .i64 1,.int .i64 n,.string ⟨#[]⟩] 47)
 have HM:=Lib.hid mA
 have HE:=Lib.hid eA
 clear mA eA
 go_enter Try.func23,Try.ntmps23
 go_wp2_with fail
 refine bodyPost_ret (results_cell_row rfl _ _ _ _ _ _ _ rfl HE.out Try.underlying47 rfl (by kernel_rfl)) rfl ⟨rfl,HM.out⟩
def aw:List Va.Val:=[⟨1,2,[]⟩,⟨1,1,[]⟩]
theorem aw_row {w:World} {g:Nat} (h:w.heap[g]?=some (.cells #[.int .i64 1,.int .i64 2,.string ⟨#[]⟩,.int .i64 1,.int .i64 1,.string ⟨#[]⟩] 47 (0,0))):VRow w (.slice (some ⟨g,0,none⟩) 2 2) aw:=by
 refine .inr ⟨g,0,2,rfl,fun i hi=>?_⟩
 have hi2:i=0\/i=1:=by
  have:i<2:=hi
  omega
 rcases hi2 with rfl | rfl
 ·exact ⟨cell_at h 0,cell_at h 1,cell_at h 2⟩
 ·exact ⟨cell_at h 3,cell_at h 4,cell_at h 5⟩
theorem aw_key:∃ kl,keyOf Try.prog 68 (.agg (keyC aw))=some kl:=Option.isSome_iff_exists.1 (by kernel_rfl)
set_option maxHeartbeats 8000000 in
theorem awake_any (w:World):Calls Try.prog 5 #[] w fun e w'=>e=.returned (.bool true)/\Mod [] w w':=by
 obtain ⟨kl,hkl⟩:=aw_key
 have HKL:=Lib.hid hkl
 have hk:WideAt.IsKeyLit kl:=lawKey.key hkl
 have HIK:=Lib.hid hk
 have haw:aw.length=2:=rfl
 have HN:=Hxq (fun n w=>num_any n w)
 have HP:=Hxq (fun p b1 b2 b5 D1 D2 n1 n2 u rk ru w old h1 h3 h4 h5 h6=>put_ok p b1 b2 b5 D1 D2 n1 n2 aw u rk ru w kl old h1 (by decide) h3 (by decide) hkl h4 h5 h6)
 have HG:=Hxq (fun p b1 b2 b5 D1 D2 n1 n2 u rk ru w x v h1 h3 h4 h5=>get_ok p b1 b2 b5 D1 D2 n1 n2 aw u rk ru w kl x v h1 (by decide) h3 hkl h4 h5)
 clear hkl hk
 go_enter Try.func5,Try.ntmps5
 go_wp2_with fail
 refine (new_bad 9 (by omega) w).mono ?_
 rintro e1 w1 ⟨rfl,rfl⟩
 go_wp2_with fail
 refine (new_any 2 (by omega) (by omega) w1).mono ?_
 rintro e2 w2 ⟨b1,b2,b5,rfl,hR,g1,g2,g5,m2⟩
 have HR2:=Lib.hid hR;have M2:=Lib.hid m2
 clear hR m2
 generalize hp:w1.heap.size=p at *
 go_wp2_with fail
 refine (HN.out 2 _).mono ?_
 rintro e3 w3 ⟨rfl,m3⟩
 go_wp2_with fail
 refine (HN.out 1 _).mono ?_
 rintro e4 w4 ⟨rfl,m4⟩
 have mS:=(Mod.refl [] w4).alloc (Obj.cells #[.int .i64 1,.int .i64 2,.string ⟨#[]⟩,.int .i64 1,.int .i64 1,.string ⟨#[]⟩] 47)
 have vS:=aw_row (heap_alloc_new w4 (Obj.cells #[.int .i64 1,.int .i64 2,.string ⟨#[]⟩,.int .i64 1,.int .i64 1,.string ⟨#[]⟩] 47))
 have mm:=(m3.trans m4 (by simp)).trans mS (by simp)
 have HR4:Hid (RelB _ p ((aw.length:Nat):Int) b1 b2 b5 (.map []) (.map []) 0 0):=Hxq (HR2.out.past mm);have VS:=Lib.hid vS;have MM:=Hxq (M2.out.trans mm (by simp))
 clear m3 m4 mS vS mm
 go_wp2_with fail
 refine (HP.out p b1 b2 b5 _ _ 0 0 _ 0 0 _ none HR4.out VS.out rfl (by unfold maxLen;decide) (by unfold maxLen;decide)).mono ?_
 rintro e5 w5 ⟨rfl,⟨x,v,hR5,hx5,hy5,-⟩,m5⟩
 have HR5:=Lib.hid hR5;have M5:=Hxq (MM.out.trans m5 (fun t ht=>.inr (by simp at ht;omega)))
 clear hR5 hx5 hy5 m5 HR4 HR2 VS MM M2
 go_wp2_with fail
 refine (HN.out 2 _).mono ?_
 rintro e6 w6 ⟨rfl,m6⟩
 go_wp2_with fail
 refine (HN.out 1 _).mono ?_
 rintro e7 w7 ⟨rfl,m7⟩
 have mS:=(Mod.refl [] w7).alloc (Obj.cells #[.int .i64 1,.int .i64 2,.string ⟨#[]⟩,.int .i64 1,.int .i64 1,.string ⟨#[]⟩] 47)
 have vS:=aw_row (heap_alloc_new w7 (Obj.cells #[.int .i64 1,.int .i64 2,.string ⟨#[]⟩,.int .i64 1,.int .i64 1,.string ⟨#[]⟩] 47))
 have mm:=(m6.trans m7 (by simp)).trans mS (by simp)
 have HR7:=Hxq (HR5.out.past mm);have VS:=Lib.hid vS;have MM:=Hxq (M5.out.trans mm (by simp))
 clear m6 m7 mS vS mm
 go_wp2_with fail
 refine (HP.out p b1 b2 b5 _ _ _ _ _ 3 4 _ (some ⟨x,0,none⟩) HR7.out VS.out (atKey_put_same ⟨[],rfl⟩ HIK.out _ _) (by unfold maxLen;decide) (by unfold maxLen;decide)).mono ?_
 rintro e8 w8 ⟨rfl,⟨x2,v2,hR8,hx8,hy8,-⟩,m8⟩
 have HR8:=Lib.hid hR8;have HY8:=Lib.hid hy8;have M8:=Hxq (MM.out.trans m8 (fun t ht=>.inr (by simp at ht;omega)))
 clear hR8 hx8 hy8 m8 HR7 HR5 VS MM M5
 go_wp2_with fail
 refine (HN.out 2 _).mono ?_
 rintro e9 w9 ⟨rfl,m9⟩
 go_wp2_with fail
 refine (HN.out 1 _).mono ?_
 rintro e10 w10 ⟨rfl,m10⟩
 have mS:=(Mod.refl [] w10).alloc (Obj.cells #[.int .i64 1,.int .i64 2,.string ⟨#[]⟩,.int .i64 1,.int .i64 1,.string ⟨#[]⟩] 47)
 have vS:=aw_row (heap_alloc_new w10 (Obj.cells #[.int .i64 1,.int .i64 2,.string ⟨#[]⟩,.int .i64 1,.int .i64 1,.string ⟨#[]⟩] 47))
 have mm:=(m9.trans m10 (by simp)).trans mS (by simp)
 have HR10:=Hxq (HR8.out.past mm);have VS:=Lib.hid vS;have MM:=Hxq (M8.out.trans mm (by simp));have HY10:=Hxq (mm.at HY8.out (by simp))
 clear m9 m10 mS vS mm
 go_wp2_with fail
 refine (HG.out p b1 b2 b5 _ _ _ _ _ 3 4 _ x2 v2 HR10.out VS.out (atKey_put_same (isMap_put ⟨[],rfl⟩ _ _) HIK.out _ _) HY10.out).mono ?_
 rintro e11 w11 ⟨rfl,m11⟩
 have mB:=m11.trans ((Mod.refl [] w11).alloc (Obj.cells #[.int .i64 3,.int .i64 4] 34)) (by simp)
 have eB:=heap_alloc_new w11 (Obj.cells #[.int .i64 3,.int .i64 4] 34)
 go_upto_region 8 with fail
 generalize w11.alloc (Obj.cells _ 34)=w12 at *
 generalize w11.heap.size=nb at *
 have HR12:=Hxq (HR10.out.past mB);have M12:=Hxq (MM.out.trans mB (by simp))
 have y0:=cell_at eB 0;have y1:=cell_at eB 1
 simp only [List.getElem?_toArray,List.getElem?_cons_zero,List.getElem?_cons_succ] at y0 y1
 have hsz:Maps.size (((DataW.map []:DataW Value).put kl (.held (Value.pointer (some ⟨x,0,none⟩)))).put kl (.held (Value.pointer (some ⟨x2,0,none⟩))))=1:=by
  have h1:=size_put (k:=kl) (D:=((DataW.map []:DataW Value).put kl (.held (Value.pointer (some ⟨x,0,none⟩))))) ⟨[(kl,.held (.pointer (some ⟨x,0,none⟩)))],rfl,by simp⟩ (.held (.pointer (some ⟨x2,0,none⟩)))
  rw [h1,if_pos (has_put_same ⟨[],rfl⟩ HIK.out _)]
  rfl
 have HL:=Hxq (len_any p _ b1 b2 b5 _ _ _ _ w12 HR12.out)
 rw [hsz] at HL
 clear hsz mB eB m11 HR10 VS MM HY10 HY8 HR8 M8 HG HP
 go_wp2_with fail
 refine HL.out.mono ?_
 rintro e13 w13 ⟨rfl,m13⟩
 have M13:=Hxq (M12.out.trans m13 (by simp))
 clear m13 HL
 go_wp2_with fail
 go_ret
 exact ⟨rfl,M13.out⟩
open Go.RowKit Go.Shelf
attribute [local go_sem] Oper.semAt_some
/-- it speaks of the blocks below B alone -/
def AbB {α:Type} (B:Nat) (J:List α->World->Prop):Prop:=∀ s A C,J s A->Below B A C->J s C
/-- an iterator's contract: U: the blocks that a round may turn; G: those that the iterator does not lean on -/
def SeqU {α:Type} (P:Program) (n:Nat) (g:Nat) (lb:Array Value) (encs:α->Array Value) (G:Nat->Prop) (S Sp:List α->Prop) (Nx:List α->α->Prop) (w:World):Prop :=
 ∀ (l:Nat) (J Jx:List α->World->Prop) (W:World) (U:List Nat),Mod [] w W->(∀ u∈U,G u/\u<W.heap.size)->AbB W.heap.size J->AbB W.heap.size Jx ->
  (∀ pre x W1,J pre W1->Nx pre x->W.heap.size<=W1.heap.size->YieldAt Fence.wide (n - 1) P l (encs x) W1 fun e W' =>
   (e=.returned (.bool true)/\J (pre++[x]) W'/\Mod U W1 W')\/(e=.returned (.bool false)/\Jx (pre++[x]) W')) ->
  J [] W ->
  CallsIn Fence.wide n P g (#[.func (.yield l) #[] #[]]++lb) W fun e W'=>(∃ v,e=.returned v)/\((∃ xs,S xs/\J xs W')\/(∃ pre,Sp pre/\Jx pre W'))
/-- how the body of a round may be left -/
def seqPost {α:Type} (V:List Nat) (I:List α->World->Prop) (Ix:Code->List α->World->Prop) (xs:List α) (W:World):Exit->Act->World->Prop
 | .normal,_,W'=>Mod V W W'/\I xs W'
 | .ret,_,W'=>Mod V W W'/\Ix .ret xs W'
 | .exit id,_,W'=>Mod V W W'/\Ix (.exit id) xs W'
 | .goto t,_,W'=>Mod V W W'/\Ix (.goto t) xs W'
 | .panic _,_,_=>False
 | .outgrown,_,_=>False
theorem mod_putObj (W:World) (l:Nat) (o:Obj):Mod [l] W (W.putObj l o):=⟨rfl,rfl,rfl,by simp,fun k _ hk=>World.putObj_heap_other (by simpa using hk)⟩
theorem below_putObj {B:Nat} (W:World) (l:Nat) (o:Obj) (hB:B<=l) (hl:l<W.heap.size):Below B W (W.putObj l o) :=
 (mod_putObj W l o).below (by omega) (by simpa using hB)
theorem wp_seq {α:Type} {P:Program} {n:Nat} {g:Operand} {ps:Array Tmp} {assign body:Code} {Q:Exit->Act->World->Prop} {a:Act} {w:World}
  {gf:Nat} {lb:Array Value} (hg:a.eval g=.func (.func gf) #[] lb) (eg:∀ args w,(callFunc gf args).run P w=.ok (.enter gf args) w)
  {encs:α->Array Value} {G:Nat->Prop} {S Sp:List α->Prop} {Nx:List α->α->Prop} {w0:World} (hseq:SeqU P (n - 1) gf lb encs G S Sp Nx w0) (hm0:Mod [] w0 w) (hps:∀ x,(encs x).size=ps.size)
  (V:List Nat) (hV:∀ u∈V,G u/\u<w.heap.size) (hG:∀ u,w.heap.size<=u->G u)
  (I:List α->World->Prop) (Ix:Code->List α->World->Prop) (hI:AbB w.heap.size I) (hIx:∀ c,AbB w.heap.size (Ix c)) (h0:I [] w)
  (Ax:α->Act->World->Prop) (hAx:∀ x a' A C,Ax x a' A->Mod [w.heap.size+1] A C->Ax x a' C)
  (hassign:∀ (l:Nat) (pre:List α) (x:α) (W:World) (K:Act->World->Prop),I pre W->w.heap.size+1<W.heap.size->(∀ a' W',Mod [] W W'->I pre W'->Ax x a' W'->K a' W') ->
   assign.wpIn (Fence.wide.inRound l) (n - 1 - 1) P (Exit.then K (fun _ _ _=>False)) { tmps:=(ps.zip (encs x)).foldl (fun t (p,v)=>t.setIfInBounds p v) a.tmps,defers:=[] } W)
  (hbody:∀ (l:Nat) (pre:List α) (x:α) (a':Act) (W:World),I pre W->Ax x a' W->Nx pre x->w.heap.size+1<W.heap.size->body.wpIn (Fence.wide.inRound l) (n - 1 - 1) P (seqPost V I Ix (pre++[x]) W) a' W)
  (hdone:∀ (D:Nat) (xs:List α) (W:World),w.heap.size<=D->S xs->I xs W->W.heap[D]?=some (.deferred (some []))->Q .normal { a with defers:={ target:=.collected D,args:=#[] } :: a.defers } W)
  (hstop:∀ (D:Nat) (c:Code) (pre:List α) (W:World),w.heap.size<=D->Sp pre->Ix c pre W->W.heap[D]?=some (.deferred (some []))->c.wpIn Fence.wide n P Q { a with defers:={ target:=.collected D,args:=#[] } :: a.defers } W) :
  (Code.rangeFunc g ps assign body).wpIn Fence.wide n P Q a w:=by
 refine wpIn_rangeFunc ?_
 intro fn hfn
 generalize hR:w.heap.size+1=R at *
 obtain ⟨rec,hrec⟩:∃ rec:LoopState->Option Code->Loop,rec=fun st pe=>{ state:=st,pending:=pe,fn,tmps:=a.tmps,params:=ps,assign,body,defers:=w.heap.size }:=⟨_,rfl⟩
 obtain ⟨W1,hW1⟩:∃ W1,(w.alloc (.deferred (some []))).alloc (.loop (rec .ready none))=W1:=⟨_,rfl⟩
 have hs1:W1.heap.size=R+1:=by rw [<-hW1];simp;omega
 have hmw:Mod [] w W1:=by rw [<-hW1];exact ((Mod.refl [] w).alloc _).alloc _
 have hL1:W1.heap[R]?=some (.loop (rec .ready none)):=by
  rw [<-hW1,<-hR];have:=World.alloc_heap_new (w.alloc (.deferred (some []))) (.loop (rec .ready none));rwa [World.size_alloc] at this
 have hK1:W1.heap[w.heap.size]?=some (.deferred (some [])):=by
  rw [<-hW1];exact (Below.heap_alloc _ _ _ (by simp)).trans (World.alloc_heap_new w _)
 have bel:∀ {A C:World} {s:List α} {J:List α->World->Prop},AbB w.heap.size J->J s A->Below w.heap.size A C->J s C:=fun h j b=>h _ _ _ j b
 have hI1:I [] W1:=bel hI h0 (hmw.below (Nat.le_refl _) (by simp))
 have up:∀ {A C:World},Below W1.heap.size A C->Below w.heap.size A C:=fun h=>h.mono (by omega)
 refine ⟨R,[{ target:=.collected w.heap.size,args:=#[] }],W1,{ target:=.fn (.func gf) lb,args:=#[.func (.yield R) #[] #[]] },W1,gf,
  #[.func (.yield R) #[] #[]]++lb,W1,?_,?_,?_,?_,fun h=>(by cases h),?_⟩
 ·rw [<-hW1,hrec,<-hR];exact run_enterLoop_outer _ _ _ _ _
 ·simp only [resolve,hg]
  simp [go_sem]
 ·intro f' hf';trivial
 ·simp [invoke,go_sem,eg]
 ·refine (hseq R
   (fun pre W=>I pre W/\W.heap[R]?=some (.loop (rec .ready none))/\W.heap[w.heap.size]?=some (.deferred (some [])))
   (fun pre W=>∃ c,Ix c pre W/\W.heap[R]?=some (.loop (rec .done (some c)))/\W.heap[w.heap.size]?=some (.deferred (some [])))
   W1 (R :: V) (hm0.trans hmw (by simp)) (fun u hu=>?_)
   (fun s A C hs hb=>⟨bel hI hs.1 (up hb),(hb.block R (by omega)).trans hs.2.1,(hb.block w.heap.size (by omega)).trans hs.2.2⟩)
   (fun s A C hs hb=>by
    obtain ⟨c,hc,hl,hk⟩:=hs
    exact ⟨c,bel (hIx c) hc (up hb),(hb.block R (by omega)).trans hl,(hb.block w.heap.size (by omega)).trans hk⟩)
   ?_ ⟨hI1,hL1,hK1⟩).mono ?_
  ·rcases List.mem_cons.1 hu with rfl | hu
   ·exact ⟨hG _ (by omega),by omega⟩
   ·exact ⟨(hV u hu).1,by have:=(hV u hu).2;omega⟩
  ·rintro pre x W ⟨hi,hl,hk⟩ hlen hWs
   have hlt:R<W.heap.size:=(Array.getElem?_eq_some_iff.1 hl).1
   have hy:=run_yield (P:=P) (args:=encs x) hl (by rw [hrec];exact hps x)
   rw [hrec] at hy
   refine ⟨fn,_,assign,body,hy,roundIn_of_wpIn hfn (hassign _ pre x W _ hi (by omega) ?_)⟩
   intro a2 W2 m2 i2 x2
   have hl2:=m2.at hl (by simp)
   have hk2:=m2.at hk (by simp)
   have hlt2:R<W2.heap.size:=lt_of_block hl2
   refine ⟨_,run_beginRound hl2 (by rw [hrec]),?_⟩
   have hl3:(W2.putObj R (.loop { rec .ready none with state:=.busy })).heap[R]?=some (.loop { rec .ready none with state:=.busy }):=World.putObj_heap_same hlt2
   have hk3:(W2.putObj R (.loop { rec .ready none with state:=.busy })).heap[w.heap.size]?=some (.deferred (some [])):=(World.putObj_heap_other (by omega)).trans hk2
   have m3:=mod_putObj W2 R (.loop { rec .ready none with state:=.busy })
   generalize hW3:W2.putObj R (.loop { rec .ready none with state:=.busy })=W3 at *
   have hlt3:R<W3.heap.size:=lt_of_block hl3
   refine wpIn_mono (hbody _ pre x _ _ (bel hI i2 (m3.below (by omega) (by simp;omega))) (hAx _ _ _ _ x2 m3) hlen (by omega)) ?_
   have fin:∀ (jump:Option Code) (W4:World),Mod V W3 W4 ->
     (Instr.endRound R jump).run P W4=.ok (.bool jump.isNone) (W4.putObj R (.loop (rec (if jump.isNone then .ready else .done) jump))) /\
     (W4.putObj R (.loop (rec (if jump.isNone then .ready else .done) jump))).heap[R]?=some (.loop (rec (if jump.isNone then .ready else .done) jump)) /\
     (W4.putObj R (.loop (rec (if jump.isNone then .ready else .done) jump))).heap[w.heap.size]?=some (.deferred (some [])) /\
     Mod (R :: V) W (W4.putObj R (.loop (rec (if jump.isNone then .ready else .done) jump)))/\Below w.heap.size W4 (W4.putObj R (.loop (rec (if jump.isNone then .ready else .done) jump))):=fun jump W4 m4=>by
    have hRV:R∉V:=fun h=>by have:=(hV R h).2;omega
    have hDV:w.heap.size∉V:=fun h=>by have:=(hV _ h).2;omega
    have hl4:=m4.at hl3 hRV
    have hlt4:R<W4.heap.size:=lt_of_block hl4
    have:=run_endRound (P:=P) jump hl4
    rw [hrec] at this ⊢
    refine ⟨this,World.putObj_heap_same hlt4,(World.putObj_heap_other (by omega)).trans (m4.at hk3 hDV),?_,below_putObj _ _ _ (by omega) hlt4⟩
    refine (((m2.mono (T:=R :: V) (by simp)).trans m3 (by simp)).trans m4 (fun t ht=>.inl (List.mem_cons_of_mem _ ht))).trans (mod_putObj _ _ _) (by simp)
   rintro e a3 W4 hp
   cases e with
   | normal =>
    obtain ⟨m4,hi4⟩:=hp
    obtain ⟨hr,hl4,hk4,hm4,hb4⟩:=fin none W4 m4
    exact ⟨_,_,hr,.inl ⟨rfl,⟨bel hI hi4 hb4,hl4,hk4⟩,hm4⟩⟩
   | ret =>
    obtain ⟨m4,hi4⟩:=hp
    obtain ⟨hr,hl4,hk4,hm4,hb4⟩:=fin (some .ret) W4 m4
    exact ⟨_,_,hr,.inr ⟨rfl,.ret,bel (hIx _) hi4 hb4,hl4,hk4⟩⟩
   | exit id =>
    obtain ⟨m4,hi4⟩:=hp
    obtain ⟨hr,hl4,hk4,hm4,hb4⟩:=fin (some (.exit id)) W4 m4
    exact ⟨_,_,hr,.inr ⟨rfl,.exit id,bel (hIx _) hi4 hb4,hl4,hk4⟩⟩
   | goto t =>
    obtain ⟨m4,hi4⟩:=hp
    obtain ⟨hr,hl4,hk4,hm4,hb4⟩:=fin (some (.goto t)) W4 m4
    exact ⟨_,_,hr,.inr ⟨rfl,.goto t,bel (hIx _) hi4 hb4,hl4,hk4⟩⟩
   | panic ch=>exact hp.elim
   | outgrown=>exact hp.elim
  ·rintro e W2 ⟨⟨v,rfl⟩,(⟨xs,hS,hi,hl,hk⟩ | ⟨pre,hSp,c,hi,hl,hk⟩)⟩
   ·have hlt:R<W2.heap.size:=lt_of_block hl
    exact ⟨none,_,by have:=run_endLoop (P:=P) hl (by rw [hrec];simp);rw [hrec] at this;exact this,hdone _ xs _ (Nat.le_refl _) hS (bel hI hi (below_putObj _ _ _ (by omega) hlt)) ((World.putObj_heap_other (by omega)).trans hk)⟩
   ·have hlt:R<W2.heap.size:=lt_of_block hl
    exact ⟨some c,_,by have:=run_endLoop (P:=P) hl (by rw [hrec];simp);rw [hrec] at this;exact this,hstop _ c pre _ (Nat.le_refl _) hSp (bel (hIx c) hi (below_putObj _ _ _ (by omega) hlt)) ((World.putObj_heap_other (by omega)).trans hk)⟩
section
variable {P:Program} {C:World->Prop} {l n:Nat}
end
open Go.RowKit Go.Shelf
set_option linter.unusedVariables false
set_option linter.unusedSimpArgs false
set_option maxRecDepth 100000
attribute [local go_sem] Oper.semAt_some
theorem none_any (w:World):Calls Try.prog 30 #[] w fun e w'=>e=.returned (.slice none 0 0)/\w'=w:=by
 go_enter Try.func30,Try.ntmps30
 go_wp2_with fail
 go_ret
 exact ⟨rfl,rfl⟩
/-- what tells nothing -/
def noneF:Value:=.func (.func 30) #[] #[]
def tellF (q:Nat):Value:=.func (.func 45) #[] #[.pointer (some ⟨q,0,none⟩)]
theorem tell_none (w:World) (q:Nat) (hq:w.heap.size=q):Calls Try.prog 29 #[noneF] w fun e w'=>e=.returned (tellF q)/\w'.cell? ⟨q,0,none⟩=some noneF/\Mod [] w w':=by
 subst hq
 have hm:=(Mod.refl [] w).alloc (Obj.cells #[noneF] 78)
 have he:=cell_at (heap_alloc_new w (Obj.cells #[noneF] 78)) 0
 unfold noneF tellF at *
 go_enter Try.func29,Try.ntmps29
 go_wp2_with fail
 go_ret
 exact ⟨rfl,he,hm⟩
abbrev NS (n q:Nat) (w:World):Prop:=SeqU Try.prog n 45 #[.pointer (some ⟨q,0,none⟩)] (fun _:Unit=>#[undef,undef]) (fun _=>True) (fun xs=>xs=[]) (fun _=>False) (fun _ _=>False) w
set_option maxHeartbeats 2000000 in
theorem none_seq (n:Nat) (q:Nat) (w:World) (hq:w.cell? ⟨q,0,none⟩=some noneF):NS n q w:=by
 intro l J Jx W U hW hU hJ hJx hY h0
 have hc:=hW.cell hq (by simp)
 have H0:=Lib.hid h0
 clear hY hU hJ hJx h0 hq hW
 unfold noneF at hc
 refine callsIn_of_wp Try.func45 rfl trivial ?_
 simp only [Try.ntmps45,List.size_toArray,List.length_cons,List.length_nil,Nat.reduceAdd,Nat.reduceSub,Array.replicate_succ,Array.replicate_zero,List.push_toArray,List.append_toArray,List.nil_append,List.cons_append]
 gi_wp2_with fail
 refine ⟨trivial,fun h=>(by cases h),callsIn_wide.2 ?_⟩
 refine (none_any W).mono ?_
 rintro e w1 ⟨rfl,rfl⟩
 gi_wp2_with fail
 gi_loopw [8] (fun iv wr=>iv=.int .i64 0/\J [] wr) (fun iv wr=>0)
 case atStart=>exact ⟨rfl,H0.out⟩
 case round =>
  obtain ⟨rfl,hj⟩:=hrel
  have HJ:=Lib.hid hj
  clear hj H0
  gi_wp2_with fail
  go_end0
  exact ⟨⟨_,rfl⟩,.inl ⟨[],rfl,HJ.out⟩⟩
attribute [local go_sem] Oper.semAt_some
theorem mod_of_below {B:Nat} {A C:World} (h:Below B A C):Mod ((List.range A.heap.size).filter (fun k=>decide (B<=k))) A C :=
 ⟨h.os,h.tape,h.output,h.size,fun k hk hn=>h.block k (by
  simp only [List.mem_filter,List.mem_range,decide_eq_true_eq,not_and] at hn
  have:=hn hk
  omega)⟩
/-- told's variables from block b on -/
structure TI (w:World) (b:Nat) (W:World):Prop where
 r1:W.heap[b+1]?=some (.cells #[.slice none 0 0] 22 (0,0))
 r2:W.heap[b+2]?=some (.cells #[.bool false] 4 (0,0))
 o:W.heap[b+3]?=some (.cells #[.slice none 0 0] 22 (0,0))
 rise:W.heap[b+4]?=some (.cells #[.bool true] 4 (0,0))
 mod:Mod [] w W
theorem TI.step {w:World} {b B:Nat} {A C:World} (h:TI w b A) (hb:Below B A C) (h1:b+5<=B) (h2:w.heap.size<=B):TI w b C :=
 ⟨(hb.block _ (by omega)).trans h.r1,(hb.block _ (by omega)).trans h.r2,(hb.block _ (by omega)).trans h.o,(hb.block _ (by omega)).trans h.rise,h.mod.trans (mod_of_below hb) (fun t ht=>.inr (by simp only [List.mem_filter,decide_eq_true_eq] at ht;omega))⟩
set_option maxHeartbeats 4000000 in
theorem told_none (w:World) (q:Nat) (hq:w.cell? ⟨q,0,none⟩=some noneF):Calls Try.prog 11 #[tellF q,.int .i64 0] w fun e w'=>e=.returned (.tuple #[.slice none 0 0,.bool true])/\Mod [] w w':=by
 have hnil:∀ (a:Fn) (b c:Array Value) (w:World),(binOp BinOp.eql 39 (.func a b c) .nilFunc).run Try.prog w=.ok (.bool false) w:=fun _ _ _ _=>rfl
 have HS:=Hxq (fun n w=>none_seq n q w)
 have HQ:=Lib.hid hq
 clear hq
 unfold tellF
 refine (callsIn_wide (n:=5)).1 ?_
 refine callsIn_of_wp_marks Try.func11 rfl trivial ?_
 simp only [Try.ntmps11,List.size_toArray,List.length_cons,List.length_nil,Nat.reduceAdd,Nat.reduceSub,Array.replicate_succ,Array.replicate_zero,List.push_toArray,List.append_toArray,List.nil_append,List.cons_append]
 gi_wp2_with fail
 have h0:TI w w.heap.size (((((w.alloc (Obj.cells #[Value.int IntKind.i64 0] 3)).alloc (Obj.cells #[Value.slice none 0 0] 22)).alloc (Obj.cells #[Value.bool false] 4)).alloc (Obj.cells #[Value.slice none 0 0] 22)).alloc (Obj.cells #[Value.bool true] 4)):=by
  have ma:=(Mod.refl [] w).alloc (Obj.cells #[Value.int IntKind.i64 0] 3)
  have za:(w.alloc (Obj.cells #[Value.int IntKind.i64 0] 3)).heap.size=w.heap.size+1:=by simp
  generalize w.alloc (Obj.cells #[Value.int IntKind.i64 0] 3)=wa at *
  have eb:=heap_alloc_new wa (Obj.cells #[Value.slice none 0 0] 22)
  have mb:=(Mod.refl [] wa).alloc (Obj.cells #[Value.slice none 0 0] 22)
  have zb:(wa.alloc (Obj.cells #[Value.slice none 0 0] 22)).heap.size=w.heap.size+2:=by simp [za]
  generalize wa.alloc (Obj.cells #[Value.slice none 0 0] 22)=wb at *
  have ec:=heap_alloc_new wb (Obj.cells #[Value.bool false] 4)
  have mc:=(Mod.refl [] wb).alloc (Obj.cells #[Value.bool false] 4)
  have zc:(wb.alloc (Obj.cells #[Value.bool false] 4)).heap.size=w.heap.size+3:=by simp [zb]
  generalize wb.alloc (Obj.cells #[Value.bool false] 4)=wc at *
  have ed:=heap_alloc_new wc (Obj.cells #[Value.slice none 0 0] 22)
  have md:=(Mod.refl [] wc).alloc (Obj.cells #[Value.slice none 0 0] 22)
  have zd:(wc.alloc (Obj.cells #[Value.slice none 0 0] 22)).heap.size=w.heap.size+4:=by simp [zc]
  generalize wc.alloc (Obj.cells #[Value.slice none 0 0] 22)=wd at *
  have ee:=heap_alloc_new wd (Obj.cells #[Value.bool true] 4)
  have me:=(Mod.refl [] wd).alloc (Obj.cells #[Value.bool true] 4)
  rw [za] at eb;rw [zb] at ec;rw [zc] at ed;rw [zd] at ee
  exact ⟨me.at (md.at (mc.at eb (by simp)) (by simp)) (by simp),me.at (md.at ec (by simp)) (by simp),me.at ed (by simp),ee,(((ma.trans mb (by simp)).trans mc (by simp)).trans md (by simp)).trans me (by simp)⟩
 have hsz:(((((w.alloc (Obj.cells #[Value.int IntKind.i64 0] 3)).alloc (Obj.cells #[Value.slice none 0 0] 22)).alloc (Obj.cells #[Value.bool false] 4)).alloc (Obj.cells #[Value.slice none 0 0] 22)).alloc (Obj.cells #[Value.bool true] 4)).heap.size=w.heap.size+5:=by simp
 generalize ((((w.alloc (Obj.cells #[Value.int IntKind.i64 0] 3)).alloc (Obj.cells #[Value.slice none 0 0] 22)).alloc (Obj.cells #[Value.bool false] 4)).alloc (Obj.cells #[Value.slice none 0 0] 22)).alloc (Obj.cells #[Value.bool true] 4)=wA at *
 have hqA:=h0.mod.cell HQ.out (by simp)
 refine wp_seq (gf:=45) (lb:=#[.pointer (some ⟨q,0,none⟩)]) rfl (enters_of Try.func45 (by kernel_rfl) rfl) (HS.out _ wA hqA) (Mod.refl [] wA) (fun _=>rfl)
  [] (by simp) (fun _ _=>trivial)
  (fun _ W=>TI w w.heap.size W) (fun _ _ _=>False) (fun pre A C hs hb=>hs.step hb (by omega) (by omega)) (fun _ _ _ _ hs _=>hs) h0
  (fun _ _ _=>True) (fun _ _ _ _ _ _=>trivial)
  ?assign ?body ?done ?stop
 case assign =>
  intro l pre x W K hi hlt hK
  gi_wp2_with fail
  exact hK _ _ (Mod.refl [] W) hi trivial
 case body =>
  intro l pre x a' W hi hx hpf
  exact hpf.elim
 case done =>
  rintro D xs W hD rfl hi hK
  have HI:=Lib.hid hi;have HK:=Lib.hid hK
  have c3:W.cell? ⟨w.heap.size+1+1+1,0,none⟩=some (.slice none 0 0):=cell_at hi.o 0
  have c4:W.cell? ⟨w.heap.size+1+1+1+1,0,none⟩=some (.bool true):=cell_at hi.rise 0
  have c1:W.cell? ⟨w.heap.size+1,0,none⟩=some (.slice none 0 0):=cell_at hi.r1 0
  have c2:W.cell? ⟨w.heap.size+1+1,0,none⟩=some (.bool false):=cell_at hi.r2 0
  have f1:W.frozen? ⟨w.heap.size+1,0,none⟩=false:=free_at hi.r1 0
  have f2:W.frozen? ⟨w.heap.size+1+1,0,none⟩=false:=free_at hi.r2 0
  clear hi hK
  gi_wp2_with fail
  gi_region
  have mm:=((Mod.refl [w.heap.size+1,w.heap.size+1+1] W).setCell (p:=⟨w.heap.size+1,0,none⟩) (.inl (by simp)) (.slice none 0 0)).setCell (p:=⟨w.heap.size+1+1,0,none⟩) (.inl (by simp)) (.bool true)
  have e1:((W.setCell ⟨w.heap.size+1,0,none⟩ (.slice none 0 0)).setCell ⟨w.heap.size+1+1,0,none⟩ (.bool true)).cell? ⟨w.heap.size+1,0,none⟩=some (.slice none 0 0) :=
   cell_at (((Mod.refl [w.heap.size+1+1] _).setCell (p:=⟨w.heap.size+1+1,0,none⟩) (.inl (by simp)) (.bool true)).at (setCell_at HI.out.r1 0 (.slice none 0 0)) (by simp)) 0
  have e2:((W.setCell ⟨w.heap.size+1,0,none⟩ (.slice none 0 0)).setCell ⟨w.heap.size+1+1,0,none⟩ (.bool true)).cell? ⟨w.heap.size+1+1,0,none⟩=some (.bool true) :=
   cell_at (setCell_at (((Mod.refl [w.heap.size+1] W).setCell (p:=⟨w.heap.size+1,0,none⟩) (.inl (by simp)) (.slice none 0 0)).at HI.out.r2 (by simp)) 0 (.bool true)) 0
  have hK2:=mm.at HK.out (by simp;omega)
  have m2:=HI.out.mod.trans mm (fun t ht=>.inr (by simp at ht;omega))
  clear mm c1 c2 c3 c4 f1 f2
  generalize (W.setCell ⟨w.heap.size+1,0,none⟩ (.slice none 0 0)).setCell ⟨w.heap.size+1+1,0,none⟩ (.bool true)=W2 at *
  have hK2':W2.drew.heap[D]?=some (.deferred (some [])):=hK2
  have g1:W2.drew.cell? ⟨w.heap.size+1,0,none⟩=some (.slice none 0 0):=e1
  have g2:W2.drew.cell? ⟨w.heap.size+1+1,0,none⟩=some (.bool true):=e2
  have m2':=m2.drew
  clear hK2 e1 e2 m2
  generalize W2.drew=W3 at *
  have hD2:D<W3.heap.size:=lt_of_block hK2'
  have h1:=(World.cell?_of_block (w:=W3) (w':=W3.putObj D (.deferred none)) (a:=⟨w.heap.size+1,0,none⟩) (World.putObj_heap_other (by simp;omega))).trans g1
  have h2:=(World.cell?_of_block (w:=W3) (w':=W3.putObj D (.deferred none)) (a:=⟨w.heap.size+1+1,0,none⟩) (World.putObj_heap_other (by simp;omega))).trans g2
  gi_wp2_with fail
  refine ⟨by simp,.inl ⟨_,_,rfl,run_takeDeferred hK2',?_⟩⟩
  refine ⟨.tuple #[.slice none 0 0,.bool true],by simp [results,Try.results11,go_sem,h1,h2],rfl,?_⟩
  exact m2'.trans (mod_putObj _ _ _) (by simp;omega)
 case stop =>
  rintro D c pre W _ h _
  exact h.elim
theorem put_nil (u:Value) (a b:Int) (w:World):Calls Try.prog 7 #[.pointer none,u,.agg #[.int .i64 a,.int .i64 b]] w fun e w'=>e=.returned (.tuple #[.bool false,.int .i64 1])/\Mod [] w w':=by
 have hm:=fun o=>(Mod.refl [] w).alloc o
 go_enter Try.func7,Try.ntmps7
 go_wp2_with fail
 go_ret2
 first
  | exact ⟨rfl,Mod.refl _ _⟩
  | exact ⟨rfl,hm _⟩
theorem columns_nil  (w:World):Calls Try.prog 21 #[.pointer none] w fun e w'=>e=.returned (.int .i64 0)/\Mod [] w w':=by
 have hm:=fun o=>(Mod.refl [] w).alloc o
 go_enter Try.func21,Try.ntmps21
 go_wp2_with fail
 go_ret
 first
  | exact ⟨rfl,Mod.refl _ _⟩
  | exact ⟨rfl,hm _⟩
theorem len_nil  (w:World):Calls Try.prog 14 #[.pointer none] w fun e w'=>e=.returned (.int .i64 0)/\Mod [] w w':=by
 have hm:=fun o=>(Mod.refl [] w).alloc o
 go_enter Try.func14,Try.ntmps14
 go_wp2_with fail
 go_ret
 first
  | exact ⟨rfl,Mod.refl _ _⟩
  | exact ⟨rfl,hm _⟩
theorem turn_nil  (w:World):Calls Try.prog 9 #[.pointer none] w fun e w'=>e=.returned (.tuple #[])/\Mod [] w w':=by
 have hm:=fun o=>(Mod.refl [] w).alloc o
 go_enter Try.func9,Try.ntmps9
 go_wp2_with fail
 first | go_end0 | refine bodyPost_ret (results_none rfl _ _ _) rfl ?_
 first
  | exact ⟨rfl,Mod.refl _ _⟩
  | exact ⟨rfl,hm _⟩
theorem clear_nil  (w:World):Calls Try.prog 20 #[.pointer none] w fun e w'=>e=.returned (.tuple #[])/\Mod [] w w':=by
 have hm:=fun o=>(Mod.refl [] w).alloc o
 go_enter Try.func20,Try.ntmps20
 go_wp2_with fail
 first | go_end0 | refine bodyPost_ret (results_none rfl _ _ _) rfl ?_
 first
  | exact ⟨rfl,Mod.refl _ _⟩
  | exact ⟨rfl,hm _⟩
theorem copy_nil  (w:World):Calls Try.prog 22 #[.pointer none] w fun e w'=>e=.returned (.pointer none)/\Mod [] w w':=by
 have hm:=fun o=>(Mod.refl [] w).alloc o
 go_enter Try.func22,Try.ntmps22
 go_wp2_with fail
 go_ret
 first
  | exact ⟨rfl,Mod.refl _ _⟩
  | exact ⟨rfl,hm _⟩
set_option maxHeartbeats 2000000 in
theorem drop_nil (a:Option Addr) (n c:Nat) (w:World):Calls Try.prog 10 #[.pointer none,.slice a n c] w fun e w'=>e=.returned (.bool false)/\Mod [] w w':=by
 have HK:=Hxq (keyOf_nil (.slice a n c) w n c a rfl)
 go_enter Try.func10,Try.ntmps10
 go_wp2_with fail
 refine HK.out.mono ?_
 rintro e1 w1 ⟨rfl,m1⟩
 have hks:(keyC []).size=24:=keyC_size (by simp)
 have h1:=keyC_one []
 generalize keyC []=K at *
 have hKs:(Try.prog.info? 68).map (·.size)=some K.size:=by rw [hks];kernel_rfl
 have hZs:(#[Value.int .i64 0,Value.int .i64 0,Value.string ⟨#[]⟩,Value.int .i64 0,Value.int .i64 0,Value.string ⟨#[]⟩,Value.int .i64 0,Value.int .i64 0,Value.string ⟨#[]⟩,Value.int .i64 0,Value.int .i64 0,Value.string ⟨#[]⟩,Value.int .i64 0,Value.int .i64 0,Value.string ⟨#[]⟩,Value.int .i64 0,Value.int .i64 0,Value.string ⟨#[]⟩,Value.int .i64 0,Value.int .i64 0,Value.string ⟨#[]⟩,Value.int .i64 0,Value.int .i64 0,Value.string ⟨#[]⟩]:Array Value).size=K.size:=by rw [hks];rfl
 have HKs:=Lib.hid hKs;have H1:=Lib.hid h1;have HZ:=Lib.hid hZs
 have M1:=Hxq (m1.trans ((Mod.refl [] w1).alloc (Obj.cells K 68)) (by simp))
 clear hKs h1 hks hZs m1 HK
 go_upto_region 2 with (first | refine wpList_store_new rfl 68 _ _ rfl w1 w1.heap.size K _ 68 rfl rfl rfl rfl HKs.out HZ.out H1.out ?_)
 generalize w1.alloc (Obj.cells K 68)=w2 at *
 go_quiet (fail)
 go_wp2_with fail
 go_ret
 exact ⟨rfl,by first | exact M1.out.drewN _ | exact M1.out.drew | exact M1.out⟩
theorem all_nil (w:World) (q:Nat) (hq:w.heap.size=q):Calls Try.prog 12 #[.pointer none] w fun e w'=>e=.returned (tellF q)/\w'.cell? ⟨q,0,none⟩=some noneF/\Mod [] w w':=by
 have HT:=Hxq (tell_none w q hq)
 clear hq
 unfold noneF at HT
 go_enter Try.func12,Try.ntmps12
 go_wp2_with fail
 refine HT.out.mono ?_
 rintro e1 w1 ⟨rfl,h1,m1⟩
 unfold tellF
 have HH:=Hxq (And.intro h1 m1)
 clear h1 m1 HT
 go_wp2_with fail
 go_ret
 exact ⟨rfl,HH.out.1,HH.out.2⟩
theorem fresh_nil (w:World) (q:Nat) (hq:w.heap.size+1=q):Calls Try.prog 18 #[.pointer none] w fun e w'=>e=.returned (tellF q)/\w'.cell? ⟨q,0,none⟩=some noneF/\Mod [] w w':=by
 have mA:=(Mod.refl [] w).alloc (Obj.cells #[.pointer none] 26)
 have eA:=cell_at (heap_alloc_new w (Obj.cells #[.pointer none] 26)) 0
 simp only [List.getElem?_toArray,List.getElem?_cons_zero] at eA
 have HT:=Hxq (tell_none (w.alloc (Obj.cells #[.pointer none] 26)) q (by simpa using hq))
 clear hq
 unfold noneF at HT
 go_enter Try.func18,Try.ntmps18
 go_upto_region 1 with fail
 generalize w.alloc (Obj.cells #[Value.pointer none] 26)=w0 at *
 have MA:=Lib.hid mA
 clear mA
 go_wp2_with fail
 refine HT.out.mono ?_
 rintro e1 w1 ⟨rfl,h1,m1⟩
 unfold tellF
 have HH:=Hxq (And.intro h1 (MA.out.trans m1 (by simp)))
 clear h1 m1 HT eA
 go_wp2_with fail
 go_ret
 exact ⟨rfl,HH.out.1,HH.out.2⟩
set_option maxHeartbeats 2000000 in
theorem get_nil (a:Option Addr) (n c:Nat) (w:World):Calls Try.prog 16 #[.pointer none,.slice a n c] w fun e w'=>e=.returned (.tuple #[.agg #[.int .i64 0,.int .i64 0],.bool false])/\Mod [] w w':=by
 have mA:=(Mod.refl [] w).alloc (Obj.cells #[.int .i64 0,.int .i64 0] 34)
 have eA:=heap_alloc_new w (Obj.cells #[.int .i64 0,.int .i64 0] 34)
 have HK:=Hxq (fun w=>keyOf_nil (.slice a n c) w n c a rfl)
 go_enter Try.func16,Try.ntmps16
 go_upto_region 1 with fail
 generalize w.alloc (Obj.cells _ 34)=w0 at *
 have MA:=Lib.hid mA;have EA:=Lib.hid eA
 clear mA eA
 go_wp2_with fail
 refine (HK.out w0).mono ?_
 rintro e1 w1 ⟨rfl,m1⟩
 have M0:=Lib.hid m1
 have hks:(keyC []).size=24:=keyC_size (by simp)
 have h1:=keyC_one []
 generalize keyC []=K at *
 have hKs:(Try.prog.info? 68).map (·.size)=some K.size:=by rw [hks];kernel_rfl
 have hZs:(#[Value.int .i64 0,Value.int .i64 0,Value.string ⟨#[]⟩,Value.int .i64 0,Value.int .i64 0,Value.string ⟨#[]⟩,Value.int .i64 0,Value.int .i64 0,Value.string ⟨#[]⟩,Value.int .i64 0,Value.int .i64 0,Value.string ⟨#[]⟩,Value.int .i64 0,Value.int .i64 0,Value.string ⟨#[]⟩,Value.int .i64 0,Value.int .i64 0,Value.string ⟨#[]⟩,Value.int .i64 0,Value.int .i64 0,Value.string ⟨#[]⟩,Value.int .i64 0,Value.int .i64 0,Value.string ⟨#[]⟩]:Array Value).size=K.size:=by rw [hks];rfl
 have HKs:=Lib.hid hKs;have H1:=Lib.hid h1;have HZ:=Lib.hid hZs
 have mB:=m1.trans ((Mod.refl [] w1).alloc (Obj.cells K 68)) (by simp)
 have M1:=Hxq (MA.out.trans mB (by simp));have EB:=Hxq (mB.at EA.out (by simp))
 clear hKs h1 hks hZs m1 HK mB M0
 go_upto_region 2 with (first | refine wpList_store_new rfl 68 _ _ rfl w1 w1.heap.size K _ 68 rfl rfl rfl rfl HKs.out HZ.out H1.out ?_)
 generalize w1.alloc (Obj.cells K 68)=w2 at *
 go_quiet (fail)
 generalize hq:w2.drewN _=w3
 have m3:Mod [] w w3:=by rw [<-hq];exact M1.out.drewN _
 have e3:w3.heap[w.heap.size]?=some (.cells #[.int .i64 0,.int .i64 0] 34 (0,0)):=by rw [<-hq];exact EB.out
 have M3:=Lib.hid m3;have E3:=Lib.hid e3
 have c0:=cell_at e3 0;have c1:=cell_at e3 1;have f0:=fun j=>free_at e3 j
 simp only [List.getElem?_toArray,List.getElem?_cons_zero,List.getElem?_cons_succ] at c0 c1
 clear hq m3 e3
 have HS:=Hxq (setCs_row (vs:=[.int .i64 0,.int .i64 0]) E3.out rfl)
 have HM:=Hxq (setCs_mod w.heap.size [.int .i64 0,.int .i64 0] 0 w3)
 go_wp2_with fail
 refine bodyPost_ret (res_note rfl _ _ w.heap.size #[.int .i64 0,.int .i64 0] _ _ (.bool false) rfl rfl HS.out (by kernel_rfl)) rfl ⟨rfl,M3.out.trans HM.out (fun t ht=>.inr (by rw [Msq] at ht;omega))⟩
end Go.Proofs.Ytdpgbnohelepiaa
