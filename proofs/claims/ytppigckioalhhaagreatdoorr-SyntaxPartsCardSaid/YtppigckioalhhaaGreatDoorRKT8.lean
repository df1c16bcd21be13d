/- THE TEXTS MERGED: RpBase RpOp SyTok3. -/
import Derived.Test.YtppigckioalhhaaGreatDoorRKT1
import Derived.Test.YtppigckioalhhaaGreatDoorRKT6
import Derived.Test.YtppigckioalhhaaGreatDoorRKT7
import Derived.StillTailTactics
namespace Go.Proofs.YtppigckioalhhaaGreatDoorR
open Go.RowKit
set_option linter.unusedVariables false
set_option linter.unusedSimpArgs false
set_option maxRecDepth 100000
/-- what a parser keeps beside its words: why no further one can be read, the place behind the text -/
structure LX where
 lc:Nat
 ll:Nat
 lk:Nat
 el:Nat
 ek:Nat
/-- a text's words, each of its kind -/
structure EnvK (v:Sy.Env):Prop where
 ok:EnvOk v
 k:∀ t∈v.ws,Lx.TokK t
theorem EnvK.tk {v:Sy.Env} (h:EnvK v) (i:Nat):Lx.TokK (v.tk i):=by
 rcases tk_mem (v:=v) i with hm | hm
 ·exact h.k _ hm
 ·rw [hm];exact ⟨fun h=>(by cases h),fun h=>(by cases h)⟩
/-- block b holds a parser that stands at word i, with fault g -/
structure RpP (w:World) (b:Nat) (ra:Option Addr) (rc:Nat) (L:LX) (v:Sy.Env) (i:Nat) (g:Sy.Flt):Prop where
 at_:w.heap[b]?=some (.cells #[.slice ra v.ws.length rc,.int .i64 (L.lc:Nat),.int .i64 (L.ll:Nat),.int .i64 (L.lk:Nat),.int .i64 (L.el:Nat),.int .i64 (L.ek:Nat),.int .i64 (i:Nat),.int .i64 (g.1:Nat),.int .i64 (g.2.1:Nat),.int .i64 (g.2.2:Nat)] 89 (0,0))
 row:TokRow w 0 (.slice ra v.ws.length rc) v.ws
 out:b∉fp (.slice ra v.ws.length rc)
 last:v.last=if L.lc=0 then (42,L.el,L.ek) else (L.lc,L.ll,L.lk)
section
variable {w w':World} {b:Nat} {ra:Option Addr} {rc:Nat} {L:LX} {v:Sy.Env} {i:Nat} {g:Sy.Flt}
theorem RpP.lt (h:RpP w b ra rc L v i g):b<w.heap.size:=lt_of_block h.at_
theorem RpP.keep {S:List Nat} (h:RpP w b ra rc L v i g) (hm:Mod S w w') (hb:b∉S) (hS:∀ k∈fp (.slice ra v.ws.length rc),k∉S):RpP w' b ra rc L v i g :=
 ⟨hm.at h.at_ hb,h.row.keep hm hS,h.out,h.last⟩
theorem RpP.past {S:List Nat} (h:RpP w b ra rc L v i g) (hm:Mod S w w') (hS:∀ t∈S,w.heap.size<=t):RpP w' b ra rc L v i g :=
 h.keep hm (fun hb=>by have:=hS b hb;have:=h.lt;omega) (fun k hk hs=>by have:=hS k hs;have:=fp_lt h.row.row k hk;omega)
theorem RpP.cells (h:RpP w b ra rc L v i g) :
  w.cell? ⟨b,0,none⟩=some (.slice ra v.ws.length rc)/\w.cell? ⟨b,1,none⟩=some (.int .i64 (L.lc:Nat))/\w.cell? ⟨b,2,none⟩=some (.int .i64 (L.ll:Nat))/\w.cell? ⟨b,3,none⟩=some (.int .i64 (L.lk:Nat)) /\
   w.cell? ⟨b,4,none⟩=some (.int .i64 (L.el:Nat))/\w.cell? ⟨b,5,none⟩=some (.int .i64 (L.ek:Nat))/\w.cell? ⟨b,6,none⟩=some (.int .i64 (i:Nat)) /\
   w.cell? ⟨b,7,none⟩=some (.int .i64 (g.1:Nat))/\w.cell? ⟨b,8,none⟩=some (.int .i64 (g.2.1:Nat))/\w.cell? ⟨b,9,none⟩=some (.int .i64 (g.2.2:Nat))/\∀ j,w.frozen? ⟨b,j,none⟩=false :=
 ⟨cell_at h.at_ 0,cell_at h.at_ 1,cell_at h.at_ 2,cell_at h.at_ 3,cell_at h.at_ 4,cell_at h.at_ 5,cell_at h.at_ 6,cell_at h.at_ 7,cell_at h.at_ 8,cell_at h.at_ 9,fun j=>free_at h.at_ j⟩
/-- the place turned -/
theorem RpP.to (h:RpP w b ra rc L v i g) (j:Nat):RpP (w.setCell ⟨b,6,none⟩ (.int .i64 (j:Nat))) b ra rc L v j g/\Mod [b] w (w.setCell ⟨b,6,none⟩ (.int .i64 (j:Nat))):=by
 have hm:Mod [b] w (w.setCell ⟨b,6,none⟩ (.int .i64 (j:Nat))):=(Mod.refl [b] w).setCell (p:=⟨b,6,none⟩) (.inl (by simp)) _
 refine ⟨⟨?_,h.row.keep hm (fun k hk hs=>h.out (by simp at hs;exact hs ▸ hk)),h.out,h.last⟩,hm⟩
 have:=setCell_at h.at_ 6 (.int .i64 (j:Nat))
 simpa using this
/-- a fault -/
theorem RpP.fail (h:RpP w b ra rc L v i g) (f:Sy.Flt):RpP (((w.setCell ⟨b,7,none⟩ (.int .i64 (f.1:Nat))).setCell ⟨b,8,none⟩ (.int .i64 (f.2.1:Nat))).setCell ⟨b,9,none⟩ (.int .i64 (f.2.2:Nat))) b ra rc L v i f /\
  Mod [b] w (((w.setCell ⟨b,7,none⟩ (.int .i64 (f.1:Nat))).setCell ⟨b,8,none⟩ (.int .i64 (f.2.1:Nat))).setCell ⟨b,9,none⟩ (.int .i64 (f.2.2:Nat))):=by
 have hm:Mod [b] w (((w.setCell ⟨b,7,none⟩ (.int .i64 (f.1:Nat))).setCell ⟨b,8,none⟩ (.int .i64 (f.2.1:Nat))).setCell ⟨b,9,none⟩ (.int .i64 (f.2.2:Nat))) :=
  (((Mod.refl [b] w).setCell (p:=⟨b,7,none⟩) (.inl (by simp)) _).setCell (p:=⟨b,8,none⟩) (.inl (by simp)) _).setCell (p:=⟨b,9,none⟩) (.inl (by simp)) _
 refine ⟨⟨?_,h.row.keep hm (fun k hk hs=>h.out (by simp at hs;exact hs ▸ hk)),h.out,h.last⟩,hm⟩
 have h1:=setCell_at h.at_ 7 (.int .i64 (f.1:Nat))
 have h2:=setCell_at h1 8 (.int .i64 (f.2.1:Nat))
 have h3:=setCell_at h2 9 (.int .i64 (f.2.2:Nat))
 simpa using h3
/-- a word's cells, where there is one -/
theorem RpP.word (h:RpP w b ra rc L v i g) (k:Nat) (hk:k<v.ws.length) :
  ∃ q,ra=some ⟨q,0,none⟩/\w.cell? ⟨q,k * 7,none⟩=some (.int .i64 ((v.tk k).kind:Nat))/\w.cell? ⟨q,k * 7+1,none⟩=some (.string (Lx.ofS (v.tk k).text))/\w.cell? ⟨q,k * 7+2,none⟩=some (.int .i64 ((v.tk k).vk:Nat)) /\
   w.cell? ⟨q,k * 7+3,none⟩=some (.int .i64 ((v.tk k).num:Nat))/\w.cell? ⟨q,k * 7+4,none⟩=some (.string (Lx.ofS (v.tk k).sym))/\w.cell? ⟨q,k * 7+5,none⟩=some (.int .i64 ((v.tk k).line:Nat))/\w.cell? ⟨q,k * 7+6,none⟩=some (.int .i64 ((v.tk k).col:Nat)):=by
 have he:v.ws[k]?=some (v.tk k):=by unfold Sy.Env.tk;rw [List.getD_eq_getElem?_getD,List.getElem?_eq_getElem hk];rfl
 obtain ⟨g,c,e,hc⟩:=h.row.at k _ he
 simp only [Value.slice.injEq] at e
 exact ⟨g,e.1,hc⟩
end
/-- all that the parser leans on lies below n -/
def RpL (b:Nat) (ra:Option Addr) (rc:Nat) (L:LX) (v:Sy.Env) (n:Nat):Prop:=b<n/\∀ k∈fp (.slice ra v.ws.length rc),k<n
section
variable {w w':World} {b:Nat} {ra:Option Addr} {rc:Nat} {L:LX} {v:Sy.Env} {i:Nat} {g:Sy.Flt}
theorem RpP.low (h:RpP w b ra rc L v i g):RpL b ra rc L v w.heap.size:=⟨h.lt,fun k hk=>fp_lt h.row.row k hk⟩
theorem RpP.new {n:Nat} {S:List Nat} (h:RpP w b ra rc L v i g) (hl:RpL b ra rc L v n) (hm:Mod S w w') (hS:∀ t∈S,n<=t):RpP w' b ra rc L v i g :=
 h.keep hm (fun hb=>by have:=hS b hb;have:=hl.1;omega) (fun k hk hs=>by have:=hS k hs;have:=hl.2 k hk;omega)
end
abbrev nf0:Sy.Flt:=(0,0,0)
set_option maxHeartbeats 2000000 in
theorem rstop_any (b:Nat) (ra:Option Addr) (rc:Nat) (L:LX) (v:Sy.Env) (i c:Nat) (w:World) (h:RpP w b ra rc L v i nf0) (hv:EnvOk v) (hi:i<=70000) :
  Calls Tryz.prog 66 #[.pointer (some ⟨b,0,none⟩),.int .i64 (c:Nat)] w fun e w'=>e=.returned (.bool false)/\RpP w' b ra rc L v i (v.give c i)/\Mod [b] w w':=by
 obtain ⟨c0,c1,c2,c3,c4,c5,c6,c7,c8,c9,fz⟩:=h.cells
 have hl:=hv.len
 have HH:=Lib.hid h
 have c7:w.cell? ⟨b,7,none⟩=some (.int .i64 0):=c7
 by_cases hlt:i<v.ws.length
 ·obtain ⟨q,rfl,t0,t1,t2,t3,t4,t5,t6⟩:=h.word i hlt
  have hiI:(i:Int)<(v.ws.length:Int):=by omega
  have hi0:(0:Int)<=(i:Int):=by omega
  have HG:Hid (v.give c i=(c,(v.tk i).line,(v.tk i).col)):=Hxq (by unfold Sy.Env.give;rw [if_pos hlt])
  rw [HG.out]
  clear h HG
  go_enter Tryz.func66,Tryz.ntmps66
  go_wp2_with fail
  go_quiet (fail)
  go_wp2_with fail
  refine wp_region_still_tail 16 (by kernel_rfl) (by kernel_rfl) ?_
  simp only [List.take_succ_cons,List.take_zero,List.drop_succ_cons,List.drop_zero]
  show wpStill Tryz.prog _ (World.drew (w.drewN nq)) (fun a'=>wpList Tryz.prog _ _ _ a' (World.drew (w.drewN nq))) _ _
  repeat still_step
  try refine wpStill_nil ?_
  go_wp2_with fail
  go_ret
  have hf:=(HH.out.past (((Mod.refl [] w).drewN nq).drew) (by simp)).fail (c,(v.tk i).line,(v.tk i).col)
  exact ⟨rfl,hf.1,(((Mod.refl [b] w).drewN nq).drew).trans hf.2 (by simp)⟩
 ·have hiI:¬ (i:Int)<(v.ws.length:Int):=by omega
  have HG:Hid (v.give c i=v.last):=Hxq (by unfold Sy.Env.give;rw [if_neg hlt])
  have hla:=h.last
  rw [HG.out]
  by_cases hlc:L.lc=0
  ·rw [if_pos hlc] at hla
   have hB:((L.lc:Int) != 0)=false:=by rw [hlc];rfl
   have hB2:((L.lc:Int) == 0)=true:=by rw [hlc];rfl
   rw [hla]
   clear h HG hla hlc
   go_enter Tryz.func66,Tryz.ntmps66
   go_wp2_with fail
   go_quiet (fail)
   go_wp2_with fail
   go_ret
   have hf:=(HH.out.past ((Mod.refl [] w).drewN nq) (by simp)).fail (42,L.el,L.ek)
   exact ⟨rfl,hf.1,((Mod.refl [b] w).drewN nq).trans hf.2 (by simp)⟩
  ·rw [if_neg hlc] at hla
   have hB:((L.lc:Int) != 0)=true:=by rw [bne_iff_ne];omega
   have hB2:((L.lc:Int) == 0)=false:=by rw [beq_eq_false_iff_ne];omega
   rw [hla]
   clear h HG hla hlc
   go_enter Tryz.func66,Tryz.ntmps66
   go_wp2_with fail
   go_quiet (fail)
   go_wp2_with fail
   go_ret
   have hf:=(HH.out.past ((Mod.refl [] w).drewN nq) (by simp)).fail (L.lc,L.ll,L.lk)
   exact ⟨rfl,hf.1,((Mod.refl [b] w).drewN nq).trans hf.2 (by simp)⟩
set_option maxHeartbeats 1000000 in
theorem rword_any (b:Nat) (ra:Option Addr) (rc:Nat) (L:LX) (v:Sy.Env) (i k:Nat) (g:Sy.Flt) (w:World) (h:RpP w b ra rc L v i g) (hv:EnvOk v) (hi:i<=70000) (hk:k<=10) :
  Calls Tryz.prog 64 #[.pointer (some ⟨b,0,none⟩),.int .i64 (k:Nat)] w fun e w'=>e=.returned (.agg (tokC (v.tk (i+k))))/\Mod [] w w':=by
 have hl:=hv.len
 have hbl:=h.lt
 have mA:=(Mod.refl [] w).alloc (Obj.cells #[Value.int IntKind.i64 0,Value.string ⟨#[]⟩,Value.int IntKind.i64 0,Value.int IntKind.i64 0,Value.string ⟨#[]⟩,Value.int IntKind.i64 0,Value.int IntKind.i64 0] 74)
 have hA:=h.past mA (by simp)
 have eA:=heap_alloc_new w (Obj.cells #[Value.int IntKind.i64 0,Value.string ⟨#[]⟩,Value.int IntKind.i64 0,Value.int IntKind.i64 0,Value.string ⟨#[]⟩,Value.int IntKind.i64 0,Value.int IntKind.i64 0] 74)
 obtain ⟨c0,c1,c2,c3,c4,c5,c6,c7,c8,c9,fz⟩:=hA.cells
 have fA:∀ j,(w.alloc (Obj.cells #[Value.int IntKind.i64 0,Value.string ⟨#[]⟩,Value.int IntKind.i64 0,Value.int IntKind.i64 0,Value.string ⟨#[]⟩,Value.int IntKind.i64 0,Value.int IntKind.i64 0] 74)).frozen? ⟨w.heap.size,j,none⟩=false:=fun j=>free_at eA j
 have x0:=cell_at eA 0
 have x1:=cell_at eA 1
 have x2:=cell_at eA 2
 have x3:=cell_at eA 3
 have x4:=cell_at eA 4
 have x5:=cell_at eA 5
 have x6:=cell_at eA 6
 simp only [List.getElem?_toArray,List.getElem?_cons_zero,List.getElem?_cons_succ] at x0 x1 x2 x3 x4 x5 x6
 have HA:=Lib.hid hA;have EA:=Lib.hid eA;have MA:=Lib.hid mA
 clear h hA eA mA
 by_cases hlt:i+k<v.ws.length
 ·obtain ⟨q,rfl,t0,t1,t2,t3,t4,t5,t6⟩:=HA.out.word (i+k) hlt
  have hiI:(i:Int)+(k:Int)<(v.ws.length:Int):=by omega
  have hi0:(0:Int)<=(i:Int)+(k:Int):=by omega
  have hN:((i:Int)+(k:Int)).toNat=i+k:=by omega
  have hW:IntKind.i64.wrap ((i:Int)+(k:Int))=(i:Int)+(k:Int):=IntWalk.i64_in _ (by omega)
  go_enter Tryz.func64,Tryz.ntmps64
  go_upto_region 1 with fail
  generalize w.alloc (Obj.cells #[Value.int IntKind.i64 0,Value.string ⟨#[]⟩,Value.int IntKind.i64 0,Value.int IntKind.i64 0,Value.string ⟨#[]⟩,Value.int IntKind.i64 0,Value.int IntKind.i64 0] 74)=wA at *
  go_quiet (fail)
  go_wp2_with fail
  refine wp_region_still_tail 12 (by kernel_rfl) (by kernel_rfl) ?_
  simp only [List.take_succ_cons,List.take_zero,List.drop_succ_cons,List.drop_zero]
  show wpStill Tryz.prog _ (World.drew (wA.drewN nq)) (fun a'=>wpList Tryz.prog _ _ _ a' (World.drew (wA.drewN nq))) _ _
  repeat still_step
  try refine wpStill_nil ?_
  clear hW
  go_wp2_with fail
  refine bodyPost_ret (results_cell_row rfl _ _ _ _ _ _ _ rfl (store_tok (drew_cells EA.out) _ _ _ _ _ _ _) Tryz.underlying74 rfl (by kernel_rfl)) rfl ⟨rfl,?_⟩
  exact mod_tok (MA.out.drewN nq).drew (.inr (Nat.le_refl _)) _ _ _ _ _ _ _
 ·have hiI:¬ (i:Int)+(k:Int)<(v.ws.length:Int):=by omega
  have HT:=Hxq (tk_none hlt)
  go_enter Tryz.func64,Tryz.ntmps64
  go_upto_region 1 with fail
  generalize w.alloc (Obj.cells #[Value.int IntKind.i64 0,Value.string ⟨#[]⟩,Value.int IntKind.i64 0,Value.int IntKind.i64 0,Value.string ⟨#[]⟩,Value.int IntKind.i64 0,Value.int IntKind.i64 0] 74)=wA at *
  go_quiet (fail)
  go_wp2_with fail
  refine bodyPost_ret (results_cell_row rfl _ _ _ _ _ _ _ rfl (store_tok (w:=wA.drewN nq) EA.out _ _ _ _ _ _ _) Tryz.underlying74 rfl (by kernel_rfl)) rfl ⟨by rw [HT.out];rfl,?_⟩
  exact mod_tok (MA.out.drewN nq) (.inr (Nat.le_refl _)) _ _ _ _ _ _ _
theorem rword0 (b:Nat) (ra:Option Addr) (rc:Nat) (L:LX) (v:Sy.Env) (i:Nat) (g:Sy.Flt) (w:World) (h:RpP w b ra rc L v i g) (hv:EnvOk v) (hi:i<=70000) :
  Calls Tryz.prog 64 #[.pointer (some ⟨b,0,none⟩),.int .i64 0] w fun e w'=>e=.returned (.agg (tokC (v.tk i)))/\Mod [] w w':=rword_any b ra rc L v i 0 g w h hv hi (by omega)
theorem rword1 (b:Nat) (ra:Option Addr) (rc:Nat) (L:LX) (v:Sy.Env) (i:Nat) (g:Sy.Flt) (w:World) (h:RpP w b ra rc L v i g) (hv:EnvOk v) (hi:i<=70000) :
  Calls Tryz.prog 64 #[.pointer (some ⟨b,0,none⟩),.int .i64 1] w fun e w'=>e=.returned (.agg (tokC (v.tk (i+1))))/\Mod [] w w':=rword_any b ra rc L v i 1 g w h hv hi (by omega)
theorem rword2 (b:Nat) (ra:Option Addr) (rc:Nat) (L:LX) (v:Sy.Env) (i:Nat) (g:Sy.Flt) (w:World) (h:RpP w b ra rc L v i g) (hv:EnvOk v) (hi:i<=70000) :
  Calls Tryz.prog 64 #[.pointer (some ⟨b,0,none⟩),.int .i64 2] w fun e w'=>e=.returned (.agg (tokC (v.tk (i+2))))/\Mod [] w w':=rword_any b ra rc L v i 2 g w h hv hi (by omega)
set_option maxHeartbeats 1000000 in
theorem ris_any (b:Nat) (ra:Option Addr) (rc:Nat) (L:LX) (v:Sy.Env) (i:Nat) (g:Sy.Flt) (l:List Nat) (s:ByteArray) (w:World) (h:RpP w b ra rc L v i g) (hv:EnvOk v) (hi:i<=70000) (hs:Lx.ofS l=s) (hl:∀ c∈l,c<256) :
  Calls Tryz.prog 33 #[.pointer (some ⟨b,0,none⟩),.string s] w fun e w'=>e=.returned (.bool (Sy.sign (v.tk i) l))/\Mod [] w w':=by
 have HP:=Hxq (rword0 b ra rc L v i g w h hv hi)
 subst hs
 have hq:=ofS_beq (hv.tbyte i) hl
 have HR:Hid (Sy.sign (v.tk i) l=(decide ((v.tk i).text=l) && (decide ((v.tk i).kind=5) || decide ((v.tk i).kind=1)))):=Lib.hid rfl
 generalize hr:Sy.sign (v.tk i) l=r at *
 clear h hl hr hv
 generalize v.tk i=t at *
 obtain ⟨kd,tx,vk,nu,sy,ln,cl⟩:=t
 dsimp only at hq HR
 by_cases h1:tx=l
 ·rw [decide_eq_true h1] at hq HR
  by_cases h5:kd=5
  ·have k5:((kd:Int) == 5)=true:=by rw [h5];rfl
   obtain rfl:r=true:=by rw [HR.out,decide_eq_true h5];rfl
   clear h1 h5 HR
   go_enter Tryz.func33,Tryz.ntmps33
   go_wp2_with fail
   refine HP.out.mono ?_
   rintro e1 w1 ⟨rfl,m1⟩
   have M1:=Hxq (m1.alloc (Obj.cells (tokC ⟨kd,tx,vk,nu,sy,ln,cl⟩) 74))
   clear m1
   unfold tokC at *
   go_wp2_with fail
   go_ret
   exact ⟨rfl,M1.out⟩
  ·have k5:((kd:Int) == 5)=false:=by rw [beq_eq_false_iff_ne];omega
   by_cases h1':kd=1
   ·have k1:((kd:Int) == 1)=true:=by rw [h1'];rfl
    obtain rfl:r=true:=by rw [HR.out,decide_eq_true h1'];simp
    clear h1 h5 h1' HR
    go_enter Tryz.func33,Tryz.ntmps33
    go_wp2_with fail
    refine HP.out.mono ?_
    rintro e1 w1 ⟨rfl,m1⟩
    have M1:=Hxq (m1.alloc (Obj.cells (tokC ⟨kd,tx,vk,nu,sy,ln,cl⟩) 74))
    clear m1
    unfold tokC at *
    go_wp2_with fail
    go_ret
    exact ⟨rfl,M1.out⟩
   ·have k1:((kd:Int) == 1)=false:=by rw [beq_eq_false_iff_ne];omega
    obtain rfl:r=false:=by rw [HR.out,decide_eq_false h1',decide_eq_false h5];rfl
    clear h1 h5 h1' HR
    go_enter Tryz.func33,Tryz.ntmps33
    go_wp2_with fail
    refine HP.out.mono ?_
    rintro e1 w1 ⟨rfl,m1⟩
    have M1:=Hxq (m1.alloc (Obj.cells (tokC ⟨kd,tx,vk,nu,sy,ln,cl⟩) 74))
    clear m1
    unfold tokC at *
    go_wp2_with fail
    go_ret
    exact ⟨rfl,M1.out⟩
 ·rw [decide_eq_false h1] at hq HR
  obtain rfl:r=false:=by rw [HR.out];rfl
  clear h1 HR
  by_cases h5:kd=5
  ·have k5:((kd:Int) == 5)=true:=by rw [h5];rfl
   clear h5
   go_enter Tryz.func33,Tryz.ntmps33
   go_wp2_with fail
   refine HP.out.mono ?_
   rintro e1 w1 ⟨rfl,m1⟩
   have M1:=Hxq (m1.alloc (Obj.cells (tokC ⟨kd,tx,vk,nu,sy,ln,cl⟩) 74))
   clear m1
   unfold tokC at *
   go_wp2_with fail
   go_ret
   exact ⟨rfl,M1.out⟩
  ·have k5:((kd:Int) == 5)=false:=by rw [beq_eq_false_iff_ne];omega
   obtain ⟨r1,hr1⟩:∃ r1,((kd:Int) == 1)=r1:=⟨_,rfl⟩
   clear h5
   cases r1
   all_goals
    go_enter Tryz.func33,Tryz.ntmps33
    go_wp2_with fail
    refine HP.out.mono ?_
    rintro e1 w1 ⟨rfl,m1⟩
    have M1:=Hxq (m1.alloc (Obj.cells (tokC ⟨kd,tx,vk,nu,sy,ln,cl⟩) 74))
    clear m1
    unfold tokC at *
    go_wp2_with fail
    go_ret
    exact ⟨rfl,M1.out⟩
/-- what take leaves -/
def TkR (b:Nat) (ra:Option Addr) (rc:Nat) (L:LX) (v:Sy.Env) (r:Sy.PR Unit) (w:World) (e:Ending) (w':World):Prop :=
 match r with
 | .ok _ j=>e=.returned (.bool true)/\RpP w' b ra rc L v j nf0/\Mod [b] w w'
 | .err g=>e=.returned (.bool false)/\(∃ j,RpP w' b ra rc L v j g)/\Mod [b] w w'
theorem rtake_any (b:Nat) (ra:Option Addr) (rc:Nat) (L:LX) (v:Sy.Env) (i:Nat) (l:List Nat) (s:ByteArray) (w:World) (h:RpP w b ra rc L v i nf0) (hv:EnvOk v) (hi:i<=70000) (hs:Lx.ofS l=s) (hl:∀ c∈l,c<256) :
  Calls Tryz.prog 36 #[.pointer (some ⟨b,0,none⟩),.string s] w (TkR b ra rc L v (Sy.must v l i) w):=by
 have HM:=Hxq (ris_any b ra rc L v i nf0 l s w h hv hi hs hl)
 have HR:Hid (Sy.must v l i=if Sy.sign (v.tk i) l=true then .ok () (i+1) else .err (v.give 40 i)):=Lib.hid rfl
 generalize Sy.sign (v.tk i) l=r at *
 generalize Sy.must v l i=q at *
 have HH:=Lib.hid h
 clear h hl hs
 cases r
 ·obtain rfl:q=.err (v.give 40 i):=HR.out
  clear HR
  go_enter Tryz.func36,Tryz.ntmps36
  go_wp2_with fail
  refine HM.out.mono ?_
  rintro e1 w1 ⟨rfl,m1⟩
  have M1:=Lib.hid m1;have H1:=Hxq (HH.out.past m1 (by simp))
  clear m1
  go_wp2_with fail
  refine (rstop_any b ra rc L v i 40 w1 H1.out hv hi).mono ?_
  rintro e2 w2 ⟨rfl,h2,m2⟩
  have M2:=Hxq ((M1.out.mono (T:=[b]) (by simp)).trans m2 (by simp));have H2:=Lib.hid h2
  clear m2 h2
  go_wp2_with fail
  go_ret
  exact ⟨rfl,⟨i,H2.out⟩,M2.out⟩
 ·obtain rfl:q=.ok () (i+1):=HR.out
  clear HR
  go_enter Tryz.func36,Tryz.ntmps36
  go_wp2_with fail
  refine HM.out.mono ?_
  rintro e1 w1 ⟨rfl,m1⟩
  have M1:=Lib.hid m1;have h1:=HH.out.past m1 (by simp)
  obtain ⟨c0,c1,c2,c3,c4,c5,c6,c7,c8,c9,fz⟩:=h1.cells
  have H1:=Lib.hid h1
  clear m1 h1
  go_wp2_with fail
  go_ret
  exact ⟨rfl,(H1.out.to (i+1)).1,(M1.out.mono (T:=[b]) (by simp)).trans (H1.out.to (i+1)).2 (by simp)⟩
theorem rRes_any (s:ByteArray) (w:World) :
  Calls Tryz.prog 106 #[.string s] w fun e w'=>e=.returned (.bool (resB s))/\w'=w:=by
 go_enter Tryz.func106,Tryz.ntmps106
 go_wp2
 all_goals (first | (exfalso;simp_all;done) | (go_ret;exact ⟨by congr 1;simp_all [resB,resU],rfl⟩))
theorem rname_any (t:Lx.Tok) (w:World) (ht:∀ c∈t.text,c<256) :
  Calls Tryz.prog 65 #[.agg (tokC t)] w fun e w'=>e=.returned (.bool (Sy.plain t))/\Mod [] w w':=by
 have hq:=resB_ofS ht
 have eA:=heap_alloc_new w (Obj.cells (tokC t) 74)
 obtain ⟨x0,x1,x2,x3,x4,x5,x6⟩:=tok_cells eA
 have MA:=Hxq ((Mod.refl [] w).alloc (Obj.cells (tokC t) 74))
 have hr:Hid (Sy.plain t=(decide (t.kind=1) && !(Sy.resW.contains t.text))):=Lib.hid rfl
 have hW:=fun w=>rRes_any (Lx.ofS t.text) w
 rw [hq] at hW
 generalize Sy.resW.contains t.text=q at *
 have HW:=Lib.hid hW
 unfold tokC at *
 clear eA ht hq hW
 by_cases h1:t.kind=1
 ·have k1:((t.kind:Int) == 1)=true:=by rw [h1];rfl
  have HR:Hid (Sy.plain t=!q):=Hxq (by rw [hr.out,decide_eq_true h1];rfl)
  clear h1 hr
  go_enter Tryz.func65,Tryz.ntmps65
  go_wp2_with fail
  refine (HW.out _).mono ?_
  rintro e1 w1 ⟨rfl,rfl⟩
  go_wp2_with fail
  go_ret
  exact ⟨by rw [HR.out];rfl,MA.out⟩
 ·have k1:((t.kind:Int) == 1)=false:=by rw [beq_eq_false_iff_ne];omega
  have HR:Hid (Sy.plain t=false):=Hxq (by rw [hr.out,decide_eq_false h1];rfl)
  clear h1 hr
  go_enter Tryz.func65,Tryz.ntmps65
  go_wp2_with fail
  go_ret
  exact ⟨by rw [HR.out];rfl,MA.out⟩
theorem rmark_any (t:Lx.Tok) (l:List Nat) (s:ByteArray) (w:World) (hs:Lx.ofS l=s) (ht:∀ c∈t.text,c<256) (hl:∀ c∈l,c<256) :
  Calls Tryz.prog 80 #[.agg (tokC t),.string s] w fun e w'=>e=.returned (.bool (Sy.mk t l))/\Mod [] w w':=by
 subst hs
 have hq:=ofS_beq ht hl
 have eA:=heap_alloc_new w (Obj.cells (tokC t) 74)
 obtain ⟨x0,x1,x2,x3,x4,x5,x6⟩:=tok_cells eA
 have MA:=Hxq ((Mod.refl [] w).alloc (Obj.cells (tokC t) 74))
 have HR:Hid (Sy.mk t l=(decide (t.kind=5) && decide (t.text=l))):=Lib.hid rfl
 generalize decide (t.text=l)=q at *
 generalize Sy.mk t l=r at *
 unfold tokC at *
 clear eA ht hl
 by_cases h1:t.kind=5
 ·have k1:((t.kind:Int) == 5)=true:=by rw [h1];rfl
  obtain rfl:r=q:=by rw [HR.out,decide_eq_true h1];rfl
  clear h1 HR
  go_enter Tryz.func80,Tryz.ntmps80
  go_wp2_with fail
  go_ret
  exact ⟨rfl,MA.out⟩
 ·have k1:((t.kind:Int) == 5)=false:=by rw [beq_eq_false_iff_ne];omega
  obtain rfl:r=false:=by rw [HR.out,decide_eq_false h1];rfl
  clear h1 HR
  go_enter Tryz.func80,Tryz.ntmps80
  go_wp2_with fail
  go_ret
  exact ⟨rfl,MA.out⟩
theorem rmark_sign {t:Lx.Tok} {l:List Nat} {s:ByteArray} (hk:Lx.TokK t) (h0:Lx.small (l.headD 0)=false) (w:World) (hs:Lx.ofS l=s) (ht:∀ c∈t.text,c<256) (hl:∀ c∈l,c<256) :
  Calls Tryz.prog 80 #[.agg (tokC t),.string s] w fun e w'=>e=.returned (.bool (Sy.sign t l))/\Mod [] w w':=by
 rw [<-Sy.mk_sign hk h0]
 exact rmark_any t l s w hs ht hl
open Go.RowKit
set_option linter.unusedVariables false
set_option linter.unusedSimpArgs false
set_option maxRecDepth 100000
namespace Sy
/-- a word's operation, of one line of the grammar -/
def opOf (high:Bool) (t:Lx.Tok):Nat :=
 if high=true then (if sign t [42]=true then 3 else if sign t [47]=true then 4 else if sign t [109,111,100]=true then 5 else 0)
 else (if sign t [43]=true then 1 else if sign t [45]=true then 2 else 0)
theorem sign_text {t:Lx.Tok} {s:List Nat} (h:sign t s=true):t.text=s:=by
 unfold sign at h
 simp only [Bool.and_eq_true,decide_eq_true_eq] at h
 exact h.1
theorem sign_other {t:Lx.Tok} {s u:List Nat} (h:sign t s=true) (hu:s≠u):sign t u=false:=by
 cases hh:sign t u with
 | false=>rfl
 | true=>exact absurd ((sign_text h).symm.trans (sign_text hh)) hu
theorem opOf_level (high:Bool) (t:Lx.Tok):opOf high t=if (level t).1=(if high=true then 2 else 1) then (level t).2 else 0:=by
 unfold opOf level
 by_cases h1:sign t [43]=true
 ·rw [sign_other h1 (u:=[42]) (by decide),sign_other h1 (u:=[47]) (by decide),sign_other h1 (u:=[109,111,100]) (by decide)]
  cases high <;> simp [h1]
 ·by_cases h2:sign t [45]=true
  ·rw [sign_other h2 (u:=[42]) (by decide),sign_other h2 (u:=[47]) (by decide),sign_other h2 (u:=[109,111,100]) (by decide)]
   cases high <;> simp [h1,h2]
  ·by_cases h3:sign t [42]=true
   ·cases high <;> simp [h1,h2,h3]
   ·by_cases h4:sign t [47]=true
    ·cases high <;> simp [h1,h2,h3,h4]
    ·by_cases h5:sign t [109,111,100]=true
     ·cases high <;> simp [h1,h2,h3,h4,h5]
     ·cases high <;> simp [h1,h2,h3,h4,h5]
theorem opOf_pos (high:Bool) (t:Lx.Tok):opOf high t=0 ↔ (level t).1≠(if high=true then 2 else 1):=by
 have h0:(level t).1≠0->(level t).2≠0:=by
  unfold level
  repeat' split
  all_goals simp
 rw [opOf_level]
 by_cases h:(level t).1=(if high=true then 2 else 1)
 ·rw [if_pos h]
  have h2:(level t).2≠0:=h0 (by rw [h];cases high <;> simp)
  exact ⟨fun e=>absurd e h2,fun e=>absurd h e⟩
 ·rw [if_neg h]
  exact ⟨fun _=>h,fun _=>rfl⟩
end Sy
set_option maxHeartbeats 4000000 in
theorem roperation_any (high:Bool) (t:Lx.Tok) (hk:Lx.TokK t) (w:World) (ht:∀ c∈t.text,c<256) :
  Calls Tryz.prog 132 #[.agg (tokC t),.bool high] w fun e w'=>e=.returned (.int .i64 (Sy.opOf high t:Nat))/\Mod [] w w':=by
 have eA:=heap_alloc_new w (Obj.cells (tokC t) 74)
 have mA:=(Mod.refl [] w).alloc (Obj.cells (tokC t) 74)
 have EA:=Lib.hid eA;have MA:=Lib.hid mA
 obtain ⟨x0,x1,x2,x3,x4,x5,x6⟩:=tok_cells eA
 have HO:Hid (Sy.opOf high t=if high=true then (if Sy.sign t [42]=true then 3 else if Sy.sign t [47]=true then 4 else if Sy.sign t [109,111,100]=true then 5 else 0) else (if Sy.sign t [43]=true then 1 else if Sy.sign t [45]=true then 2 else 0)):=Lib.hid rfl
 have S1:=Hxq (fun w=>rmark_sign (t:=t) (l:=[43]) (s:={ data:=#[43] }) hk rfl w rfl ht (by decide))
 have S2:=Hxq (fun w=>rmark_sign (t:=t) (l:=[45]) (s:={ data:=#[45] }) hk rfl w rfl ht (by decide))
 have S3:=Hxq (fun w=>rmark_sign (t:=t) (l:=[42]) (s:={ data:=#[42] }) hk rfl w rfl ht (by decide))
 have S4:=Hxq (fun w=>rmark_sign (t:=t) (l:=[47]) (s:={ data:=#[47] }) hk rfl w rfl ht (by decide))
 have hmo:Sy.sign t [109,111,100]=(decide (t.kind=1) && decide (t.text=[109,111,100])):=by rw [<-Sy.nm_sign hk (by rfl)];rfl
 have hq:=ofS_beq (a:=t.text) (l:=[109,111,100]) ht (by decide)
 rw [hmo] at HO
 generalize Sy.sign t [43]=r1 at *
 generalize Sy.sign t [45]=r2 at *
 generalize Sy.sign t [42]=r3 at *
 generalize Sy.sign t [47]=r4 at *
 generalize decide (t.text=[109,111,100])=r5 at *
 generalize Sy.opOf high t=q at *
 clear eA mA ht hk hmo
 unfold tokC at *
 have hq:((Lx.ofS t.text).toList == [109,111,100])=r5:=by rw [<-hq,toList_ofS [109,111,100]];rfl
 cases high
 ·go_enter Tryz.func132,Tryz.ntmps132
  go_wp2_with fail
  refine (S1.out _).mono ?_
  rintro e1 w1 ⟨rfl,m1⟩
  have E1:=Hxq (m1.at EA.out (by simp));have M1:=Hxq (MA.out.trans m1 (by simp))
  clear m1 x0 x1 x2 x3 x4 x5 x6
  obtain ⟨x0,x1,x2,x3,x4,x5,x6⟩:=tok_cells (t:=t) E1.out
  cases r1
  ·go_wp2_with fail
   refine (S2.out _).mono ?_
   rintro e2 w2 ⟨rfl,m2⟩
   have E2:=Hxq (m2.at E1.out (by simp));have M2:=Hxq (M1.out.trans m2 (by simp))
   clear m2 x0 x1 x2 x3 x4 x5 x6
   obtain ⟨x0,x1,x2,x3,x4,x5,x6⟩:=tok_cells (t:=t) E2.out
   cases r2
   ·have hq2:q=0:=HO.out
    subst hq2
    clear HO
    go_wp2_with fail
    go_ret
    exact ⟨rfl,M2.out⟩
   ·have hq2:q=2:=HO.out
    subst hq2
    clear HO
    go_wp2_with fail
    go_ret
    exact ⟨rfl,M2.out⟩
  ·have hq2:q=1:=HO.out
   subst hq2
   clear HO
   go_wp2_with fail
   go_ret
   exact ⟨rfl,M1.out⟩
 ·go_enter Tryz.func132,Tryz.ntmps132
  go_wp2_with fail
  refine (S3.out _).mono ?_
  rintro e1 w1 ⟨rfl,m1⟩
  have E1:=Hxq (m1.at EA.out (by simp));have M1:=Hxq (MA.out.trans m1 (by simp))
  clear m1 x0 x1 x2 x3 x4 x5 x6
  obtain ⟨x0,x1,x2,x3,x4,x5,x6⟩:=tok_cells (t:=t) E1.out
  cases r3
  ·go_wp2_with fail
   refine (S4.out _).mono ?_
   rintro e2 w2 ⟨rfl,m2⟩
   have E2:=Hxq (m2.at E1.out (by simp));have M2:=Hxq (M1.out.trans m2 (by simp))
   clear m2 x0 x1 x2 x3 x4 x5 x6
   obtain ⟨x0,x1,x2,x3,x4,x5,x6⟩:=tok_cells (t:=t) E2.out
   cases r4
   ·by_cases k1:t.kind=1
    ·have b1:((t.kind:Int) == 1)=true:=by rw [k1];rfl
     have HO2:Hid (q=if r5=true then 5 else 0):=Hxq (by rw [HO.out,decide_eq_true k1];simp)
     clear k1 HO
     cases r5
     ·have hq2:q=0:=HO2.out
      subst hq2
      clear HO2
      go_wp2_with fail
      go_ret
      exact ⟨rfl,M2.out⟩
     ·have hq2:q=5:=HO2.out
      subst hq2
      clear HO2
      go_wp2_with fail
      go_ret
      exact ⟨rfl,M2.out⟩
    ·have b1:((t.kind:Int) == 1)=false:=by rw [beq_eq_false_iff_ne];omega
     have HO2:Hid (q=0):=Hxq (by rw [HO.out,decide_eq_false k1];simp)
     clear k1 HO
     have hq2:q=0:=HO2.out
     subst hq2
     clear HO2
     go_wp2_with fail
     go_ret
     exact ⟨rfl,M2.out⟩
   ·have hq2:q=4:=HO.out
    subst hq2
    clear HO
    go_wp2_with fail
    go_ret
    exact ⟨rfl,M2.out⟩
  ·have hq2:q=3:=HO.out
   subst hq2
   clear HO
   go_wp2_with fail
   go_ret
   exact ⟨rfl,M1.out⟩
set_option maxHeartbeats 4000000 in
theorem rbegins_any (t:Lx.Tok) (hk:Lx.TokK t) (w:World) (ht:∀ c∈t.text,c<256) :
  Calls Tryz.prog 155 #[.agg (tokC t)] w fun e w'=>e=.returned (.bool (Sy.operand t))/\Mod [] w w':=by
 have eA:=heap_alloc_new w (Obj.cells (tokC t) 74)
 have mA:=(Mod.refl [] w).alloc (Obj.cells (tokC t) 74)
 have EA:=Lib.hid eA;have MA:=Lib.hid mA
 obtain ⟨x0,x1,x2,x3,x4,x5,x6⟩:=tok_cells eA
 have HO:Hid (Sy.operand t=(Sy.sign t [45] || (Sy.sign t [40] || (decide (t.kind=2) || (decide (t.kind=3) || (decide (t.kind=4) || Sy.plain t)))))):=Hxq (by
  unfold Sy.operand
  cases Sy.sign t [45] <;> cases Sy.sign t [40] <;> cases Sy.plain t <;> cases decide (t.kind=2) <;> cases decide (t.kind=3) <;> cases decide (t.kind=4) <;> rfl)
 have HP:=Hxq (fun w=>rname_any t w ht)
 have S1:=Hxq (fun w=>rmark_sign (t:=t) (l:=[45]) (s:={ data:=#[45] }) hk rfl w rfl ht (by decide))
 have S2:=Hxq (fun w=>rmark_sign (t:=t) (l:=[40]) (s:={ data:=#[40] }) hk rfl w rfl ht (by decide))
 generalize Sy.plain t=rp at *
 generalize Sy.sign t [45]=r1 at *
 generalize Sy.sign t [40]=r2 at *
 generalize Sy.operand t=q at *
 clear eA mA ht hk
 unfold tokC at *
 go_enter Tryz.func155,Tryz.ntmps155
 go_wp2_with fail
 refine (S1.out _).mono ?_
 rintro e1 w1 ⟨rfl,m1⟩
 have E1:=Hxq (m1.at EA.out (by simp));have M1:=Hxq (MA.out.trans m1 (by simp))
 clear m1 x0 x1 x2 x3 x4 x5 x6
 obtain ⟨x0,x1,x2,x3,x4,x5,x6⟩:=tok_cells (t:=t) E1.out
 cases r1
 ·go_wp2_with fail
  refine (S2.out _).mono ?_
  rintro e2 w2 ⟨rfl,m2⟩
  have E2:=Hxq (m2.at E1.out (by simp));have M2:=Hxq (M1.out.trans m2 (by simp))
  clear m2 x0 x1 x2 x3 x4 x5 x6
  obtain ⟨x0,x1,x2,x3,x4,x5,x6⟩:=tok_cells (t:=t) E2.out
  cases r2
  ·by_cases h2:t.kind=2
   ·have k2:((t.kind:Int) == 2)=true:=by rw [h2];rfl
    have HQ:Hid (q=true):=Hxq (by rw [HO.out,decide_eq_true h2];simp)
    clear h2 HO
    go_wp2_with fail
    go_ret
    exact ⟨by rw [HQ.out];rfl,M2.out⟩
   have k2:((t.kind:Int) == 2)=false:=by rw [beq_eq_false_iff_ne];omega
   by_cases h3:t.kind=3
   ·have k3:((t.kind:Int) == 3)=true:=by rw [h3];rfl
    have HQ:Hid (q=true):=Hxq (by rw [HO.out,decide_eq_true h3];simp)
    clear h2 h3 HO
    go_wp2_with fail
    go_ret
    exact ⟨by rw [HQ.out];rfl,M2.out⟩
   have k3:((t.kind:Int) == 3)=false:=by rw [beq_eq_false_iff_ne];omega
   by_cases h4:t.kind=4
   ·have k4:((t.kind:Int) == 4)=true:=by rw [h4];rfl
    have HQ:Hid (q=true):=Hxq (by rw [HO.out,decide_eq_true h4];simp)
    clear h2 h3 h4 HO
    go_wp2_with fail
    go_ret
    exact ⟨by rw [HQ.out];rfl,M2.out⟩
   have k4:((t.kind:Int) == 4)=false:=by rw [beq_eq_false_iff_ne];omega
   have HQ:Hid (q=rp):=Hxq (by rw [HO.out,decide_eq_false h2,decide_eq_false h3,decide_eq_false h4];rfl)
   clear h2 h3 h4 HO
   go_wp2_with fail
   refine (HP.out _).mono ?_
   rintro e3 w3 ⟨rfl,m3⟩
   have E3:=Hxq (m3.at E2.out (by simp));have M3:=Hxq (M2.out.trans m3 (by simp))
   clear m3 x0 x1 x2 x3 x4 x5 x6
   obtain ⟨x0,x1,x2,x3,x4,x5,x6⟩:=tok_cells (t:=t) E3.out
   go_wp2_with fail
   go_ret
   exact ⟨by rw [HQ.out];rfl,M3.out⟩
  ·have HQ:Hid (q=true):=Hxq (by rw [HO.out];rfl)
   clear HO
   go_wp2_with fail
   go_ret
   exact ⟨by rw [HQ.out];rfl,M2.out⟩
 ·have HQ:Hid (q=true):=Hxq (by rw [HO.out];rfl)
  clear HO
  go_wp2_with fail
  go_ret
  exact ⟨by rw [HQ.out];rfl,M1.out⟩
open Go.RowKit
set_option linter.unusedVariables false
set_option linter.unusedSimpArgs false
set_option maxRecDepth 100000
theorem function_any (t:Lx.Tok) (w:World) (ht:∀ c∈t.text,c<256) :
  Calls Tryz.prog 73 #[.agg (tokC t)] w fun e w'=>e=.returned (.int .i64 (Sy.fnOf t:Nat))/\Mod [] w w':=by
 have eA:=heap_alloc_new w (Obj.cells (tokC t) 74)
 have mA:=(Mod.refl [] w).alloc (Obj.cells (tokC t) 74)
 obtain ⟨x0,x1,x2,x3,x4,x5,x6⟩:=tok_cells eA
 have HA:=Lib.hid mA
 have HP:=Hxq (fun g w hc=>place_any t g 4 [[99,111,117,110,116],[115,117,109],[109,105,110],[109,97,120]] w ht (by decide) (by decide) hc)
 clear eA mA ht
 unfold tokC at *
 go_enter Tryz.func73,Tryz.ntmps73
 go_wp2_with fail
 have hsz:(w.alloc (Obj.cells #[Value.int .i64 (t.kind:Nat),Value.string (Lx.ofS t.text),Value.int .i64 (t.vk:Nat),Value.int .i64 (t.num:Nat),Value.string (Lx.ofS t.sym),Value.int .i64 (t.line:Nat),Value.int .i64 (t.col:Nat)] 74)).heap.size=w.heap.size+1:=by simp
 generalize w.alloc (Obj.cells _ 74)=wA at *
 refine (HP.out _ _ (fun i hi=>?_)).mono ?_
 ·have eB:=alloc_at (w0:=wA) (n:=w.heap.size+1) (Obj.cells #[Value.string { data:=#[99,111,117,110,116] },Value.string { data:=#[115,117,109] },Value.string { data:=#[109,105,110] },Value.string { data:=#[109,97,120] }] 9) hsz
  have:i=0\/i=1\/i=2\/i=3:=by simp at hi;omega
  rcases this with rfl | rfl | rfl | rfl
  ·exact cell_at eB 0
  ·exact cell_at eB 1
  ·exact cell_at eB 2
  ·exact cell_at eB 3
 ·rintro e1 w1 ⟨rfl,m1⟩
  have M1:=Hxq ((HA.out.alloc _).trans m1 (by simp))
  clear m1
  go_wp2_with fail
  go_ret
  exact ⟨rfl,M1.out⟩
theorem level_eq (t:Lx.Tok):Sy.level t=if Sy.sign t [43]=true then (1,1) else if Sy.sign t [45]=true then (1,2) else if Sy.sign t [42]=true then (2,3) else if Sy.sign t [47]=true then (2,4) else if Sy.sign t [109,111,100]=true then (2,5) else (0,0):=rfl
def levV:Array Value:=#[Value.string { data:=#[43] },Value.string { data:=#[45] },Value.string { data:=#[42] },Value.string { data:=#[47] },Value.string { data:=#[109,111,100] }]
theorem lev_index (k:Int) (h:0<=k/\k<5) (w:World):(Instr.index 196 (.agg #[Value.string { data:=#[43] },Value.string { data:=#[45] },Value.string { data:=#[42] },Value.string { data:=#[47] },Value.string { data:=#[109,111,100] }]) (.int .i64 k)).run Tryz.prog w=.ok (levV.getD k.toNat undef) w:=by
 have:k=0\/k=1\/k=2\/k=3\/k=4:=by omega
 rcases this with rfl | rfl | rfl | rfl | rfl <;> rfl
set_option maxHeartbeats 2000000 in
theorem level_any (t:Lx.Tok) (w:World) (ht:∀ c∈t.text,c<256) :
  Calls Tryz.prog 109 #[.agg (tokC t)] w fun e w'=>e=.returned (.tuple #[.int .i64 ((Sy.level t).1:Nat),.int .i64 ((Sy.level t).2:Nat)])/\Mod [] w w':=by
 have eA:=heap_alloc_new w (Obj.cells (tokC t) 74)
 have mA:=(Mod.refl [] w).alloc (Obj.cells (tokC t) 74)
 have EA:=Lib.hid eA;have MA:=Lib.hid mA
 have HL:=Hxq (level_eq t)
 have S0:=Hxq (fun w=>sign_any t [43] { data:=#[43] } w rfl ht (by decide))
 have S1:=Hxq (fun w=>sign_any t [45] { data:=#[45] } w rfl ht (by decide))
 have S2:=Hxq (fun w=>sign_any t [42] { data:=#[42] } w rfl ht (by decide))
 have S3:=Hxq (fun w=>sign_any t [47] { data:=#[47] } w rfl ht (by decide))
 have S4:=Hxq (fun w=>sign_any t [109,111,100] { data:=#[109,111,100] } w rfl ht (by decide))
 generalize Sy.sign t [43]=r0 at *
 generalize Sy.sign t [45]=r1 at *
 generalize Sy.sign t [42]=r2 at *
 generalize Sy.sign t [47]=r3 at *
 generalize Sy.sign t [109,111,100]=r4 at *
 generalize Sy.level t=q at *
 clear eA mA ht
 unfold tokC at *
 go_enter Tryz.func109,Tryz.ntmps109
 go_wp2_with fail
 generalize w.alloc (Obj.cells _ 74)=wA at *
 go_loopg [7] 5 (fun gk iv wr=>∃ k:Nat,5=gk+k/\iv=.int .i64 (k:Nat)/\Mod [] wA wr/\(∀ j,j<k->[r0,r1,r2,r3,r4][j]?=some false))
 case atStart=>exact ⟨0,rfl,rfl,Mod.refl _ _,fun j h=>by omega⟩
 case round =>
  obtain ⟨k,hg,rfl,hm,hb⟩:=hrel
  obtain ⟨x0,x1,x2,x3,x4,x5,x6⟩:=tok_cells (hm.at EA.out (by simp))
  have HM:=Lib.hid hm
  have:k=0\/k=1\/k=2\/k=3\/k=4\/k=5:=by omega
  rcases this with rfl | rfl | rfl | rfl | rfl | rfl
  ·have HG:=Lib.hid hg
   have hix:=fun w=>lev_index 0 (by omega) w
   simp only [levV] at hix
   clear hg hm hb
   simp only [Int.ofNat_zero,Int.ofNat_one,Int.cast_ofNat_Int]
   go_wp2_with fail
   refine (S0.out wr).mono ?_
   rintro e1 w1 ⟨rfl,m1⟩
   have M1:=Hxq (HM.out.trans m1 (by simp))
   clear m1 x0 x1 x2 x3 x4 x5 x6 hix
   cases r0
   ·go_wp2_with fail
    go_roundg (gk - 1)
    case measure=>have:=HG.out;omega
    case rel=>exact ⟨1,by have:=HG.out;omega,by go_num,M1.out,fun j h=>by
     have:j=0:=by omega
     rcases this with rfl <;> rfl⟩
   ·have HQ:Hid (q=(1,1)):=Lib.hid HL.out
    clear HL
    go_wp2_with fail
    go_ret2
    exact ⟨by rw [HQ.out];rfl,MA.out.trans M1.out (by simp)⟩
  ·have HG:=Lib.hid hg
   have hix:=fun w=>lev_index 1 (by omega) w
   simp only [levV] at hix
   obtain rfl:r0=false:=by simpa using hb 0 (by omega)
   clear hg hm hb
   simp only [Int.ofNat_zero,Int.ofNat_one,Int.cast_ofNat_Int]
   go_wp2_with fail
   refine (S1.out wr).mono ?_
   rintro e1 w1 ⟨rfl,m1⟩
   have M1:=Hxq (HM.out.trans m1 (by simp))
   clear m1 x0 x1 x2 x3 x4 x5 x6 hix
   cases r1
   ·go_wp2_with fail
    go_roundg (gk - 1)
    case measure=>have:=HG.out;omega
    case rel=>exact ⟨2,by have:=HG.out;omega,by go_num,M1.out,fun j h=>by
     have:j=0\/j=1:=by omega
     rcases this with rfl | rfl <;> rfl⟩
   ·have HQ:Hid (q=(1,2)):=Lib.hid HL.out
    clear HL
    go_wp2_with fail
    go_ret2
    exact ⟨by rw [HQ.out];rfl,MA.out.trans M1.out (by simp)⟩
  ·have HG:=Lib.hid hg
   have hix:=fun w=>lev_index 2 (by omega) w
   simp only [levV] at hix
   obtain rfl:r0=false:=by simpa using hb 0 (by omega)
   obtain rfl:r1=false:=by simpa using hb 1 (by omega)
   clear hg hm hb
   simp only [Int.ofNat_zero,Int.ofNat_one,Int.cast_ofNat_Int]
   go_wp2_with fail
   refine (S2.out wr).mono ?_
   rintro e1 w1 ⟨rfl,m1⟩
   have M1:=Hxq (HM.out.trans m1 (by simp))
   clear m1 x0 x1 x2 x3 x4 x5 x6 hix
   cases r2
   ·go_wp2_with fail
    go_roundg (gk - 1)
    case measure=>have:=HG.out;omega
    case rel=>exact ⟨3,by have:=HG.out;omega,by go_num,M1.out,fun j h=>by
     have:j=0\/j=1\/j=2:=by omega
     rcases this with rfl | rfl | rfl <;> rfl⟩
   ·have HQ:Hid (q=(2,3)):=Lib.hid HL.out
    clear HL
    go_wp2_with fail
    go_ret2
    exact ⟨by rw [HQ.out];rfl,MA.out.trans M1.out (by simp)⟩
  ·have HG:=Lib.hid hg
   have hix:=fun w=>lev_index 3 (by omega) w
   simp only [levV] at hix
   obtain rfl:r0=false:=by simpa using hb 0 (by omega)
   obtain rfl:r1=false:=by simpa using hb 1 (by omega)
   obtain rfl:r2=false:=by simpa using hb 2 (by omega)
   clear hg hm hb
   simp only [Int.ofNat_zero,Int.ofNat_one,Int.cast_ofNat_Int]
   go_wp2_with fail
   refine (S3.out wr).mono ?_
   rintro e1 w1 ⟨rfl,m1⟩
   have M1:=Hxq (HM.out.trans m1 (by simp))
   clear m1 x0 x1 x2 x3 x4 x5 x6 hix
   cases r3
   ·go_wp2_with fail
    go_roundg (gk - 1)
    case measure=>have:=HG.out;omega
    case rel=>exact ⟨4,by have:=HG.out;omega,by go_num,M1.out,fun j h=>by
     have:j=0\/j=1\/j=2\/j=3:=by omega
     rcases this with rfl | rfl | rfl | rfl <;> rfl⟩
   ·have HQ:Hid (q=(2,4)):=Lib.hid HL.out
    clear HL
    go_wp2_with fail
    go_ret2
    exact ⟨by rw [HQ.out];rfl,MA.out.trans M1.out (by simp)⟩
  ·have HG:=Lib.hid hg
   have hix:=fun w=>lev_index 4 (by omega) w
   simp only [levV] at hix
   obtain rfl:r0=false:=by simpa using hb 0 (by omega)
   obtain rfl:r1=false:=by simpa using hb 1 (by omega)
   obtain rfl:r2=false:=by simpa using hb 2 (by omega)
   obtain rfl:r3=false:=by simpa using hb 3 (by omega)
   clear hg hm hb
   simp only [Int.ofNat_zero,Int.ofNat_one,Int.cast_ofNat_Int]
   go_wp2_with fail
   refine (S4.out wr).mono ?_
   rintro e1 w1 ⟨rfl,m1⟩
   have M1:=Hxq (HM.out.trans m1 (by simp))
   clear m1 x0 x1 x2 x3 x4 x5 x6 hix
   cases r4
   ·go_wp2_with fail
    go_roundg (gk - 1)
    case measure=>have:=HG.out;omega
    case rel=>exact ⟨5,by have:=HG.out;omega,by go_num,M1.out,fun j h=>by
     have:j=0\/j=1\/j=2\/j=3\/j=4:=by omega
     rcases this with rfl | rfl | rfl | rfl | rfl <;> rfl⟩
   ·have HQ:Hid (q=(2,5)):=Lib.hid HL.out
    clear HL
    go_wp2_with fail
    go_ret2
    exact ⟨by rw [HQ.out];rfl,MA.out.trans M1.out (by simp)⟩
  ·obtain rfl:r0=false:=by simpa using hb 0 (by omega)
   obtain rfl:r1=false:=by simpa using hb 1 (by omega)
   obtain rfl:r2=false:=by simpa using hb 2 (by omega)
   obtain rfl:r3=false:=by simpa using hb 3 (by omega)
   obtain rfl:r4=false:=by simpa using hb 4 (by omega)
   have HQ:Hid (q=(0,0)):=Lib.hid HL.out
   clear hg hm hb HL
   simp only [Int.ofNat_zero,Int.ofNat_one,Int.cast_ofNat_Int]
   go_wp2_with fail
   go_ret2
   exact ⟨by rw [HQ.out];rfl,MA.out.trans HM.out (by simp)⟩
end Go.Proofs.YtppigckioalhhaaGreatDoorR
