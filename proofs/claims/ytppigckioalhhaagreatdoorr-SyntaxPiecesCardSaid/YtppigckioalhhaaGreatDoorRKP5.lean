/- THE TEXTS MERGED: LxNext LxToks TokAt VaPlain VaTxtPlain PrPlain. -/
import Derived.Test.YtppigckioalhhaaGreatDoorRKP1
import Derived.Test.YtppigckioalhhaaGreatDoorRKP4
import Derived.Lib.AtoiAll
import Derived.Lib.Atoi
import Derived.Lib.ItoaNum
namespace Go.Proofs.YtppigckioalhhaaGreatDoorR
open Go.RowKit
set_option linter.unusedVariables false
set_option linter.unusedSimpArgs false
set_option maxRecDepth 100000
def nextV:Option Lx.Tok->Value
 | none=>.tuple #[.agg (tokC zeroT),.bool false]
 | some t=>.tuple #[.agg (tokC t),.bool true]
/-- what Next does -/
def Nx (b:Nat) (r:Lx.St × Option Lx.Tok) (w:World) (e:Ending) (w':World):Prop :=
 e=.returned (nextV r.2)/\∃ s',ScIs w' b s' r.1/\Mod [b] w w'
theorem word_bad {l:List Nat} {e:Nat} (h:Lx.word l=.bad e):30<=e/\e<=33:=by
 unfold Lx.word at h
 split at h
 ·split at h <;> simp at h;omega
 ·split at h
  ·split at h <;> simp at h;omega
  ·split at h
   ·split at h <;> simp at h;omega
   ·split at h <;> simp at h;omega
theorem sc_cells {w:World} {b:Nat} {s:ByteArray} {x:Lx.St} (h:ScIs w b s x) :
  w.cell? ⟨b,0,none⟩=some (.string s)/\w.cell? ⟨b,1,none⟩=some (.int .i64 (x.pos.1:Nat))/\w.cell? ⟨b,2,none⟩=some (.int .i64 (x.pos.2:Nat))/\w.cell? ⟨b,3,none⟩=some (.int .i64 (x.fin.1:Nat))/\w.cell? ⟨b,4,none⟩=some (.int .i64 (x.fin.2:Nat)) /\
  w.cell? ⟨b,5,none⟩=some (.int .i64 (x.code:Nat))/\w.cell? ⟨b,6,none⟩=some (.int .i64 (x.fp.1:Nat))/\w.cell? ⟨b,7,none⟩=some (.int .i64 (x.fp.2:Nat))/\w.cell? ⟨b,8,none⟩=some (.bool x.long):=by
 simp [World.cell?,h.at_,scCells]
theorem alloc_at {w0:World} {n:Nat} (o:Obj) (h:w0.heap.size=n):(w0.alloc o).heap[n]?=some o:=by subst h;exact heap_alloc_new w0 o
theorem size_setCell (w:World) (p:Addr) (v:Value):(w.setCell p v).heap.size=w.heap.size:=by simp [World.setCell]
theorem ofS_size (l:List Nat):(Lx.ofS l).size=l.length:=by simp [Lx.ofS,ByteArray.size]
theorem fault_sc {w:World} {b:Nat} {s:ByteArray} {x:Lx.St} (h:ScIs w b s x) (er:Nat) :
  ScIs (((w.setCell ⟨b,5,none⟩ (.int .i64 (er:Nat))).setCell ⟨b,6,none⟩ (.int .i64 (x.pos.1:Nat))).setCell ⟨b,7,none⟩ (.int .i64 (x.pos.2:Nat))) b s { x with code:=er,fp:=x.pos } /\
  Mod [b] w (((w.setCell ⟨b,5,none⟩ (.int .i64 (er:Nat))).setCell ⟨b,6,none⟩ (.int .i64 (x.pos.1:Nat))).setCell ⟨b,7,none⟩ (.int .i64 (x.pos.2:Nat))):=by
 have h1:=setCell_at h.at_ 5 (.int .i64 (er:Nat))
 have h2:=setCell_at h1 6 (.int .i64 (x.pos.1:Nat))
 have h3:=setCell_at h2 7 (.int .i64 (x.pos.2:Nat))
 refine ⟨⟨h3.trans (by simp [scCells]),h.str,h.size,h.lim⟩,?_⟩
 exact (((Mod.refl [b] w).setCell (p:=⟨b,5,none⟩) (by simp) _).setCell (p:=⟨b,6,none⟩) (by simp) _).setCell (p:=⟨b,7,none⟩) (by simp) _
theorem fin_sc {w:World} {b:Nat} {s:ByteArray} {x:Lx.St} (h:ScIs w b s x) :
  ScIs ((w.setCell ⟨b,3,none⟩ (.int .i64 (x.pos.1:Nat))).setCell ⟨b,4,none⟩ (.int .i64 (x.pos.2:Nat))) b s { x with fin:=x.pos } /\
  Mod [b] w ((w.setCell ⟨b,3,none⟩ (.int .i64 (x.pos.1:Nat))).setCell ⟨b,4,none⟩ (.int .i64 (x.pos.2:Nat))):=by
 have h1:=setCell_at h.at_ 3 (.int .i64 (x.pos.1:Nat))
 have h2:=setCell_at h1 4 (.int .i64 (x.pos.2:Nat))
 refine ⟨⟨h2.trans (by simp [scCells]),h.str,h.size,h.lim⟩,?_⟩
 exact ((Mod.refl [b] w).setCell (p:=⟨b,3,none⟩) (by simp) _).setCell (p:=⟨b,4,none⟩) (by simp) _
set_option maxHeartbeats 4000000 in
theorem next_any (b:Nat) (s:ByteArray) (x:Lx.St) (w:World) (h:ScIs w b s x) (hG:Glob w) (hb3:4<=b) :
  Calls Tryz.prog 52 #[.pointer (some ⟨b,0,none⟩)] w (Nx b (Lx.next x) w):=by
 have hB0:(w.alloc (Obj.cells (tokC zeroT) 74)).heap[w.heap.size]?=some (.cells (tokC zeroT) 74 (0,0)):=heap_alloc_new w _
 have hm0:Mod [] w (w.alloc (Obj.cells (tokC zeroT) 74)):=(Mod.refl [] w).alloc _
 have hz:(w.alloc (Obj.cells (tokC zeroT) 74))=w.alloc (Obj.cells #[Value.int IntKind.i64 0,Value.string ⟨#[]⟩,Value.int IntKind.i64 0,Value.int IntKind.i64 0,Value.string ⟨#[]⟩,Value.int IntKind.i64 0,Value.int IntKind.i64 0] 74):=rfl
 rw [hz] at hB0 hm0
 clear hz
 have hlt:=h.lt
 have h1:=h.past hm0 (by simp)
 obtain ⟨c0,c1,c2,c3,c4,c5,c6,c7,c8⟩:=sc_cells h
 by_cases hcode:x.code=0
 ·have hcI:((x.code:Int) != 0)=false:=by rw [hcode];rfl
  cases hlong:x.long
  ·have HC:=Lib.hid hcode
   have hne:b≠w.heap.size:=by omega
   have hlim:=(h.lim hlong).1
   have HB:=Lib.hid hB0;have HM:=Lib.hid hm0;have H1:=Lib.hid h1;have HL:=Lib.hid hlong
   have hN:=Hxq (show Lx.next x=_ by unfold Lx.next;rw [if_neg (by omega),if_neg (by rw [hlong];decide)])
   clear hcode hB0 hm0 h1
   rw [hlong] at c8
   clear hlong
   go_enter Tryz.func52,Tryz.ntmps52
   go_wp2_with fail
   refine (skip_any b s x _ H1.out HL.out).mono ?_
   rintro e w2 ⟨rfl,s2,h2,hm2⟩
   have hB2:=hm2.at HB.out (by simp;omega)
   have hm2':Mod [b] w w2:=(HM.out.mono (by simp)).trans hm2 (fun t ht=>.inl ht)
   clear hm2 c0 c1 c2 c3 c4 c5 c6 c7 c8
   obtain ⟨c0,c1,c2,c3,c4,c5,c6,c7,c8⟩:=sc_cells h2
   obtain ⟨q0,q1,q2,q3,q4,q5,q6⟩:=tok_cells hB2
   have fz:∀ j,w2.frozen? ⟨w.heap.size,j,none⟩=false:=fun j=>by simp [World.frozen?,hB2]
   have fb:∀ j,w2.frozen? ⟨b,j,none⟩=false:=fun j=>h2.free j
   have hs2:=hm2'.size
   have hstr2:=h2.str
   by_cases hemp:x.skip.s=[]
   ·have hem:s2.toList.isEmpty=true:=by rw [toList_isEmpty,<-Cod.str_len,hstr2,hemp];rfl
    have e:Hid (Lx.next x=(x.skip,none)):=Hxq (by rw [hN.out,if_pos hemp])
    have H2:=Lib.hid h2
    clear hemp hstr2 h2
    go_wp2_with fail
    refine bodyPost_ret (res_tok rfl _ _ _ _ _ _ _ rfl rfl (store_tok hB2 _ _ _ _ _ _ _) rfl) rfl ?_
    rw [e.out]
    refine ⟨rfl,s2,H2.out.keep (S:=[w.heap.size]) ?_ (by simp;omega),mod_tok hm2' (.inr (Nat.le_refl _)) _ _ _ _ _ _ _⟩
    exact mod_tok (Mod.refl _ _) (by simp) _ _ _ _ _ _ _
   ·have hpos:0<x.skip.s.length:=List.length_pos_iff.2 hemp
    have hz2:s2.size=x.skip.s.length:=by rw [<-Cod.str_len,hstr2]
    have hem:s2.toList.isEmpty=false:=by rw [toList_isEmpty,hz2];simp;omega
    have hlim2:=(h2.lim HL.out).1
    have hwd:=word_any s2 hlim2 (by omega)
    rw [hstr2] at hwd
    have hG2:=hG.keep hm2' (by simpa using hb3)
    cases hw:Lx.word x.skip.s with
    | bad er =>
     rw [hw] at hwd
     obtain ⟨he1,he2⟩:=word_bad hw
     have hez:((er:Int) != 0)=true:=by rw [bne_iff_ne];omega
     have e:Hid (Lx.next x=({ x.skip with code:=er,fp:=x.skip.pos },none)):=Hxq (by rw [hN.out,if_neg hemp,hw])
     have HW:=Lib.hid hwd;have HST:=Lib.hid hstr2;have HZ:=Lib.hid hz2
     clear hwd hw hemp hstr2 hz2
     go_wp2_with fail
     refine (HW.out _ hG2).mono ?_
     rintro e2 w3 ⟨rfl,hm3⟩
     have h3:=h2.past hm3 (by simp)
     have hB3:=hm3.at hB2 (by simp)
     have hm3':=hm2'.trans hm3 (by simp)
     clear c0 c1 c2 c3 c4 c5 c6 c7 c8 q0 q1 q2 q3 q4 q5 q6 fz fb h2 hG2
     obtain ⟨c0,c1,c2,c3,c4,c5,c6,c7,c8⟩:=sc_cells h3
     obtain ⟨q0,q1,q2,q3,q4,q5,q6⟩:=tok_cells hB3
     have fz:∀ j,w3.frozen? ⟨w.heap.size,j,none⟩=false:=fun j=>by simp [World.frozen?,hB3]
     have fb:∀ j,w3.frozen? ⟨b,j,none⟩=false:=fun j=>h3.free j
     have hlt3:=lt_of_block hB3
     have hlb3:=h3.lt
     have hne3:b≠w3.heap.size:=by omega
     have H3:=Lib.hid h3;have HM3:=Lib.hid hm3'
     clear h3 hm3 hm3' hm2'
     rw [rwV,tokC]
     go_wp2_with fail
     obtain ⟨h4,hm4⟩:=fault_sc H3.out er
     have hB4:=hm4.at hB3 (by simp;omega)
     have hm4':=HM3.out.trans hm4 (fun t ht=>.inl ht)
     clear c0 c1 c2 c3 c4 c5 c6 c7 c8 q0 q1 q2 q3 q4 q5 q6 fz fb
     generalize (((w3.setCell ⟨b,5,none⟩ (.int .i64 (er:Nat))).setCell ⟨b,6,none⟩ (.int .i64 (x.skip.pos.1:Nat))).setCell ⟨b,7,none⟩ (.int .i64 (x.skip.pos.2:Nat)))=w4 at *
     refine bodyPost_ret (res_tok rfl _ _ _ _ _ _ _ rfl rfl (((Mod.refl [] _).alloc _).at (store_tok hB4 _ _ _ _ _ _ _) (by simp)) rfl) rfl ?_
     rw [e.out]
     refine ⟨rfl,s2,?_,(mod_tok hm4' (.inr (Nat.le_refl _)) _ _ _ _ _ _ _).alloc _⟩
     exact h4.keep (S:=[w.heap.size]) ((mod_tok (Mod.refl _ _) (by simp) _ _ _ _ _ _ _).alloc _) (by simp;omega)
    | ok wd =>
     rw [hw] at hwd
     have hbx:∀ c∈x.skip.s,c<256:=by rw [<-hstr2];exact Cod.str_lt s2
     obtain ⟨hw1,hw2,-⟩:=Lx.word_len hbx hemp hw
     have e:Hid (Lx.next x=({ x.skip with s:=x.skip.s.drop wd.n,pos:=Lx.adv x.skip.pos (x.skip.s.take wd.n),fin:=Lx.adv x.skip.pos (x.skip.s.take wd.n) },
       some ⟨wd.kind,x.skip.s.take wd.n,wd.vk,wd.num,wd.sym,x.skip.pos.1,x.skip.pos.2⟩)):=Hxq (by rw [hN.out,if_neg hemp,hw])
     have hsize:Hid ((Lx.ofS (wdT x.skip.s wd).text).size=wd.n):=Hxq (by rw [ofS_size];simp only [wdT];rw [List.length_take];omega)
     have hln:wd.n<=s2.size:=by omega
     have HW:=Lib.hid hwd;have HST:=Lib.hid hstr2;have HZ:=Lib.hid hz2
     clear hwd hw hemp hstr2 hz2 hbx
     go_wp2_with fail
     refine (HW.out _ hG2).mono ?_
     rintro e2 w3 ⟨rfl,hm3⟩
     have h3:=h2.past hm3 (by simp)
     have hB3:=hm3.at hB2 (by simp)
     have hm3':=hm2'.trans hm3 (by simp)
     clear c0 c1 c2 c3 c4 c5 c6 c7 c8 q0 q1 q2 q3 q4 q5 q6 fz fb h2 hG2
     obtain ⟨c0,c1,c2,c3,c4,c5,c6,c7,c8⟩:=sc_cells h3
     have fb:∀ j,w3.frozen? ⟨b,j,none⟩=false:=fun j=>h3.free j
     have hlt3:=lt_of_block hB3
     have hlb3:=h3.lt
     have hne3:b≠w3.heap.size:=by omega
     have H3:=Lib.hid h3;have HM3:=Lib.hid hm3'
     clear h3 hm3 hm3' hm2'
     rw [rwV,tokC]
     go_wp2_with fail
     rw [hsize.out]
     obtain ⟨t,ht⟩:∃ t:Lx.Tok,t=⟨wd.kind,x.skip.s.take wd.n,wd.vk,wd.num,wd.sym,x.skip.pos.1,x.skip.pos.2⟩:=⟨_,rfl⟩
     have hcells:#[Value.int IntKind.i64 ((wdT x.skip.s wd).kind:Nat),.string (Lx.ofS (wdT x.skip.s wd).text),.int .i64 ((wdT x.skip.s wd).vk:Nat),.int .i64 ((wdT x.skip.s wd).num:Nat),.string (Lx.ofS (wdT x.skip.s wd).sym),.int .i64 (x.skip.pos.1:Nat),.int .i64 (x.skip.pos.2:Nat)]=tokC t:=by rw [ht];rfl
     rw [hcells]
     clear hcells
     have ha:=(Mod.refl [] w3).alloc (Obj.cells (tokC t) 74)
     have hT4:=heap_alloc_new w3 (Obj.cells (tokC t) 74)
     have h4:=H3.out.past ha (by simp)
     have hB4:=ha.at hB3 (by simp)
     have hm4:=HM3.out.trans ha (by simp)
     have HT:=Lib.hid ht
     clear ht c0 c1 c2 c3 c4 c5 c6 c7 c8 fb
     refine (pass_any b s2 x.skip wd.n _ h4 hln HL.out).mono ?_
     rintro e2 w5 ⟨rfl,s5,h5,hm5⟩
     have hT5:=hm5.at hT4 (by simp;omega)
     have hB5:=hm5.at hB4 (by simp;omega)
     have hm5':=hm4.trans hm5 (fun t ht=>.inl ht)
     clear hm5 hm4 hT4 hB4 h4 ha
     obtain ⟨c0,c1,c2,c3,c4,c5,c6,c7,c8⟩:=sc_cells h5
     have fb:∀ j,w5.frozen? ⟨b,j,none⟩=false:=fun j=>h5.free j
     obtain ⟨q0,q1,q2,q3,q4,q5,q6⟩:=tok_cells hB5
     obtain ⟨t0,t1,t2,t3,t4,t5,t6⟩:=tok_cells hT5
     have fz:∀ j,w5.frozen? ⟨w.heap.size,j,none⟩=false:=fun j=>by simp [World.frozen?,hB5]
     have hneT:w.heap.size≠w3.heap.size:=by omega
     have H5:=Lib.hid h5
     clear h5
     go_wp2_with fail
     obtain ⟨h6,hm6⟩:=fin_sc H5.out
     have hB6:=hm6.at hB5 (by simp;omega)
     have hm6':=hm5'.trans hm6 (fun t ht=>.inl ht)
     clear c0 c1 c2 c3 c4 c5 c6 c7 c8 q0 q1 q2 q3 q4 q5 q6 fz fb t0 t1 t2 t3 t4 t5 t6
     rw [e.out]
     simp only at h6 hm6 hB6 hm6'
     generalize ((w5.setCell ⟨b,3,none⟩ (.int .i64 ((Lx.adv x.skip.pos (x.skip.s.take wd.n)).1:Nat))).setCell ⟨b,4,none⟩ (.int .i64 ((Lx.adv x.skip.pos (x.skip.s.take wd.n)).2:Nat)))=w6 at *
     refine bodyPost_ret (res_tok rfl _ _ _ _ _ _ _ rfl rfl (store_tok hB6 _ _ _ _ _ _ _) rfl) rfl ?_
     rw [<-HT.out]
     refine ⟨rfl,s5,?_,mod_tok hm6' (.inr (Nat.le_refl _)) _ _ _ _ _ _ _⟩
     exact h6.keep (S:=[w.heap.size]) (mod_tok (Mod.refl _ _) (by simp) _ _ _ _ _ _ _) (by simp;omega)
  ·have hN:Hid (Lx.next x=({ x with code:=2 },none)):=Hxq (by unfold Lx.next;rw [if_neg (by omega),if_pos hlong])
   rw [hlong] at c8
   have hset:=setCell_at h.at_ 5 (.int .i64 2)
   have f5:=h.free 5
   have HB:=Lib.hid hB0;have HM:=Lib.hid hm0;have HS:=Lib.hid hset;have HL:=Lib.hid hlong;have HC:=Lib.hid hcode
   clear hset hlong hcode hB0 hm0 h1
   go_enter Tryz.func52,Tryz.ntmps52
   go_wp2_with fail
   refine bodyPost_ret (res_tok rfl _ _ _ (tokC zeroT) _ _ _ rfl rfl (alloc_at _ (size_setCell _ _ _)) rfl) rfl ?_
   rw [hN.out]
   refine ⟨rfl,s,⟨?_,h.str,h.size,fun hl=>?_⟩,((Mod.refl [b] w).setCell (p:=⟨b,5,none⟩) (by simp) _).alloc _⟩
   ·exact ((Mod.refl [] _).alloc _).at (HS.out.trans (by simp [scCells])) (by simp)
   ·rw [show x.long=true from HL.out] at hl;cases hl
 ·have hN:Hid (Lx.next x=(x,none)):=Hxq (by unfold Lx.next;rw [if_pos hcode])
  have hcI:((x.code:Int) != 0)=true:=by rw [bne_iff_ne];omega
  have HB:=Lib.hid hB0;have HM:=Lib.hid hm0
  have q:=Lib.hid h1
  clear hcode hB0 hm0 h1
  go_enter Tryz.func52,Tryz.ntmps52
  go_wp2_with fail
  refine bodyPost_ret (res_tok rfl _ _ _ _ _ _ _ rfl rfl HB.out rfl) rfl ?_
  rw [hN.out]
  exact ⟨rfl,s,q.out,HM.out.mono (by simp)⟩
theorem Scan_any (s:ByteArray) (hs:s.size<=140737488355328) (w:World) :
  Calls Tryz.prog 51 #[.string s] w fun e w'=>∃ b,e=.returned (.pointer (some ⟨b,0,none⟩))/\ScIs w' b s (Lx.start (Cod.str s))/\w.heap.size<=b/\Mod [] w w':=by
 go_enter Tryz.func51,Tryz.ntmps51
 go_wp2
 go_ret
 refine ⟨_,rfl,⟨?_,rfl,hs,fun hl=>?_⟩,?_,((Mod.refl [] w).alloc _).alloc _⟩
 ·refine (alloc_at _ (by simp)).trans ?_
  simp [scCells,Lx.start,Cod.str_len]
  omega
 ·simp only [Lx.start,decide_eq_false_iff_not,Cod.str_len] at hl ⊢
  omega
 ·simp
def faultV (x:Lx.St):Array Value:=#[.int .i64 (x.code:Nat),.int .i64 (x.fp.1:Nat),.int .i64 (x.fp.2:Nat)]
theorem Fault_any (b:Nat) (s:ByteArray) (x:Lx.St) (w:World) (h:ScIs w b s x) :
  Calls Tryz.prog 99 #[.pointer (some ⟨b,0,none⟩)] w fun e w'=>e=.returned (.agg (faultV x))/\Mod [] w w':=by
 have hlt:=h.lt
 have hne:b≠w.heap.size:=by omega
 obtain ⟨c0,c1,c2,c3,c4,c5,c6,c7,c8⟩:=sc_cells h
 go_enter Tryz.func99,Tryz.ntmps99
 go_wp2
 refine bodyPost_ret (results_cell_row rfl _ _ _ _ (faultV x) _ _ rfl (heap_alloc_new w _) Tryz.underlying31 rfl (by kernel_rfl)) rfl ⟨rfl,(Mod.refl [] w).alloc _⟩
/-- words as cells -/
def tokCells (l:List Lx.Tok):List Value:=l.flatMap fun t=>(tokC t).toList
theorem tokCells_append (a b:List Lx.Tok):tokCells (a++b)=tokCells a++tokCells b:=by simp [tokCells]
theorem Tryz.infoTok:(Tryz.prog.info? 74).map (fun i=>(i.zero,i.size,i.bytes))=some (some (.agg (tokC zeroT)),7,72):=by kernel_rfl
/-- the slice v, newer than base, owns these words -/
structure TokRow (w:World) (base:Nat) (v:Value) (l:List Lx.Tok):Prop where
 row:w.ownsRow 0 74 7 v l.length (tokCells l)
 new:∀ k∈fp v,base<=k
theorem TokRow.nil (w:World) (base:Nat):TokRow w base (.slice none 0 0) []:=⟨World.ownsRow_nil _ _ _ _,by simp [fp]⟩
theorem TokRow.keep {S:List Nat} {w w':World} {base:Nat} {v:Value} {l:List Lx.Tok} (h:TokRow w base v l) (hm:Mod S w w') (hS:∀ k∈fp v,k∉S):TokRow w' base v l :=
 ⟨hm.owns h.row hS,h.new⟩
theorem TokRow.past {S:List Nat} {w w':World} {base:Nat} {v:Value} {l:List Lx.Tok} (h:TokRow w base v l) (hm:Mod S w w') (hS:∀ t∈S,w.heap.size<=t):TokRow w' base v l :=
 h.keep hm (fun k hk hs=>by have:=hS k hs;have:=fp_lt h.row k hk;omega)
theorem TokRow.lit {w:World} {base:Nat} {v:Value} {l:List Lx.Tok} (h:TokRow w base v l):∃ a c,v=.slice a l.length c:=by
 rcases h.row.2 with ⟨rfl,h0⟩ | ⟨g,cap,cur,rfl,-⟩
 ·exact ⟨_,_,by rw [h0]⟩
 ·exact ⟨_,_,rfl⟩
theorem tokC_one (t:Lx.Tok):∀ u∈(tokC t).toList,u.oneCell'=true:=by
 intro u hu
 simp [tokC] at hu
 rcases hu with rfl | rfl | rfl | rfl | rfl | rfl | rfl <;> rfl
/-- one word, as what is appended -/
theorem src_tok {w:World} {b:Nat} {t:Lx.Tok} {T:TypeId} {fr:Nat × Nat} (h:w.heap[b]?=some (.cells (tokC t) T fr)) :
  Src Tryz.prog 7 69 (.slice (some ⟨b,0,none⟩) 1 1) 1 (tokC t).toList w:=by
 refine Src.ofSlice w Tryz.underlying69 ⟨b,0,none⟩ 1 1 _ (by simp [tokC]) (fun j u hu=>?_) (tokC_one t)
 rw [addr_add,Nat.zero_add]
 simp [World.cell?,h]
 rw [<-Array.getElem?_toList];exact hu
def St.len (x:Lx.St):Nat:=x.s.length
theorem next_len {x y:Lx.St} {t:Lx.Tok} (hb:∀ c∈x.s,c<256) (h:Lx.next x=(y,some t)):y.s.length<x.s.length/\(∀ c∈y.s,c<256)/\x.long=false/\y.long=false:=by
 unfold Lx.next at h
 split at h
 ·simp at h
 ·split at h
  ·simp at h
  ·rename_i hl
   have hl':x.long=false:=by simpa using hl
   split at h
   ·simp at h
   ·rename_i he
    split at h
    ·simp at h
    ·rename_i wd hw
     have hbs:∀ c∈x.skip.s,c<256:=fun c hc=>hb c (List.mem_of_mem_drop hc)
     obtain ⟨h1,h2,-⟩:=Lx.word_len hbs he hw
     simp only [Prod.mk.injEq] at h
     obtain ⟨rfl,-⟩:=h
     have hsk:x.skip.s.length<=x.s.length:=by unfold Lx.St.skip;simp
     refine ⟨?_,fun c hc=>hbs c (List.mem_of_mem_drop hc),hl',hl'⟩
     simp only [List.length_drop];omega
theorem next_bytes {x:Lx.St} (hb:∀ c∈x.s,c<256):∀ c∈(Lx.next x).1.s,c<256:=by
 have hbs:∀ c∈x.skip.s,c<256:=fun c hc=>hb c (List.mem_of_mem_drop hc)
 unfold Lx.next
 split
 ·exact hb
 ·split
  ·exact hb
  ·split
   ·exact hbs
   ·split
    ·exact hbs
    ·exact fun c hc=>hbs c (List.mem_of_mem_drop hc)
/-- what is still to come, one call of Next done -/
def rest (k:Nat) (r:Lx.St × Option Lx.Tok):List Lx.Tok × Lx.St :=
 match r with
 | (y,none)=>([],y)
 | (y,some t)=>(t :: (Lx.allF k y).1,(Lx.allF k y).2)
theorem allF_succ (k:Nat) (x:Lx.St):Lx.allF (k+1) x=rest k (Lx.next x):=by
 rw [Lx.allF]
 unfold rest
 cases Lx.next x with
 | mk y o=>cases o <;> rfl
def fltV (f:Nat × Nat × Nat):Array Value:=#[.int .i64 (f.1:Nat),.int .i64 (f.2.1:Nat),.int .i64 (f.2.2:Nat)]
/-- what Tokens answers -/
def Toks (l:List Nat) (w:World) (e:Ending) (w':World):Prop :=
 ∃ v,e=.returned (.tuple #[v,.agg (fltV (Lx.fault l))])/\TokRow w' w.heap.size v (Lx.tokens l)/\Mod [] w w'
theorem nextV_eq (o:Option Lx.Tok):nextV o=.tuple #[.agg (tokC (o.getD zeroT)),.bool o.isSome]:=by cases o <;> rfl
/-- the loop over all words: what it holds -/
structure TLoop (l:List Nat) (w wr:World) (b:Nat) (va:Option Addr) (vc:Nat) (acc:List Lx.Tok) (p:Nat) (x:Lx.St) (o:Option Lx.Tok) (k gk:Nat) (s':ByteArray):Prop where
 box:wr.heap[p]?=some (.cells (tokC (o.getD zeroT)) 74 (0,0))
 pnew:w.heap.size<p
 row:TokRow wr (w.heap.size+1) (.slice va acc.length vc) acc
 sc:ScIs wr b s' x
 pb:p≠b
 pv:p∉fp (.slice va acc.length vc)
 bv:b∉fp (.slice va acc.length vc)
 all:Lx.given l=(acc++(rest k (x,o)).1,(rest k (x,o)).2)
 lim:o.isSome=true->acc.length+1+x.s.length<=65536/\x.s.length+1<=k/\x.s.length+1<=gk
 byte:∀ c∈x.s,c<256
 mod:Mod [] w wr
theorem res_toks {fn:Func} {p u:Tmp} (h:fn.results=#[.tmp u,.cell p 31]) (tmps:Array Value) (w:World) (b:Nat) (cs:Array Value) (T:TypeId) (fr:Nat × Nat) (x:Value)
  (hp:tmps.getD p undef=.pointer (some ⟨b,0,none⟩)) (hx:tmps.getD u undef=x) (hg:w.heap[b]?=some (.cells cs T fr)) (hc:cs.size=3) :
  (results fn tmps).run Tryz.prog w=.ok (.tuple #[x,.agg cs]) w:=by
 have hl:=run_loadVar_row (P:=Tryz.prog) w b T 31 cs fr _ hg Tryz.underlying31 rfl (by rw [show (Tryz.prog.info? 31).map (·.size)=some 3 by kernel_rfl,hc])
 have hp':tmps[p]?.getD undef=.pointer (some ⟨b,0,none⟩):=by simpa using hp
 have hx':tmps[u]?.getD undef=x:=by simpa using hx
 simp [results,h,hp',hx',asAddr,hl]
theorem store3 {w:World} {b:Nat} {a0 a1 a2:Value} {T:TypeId} {fr:Nat × Nat} (h:w.heap[b]?=some (.cells #[a0,a1,a2] T fr)) (v0 v1 v2:Value) :
  (((w.setCell ⟨b,0,none⟩ v0).setCell ⟨b,1,none⟩ v1).setCell ⟨b,2,none⟩ v2).heap[b]?=some (.cells #[v0,v1,v2] T fr):=by
 have h1:=setCell_at h 0 v0
 generalize w.setCell ⟨b,0,none⟩ v0=w1 at *
 have h2:=setCell_at h1 1 v1
 generalize w1.setCell ⟨b,1,none⟩ v1=w2 at *
 have h3:=setCell_at h2 2 v2
 rw [h3];simp
theorem mod3 {S:List Nat} {w0 w:World} {b:Nat} (h:Mod S w0 w) (hb:b∈S\/w0.heap.size<=b) (v0 v1 v2:Value) :
  Mod S w0 (((w.setCell ⟨b,0,none⟩ v0).setCell ⟨b,1,none⟩ v1).setCell ⟨b,2,none⟩ v2) :=
 ((h.setCell hb _).setCell hb _).setCell hb _
theorem TokRow.base {w:World} {b b':Nat} {v:Value} {l:List Lx.Tok} (h:TokRow w b v l) (hb:b'<=b):TokRow w b' v l :=
 ⟨h.row,fun k hk=>Nat.le_trans hb (h.new k hk)⟩
set_option maxHeartbeats 4000000 in
theorem Tokens_any (s:ByteArray) (hs:s.size<=140737488355328) (w:World) (hG:Glob w) :
  Calls Tryz.prog 26 #[.string s] w (Toks (Cod.str s) w):=by
 obtain ⟨i0,hinf,hz0,hz1,hz2⟩:=info_parts Tryz.infoTok
 obtain ⟨l,hl⟩:∃ l,l=Cod.str s:=⟨_,rfl⟩
 have hlb:∀ c∈l,c<256:=by rw [hl];exact Cod.str_lt s
 rw [<-hl]
 have HL:=Lib.hid hl;have HB:=Lib.hid hlb
 clear hl hlb
 go_enter Tryz.func26,Tryz.ntmps26
 go_wp2_with fail
 refine (Scan_any s hs _).mono ?_
 rintro e w1 ⟨b,rfl,h1,hb1,hm1⟩
 rw [<-HL.out] at h1
 have hm0:=(Mod.refl [] w).alloc (Obj.cells #[Value.int IntKind.i64 0,Value.int IntKind.i64 0,Value.int IntKind.i64 0] 31)
 have hF0:=heap_alloc_new w (Obj.cells #[Value.int IntKind.i64 0,Value.int IntKind.i64 0,Value.int IntKind.i64 0] 31)
 have hm1':=hm0.trans hm1 (by simp)
 have hF1:=hm1.at hF0 (by simp)
 have hG1:=hG.past hm1' (by simp)
 have hbw:w.heap.size<b:=by simp at hb1;omega
 have hw3:=hG.size
 have hb3:4<=b:=by omega
 have hsz1:=hm1'.size
 go_wp2_with fail
 refine (next_any b s _ w1 h1 hG1 hb3).mono ?_
 rintro e w2 ⟨rfl,s2,h2,hm2⟩
 have hF2:=hm2.at hF1 (by simp;omega)
 have hm2':Mod [] w w2:=hm1'.trans hm2 (fun t ht=>.inr (by simp at ht;omega))
 rw [nextV_eq]
 have hT0:TLoop l w (w2.alloc (Obj.cells (tokC ((Lx.next (Lx.start l)).2.getD zeroT)) 74)) b none 0 [] w2.heap.size (Lx.next (Lx.start l)).1 (Lx.next (Lx.start l)).2 l.length ((Lx.next (Lx.start l)).1.s.length+1) s2:=by
  have hlt2:=h2.lt
  refine ⟨heap_alloc_new _ _,by have:=hm2'.size;omega,TokRow.nil _ _,h2.past ((Mod.refl [] w2).alloc _) (by simp),by omega,by simp [fp],by simp [fp],?_,fun hi=>?_,next_bytes (x:=Lx.start l) HB.out,hm2'.alloc _⟩
  ·rw [show ((Lx.next (Lx.start l)).1,(Lx.next (Lx.start l)).2)=Lx.next (Lx.start l) from rfl,<-allF_succ]
   simp [Lx.given]
  ·cases ho:(Lx.next (Lx.start l)).2 with
   | none=>rw [ho] at hi;cases hi
   | some t =>
    have hn:Lx.next (Lx.start l)=((Lx.next (Lx.start l)).1,some t):=by rw [<-ho]
    have:=next_len (x:=Lx.start l) HB.out hn
    have h3:l.length<=65536:=by
     have:=this.2.2.1
     simp [Lx.start] at this
     exact this
    have h4:(Lx.start l).s.length=l.length:=rfl
    have h5:=this.1
    refine ⟨?_,?_,Nat.le_refl _⟩
    ·simp only [List.length_nil];omega
    ·omega
 have HF2:=Lib.hid hF2;have HT0:=Lib.hid hT0
 clear hT0 hF0 hF1 hF2 h1 h2 hm1 hm2 hm0 hm1' hG1
 generalize Lx.next (Lx.start l)=r at *
 obtain ⟨x0,o0⟩:=r
 simp only at HT0
 have hO:∀ o:Option Lx.Tok,o.isSome=true\/o.isSome=false:=fun o=>by cases o <;> simp
 generalize ht0:o0.getD zeroT=t0 at *
 generalize ho0:o0.isSome=ok0 at *
 rw [tokC]
 have HT1:=Lib.hid ht0;have HO1:=Lib.hid ho0
 clear ht0 ho0
 go_wp2_with fail
 go_loopg [5,6,7] (x0.s.length+1) (fun gk bv tv kv wr=>∃ (va:Option Addr) (vc p k:Nat) (acc:List Lx.Tok) (x:Lx.St) (o:Option Lx.Tok) (s':ByteArray),
   bv=.slice va acc.length vc/\tv=.pointer (some ⟨p,0,none⟩)/\kv=.bool o.isSome/\TLoop l w wr b va vc acc p x o k gk s'/\wr.heap[w.heap.size]?=some (.cells #[Value.int IntKind.i64 0,Value.int IntKind.i64 0,Value.int IntKind.i64 0] 31 (0,0)))
 case atStart =>
  refine ⟨none,0,_,l.length,[],x0,o0,s2,rfl,rfl,by rw [HO1.out],?_,?_⟩
  ·have:=HT0.out
   rw [tokC] at this
   exact this
  ·exact ((Mod.refl [] w2).alloc _).at HF2.out (by simp)
 case round =>
  obtain ⟨va,vc,p,k,acc,x,o,s',rfl,rfl,rfl,hT,hF⟩:=hrel
  cases o with
  | none =>
   have hall:=hT.all
   simp only [rest,List.append_nil] at hall
   have hrow:=hT.row
   have hm:=hT.mod
   obtain ⟨c0,c1,c2,c3,c4,c5,c6,c7,c8⟩:=sc_cells hT.sc
   have fz:∀ j,wr.frozen? ⟨w.heap.size,j,none⟩=false:=fun j=>by simp [World.frozen?,hF]
   have f0:wr.cell? ⟨w.heap.size,0,none⟩=some (.int .i64 0):=by simp [World.cell?,hF]
   have f1:wr.cell? ⟨w.heap.size,1,none⟩=some (.int .i64 0):=by simp [World.cell?,hF]
   have f2:wr.cell? ⟨w.heap.size,2,none⟩=some (.int .i64 0):=by simp [World.cell?,hF]
   by_cases hc:x.code=0
   ·have hcB:((x.code:Int) != 0)=false:=by rw [hc];rfl
    have e:Hid (Lx.fault l=(0,0,0)/\Lx.tokens l=acc):=Hxq (by
     unfold Lx.fault Lx.tokens;rw [hall];simp [hc])
    have hall':=Lib.hid hall
    have HR:=Lib.hid hrow
    simp only [Option.isSome]
    clear hT HT0 hall hc hrow
    go_wp2_with fail
    refine bodyPost_ret (res_toks rfl _ _ _ _ _ _ _ rfl rfl (store3 hF _ _ _) rfl) rfl ?_
    refine ⟨_,by rw [e.out.1];rfl,?_,mod3 hm (.inr (Nat.le_refl _)) _ _ _⟩
    rw [e.out.2]
    exact (HR.out.keep (S:=[w.heap.size]) (mod3 (Mod.refl _ _) (by simp) _ _ _) (fun k hk=>by have:=HR.out.new k hk;simp;omega)).base (by omega)
   ·have hcB:((x.code:Int) != 0)=true:=by rw [bne_iff_ne];omega
    have e:Hid (Lx.fault l=(x.code,x.fp.1,x.fp.2)/\Lx.tokens l=[]):=Hxq (by
     unfold Lx.fault Lx.tokens;rw [hall];simp [hc])
    have HR:=Lib.hid hrow
    simp only [Option.isSome]
    clear hT HT0 hall hc hrow
    go_wp2_with fail
    go_region
    go_wp2_with fail
    refine bodyPost_ret (res_toks rfl _ _ _ _ _ _ _ rfl rfl (drew_at (store3 hF _ _ _)) rfl) rfl ?_
    refine ⟨_,by rw [e.out.1];rfl,?_,(mod3 hm (.inr (Nat.le_refl _)) _ _ _).drew⟩
    rw [e.out.2]
    exact TokRow.nil _ _
  | some t =>
   obtain ⟨hl1,hl2,hl3⟩:=hT.lim rfl
   obtain ⟨k',rfl⟩:∃ k',k=k'+1:=⟨k - 1,by omega⟩
   have hall:=hT.all
   have hbox:=hT.box
   simp only [Option.getD] at hbox
   obtain ⟨t0',t1,t2,t3,t4,t5,t6⟩:=tok_cells hbox
   have hown:=hT.row.row
   have hfn:=hT.row.new
   have hpv:=hT.pv
   have hbv:=hT.bv
   have hpb:=hT.pb
   have hpn:=hT.pnew
   have hmr:=hT.mod
   have hsc:=hT.sc
   have hby:=hT.byte
   simp only [rest] at hall
   rw [allF_succ] at hall
   have hnl:=fun (y:Lx.St) (u:Lx.Tok) (hy:Lx.next x=(y,some u))=>next_len hby hy
   have hnb:=next_bytes hby
   have HALL:=Lib.hid hall;have HNL:=Lib.hid hnl;have HNB:=Lib.hid hnb
   have hbox':=heap_alloc_new wr (Obj.cells (tokC t) 74)
   have hsrc:=src_tok hbox'
   have hFb:=Lib.hid hF
   simp only [Option.isSome]
   clear hT HT0 hall hnl hnb hby hF
   go_wp2_with (at_builtin;refine wpList_append_src _ rfl _ _ 69 69 rfl 74 i0 (.agg (tokC zeroT)) 7 72 Tryz.underlying69 hinf hz0 hz1 hz2 rfl (.slice va acc.length vc) acc.length (tokCells acc) rfl (hown.alloc _) _ 1 (tokC t).toList rfl hsrc (by unfold maxLen;omega) (by omega) ?_)
   intro v' w3 hown3 hm3 hf3 hn3
   obtain ⟨va3,vc3,rfl⟩:=owns_slice hown3
   have hma:Mod [] wr (wr.alloc (Obj.cells (tokC t) 74)):=(Mod.refl [] wr).alloc _
   have hm3r:Mod (fp (.slice va acc.length vc)) wr w3:=(hma.mono (by simp)).trans hm3 (fun t ht=>.inl ht)
   have hlen:acc.length+1=(acc++[t]).length:=by simp
   have hcl:tokCells acc++(tokC t).toList=tokCells (acc++[t]):=by rw [tokCells_append];simp [tokCells]
   rw [hcl,hlen] at hown3
   have hsz3:=hm3r.size
   have hf3':∀ k∈fp (.slice va3 (acc.length+1) vc3),w.heap.size+1<=k/\(k∈fp (.slice va acc.length vc)\/wr.heap.size<=k):=fun k hk=>by
    have:=hmr.size
    rcases hf3 k hk with h | h
    ·exact ⟨hfn k h,.inl h⟩
    ·have hlb:=lt_of_block hbox
     first | exact ⟨by omega,.inr (by omega)⟩ | (simp at h;exact ⟨by omega,.inr (by omega)⟩)
   have hbox3:=hm3r.at hbox hpv
   have hsc3:=hsc.keep hm3r hbv
   have hF3:=hm3r.at hFb.out (fun h=>by have:=hfn _ h;omega)
   have hm3w:Mod [] w w3:=hmr.trans hm3r (fun t ht=>.inr (by have:=hfn t ht;omega))
   have hpl:=lt_of_block hbox
   have hbl:=hsc.lt
   have hG3:=hG.past hm3w (by simp)
   clear t0' t1 t2 t3 t4 t5 t6 hm3 hn3 hf3 hown hsrc hbox' hma hm3r hbox hsc
   obtain ⟨t0',t1,t2,t3,t4,t5,t6⟩:=tok_cells hbox3
   rw [hlen] at hf3'
   have HO3:=Lib.hid hown3;have HF3:=Lib.hid hf3'
   clear hown3 hf3' hcl
   go_wp2_with fail
   have hmb:Mod [] w3 (w3.alloc (Obj.cells (tokC t) 74)):=(Mod.refl [] w3).alloc _
   refine (next_any b s' x (w3.alloc (Obj.cells (tokC t) 74)) (hsc3.past hmb (by simp)) (hG3.past hmb (by simp)) hb3).mono ?_
   rintro e w4 ⟨rfl,s4,h4,hm4⟩
   rw [nextV_eq]
   have hsz4:=hm4.size
   have hp4:=hm4.at (heap_alloc_new w3 (Obj.cells (tokC t) 74)) (by simp;omega)
   have hF4:=hm4.at (hmb.at hF3 (by simp)) (by simp;omega)
   have hm4w:Mod [] w w4:=(hm3w.trans hmb (by simp)).trans hm4 (fun t ht=>.inr (by simp at ht;omega))
   have hm34:Mod [b] w3 w4:=(hmb.mono (by simp)).trans hm4 (fun t ht=>.inl ht)
   have hrow4:TokRow w4 (w.heap.size+1) (.slice va3 (acc++[t]).length vc3) (acc++[t]):=(TokRow.mk HO3.out (fun k hk=>(HF3.out k hk).1)).keep hm34 (fun k hk=>by
    simp
    rintro rfl
    rcases (HF3.out k hk).2 with h | h
    ·exact hbv h
    ·omega)
   have hp3:w3.heap.size∉fp (.slice va3 (acc++[t]).length vc3):=fun h=>by have:=fp_lt HO3.out _ h;omega
   have hb3v:b∉fp (.slice va3 (acc++[t]).length vc3):=fun h=>by
    rcases (HF3.out b h).2 with h | h
    ·exact hbv h
    ·omega
   have hne3:w3.heap.size≠b:=by omega
   have hwn3:w.heap.size<w3.heap.size:=by omega
   have HR4:=Lib.hid hrow4
   clear t0' t1 t2 t3 t4 t5 t6 hrow4 hm34 hm4 hmb hsc3 hG3 hbox3 hF3
   obtain ⟨t0',t1,t2,t3,t4,t5,t6⟩:=tok_cells hp4
   have fz4:∀ j,w4.frozen? ⟨w3.heap.size,j,none⟩=false:=fun j=>by simp [World.frozen?,hp4]
   have hpn4:w3.heap.size<w4.heap.size:=lt_of_block hp4
   have HH:=Lib.hid h4
   clear h4
   generalize hr:Lx.next x=r at *
   obtain ⟨x',o'⟩:=r
   simp only at HH ⊢
   have hst:=fun v0 v1 v2 v3 v4 v5 v6=>store_tok hp4 v0 v1 v2 v3 v4 v5 v6
   have HST:=Lib.hid hst
   generalize hot:o'.getD zeroT=u at *
   generalize hos:o'.isSome=ok at *
   have HU:=Lib.hid hot;have HK:=Lib.hid hos;have HR:=Lib.hid hr
   clear hst hot hos hr
   rw [tokC]
   go_wp2_with fail
   go_roundg (x.s.length)
   case measure=>omega
   case rel =>
    refine ⟨va3,vc3,w3.heap.size,k',acc++[t],x',o',s4,by rw [<-hlen],rfl,by rw [HK.out],?_,?_⟩
    ·refine ⟨?_,hwn3,HR4.out.keep (S:=[w3.heap.size]) (mod_tok (Mod.refl _ _) (by simp) _ _ _ _ _ _ _) (fun k hk=>by simp;rintro rfl;exact hp3 hk),HH.out.keep (S:=[w3.heap.size]) (mod_tok (Mod.refl _ _) (by simp) _ _ _ _ _ _ _) (by simp;omega),hne3,hp3,hb3v,?_,?_,HNB.out,mod_tok hm4w (.inr (by omega)) _ _ _ _ _ _ _⟩
     ·rw [HU.out];exact HST.out _ _ _ _ _ _ _
     ·have:=HALL.out
      rw [this];simp
     ·intro hi
      cases o' with
      | none=>cases hi
      | some u' =>
       have:=(HNL.out x' u' rfl).1
       rw [List.length_append]
       simp only [List.length_cons,List.length_nil]
       omega
    ·exact ((mod_tok (Mod.refl [w3.heap.size] w4) (by simp) _ _ _ _ _ _ _)).at hF4 (by simp;omega)
theorem tokCells_get:∀ (l:List Lx.Tok) (i:Nat) (t:Lx.Tok),l[i]?=some t->∀ j,j<7->(tokCells l)[i * 7+j]?=(tokC t).toList[j]?
 | [],i,t,h=>by simp at h
 | u :: r,0,t,h=>fun j hj=>by
  simp at h;subst h
  rw [tokCells,List.flatMap_cons,List.getElem?_append_left (by simp [tokC];omega)]
  simp
 | u :: r,i+1,t,h=>fun j hj=>by
  rw [tokCells,List.flatMap_cons,List.getElem?_append_right (by simp [tokC];omega)]
  have:=tokCells_get r i t (by simpa using h) j hj
  rw [tokCells] at this
  rw [<-this]
  congr 1
  simp [tokC];omega
/-- the cells of a list's word -/
theorem TokRow.at {w:World} {base:Nat} {v:Value} {l:List Lx.Tok} (h:TokRow w base v l) (i:Nat) (t:Lx.Tok) (hi:l[i]?=some t) :
  ∃ g c,v=.slice (some ⟨g,0,none⟩) l.length c/\w.cell? ⟨g,i * 7,none⟩=some (.int .i64 (t.kind:Nat))/\w.cell? ⟨g,i * 7+1,none⟩=some (.string (Lx.ofS t.text))/\w.cell? ⟨g,i * 7+2,none⟩=some (.int .i64 (t.vk:Nat)) /\
   w.cell? ⟨g,i * 7+3,none⟩=some (.int .i64 (t.num:Nat))/\w.cell? ⟨g,i * 7+4,none⟩=some (.string (Lx.ofS t.sym))/\w.cell? ⟨g,i * 7+5,none⟩=some (.int .i64 (t.line:Nat))/\w.cell? ⟨g,i * 7+6,none⟩=some (.int .i64 (t.col:Nat)):=by
 have hlt:i<l.length:=(List.getElem?_eq_some_iff.1 hi).1
 rcases h.row.2 with ⟨rfl,h0⟩ | ⟨g,cap,cur,rfl,hb,hg,hn,hc,hs,ht⟩
 ·omega
 ·have key:∀ j,j<7->w.cell? ⟨g,i * 7+j,none⟩=(tokC t).toList[j]?:=by
   intro j hj
   rw [<-tokCells_get l i t hi j hj,<-ht]
   simp only [World.cell?,hg]
   have hlt2:i * 7+j<l.length * 7:=by omega
   rw [List.getElem?_take,if_pos hlt2]
   simp
  refine ⟨g,cap,rfl,?_,?_,?_,?_,?_,?_,?_⟩
  ·exact key 0 (by omega)
  ·exact key 1 (by omega)
  ·exact key 2 (by omega)
  ·exact key 3 (by omega)
  ·exact key 4 (by omega)
  ·exact key 5 (by omega)
  ·exact key 6 (by omega)
end Go.Proofs.YtppigckioalhhaaGreatDoorR
namespace Go.Proofs.YtppigckioalhhaaGreatDoorR.Va
open Cod (str)
set_option linter.unusedSimpArgs false
set_option linter.unusedVariables false
structure Val where
 k:Int
 n:Int
 s:List Nat
deriving DecidableEq
def zero:Val:=⟨0,0,[]⟩
def may (v:Val):Bool:=(v.k == 1 && (v.s == [] && (decide (-2147483647<=v.n) && decide (v.n<=2147483647)))) || (v.k == 2 && (v.n == 0 && decide (v.s.length<=64)))
def resW:List (List Nat):=[[114,101,108,97,116,105,111,110],[110,111,116],[110,117,109],[115,121,109],[109,111,100],[99,111,117,110,116],[115,117,109],[109,105,110],[109,97,120]]
def wordB (p:Nat->Bool) (l:List Nat):Bool:=decide (l≠[]) && (decide (l.length<=32) && (p (l.headD 0) && decide (Lx.run Lx.goes l=l.length)))
def name (l:List Nat):Bool:=!resW.contains l && wordB Lx.small l
def variable_ (l:List Nat):Bool:=wordB Lx.capital l
def hexd (n:Nat):Nat:=if n<10 then 48+n else 55+n
def qb (c:Nat):List Nat:=if c=34\/c=92 then [92,c] else if c=10 then [92,110] else if c<32\/126<c then [92,120,hexd (c / 16),hexd (c % 16)] else [c]
def quoted (l:List Nat):List Nat:=34 :: (l.flatMap qb++[34])
def itoa (n:Int):List Nat:=(Lib.itoa n).map UInt8.toNat
def text (v:Val):List Nat:=if v.k=1 then itoa v.n else if name v.s then v.s else quoted v.s
def hf (c:Nat):Option Nat:=if 48<=c/\c<=57 then some (c - 48) else if 65<=c/\c<=70 then some (c - 55) else none
def hx2 (r:List Nat):Option Nat:=match hf (r.headD 0),hf ((r.drop 1).headD 0) with | some a,some b=>some (a * 16+b) | _,_=>none
end Go.Proofs.YtppigckioalhhaaGreatDoorR.Va
namespace Go.Proofs.YtppigckioalhhaaGreatDoorR.Pr
open Cod (str)
open Va (Val)
set_option linter.unusedSimpArgs false
set_option linter.unusedVariables false
structure Term where
 k:Int
 v:ByteArray
 x:Val
structure Atom where
 rel:ByteArray
 terms:List Term
inductive Ex where
 | mk (k:Int) (v:ByteArray) (x:Val) (op:Int) (args:List Ex)
inductive Li where
 | mk (k:Int) (atom:Atom) (op:Int) (left right:Ex) (fn:Int) (av:ByteArray) (of:Ex) (body:List Li) (line col:Int)
structure Rul where
 head:Atom
 body:List Li
 line:Int
 col:Int
structure Rel where
 name:ByteArray
 types:List Int
 line:Int
 col:Int
structure Prog where
 rels:List Rel
 rules:List Rul
def Ex.k:Ex->Int | .mk k _ _ _ _=>k
def Ex.v:Ex->ByteArray | .mk _ v _ _ _=>v
def Ex.x:Ex->Val | .mk _ _ x _ _=>x
def Ex.op:Ex->Int | .mk _ _ _ op _=>op
def Ex.args:Ex->List Ex | .mk _ _ _ _ args=>args
def sign (op:Int):List Nat:=if op=1 then [43] else if op=2 then [45] else if op=3 then [42] else if op=4 then [47] else [109,111,100]
def seqO {α:Type}:List (Option α)->Option (List α)
 | []=>some []
 | o :: r=>match o,seqO r with | some a,some l=>some (a :: l) | _,_=>none
def commas (ls:List (List Nat)):List Nat:=[44,32].intercalate ls
def pT (t:Term):Option (List Nat) :=
 if t.k=1 then (if Va.variable_ (str t.v)=true/\t.x=Va.zero then some (str t.v) else none)
 else if t.k=2 then (if t.v.size=0/\Va.may t.x=true then some (Va.text t.x) else none)
 else if t.k=3 then (if t.v.size=0/\t.x=Va.zero then some [95] else none)
 else none
def pA (a:Atom):Option (List Nat) :=
 if Va.name (str a.rel)=true then (seqO (a.terms.map pT)).map (fun ls=>str a.rel++(40 :: (commas ls++[41]))) else none
def word (fn:Int):List Nat:=if fn=1 then [99,111,117,110,116] else if fn=2 then [115,117,109] else if fn=3 then [109,105,110] else [109,97,120]
end Go.Proofs.YtppigckioalhhaaGreatDoorR.Pr
