/- THE TEXTS MERGED: LxNext LxToks TokAt VaPlain VaTxtPlain PrPlain. -/
import Derived.Test.YtbfaclljbbfknaaGreatDoorKP4
import Derived.Lib.Atoi
import Derived.Lib.ItoaNum
namespace Go.Proofs.YtbfaclljbbfknaaGreatDoor
open Go.RowKit
set_option linter.unusedVariables false
set_option linter.unusedSimpArgs false
set_option maxRecDepth 100000
def nextV:Option Lx.Tok->Value
 | none=>.tuple #[.agg (tokC zeroT),.bool false]
 | some t=>.tuple #[.agg (tokC t),.bool true]
/-- what Next does -/
def Nx (b:Nat) (r:Lx.St × Option Lx.Tok) (w:World) (e:Ending) (w':World):Prop :=
 e=.returned (nextV r.2)/\∃ s',ScIs w' b s' r.1/\Mod [b] w w'
theorem word_bad {l:List Nat} {e:Nat} (h:Lx.word l=.bad e):30<=e/\e<=33:=by
 unfold Lx.word at h
 split at h
 ·split at h <;> simp at h;omega
 ·split at h
  ·split at h <;> simp at h;omega
  ·split at h
   ·split at h <;> simp at h;omega
   ·split at h <;> simp at h;omega
theorem sc_cells {w:World} {b:Nat} {s:ByteArray} {x:Lx.St} (h:ScIs w b s x) :
  w.cell? ⟨b,0,none⟩=some (.string s)/\w.cell? ⟨b,1,none⟩=some (.int .i64 (x.pos.1:Nat))/\w.cell? ⟨b,2,none⟩=some (.int .i64 (x.pos.2:Nat))/\w.cell? ⟨b,3,none⟩=some (.int .i64 (x.fin.1:Nat))/\w.cell? ⟨b,4,none⟩=some (.int .i64 (x.fin.2:Nat)) /\
  w.cell? ⟨b,5,none⟩=some (.int .i64 (x.code:Nat))/\w.cell? ⟨b,6,none⟩=some (.int .i64 (x.fp.1:Nat))/\w.cell? ⟨b,7,none⟩=some (.int .i64 (x.fp.2:Nat))/\w.cell? ⟨b,8,none⟩=some (.bool x.long):=by
 simp [World.cell?,h.at_,scCells]
theorem alloc_at {w0:World} {n:Nat} (o:Obj) (h:w0.heap.size=n):(w0.alloc o).heap[n]?=some o:=by subst h;exact heap_alloc_new w0 o
theorem size_setCell (w:World) (p:Addr) (v:Value):(w.setCell p v).heap.size=w.heap.size:=by simp [World.setCell]
theorem ofS_size (l:List Nat):(Lx.ofS l).size=l.length:=by simp [Lx.ofS,ByteArray.size]
theorem fault_sc {w:World} {b:Nat} {s:ByteArray} {x:Lx.St} (h:ScIs w b s x) (er:Nat) :
  ScIs (((w.setCell ⟨b,5,none⟩ (.int .i64 (er:Nat))).setCell ⟨b,6,none⟩ (.int .i64 (x.pos.1:Nat))).setCell ⟨b,7,none⟩ (.int .i64 (x.pos.2:Nat))) b s { x with code:=er,fp:=x.pos } /\
  Mod [b] w (((w.setCell ⟨b,5,none⟩ (.int .i64 (er:Nat))).setCell ⟨b,6,none⟩ (.int .i64 (x.pos.1:Nat))).setCell ⟨b,7,none⟩ (.int .i64 (x.pos.2:Nat))):=by
 have h1:=setCell_at h.at_ 5 (.int .i64 (er:Nat))
 have h2:=setCell_at h1 6 (.int .i64 (x.pos.1:Nat))
 have h3:=setCell_at h2 7 (.int .i64 (x.pos.2:Nat))
 refine ⟨⟨h3.trans (by simp [scCells]),h.str,h.size,h.lim⟩,?_⟩
 exact (((Mod.refl [b] w).setCell (p:=⟨b,5,none⟩) (by simp) _).setCell (p:=⟨b,6,none⟩) (by simp) _).setCell (p:=⟨b,7,none⟩) (by simp) _
theorem fin_sc {w:World} {b:Nat} {s:ByteArray} {x:Lx.St} (h:ScIs w b s x) :
  ScIs ((w.setCell ⟨b,3,none⟩ (.int .i64 (x.pos.1:Nat))).setCell ⟨b,4,none⟩ (.int .i64 (x.pos.2:Nat))) b s { x with fin:=x.pos } /\
  Mod [b] w ((w.setCell ⟨b,3,none⟩ (.int .i64 (x.pos.1:Nat))).setCell ⟨b,4,none⟩ (.int .i64 (x.pos.2:Nat))):=by
 have h1:=setCell_at h.at_ 3 (.int .i64 (x.pos.1:Nat))
 have h2:=setCell_at h1 4 (.int .i64 (x.pos.2:Nat))
 refine ⟨⟨h2.trans (by simp [scCells]),h.str,h.size,h.lim⟩,?_⟩
 exact ((Mod.refl [b] w).setCell (p:=⟨b,3,none⟩) (by simp) _).setCell (p:=⟨b,4,none⟩) (by simp) _
set_option maxHeartbeats 4000000 in
theorem next_any (b:Nat) (s:ByteArray) (x:Lx.St) (w:World) (h:ScIs w b s x) (hG:Glob w) (hb3:5<=b) :
  Calls Tryz.prog 51 #[.pointer (some ⟨b,0,none⟩)] w (Nx b (Lx.next x) w):=by
 have hB0:(w.alloc (Obj.cells (tokC zeroT) 93)).heap[w.heap.size]?=some (.cells (tokC zeroT) 93 (0,0)):=heap_alloc_new w _
 have hm0:Mod [] w (w.alloc (Obj.cells (tokC zeroT) 93)):=(Mod.refl [] w).alloc _
 have hz:(w.alloc (Obj.cells (tokC zeroT) 93))=w.alloc (Obj.cells #[Value.int IntKind.i64 0,Value.string ⟨#[]⟩,Value.int IntKind.i64 0,Value.int IntKind.i64 0,Value.string ⟨#[]⟩,Value.int IntKind.i64 0,Value.int IntKind.i64 0] 93):=rfl
 rw [hz] at hB0 hm0
 clear hz
 have hlt:=h.lt
 have h1:=h.past hm0 (by simp)
 obtain ⟨c0,c1,c2,c3,c4,c5,c6,c7,c8⟩:=sc_cells h
 by_cases hcode:x.code=0
 ·have hcI:((x.code:Int) != 0)=false:=by rw [hcode];rfl
  cases hlong:x.long
  ·have HC:=Lib.hid hcode
   have hne:b≠w.heap.size:=by omega
   have hlim:=(h.lim hlong).1
   have HB:=Lib.hid hB0;have HM:=Lib.hid hm0;have H1:=Lib.hid h1;have HL:=Lib.hid hlong
   have hN:=Hxq (show Lx.next x=_ by unfold Lx.next;rw [if_neg (by omega),if_neg (by rw [hlong];decide)])
   clear hcode hB0 hm0 h1
   rw [hlong] at c8
   clear hlong
   go_enter Tryz.func51,Tryz.ntmps51
   go_wp2_with fail
   refine (skip_any b s x _ H1.out HL.out).mono ?_
   rintro e w2 ⟨rfl,s2,h2,hm2⟩
   have hB2:=hm2.at HB.out (by simp;omega)
   have hm2':Mod [b] w w2:=(HM.out.mono (by simp)).trans hm2 (fun t ht=>.inl ht)
   clear hm2 c0 c1 c2 c3 c4 c5 c6 c7 c8
   obtain ⟨c0,c1,c2,c3,c4,c5,c6,c7,c8⟩:=sc_cells h2
   obtain ⟨q0,q1,q2,q3,q4,q5,q6⟩:=tok_cells hB2
   have fz:∀ j,w2.frozen? ⟨w.heap.size,j,none⟩=false:=fun j=>by simp [World.frozen?,hB2]
   have fb:∀ j,w2.frozen? ⟨b,j,none⟩=false:=fun j=>h2.free j
   have hs2:=hm2'.size
   have hstr2:=h2.str
   by_cases hemp:x.skip.s=[]
   ·have hem:s2.toList.isEmpty=true:=by rw [toList_isEmpty,<-Cod.str_len,hstr2,hemp];rfl
    have e:Hid (Lx.next x=(x.skip,none)):=Hxq (by rw [hN.out,if_pos hemp])
    have H2:=Lib.hid h2
    clear hemp hstr2 h2
    go_wp2_with fail
    refine bodyPost_ret (res_tok rfl _ _ _ _ _ _ _ rfl rfl (store_tok hB2 _ _ _ _ _ _ _) rfl) rfl ?_
    rw [e.out]
    refine ⟨rfl,s2,H2.out.keep (S:=[w.heap.size]) ?_ (by simp;omega),mod_tok hm2' (.inr (Nat.le_refl _)) _ _ _ _ _ _ _⟩
    exact mod_tok (Mod.refl _ _) (by simp) _ _ _ _ _ _ _
   ·have hpos:0<x.skip.s.length:=List.length_pos_iff.2 hemp
    have hz2:s2.size=x.skip.s.length:=by rw [<-Cod.str_len,hstr2]
    have hem:s2.toList.isEmpty=false:=by rw [toList_isEmpty,hz2];simp;omega
    have hlim2:=(h2.lim HL.out).1
    have hwd:=word_any s2 hlim2 (by omega)
    rw [hstr2] at hwd
    have hG2:=hG.keep hm2' (by simpa using hb3)
    cases hw:Lx.word x.skip.s with
    | bad er =>
     rw [hw] at hwd
     obtain ⟨he1,he2⟩:=word_bad hw
     have hez:((er:Int) != 0)=true:=by rw [bne_iff_ne];omega
     have e:Hid (Lx.next x=({ x.skip with code:=er,fp:=x.skip.pos },none)):=Hxq (by rw [hN.out,if_neg hemp,hw])
     have HW:=Lib.hid hwd;have HST:=Lib.hid hstr2;have HZ:=Lib.hid hz2
     clear hwd hw hemp hstr2 hz2
     go_wp2_with fail
     refine (HW.out _ hG2).mono ?_
     rintro e2 w3 ⟨rfl,hm3⟩
     have h3:=h2.past hm3 (by simp)
     have hB3:=hm3.at hB2 (by simp)
     have hm3':=hm2'.trans hm3 (by simp)
     clear c0 c1 c2 c3 c4 c5 c6 c7 c8 q0 q1 q2 q3 q4 q5 q6 fz fb h2 hG2
     obtain ⟨c0,c1,c2,c3,c4,c5,c6,c7,c8⟩:=sc_cells h3
     obtain ⟨q0,q1,q2,q3,q4,q5,q6⟩:=tok_cells hB3
     have fz:∀ j,w3.frozen? ⟨w.heap.size,j,none⟩=false:=fun j=>by simp [World.frozen?,hB3]
     have fb:∀ j,w3.frozen? ⟨b,j,none⟩=false:=fun j=>h3.free j
     have hlt3:=lt_of_block hB3
     have hlb3:=h3.lt
     have hne3:b≠w3.heap.size:=by omega
     have H3:=Lib.hid h3;have HM3:=Lib.hid hm3'
     clear h3 hm3 hm3' hm2'
     rw [rwV,tokC]
     go_wp2_with fail
     obtain ⟨h4,hm4⟩:=fault_sc H3.out er
     have hB4:=hm4.at hB3 (by simp;omega)
     have hm4':=HM3.out.trans hm4 (fun t ht=>.inl ht)
     clear c0 c1 c2 c3 c4 c5 c6 c7 c8 q0 q1 q2 q3 q4 q5 q6 fz fb
     generalize (((w3.setCell ⟨b,5,none⟩ (.int .i64 (er:Nat))).setCell ⟨b,6,none⟩ (.int .i64 (x.skip.pos.1:Nat))).setCell ⟨b,7,none⟩ (.int .i64 (x.skip.pos.2:Nat)))=w4 at *
     refine bodyPost_ret (res_tok rfl _ _ _ _ _ _ _ rfl rfl (((Mod.refl [] _).alloc _).at (store_tok hB4 _ _ _ _ _ _ _) (by simp)) rfl) rfl ?_
     rw [e.out]
     refine ⟨rfl,s2,?_,(mod_tok hm4' (.inr (Nat.le_refl _)) _ _ _ _ _ _ _).alloc _⟩
     exact h4.keep (S:=[w.heap.size]) ((mod_tok (Mod.refl _ _) (by simp) _ _ _ _ _ _ _).alloc _) (by simp;omega)
    | ok wd =>
     rw [hw] at hwd
     have hbx:∀ c∈x.skip.s,c<256:=by rw [<-hstr2];exact Cod.str_lt s2
     obtain ⟨hw1,hw2,-⟩:=Lx.word_len hbx hemp hw
     have e:Hid (Lx.next x=({ x.skip with s:=x.skip.s.drop wd.n,pos:=Lx.adv x.skip.pos (x.skip.s.take wd.n),fin:=Lx.adv x.skip.pos (x.skip.s.take wd.n) },
       some ⟨wd.kind,x.skip.s.take wd.n,wd.vk,wd.num,wd.sym,x.skip.pos.1,x.skip.pos.2⟩)):=Hxq (by rw [hN.out,if_neg hemp,hw])
     have hsize:Hid ((Lx.ofS (wdT x.skip.s wd).text).size=wd.n):=Hxq (by rw [ofS_size];simp only [wdT];rw [List.length_take];omega)
     have hln:wd.n<=s2.size:=by omega
     have HW:=Lib.hid hwd;have HST:=Lib.hid hstr2;have HZ:=Lib.hid hz2
     clear hwd hw hemp hstr2 hz2 hbx
     go_wp2_with fail
     refine (HW.out _ hG2).mono ?_
     rintro e2 w3 ⟨rfl,hm3⟩
     have h3:=h2.past hm3 (by simp)
     have hB3:=hm3.at hB2 (by simp)
     have hm3':=hm2'.trans hm3 (by simp)
     clear c0 c1 c2 c3 c4 c5 c6 c7 c8 q0 q1 q2 q3 q4 q5 q6 fz fb h2 hG2
     obtain ⟨c0,c1,c2,c3,c4,c5,c6,c7,c8⟩:=sc_cells h3
     have fb:∀ j,w3.frozen? ⟨b,j,none⟩=false:=fun j=>h3.free j
     have hlt3:=lt_of_block hB3
     have hlb3:=h3.lt
     have hne3:b≠w3.heap.size:=by omega
     have H3:=Lib.hid h3;have HM3:=Lib.hid hm3'
     clear h3 hm3 hm3' hm2'
     rw [rwV,tokC]
     go_wp2_with fail
     rw [hsize.out]
     obtain ⟨t,ht⟩:∃ t:Lx.Tok,t=⟨wd.kind,x.skip.s.take wd.n,wd.vk,wd.num,wd.sym,x.skip.pos.1,x.skip.pos.2⟩:=⟨_,rfl⟩
     have hcells:#[Value.int IntKind.i64 ((wdT x.skip.s wd).kind:Nat),.string (Lx.ofS (wdT x.skip.s wd).text),.int .i64 ((wdT x.skip.s wd).vk:Nat),.int .i64 ((wdT x.skip.s wd).num:Nat),.string (Lx.ofS (wdT x.skip.s wd).sym),.int .i64 (x.skip.pos.1:Nat),.int .i64 (x.skip.pos.2:Nat)]=tokC t:=by rw [ht];rfl
     rw [hcells]
     clear hcells
     have ha:=(Mod.refl [] w3).alloc (Obj.cells (tokC t) 93)
     have hT4:=heap_alloc_new w3 (Obj.cells (tokC t) 93)
     have h4:=H3.out.past ha (by simp)
     have hB4:=ha.at hB3 (by simp)
     have hm4:=HM3.out.trans ha (by simp)
     have HT:=Lib.hid ht
     clear ht c0 c1 c2 c3 c4 c5 c6 c7 c8 fb
     refine (pass_any b s2 x.skip wd.n _ h4 hln HL.out).mono ?_
     rintro e2 w5 ⟨rfl,s5,h5,hm5⟩
     have hT5:=hm5.at hT4 (by simp;omega)
     have hB5:=hm5.at hB4 (by simp;omega)
     have hm5':=hm4.trans hm5 (fun t ht=>.inl ht)
     clear hm5 hm4 hT4 hB4 h4 ha
     obtain ⟨c0,c1,c2,c3,c4,c5,c6,c7,c8⟩:=sc_cells h5
     have fb:∀ j,w5.frozen? ⟨b,j,none⟩=false:=fun j=>h5.free j
     obtain ⟨q0,q1,q2,q3,q4,q5,q6⟩:=tok_cells hB5
     obtain ⟨t0,t1,t2,t3,t4,t5,t6⟩:=tok_cells hT5
     have fz:∀ j,w5.frozen? ⟨w.heap.size,j,none⟩=false:=fun j=>by simp [World.frozen?,hB5]
     have hneT:w.heap.size≠w3.heap.size:=by omega
     have H5:=Lib.hid h5
     clear h5
     go_wp2_with fail
     obtain ⟨h6,hm6⟩:=fin_sc H5.out
     have hB6:=hm6.at hB5 (by simp;omega)
     have hm6':=hm5'.trans hm6 (fun t ht=>.inl ht)
     clear c0 c1 c2 c3 c4 c5 c6 c7 c8 q0 q1 q2 q3 q4 q5 q6 fz fb t0 t1 t2 t3 t4 t5 t6
     rw [e.out]
     simp only at h6 hm6 hB6 hm6'
     generalize ((w5.setCell ⟨b,3,none⟩ (.int .i64 ((Lx.adv x.skip.pos (x.skip.s.take wd.n)).1:Nat))).setCell ⟨b,4,none⟩ (.int .i64 ((Lx.adv x.skip.pos (x.skip.s.take wd.n)).2:Nat)))=w6 at *
     refine bodyPost_ret (res_tok rfl _ _ _ _ _ _ _ rfl rfl (store_tok hB6 _ _ _ _ _ _ _) rfl) rfl ?_
     rw [<-HT.out]
     refine ⟨rfl,s5,?_,mod_tok hm6' (.inr (Nat.le_refl _)) _ _ _ _ _ _ _⟩
     exact h6.keep (S:=[w.heap.size]) (mod_tok (Mod.refl _ _) (by simp) _ _ _ _ _ _ _) (by simp;omega)
  ·have hN:Hid (Lx.next x=({ x with code:=2 },none)):=Hxq (by unfold Lx.next;rw [if_neg (by omega),if_pos hlong])
   rw [hlong] at c8
   have hset:=setCell_at h.at_ 5 (.int .i64 2)
   have f5:=h.free 5
   have HB:=Lib.hid hB0;have HM:=Lib.hid hm0;have HS:=Lib.hid hset;have HL:=Lib.hid hlong;have HC:=Lib.hid hcode
   clear hset hlong hcode hB0 hm0 h1
   go_enter Tryz.func51,Tryz.ntmps51
   go_wp2_with fail
   refine bodyPost_ret (res_tok rfl _ _ _ (tokC zeroT) _ _ _ rfl rfl (alloc_at _ (size_setCell _ _ _)) rfl) rfl ?_
   rw [hN.out]
   refine ⟨rfl,s,⟨?_,h.str,h.size,fun hl=>?_⟩,((Mod.refl [b] w).setCell (p:=⟨b,5,none⟩) (by simp) _).alloc _⟩
   ·exact ((Mod.refl [] _).alloc _).at (HS.out.trans (by simp [scCells])) (by simp)
   ·rw [show x.long=true from HL.out] at hl;cases hl
 ·have hN:Hid (Lx.next x=(x,none)):=Hxq (by unfold Lx.next;rw [if_pos hcode])
  have hcI:((x.code:Int) != 0)=true:=by rw [bne_iff_ne];omega
  have HB:=Lib.hid hB0;have HM:=Lib.hid hm0
  have q:=Lib.hid h1
  clear hcode hB0 hm0 h1
  go_enter Tryz.func51,Tryz.ntmps51
  go_wp2_with fail
  refine bodyPost_ret (res_tok rfl _ _ _ _ _ _ _ rfl rfl HB.out rfl) rfl ?_
  rw [hN.out]
  exact ⟨rfl,s,q.out,HM.out.mono (by simp)⟩
theorem Scan_any (s:ByteArray) (hs:s.size<=140737488355328) (w:World) :
  Calls Tryz.prog 50 #[.string s] w fun e w'=>∃ b,e=.returned (.pointer (some ⟨b,0,none⟩))/\ScIs w' b s (Lx.start (Cod.str s))/\w.heap.size<=b/\Mod [] w w':=by
 go_enter Tryz.func50,Tryz.ntmps50
 go_wp2
 go_ret
 refine ⟨_,rfl,⟨?_,rfl,hs,fun hl=>?_⟩,?_,((Mod.refl [] w).alloc _).alloc _⟩
 ·refine (alloc_at _ (by simp)).trans ?_
  simp [scCells,Lx.start,Cod.str_len]
  omega
 ·simp only [Lx.start,decide_eq_false_iff_not,Cod.str_len] at hl ⊢
  omega
 ·simp
def faultV (x:Lx.St):Array Value:=#[.int .i64 (x.code:Nat),.int .i64 (x.fp.1:Nat),.int .i64 (x.fp.2:Nat)]
theorem Fault_any (b:Nat) (s:ByteArray) (x:Lx.St) (w:World) (h:ScIs w b s x) :
  Calls Tryz.prog 52 #[.pointer (some ⟨b,0,none⟩)] w fun e w'=>e=.returned (.agg (faultV x))/\Mod [] w w':=by
 have hlt:=h.lt
 have hne:b≠w.heap.size:=by omega
 obtain ⟨c0,c1,c2,c3,c4,c5,c6,c7,c8⟩:=sc_cells h
 go_enter Tryz.func52,Tryz.ntmps52
 go_wp2
 refine bodyPost_ret (results_cell_row rfl _ _ _ _ (faultV x) _ _ rfl (heap_alloc_new w _) Tryz.underlying42 rfl (by kernel_rfl)) rfl ⟨rfl,(Mod.refl [] w).alloc _⟩
/-- words as cells -/
def tokCells (l:List Lx.Tok):List Value:=l.flatMap fun t=>(tokC t).toList
theorem tokCells_append (a b:List Lx.Tok):tokCells (a++b)=tokCells a++tokCells b:=by simp [tokCells]
theorem Tryz.infoTok:(Tryz.prog.info? 93).map (fun i=>(i.zero,i.size,i.bytes))=some (some (.agg (tokC zeroT)),7,72):=by kernel_rfl
/-- the slice v, newer than base, owns these words -/
structure TokRow (w:World) (base:Nat) (v:Value) (l:List Lx.Tok):Prop where
 row:w.ownsRow 0 93 7 v l.length (tokCells l)
 new:∀ k∈fp v,base<=k
theorem TokRow.nil (w:World) (base:Nat):TokRow w base (.slice none 0 0) []:=⟨World.ownsRow_nil _ _ _ _,by simp [fp]⟩
theorem TokRow.keep {S:List Nat} {w w':World} {base:Nat} {v:Value} {l:List Lx.Tok} (h:TokRow w base v l) (hm:Mod S w w') (hS:∀ k∈fp v,k∉S):TokRow w' base v l :=
 ⟨hm.owns h.row hS,h.new⟩
theorem TokRow.past {S:List Nat} {w w':World} {base:Nat} {v:Value} {l:List Lx.Tok} (h:TokRow w base v l) (hm:Mod S w w') (hS:∀ t∈S,w.heap.size<=t):TokRow w' base v l :=
 h.keep hm (fun k hk hs=>by have:=hS k hs;have:=fp_lt h.row k hk;omega)
theorem TokRow.lit {w:World} {base:Nat} {v:Value} {l:List Lx.Tok} (h:TokRow w base v l):∃ a c,v=.slice a l.length c:=by
 rcases h.row.2 with ⟨rfl,h0⟩ | ⟨g,cap,cur,rfl,-⟩
 ·exact ⟨_,_,by rw [h0]⟩
 ·exact ⟨_,_,rfl⟩
theorem tokC_one (t:Lx.Tok):∀ u∈(tokC t).toList,u.oneCell'=true:=by
 intro u hu
 simp [tokC] at hu
 rcases hu with rfl | rfl | rfl | rfl | rfl | rfl | rfl <;> rfl
/-- one word, as what is appended -/
theorem src_tok {w:World} {b:Nat} {t:Lx.Tok} {T:TypeId} {fr:Nat × Nat} (h:w.heap[b]?=some (.cells (tokC t) T fr)) :
  Src Tryz.prog 7 88 (.slice (some ⟨b,0,none⟩) 1 1) 1 (tokC t).toList w:=by
 refine Src.ofSlice w Tryz.underlying88 ⟨b,0,none⟩ 1 1 _ (by simp [tokC]) (fun j u hu=>?_) (tokC_one t)
 rw [addr_add,Nat.zero_add]
 simp [World.cell?,h]
 rw [<-Array.getElem?_toList];exact hu
def St.len (x:Lx.St):Nat:=x.s.length
theorem next_len {x y:Lx.St} {t:Lx.Tok} (hb:∀ c∈x.s,c<256) (h:Lx.next x=(y,some t)):y.s.length<x.s.length/\(∀ c∈y.s,c<256)/\x.long=false/\y.long=false:=by
 unfold Lx.next at h
 split at h
 ·simp at h
 ·split at h
  ·simp at h
  ·rename_i hl
   have hl':x.long=false:=by simpa using hl
   split at h
   ·simp at h
   ·rename_i he
    split at h
    ·simp at h
    ·rename_i wd hw
     have hbs:∀ c∈x.skip.s,c<256:=fun c hc=>hb c (List.mem_of_mem_drop hc)
     obtain ⟨h1,h2,-⟩:=Lx.word_len hbs he hw
     simp only [Prod.mk.injEq] at h
     obtain ⟨rfl,-⟩:=h
     have hsk:x.skip.s.length<=x.s.length:=by unfold Lx.St.skip;simp
     refine ⟨?_,fun c hc=>hbs c (List.mem_of_mem_drop hc),hl',hl'⟩
     simp only [List.length_drop];omega
theorem next_bytes {x:Lx.St} (hb:∀ c∈x.s,c<256):∀ c∈(Lx.next x).1.s,c<256:=by
 have hbs:∀ c∈x.skip.s,c<256:=fun c hc=>hb c (List.mem_of_mem_drop hc)
 unfold Lx.next
 split
 ·exact hb
 ·split
  ·exact hb
  ·split
   ·exact hbs
   ·split
    ·exact hbs
    ·exact fun c hc=>hbs c (List.mem_of_mem_drop hc)
/-- what is still to come, one call of Next done -/
def rest (k:Nat) (r:Lx.St × Option Lx.Tok):List Lx.Tok × Lx.St :=
 match r with
 | (y,none)=>([],y)
 | (y,some t)=>(t :: (Lx.allF k y).1,(Lx.allF k y).2)
theorem allF_succ (k:Nat) (x:Lx.St):Lx.allF (k+1) x=rest k (Lx.next x):=by
 rw [Lx.allF]
 unfold rest
 cases Lx.next x with
 | mk y o=>cases o <;> rfl
theorem nextV_eq (o:Option Lx.Tok):nextV o=.tuple #[.agg (tokC (o.getD zeroT)),.bool o.isSome]:=by cases o <;> rfl
theorem TokRow.base {w:World} {b b':Nat} {v:Value} {l:List Lx.Tok} (h:TokRow w b v l) (hb:b'<=b):TokRow w b' v l :=
 ⟨h.row,fun k hk=>Nat.le_trans hb (h.new k hk)⟩
theorem tokCells_get:∀ (l:List Lx.Tok) (i:Nat) (t:Lx.Tok),l[i]?=some t->∀ j,j<7->(tokCells l)[i * 7+j]?=(tokC t).toList[j]?
 | [],i,t,h=>by simp at h
 | u :: r,0,t,h=>fun j hj=>by
  simp at h;subst h
  rw [tokCells,List.flatMap_cons,List.getElem?_append_left (by simp [tokC];omega)]
  simp
 | u :: r,i+1,t,h=>fun j hj=>by
  rw [tokCells,List.flatMap_cons,List.getElem?_append_right (by simp [tokC];omega)]
  have:=tokCells_get r i t (by simpa using h) j hj
  rw [tokCells] at this
  rw [<-this]
  congr 1
  simp [tokC];omega
/-- the cells of a list's word -/
theorem TokRow.at {w:World} {base:Nat} {v:Value} {l:List Lx.Tok} (h:TokRow w base v l) (i:Nat) (t:Lx.Tok) (hi:l[i]?=some t) :
  ∃ g c,v=.slice (some ⟨g,0,none⟩) l.length c/\w.cell? ⟨g,i * 7,none⟩=some (.int .i64 (t.kind:Nat))/\w.cell? ⟨g,i * 7+1,none⟩=some (.string (Lx.ofS t.text))/\w.cell? ⟨g,i * 7+2,none⟩=some (.int .i64 (t.vk:Nat)) /\
   w.cell? ⟨g,i * 7+3,none⟩=some (.int .i64 (t.num:Nat))/\w.cell? ⟨g,i * 7+4,none⟩=some (.string (Lx.ofS t.sym))/\w.cell? ⟨g,i * 7+5,none⟩=some (.int .i64 (t.line:Nat))/\w.cell? ⟨g,i * 7+6,none⟩=some (.int .i64 (t.col:Nat)):=by
 have hlt:i<l.length:=(List.getElem?_eq_some_iff.1 hi).1
 rcases h.row.2 with ⟨rfl,h0⟩ | ⟨g,cap,cur,rfl,hb,hg,hn,hc,hs,ht⟩
 ·omega
 ·have key:∀ j,j<7->w.cell? ⟨g,i * 7+j,none⟩=(tokC t).toList[j]?:=by
   intro j hj
   rw [<-tokCells_get l i t hi j hj,<-ht]
   simp only [World.cell?,hg]
   have hlt2:i * 7+j<l.length * 7:=by omega
   rw [List.getElem?_take,if_pos hlt2]
   simp
  refine ⟨g,cap,rfl,?_,?_,?_,?_,?_,?_,?_⟩
  ·exact key 0 (by omega)
  ·exact key 1 (by omega)
  ·exact key 2 (by omega)
  ·exact key 3 (by omega)
  ·exact key 4 (by omega)
  ·exact key 5 (by omega)
  ·exact key 6 (by omega)
end Go.Proofs.YtbfaclljbbfknaaGreatDoor
namespace Go.Proofs.YtbfaclljbbfknaaGreatDoor.Va
open Cod (str)
set_option linter.unusedSimpArgs false
set_option linter.unusedVariables false
structure Val where
 k:Int
 n:Int
 s:List Nat
deriving DecidableEq
def zero:Val:=⟨0,0,[]⟩
def may (v:Val):Bool:=(v.k == 1 && (v.s == [] && (decide (-2147483647<=v.n) && decide (v.n<=2147483647)))) || (v.k == 2 && (v.n == 0 && decide (v.s.length<=64)))
def resW:List (List Nat):=[[114,101,108,97,116,105,111,110],[110,111,116],[110,117,109],[115,121,109],[109,111,100],[99,111,117,110,116],[115,117,109],[109,105,110],[109,97,120]]
def wordB (p:Nat->Bool) (l:List Nat):Bool:=decide (l≠[]) && (decide (l.length<=32) && (p (l.headD 0) && decide (Lx.run Lx.goes l=l.length)))
def name (l:List Nat):Bool:=!resW.contains l && wordB Lx.small l
def variable_ (l:List Nat):Bool:=wordB Lx.capital l
def hexd (n:Nat):Nat:=if n<10 then 48+n else 55+n
def qb (c:Nat):List Nat:=if c=34\/c=92 then [92,c] else if c=10 then [92,110] else if c<32\/126<c then [92,120,hexd (c / 16),hexd (c % 16)] else [c]
def quoted (l:List Nat):List Nat:=34 :: (l.flatMap qb++[34])
def itoa (n:Int):List Nat:=(Lib.itoa n).map UInt8.toNat
def text (v:Val):List Nat:=if v.k=1 then itoa v.n else if name v.s then v.s else quoted v.s
theorem hexd_hexv {n:Nat} (h:n<16):Lx.hexv (hexd n)=some n:=by
 have:∀ m:Fin 16,Lx.hexv (hexd m.val)=some m.val:=by decide
 exact this ⟨n,h⟩
theorem decFrom_snoc:∀ (l:List UInt8) (acc n:Nat) (b:UInt8) (d:Nat),Lib.decFrom acc l=some n->Lib.digitVal b=some d->Lib.decFrom acc (l++[b])=some (n * 10+d)
 | [],acc,n,b,d,h,hd=>by
  simp only [Lib.decFrom,Option.some.injEq] at h
  subst h
  simp [Lib.decFrom,hd]
 | c :: r,acc,n,b,d,h,hd=>by
  simp only [List.cons_append,Lib.decFrom] at h ⊢
  cases hc:Lib.digitVal c with
  | none=>rw [hc] at h;simp at h
  | some e =>
   rw [hc] at h
   simp only at h ⊢
   exact decFrom_snoc r _ n b d h hd
theorem digitVal_of {d:Nat} (h:d<10):Lib.digitVal (UInt8.ofNat (48+d))=some d:=by
 unfold Lib.digitVal
 have:(UInt8.ofNat (48+d)).toNat=48+d:=by simp;omega
 rw [this,if_pos (by omega)]
 simp
theorem decDigits_val (u:Nat):Lib.decFrom 0 (Lib.decDigits u)=some u:=by
 induction u using Nat.strongRecOn with
 | _ u ih =>
  rw [Lib.decDigits]
  by_cases h:u<10
  ·rw [dif_pos h]
   simp only [Lib.decFrom,digitVal_of h]
   congr 1;omega
  ·rw [dif_neg h]
   have:=decFrom_snoc _ 0 (u / 10) (UInt8.ofNat (48+u % 10)) (u % 10) (ih (u / 10) (by omega)) (digitVal_of (by omega))
   rw [this]
   congr 1;omega
theorem decDigits_head (u:Nat):∃ c r,Lib.decDigits u=c :: r/\48<=c.toNat/\c.toNat<=57:=by
 have h1:=decDigits_val u
 cases hl:Lib.decDigits u with
 | nil =>
  have:=Lib.decDigits_length u
  rw [hl] at this
  have:=Lib.nDigits_pos u
  simp at *
  omega
 | cons c r =>
  refine ⟨c,r,rfl,?_⟩
  rw [hl] at h1
  simp only [Lib.decFrom] at h1
  unfold Lib.digitVal at h1
  by_cases hc:48<=c.toNat/\c.toNat<=57
  ·exact hc
  ·rw [if_neg hc] at h1;simp at h1
theorem itoa_lt (n:Int):∀ c∈itoa n,c<256:=by
 intro c hc
 unfold itoa at hc
 obtain ⟨b,_,rfl⟩:=List.mem_map.1 hc
 exact b.toNat_lt
theorem map_back (l:List UInt8):(l.map UInt8.toNat).map UInt8.ofNat=l:=by
 rw [List.map_map]
 conv=>rhs;rw [<-List.map_id l]
 exact List.map_congr_left (fun c _=>by simp)
def hf (c:Nat):Option Nat:=if 48<=c/\c<=57 then some (c - 48) else if 65<=c/\c<=70 then some (c - 55) else none
def dcF:Nat->Nat->List Nat->Option Nat
 | _,n,[]=>some n
 | i,n,c :: r=>if Lx.digit c=true/\i<=11 then dcF (i+1) (n * 10+(c - 48)) r else none
def dec (l:List Nat):Option Int:=if l.headD 0=45 then (dcF 0 0 (l.drop 1)).map (fun (n:Nat)=>-(n:Int)) else (dcF 0 0 l).map (fun (n:Nat)=>(n:Int))
def hx2 (r:List Nat):Option Nat:=match hf (r.headD 0),hf ((r.drop 1).headD 0) with | some a,some b=>some (a * 16+b) | _,_=>none
def ruqF:Nat->List Nat->List Nat
 | k+1,c :: x :: r =>
  if c≠92 then c :: ruqF k (x :: r)
  else if x=110 then 10 :: ruqF k r
  else match (if x=120/\3<=r.length then hx2 r else none) with
   | some b=>b :: ruqF k (r.drop 2)
   | none=>x :: ruqF k r
 | _,_=>[]
def ruq (l:List Nat):List Nat:=ruqF (l.length+1) (l.drop 1)
def rguess (l:List Nat):Option Val :=
 if l.headD 0=45\/Lx.digit (l.headD 0)=true then (dec l).map (fun n=>⟨1,n,[]⟩)
 else if l.headD 0=34 then some ⟨2,0,ruq l⟩ else some ⟨2,0,l⟩
theorem hf_hexd {n:Nat} (h:n<16):hf (hexd n)=some n:=by
 have:∀ m:Fin 16,hf (hexd m.val)=some m.val:=by decide
 exact this ⟨n,h⟩
theorem ruqF_one (k c x:Nat) (r:List Nat) (h:c≠92):ruqF (k+1) (c :: x :: r)=c :: ruqF k (x :: r):=by
 simp only [ruqF];rw [if_pos h]
theorem ruqF_esc (k x:Nat) (r:List Nat):ruqF (k+1) (92 :: x :: r)=if x=110 then 10 :: ruqF k r else match (if x=120/\3<=r.length then hx2 r else none) with | some b=>b :: ruqF k (r.drop 2) | none=>x :: ruqF k r:=by
 simp only [ruqF];rw [if_neg (by simp)]
theorem ruqF_end (k:Nat) (l:List Nat) (h:l.length<2):ruqF k l=[]:=by
 match k,l,h with
 | 0,_,_=>unfold ruqF;rfl
 | k+1,[],_=>unfold ruqF;rfl
 | k+1,[_],_=>unfold ruqF;rfl
theorem ruqF_q:∀ (l:List Nat) (k:Nat),(∀ c∈l,c<256)->(l.flatMap qb).length<k->ruqF k (l.flatMap qb++[34])=l
 | [],k,_,h=>ruqF_end _ _ (by simp)
 | c :: r,k,hb,h=>by
  obtain ⟨j,rfl⟩:∃ j,k=j+1:=⟨k - 1,by omega⟩
  have hc:=hb c (by simp)
  have ih:=fun j hj=>ruqF_q r j (fun x hx=>hb x (by simp [hx])) hj
  rw [List.flatMap_cons] at h ⊢
  generalize List.flatMap qb r=u at *
  by_cases h1:c=34\/c=92
  ·have hq:qb c=[92,c]:=by unfold qb;rw [if_pos h1]
   rw [hq] at h ⊢
   simp only [List.cons_append,List.nil_append,List.length_cons] at h ⊢
   rw [ruqF_esc,if_neg (by omega),if_neg (by omega)]
   simp only
   rw [ih j (by omega)]
  ·by_cases h2:c=10
   ·have hq:qb c=[92,110]:=by unfold qb;rw [if_neg h1,if_pos h2]
    rw [hq] at h ⊢
    simp only [List.cons_append,List.nil_append,List.length_cons] at h ⊢
    rw [ruqF_esc,if_pos rfl,ih j (by omega),h2]
   ·by_cases h3:c<32\/126<c
    ·have hq:qb c=[92,120,hexd (c / 16),hexd (c % 16)]:=by unfold qb;rw [if_neg h1,if_neg h2,if_pos h3]
     rw [hq] at h ⊢
     simp only [List.cons_append,List.nil_append,List.length_cons] at h ⊢
     have hx:hx2 (hexd (c / 16) :: hexd (c % 16) :: (u++[34]))=some c:=by
      unfold hx2
      simp only [List.headD_cons,List.drop_succ_cons,List.drop_zero]
      rw [hf_hexd (by omega),hf_hexd (by omega)]
      simp only
      congr 1;omega
     rw [ruqF_esc,if_neg (by omega),if_pos ⟨rfl,by simp⟩,hx]
     simp only [List.drop_succ_cons,List.drop_zero]
     rw [ih j (by omega)]
    ·have hq:qb c=[c]:=by unfold qb;rw [if_neg h1,if_neg h2,if_neg h3]
     rw [hq] at h ⊢
     simp only [List.cons_append,List.nil_append,List.length_cons] at h ⊢
     have hu:=ih j (by omega)
     cases hu2:u++[34] with
     | nil=>simp at hu2
     | cons x t =>
      rw [hu2] at hu
      rw [ruqF_one _ _ _ _ (by omega),hu]
theorem ruq_q (l:List Nat) (hb:∀ c∈l,c<256):ruq (quoted l)=l:=by
 unfold ruq quoted
 rw [List.drop_succ_cons,List.drop_zero]
 exact ruqF_q l _ hb (by simp;omega)
theorem digit_iff (c:Nat):Lx.digit c=true ↔ 48<=c/\c<=57:=by
 unfold Lx.digit
 simp
theorem dcF_dec:∀ (l:List UInt8) (i acc n:Nat),Lib.decFrom acc l=some n->i+l.length<=12->dcF i acc (l.map UInt8.toNat)=some n
 | [],i,acc,n,h,_=>by simp only [Lib.decFrom,Option.some.injEq] at h;subst h;rfl
 | c :: r,i,acc,n,h,hl=>by
  simp only [Lib.decFrom] at h
  unfold Lib.digitVal at h
  by_cases hc:48<=c.toNat/\c.toNat<=57
  ·rw [if_pos hc] at h
   simp only at h
   simp only [List.length_cons] at hl
   rw [List.map_cons]
   unfold dcF
   rw [if_pos ⟨(digit_iff _).2 hc,by omega⟩]
   have e:acc * 10+(c.toNat - 48)=acc * 10+(c.toNat - 48):=rfl
   exact dcF_dec r _ _ n h (by omega)
  ·rw [if_neg hc] at h;simp at h
theorem nDg:∀ (k u:Nat),u<10 ^ (k+1)->Lib.nDigits u<=k+1
 | 0,u,h=>by rw [Lib.nDigits_small (by simpa using h)];omega
 | k+1,u,h=>by
  by_cases h0:u<10
  ·rw [Lib.nDigits_small h0];omega
  ·rw [Lib.nDigits_big h0]
   have:=nDg k (u / 10) (by rw [Nat.pow_succ] at h;omega)
   omega
theorem nDig (u:Nat) (h:u<=2147483647):(Lib.decDigits u).length<=11:=by
 rw [Lib.decDigits_length]
 exact nDg 10 u (by omega)
theorem dec_itoa {n:Int} (h1:-2147483647<=n) (h2:n<=2147483647):dec (itoa n)=some n/\((itoa n).headD 0=45\/Lx.digit ((itoa n).headD 0)=true)/\(itoa n).length<=258/\itoa n≠[]:=by
 unfold itoa Lib.itoa
 by_cases hn:n<0
 ·rw [if_pos hn,List.map_cons]
  have hd:=dcF_dec _ 0 0 _ (decDigits_val n.natAbs) (by have:=nDig n.natAbs (by omega);omega)
  have hl:=nDig n.natAbs (by omega)
  refine ⟨?_,.inl rfl,by simp;omega,by simp⟩
  unfold dec
  rw [if_pos (by rfl),List.drop_succ_cons,List.drop_zero,hd]
  simp only [Option.map_some]
  congr 1;omega
 ·rw [if_neg hn]
  obtain ⟨c,r,hl,hc1,hc2⟩:=decDigits_head n.toNat
  have hd:=dcF_dec _ 0 0 _ (decDigits_val n.toNat) (by have:=nDig n.toNat (by omega);omega)
  have hll:=nDig n.toNat (by omega)
  rw [hl] at hd hll ⊢
  rw [List.map_cons] at hd ⊢
  refine ⟨?_,.inr ((digit_iff _).2 ⟨hc1,hc2⟩),by simp at hll ⊢;omega,by simp⟩
  unfold dec
  rw [if_neg (by simp only [List.headD_cons];omega),hd]
  simp only [Option.map_some]
  congr 1;omega
theorem flatq_len:∀ l:List Nat,(l.flatMap qb).length<=4 * l.length
 | []=>by simp
 | c :: r=>by
  have ih:=flatq_len r
  have:(qb c).length<=4:=by
   unfold qb
   split
   ·simp
   ·split
    ·simp
    ·split <;> simp
  rw [List.flatMap_cons,List.length_append,List.length_cons]
  omega
/-- the reference reads a text that is one as the value whose text it is -/
theorem rguess_text {v:Val} (hb:∀ c∈v.s,c<256) (h:may v=true):rguess (text v)=some v/\(text v).length<=258/\text v≠[]:=by
 obtain ⟨k,n,s⟩:=v
 simp only at hb
 unfold may at h
 simp only [Bool.or_eq_true,Bool.and_eq_true,beq_iff_eq,decide_eq_true_eq] at h
 rcases h with ⟨rfl,rfl,h1,h2⟩ | ⟨rfl,rfl,h1⟩
 ·obtain ⟨e1,e2,e3,e4⟩:=dec_itoa h1 h2
  unfold text
  rw [if_pos rfl]
  refine ⟨?_,e3,e4⟩
  unfold rguess
  rw [if_pos e2,e1];rfl
 ·unfold text
  rw [if_neg (show ¬ (2:Int)=1 by decide)]
  simp only
  by_cases hn:name s=true
  ·rw [if_pos hn]
   unfold name wordB at hn
   simp only [Bool.and_eq_true,decide_eq_true_eq] at hn
   obtain ⟨-,h3,h4,h5,h6⟩:=hn
   unfold Lx.small at h5
   simp only [Bool.and_eq_true] at h5
   have h51:97<=s.headD 0:=of_decide_eq_true h5.1
   refine ⟨?_,by omega,h3⟩
   unfold rguess
   rw [if_neg (by rw [digit_iff];omega),if_neg (by omega)]
  ·rw [if_neg hn]
   refine ⟨?_,?_,by unfold quoted;simp⟩
   ·unfold rguess
    have hh:(quoted s).headD 0=34:=rfl
    rw [hh,if_neg (by rw [digit_iff];omega),if_pos rfl,ruq_q s hb]
   ·have:=flatq_len s
    unfold quoted
    rw [List.length_cons,List.length_append,List.length_singleton]
    omega
end Go.Proofs.YtbfaclljbbfknaaGreatDoor.Va
namespace Go.Proofs.YtbfaclljbbfknaaGreatDoor.Pr
open Cod (str)
open Va (Val)
set_option linter.unusedSimpArgs false
set_option linter.unusedVariables false
structure Term where
 k:Int
 v:ByteArray
 x:Val
structure Atom where
 rel:ByteArray
 terms:List Term
inductive Ex where
 | mk (k:Int) (v:ByteArray) (x:Val) (op:Int) (args:List Ex)
inductive Li where
 | mk (k:Int) (atom:Atom) (op:Int) (left right:Ex) (fn:Int) (av:ByteArray) (of:Ex) (body:List Li) (line col:Int)
structure Rul where
 head:Atom
 body:List Li
 line:Int
 col:Int
structure Rel where
 name:ByteArray
 types:List Int
 line:Int
 col:Int
structure Prog where
 rels:List Rel
 rules:List Rul
def Ex.k:Ex->Int | .mk k _ _ _ _=>k
def Ex.v:Ex->ByteArray | .mk _ v _ _ _=>v
def Ex.x:Ex->Val | .mk _ _ x _ _=>x
def Ex.op:Ex->Int | .mk _ _ _ op _=>op
def Ex.args:Ex->List Ex | .mk _ _ _ _ args=>args
def strength (op:Int):Nat:=if op=1\/op=2 then 1 else if op=3\/op=4\/op=5 then 2 else if op=6 then 3 else 0
def binds (e:Ex):Nat:=if e.k=4 then strength e.op else 4
def sign (op:Int):List Nat:=if op=1 then [43] else if op=2 then [45] else if op=3 then [42] else if op=4 then [47] else [109,111,100]
/-- an expression's text; none: there is none. The first number: one more than the depth that is left -/
def pE:Nat->Ex->Option (List Nat)
 | 0,_=>none
 | k+1,e =>
  if e.k=1 then (if Va.variable_ (str e.v)=true/\e.x=Va.zero/\e.op=0/\e.args.length=0 then some (str e.v) else none)
  else if e.k=2 then (if e.v.size=0/\e.op=0/\e.args.length=0/\Va.may e.x=true then some (Va.text e.x) else none)
  else if e.k=4 then
   (if e.v.size=0/\e.x=Va.zero/\0<strength e.op then
    match k with
    | 0=>none
    | j+1 =>
     match e.args with
     | [a] =>
      if e.op=6 then
       (if binds a<3\/(a.k=2/\a.x.k=1/\0<a.x.n) then (pE j a).map (fun t=>40 :: (t++[41])) else pE (j+1) a).map
        (fun t=>45 :: ((if a.k=2/\a.x.k=1/\a.x.n=0 then [45] else [])++t))
      else none
     | [a,b] =>
      if e.op=6 then none else
      match (if binds a<strength e.op then (pE j a).map (fun t=>40 :: (t++[41])) else pE (j+1) a),(if binds b<=strength e.op then (pE j b).map (fun t=>40 :: (t++[41])) else pE (j+1) b) with
      | some l,some r=>some (l++(32 :: (sign e.op++(32 :: r))))
      | _,_=>none
     | _=>none
   else none)
  else none
/-- an operation's text -/
def pO:Nat->Ex->Option (List Nat)
 | 0,_=>none
 | j+1,e =>
  match e.args with
  | [a] =>
   if e.op=6 then
    (if binds a<3\/(a.k=2/\a.x.k=1/\0<a.x.n) then (pE j a).map (fun t=>40 :: (t++[41])) else pE (j+1) a).map
     (fun t=>45 :: ((if a.k=2/\a.x.k=1/\a.x.n=0 then [45] else [])++t))
   else none
  | [a,b] =>
   if e.op=6 then none else
   match (if binds a<strength e.op then (pE j a).map (fun t=>40 :: (t++[41])) else pE (j+1) a),(if binds b<=strength e.op then (pE j b).map (fun t=>40 :: (t++[41])) else pE (j+1) b) with
   | some l,some r=>some (l++(32 :: (sign e.op++(32 :: r))))
   | _,_=>none
  | _=>none
theorem pE_var (k:Nat) (e:Ex) (h:e.k=1):pE (k+1) e=if Va.variable_ (str e.v)=true/\e.x=Va.zero/\e.op=0/\e.args.length=0 then some (str e.v) else none:=by
 unfold pE;rw [if_pos h]
theorem pE_val (k:Nat) (e:Ex) (h:e.k=2):pE (k+1) e=if e.v.size=0/\e.op=0/\e.args.length=0/\Va.may e.x=true then some (Va.text e.x) else none:=by
 unfold pE;rw [if_neg (by omega),if_pos h]
theorem pE_op (k:Nat) (e:Ex) (h:e.k=4):pE (k+1) e=if e.v.size=0/\e.x=Va.zero/\0<strength e.op then pO k e else none:=by
 cases k with
 | zero=>unfold pE pO;rw [if_neg (by omega),if_neg (by omega),if_pos h]
 | succ j=>unfold pE pO;rw [if_neg (by omega),if_neg (by omega),if_pos h]
theorem pE_other (k:Nat) (e:Ex) (h1:e.k≠1) (h2:e.k≠2) (h3:e.k≠4):pE (k+1) e=none:=by
 unfold pE;rw [if_neg h1,if_neg h2,if_neg h3]
def seqO {α:Type}:List (Option α)->Option (List α)
 | []=>some []
 | o :: r=>match o,seqO r with | some a,some l=>some (a :: l) | _,_=>none
def commas (ls:List (List Nat)):List Nat:=[44,32].intercalate ls
def pT (t:Term):Option (List Nat) :=
 if t.k=1 then (if Va.variable_ (str t.v)=true/\t.x=Va.zero then some (str t.v) else none)
 else if t.k=2 then (if t.v.size=0/\Va.may t.x=true then some (Va.text t.x) else none)
 else if t.k=3 then (if t.v.size=0/\t.x=Va.zero then some [95] else none)
 else none
def pA (a:Atom):Option (List Nat) :=
 if Va.name (str a.rel)=true then (seqO (a.terms.map pT)).map (fun ls=>str a.rel++(40 :: (commas ls++[41]))) else none
def noExpr (e:Ex):Bool:=decide (e.k=0) && (decide (e.v.size=0) && (decide (e.x=Va.zero) && (decide (e.op=0) && decide (e.args.length=0))))
def lacks (k:Int) (a:Atom) (op:Int) (l r:Ex) (fn:Int) (av:ByteArray) (of:Ex) (n:Nat):Bool :=
 (decide (k=1\/k=2) || (decide (a.rel.size=0) && decide (a.terms.length=0))) &&
 ((decide (k=3) || (decide (op=0) && (noExpr l && noExpr r))) &&
 (decide (k=4) || (decide (fn=0) && (decide (av.size=0) && (noExpr of && decide (n=0))))))
def cmp (op:Int):List Nat:=if op=1 then [32,61,32] else if op=2 then [32,33,61,32] else if op=3 then [32,60,32] else if op=4 then [32,60,61,32] else if op=5 then [32,62,32] else [32,62,61,32]
def word (fn:Int):List Nat:=if fn=1 then [99,111,117,110,116] else if fn=2 then [115,117,109] else if fn=3 then [109,105,110] else [109,97,120]
/-- a literal's text; the number: how many braces may still be opened -/
def pL:Nat->Li->Option (List Nat)
 | b,.mk k a op l r fn av of body _ _ =>
  if lacks k a op l r fn av of body.length=true then
   if k=1 then pA a
   else if k=2 then (pA a).map (fun t=>[110,111,116,32]++t)
   else if k=3 then
    (if 1<=op/\op<=6 then
     match pE 17 l,pE 17 r with
     | some s,some t=>some (s++(cmp op++t))
     | _,_=>none
    else none)
   else if k=4 then
    match b with
    | 0=>none
    | c+1 =>
     if 1<=fn/\fn<=4/\body.length≠0/\Va.variable_ (str av)=true then
      match (if fn=1 then (if noExpr of=true then some [] else none) else (pE 17 of).map (fun t=>t++[32,58,32])),seqO (body.map (pL c)) with
      | some o,some ls=>some (str av++([32,61,32]++(word fn++([32,123,32]++(o++(commas ls++[32,125]))))))
      | _,_=>none
     else none
   else none
  else none
termination_by b _=>b
def pB (b:Nat) (l:List Li):Option (List Nat):=(seqO (l.map (pL b))).map commas
def pR (r:Rul):Option (List Nat) :=
 match pA r.head with
 | none=>none
 | some h=>if r.body.length=0 then some h else (pB 16 r.body).map (fun t=>h++([32,58,45,32]++t))
def pTy (t:Int):Option (List Nat):=if t=1 then some [110,117,109] else if t=2 then some [115,121,109] else none
def pD (x:Rel):Option (List Nat) :=
 if Va.name (str x.name)=true then (seqO (x.types.map pTy)).map (fun ls=>[114,101,108,97,116,105,111,110,32]++(str x.name++(40 :: (commas ls++[41])))) else none
def lines (ls:List (List Nat)):List Nat:=ls.flatMap (fun l=>l++[46,10])
def pP (p:Prog):Option (List Nat) :=
 match seqO (p.rels.map pD),seqO (p.rules.map pR) with
 | some a,some b=>some (lines a++lines b)
 | _,_=>none
theorem seqO_app {α:Type}:∀ (a b:List (Option α)),seqO (a++b)=match seqO a,seqO b with | some x,some y=>some (x++y) | _,_=>none
 | [],b=>by simp [seqO];cases seqO b <;> rfl
 | o :: r,b=>by
  rw [List.cons_append]
  simp only [seqO]
  rw [seqO_app r b]
  cases o <;> cases seqO r <;> cases seqO b <;> simp
theorem seqO_snoc {α:Type} (a:List (Option α)) (o:Option α):seqO (a++[o])=match seqO a,o with | some x,some y=>some (x++[y]) | _,_=>none:=by
 rw [seqO_app]
 cases seqO a <;> cases o <;> simp [seqO]
end Go.Proofs.YtbfaclljbbfknaaGreatDoor.Pr
