/- THE TEXTS MERGED: RfNext RfToks LxAlone SySq SyCutQ. -/
import Derived.Test.YtppigckioalhhaaGreatDoorRKT1
import Derived.Test.YtppigckioalhhaaGreatDoorRKT32
import Derived.Deep.RegionHeld3
import Derived.Deep.DeepCutAuto
import Derived.Test.YtppigckioalhhaaGreatDoorRKT7
namespace Go.Proofs.YtppigckioalhhaaGreatDoorR
open Go.RowKit
set_option linter.unusedVariables false
set_option linter.unusedSimpArgs false
set_option maxRecDepth 100000
def RNx (b:Nat) (s:ByteArray) (r:Lx.St × Option Lx.Tok) (w:World) (e:Ending) (w':World):Prop :=
  e=.returned (nextV r.2)/\∃ a',RsIs w' b s a' r.1/\Mod [b] w w'
theorem rs_code {w:World} {b a:Nat} {s:ByteArray} {x:Lx.St} (h:RsIs w b s a x) (er:Nat) :
    RsIs (w.setCell ⟨b,4,none⟩ (.int .i64 (er:Nat))) b s a { x with code:=er } :=
  ⟨(setCell_at h.at_ 4 _).trans (by simp [rsCells]),h.str,h.ain,h.long,h.size,h.lim⟩
theorem rs_fault {w:World} {b a:Nat} {s:ByteArray} {x:Lx.St} (h:RsIs w b s a x) (er:Nat) :
    RsIs (((w.setCell ⟨b,4,none⟩ (.int .i64 (er:Nat))).setCell ⟨b,5,none⟩ (.int .i64 (x.pos.1:Nat))).setCell ⟨b,6,none⟩ (.int .i64 (x.pos.2:Nat))) b s a { x with code:=er,fp:=x.pos } /\
    Mod [b] w (((w.setCell ⟨b,4,none⟩ (.int .i64 (er:Nat))).setCell ⟨b,5,none⟩ (.int .i64 (x.pos.1:Nat))).setCell ⟨b,6,none⟩ (.int .i64 (x.pos.2:Nat))) :=
  ⟨⟨(setCell_at (setCell_at (setCell_at h.at_ 4 _) 5 _) 6 _).trans (by simp [rsCells]),h.str,h.ain,h.long,h.size,h.lim⟩,
   (((Mod.refl [b] w).setCell (p:=⟨b,4,none⟩) (by simp) _).setCell (p:=⟨b,5,none⟩) (by simp) _).setCell (p:=⟨b,6,none⟩) (by simp) _⟩
theorem rs_fin {w:World} {b a:Nat} {s:ByteArray} {x:Lx.St} (h:RsIs w b s a x) :
    RsIs ((w.setCell ⟨b,7,none⟩ (.int .i64 (x.pos.1:Nat))).setCell ⟨b,8,none⟩ (.int .i64 (x.pos.2:Nat))) b s a { x with fin:=x.pos } /\
    Mod [b] w ((w.setCell ⟨b,7,none⟩ (.int .i64 (x.pos.1:Nat))).setCell ⟨b,8,none⟩ (.int .i64 (x.pos.2:Nat))) :=
  ⟨⟨(setCell_at (setCell_at h.at_ 7 _) 8 _).trans (by simp [rsCells]),h.str,h.ain,h.long,h.size,h.lim⟩,
   ((Mod.refl [b] w).setCell (p:=⟨b,7,none⟩) (by simp) _).setCell (p:=⟨b,8,none⟩) (by simp) _⟩
set_option maxHeartbeats 4000000 in
theorem rNext_any (b a:Nat) (s:ByteArray) (x:Lx.St) (w:World) (h:RsIs w b s a x) :
    Calls Tryz.prog 129 #[.pointer (some ⟨b,0,none⟩)] w (RNx b s (Lx.next x) w):=by
  have hB0:(w.alloc (Obj.cells (tokC zeroT) 74)).heap[w.heap.size]?=some (.cells (tokC zeroT) 74 (0,0)):=heap_alloc_new w _
  have hm0:Mod [] w (w.alloc (Obj.cells (tokC zeroT) 74)):=(Mod.refl [] w).alloc _
  have hz:(w.alloc (Obj.cells (tokC zeroT) 74))=w.alloc (Obj.cells #[Value.int IntKind.i64 0,Value.string ⟨#[]⟩,Value.int IntKind.i64 0,Value.int IntKind.i64 0,Value.string ⟨#[]⟩,Value.int IntKind.i64 0,Value.int IntKind.i64 0] 74):=rfl
  rw [hz] at hB0 hm0
  clear hz
  have hlt:=h.lt
  have hne:b≠w.heap.size:=by omega
  have hsz:=h.size
  have h1:=h.past hm0 (by simp)
  obtain ⟨c0,c1,c2,c3,c4,c5,c6,c7,c8⟩:=rs_cells h
  have fb:=h.free
  by_cases hcode:x.code=0
  · have hcI:((x.code:Int) != 0)=false:=by rw [hcode];rfl
    have HC:=Lib.hid hcode
    cases hlong:x.long
    · have hle:(s.size:Int)<=65536:=by
        have:=h.long
        rw [hlong] at this
        simp at this
        omega
      have HB:=Lib.hid hB0;have HM:=Lib.hid hm0;have H1:=Lib.hid h1;have HL:=Lib.hid hlong
      have hN:=Hxq (show Lx.next x=_ by unfold Lx.next;rw [if_neg (by omega),if_neg (by rw [hlong];decide)])
      clear hcode hB0 hm0 h1 hlong
      go_enter Tryz.func129,Tryz.ntmps129
      go_wp2_with fail
      refine (rSkip_any b a s x _ H1.out HL.out).mono ?_
      rintro e w2 ⟨rfl,h2,hm2⟩
      generalize a+Lx.skipN false x.s=q at h2
      have hB2:=hm2.at HB.out (by simp;omega)
      obtain ⟨q0,q1,q2,q3,q4,q5,q6⟩:=tok_cells hB2
      have fz:∀ j,w2.frozen? ⟨w.heap.size,j,none⟩=false:=fun j=>by simp [World.frozen?,hB2]
      have hm2':Mod [b] w w2:=(HM.out.mono (by simp)).trans hm2 (fun t ht=>.inl ht)
      clear hm2 c0 c1 c2 c3 c4 c5 c6 c7 c8 fb
      obtain ⟨c0,c1,c2,c3,c4,c5,c6,c7,c8⟩:=rs_cells h2
      have hs2:=hm2'.size
      have hlen2:=h2.len
      have hain:=h2.ain
      have hstr2:=h2.str
      by_cases hemp:x.skip.s=[]
      · have e:Hid (Lx.next x=(x.skip,none)):=Hxq (by rw [hN.out,if_pos hemp])
        have hqe:q=s.size:=by rw [hemp] at hlen2;simp at hlen2;omega
        have hge:(s.size:Int)<=(q:Int):=by omega
        have H2:=Lib.hid h2;have HM2:=Lib.hid hm2'
        clear hemp hstr2 h2 hlen2 hqe hm2'
        go_wp2_with fail
        go_quiet (fail)
        go_wp2_with fail
        have hB3:(w2.drewN nq).heap[w.heap.size]?=some (.cells (tokC zeroT) 74 (0,0)):=hB2
        refine bodyPost_ret (res_tok rfl _ _ _ _ _ _ _ rfl rfl (store_tok hB3 _ _ _ _ _ _ _) rfl) rfl ?_
        rw [e.out]
        refine ⟨rfl,q,H2.out.keep (S:=[w.heap.size]) ?_ (by simp;omega),mod_tok (HM2.out.drewN nq) (.inr (Nat.le_refl _)) _ _ _ _ _ _ _⟩
        exact mod_tok ((Mod.refl _ _).drewN nq) (by simp) _ _ _ _ _ _ _
      · have hpos:0<x.skip.s.length:=List.length_pos_iff.2 hemp
        have hqlt:q<s.size:=by omega
        have hltI:(q:Int)<(s.size:Int):=by omega
        have hq0:(0:Int)<=(q:Int):=by omega
        have hqle:(q:Int)<=(s.size:Int):=by omega
        have hxstr:Cod.str (s.extract q s.size)=x.skip.s:=by
          rw [Lx.str_extract,hstr2,List.take_of_length_le (by omega)]
        have hxsz:(s.extract q s.size).size=s.size - q:=by rw [ByteArray.size_extract];omega
        have hwd:=rWord_any (s.extract q s.size) (by omega) (by omega)
        rw [hxstr] at hwd
        cases hw:Lx.word x.skip.s with
        | bad er =>
          have hez:((er:Int) != 0)=true:=by have:=word_bad hw;rw [bne_iff_ne];omega
          have e:Hid (Lx.next x=({ x.skip with code:=er,fp:=x.skip.pos },none)):=Hxq (by rw [hN.out,if_neg hemp,hw])
          have HW:=Lib.hid hwd;have H2:=Lib.hid h2;have HM2:=Lib.hid hm2';have HWE:=Lib.hid hw
          clear hwd hw hemp hstr2 hlen2 hpos hxstr hxsz hqlt h2 hm2'
          go_wp2_with fail
          go_quiet (fail)
          go_upto_region 9 with fail
          have hmq:Mod [b] w (w2.drewN nq):=HM2.out.drewN nq
          have h3q:=H2.out.keep (S:=[]) ((Mod.refl [] w2).drewN nq) (by simp)
          have hB3:(w2.drewN nq).heap[w.heap.size]?=some (.cells (tokC zeroT) 74 (0,0)):=hB2
          have hs3:(w2.drewN nq).heap.size=w2.heap.size:=rfl
          clear c0 c1 c2 c3 c4 c5 c6 c7 c8 q0 q1 q2 q3 q4 q5 q6 fz
          generalize w2.drewN nq=w3 at *
          obtain ⟨c0,c1,c2,c3,c4,c5,c6,c7,c8⟩:=rs_cells h3q
          have hlb3:=h3q.lt
          have HMQ:=Lib.hid hmq;have HB3:=Lib.hid hB3
          clear hmq hB3
          have hne3:b≠w3.heap.size:=by omega
          have hw3:w.heap.size<w3.heap.size:=by rw [hs3];exact lt_of_block hB2
          clear hs3 hB2
          go_cut [4,5,6] (fun pv nv ev wx=>∃ (p:Nat) (t:Lx.Tok),pv=.pointer (some ⟨p,0,none⟩)/\nv=.int .i64 0/\ev=.int .i64 (er:Nat)/\w3.heap.size<=p/\wx.heap[p]?=some (.cells (tokC t) 74 (0,0))/\Mod [] w3 wx)
          case first =>
            have hzz:(w3.alloc (Obj.cells #[Value.int IntKind.i64 0,Value.string ⟨#[]⟩,Value.int IntKind.i64 0,Value.int IntKind.i64 0,Value.string ⟨#[]⟩,Value.int IntKind.i64 0,Value.int IntKind.i64 0] 74)).heap[w3.heap.size]?=some (.cells (tokC zeroT) 74 (0,0)):=heap_alloc_new w3 _
            have hnb:b∉[w3.heap.size]:=by simp;omega
            have d0:w3.drew.cell? ⟨b,0,none⟩=some (.string s):=c0
            have d1:w3.drew.cell? ⟨b,1,none⟩=some (.int .i64 (q:Nat)):=c1
            have k0:(w3.alloc (Obj.cells #[Value.int IntKind.i64 0,Value.string ⟨#[]⟩,Value.int IntKind.i64 0,Value.int IntKind.i64 0,Value.string ⟨#[]⟩,Value.int IntKind.i64 0,Value.int IntKind.i64 0] 74)).drew.cell? ⟨b,0,none⟩=some (.string s):=((Mod.refl [] w3).alloc _).cell c0 (by simp)
            have k1:(w3.alloc (Obj.cells #[Value.int IntKind.i64 0,Value.string ⟨#[]⟩,Value.int IntKind.i64 0,Value.int IntKind.i64 0,Value.string ⟨#[]⟩,Value.int IntKind.i64 0,Value.int IntKind.i64 0] 74)).drew.cell? ⟨b,1,none⟩=some (.int .i64 (q:Nat)):=((Mod.refl [] w3).alloc _).cell c1 (by simp)
            have HD0:=Lib.hid d0;have HD1:=Lib.hid d1;have HK0:=Lib.hid k0;have HK1:=Lib.hid k1;have HZZ:=Lib.hid hzz;have HNB:=Lib.hid hnb;have HC0:=Lib.hid c0;have HC1:=Lib.hid c1
            clear d0 d1 k0 k1 hzz hnb
            go_region_held3 (fun w'=>w'.cell? ⟨b,0,none⟩=some (.string s)/\w'.cell? ⟨b,1,none⟩=some (.int .i64 (q:Nat)))
              (first | with_reducible exact ⟨HD0.out,HD1.out⟩ | with_reducible exact ⟨HK0.out,HK1.out⟩ | with_reducible exact ⟨hmX.out.cell HC0.out HNB.out,hmX.out.cell HC1.out HNB.out⟩ | with_reducible exact ⟨(hmX.out.alloc _).cell HC0.out HNB.out,(hmX.out.alloc _).cell HC1.out HNB.out⟩ | with_reducible exact ⟨(mod_tok hmX.out (.inl (Msq.2 rfl)) _ _ _ _ _ _ _).cell HC0.out HNB.out,(mod_tok hmX.out (.inl (Msq.2 rfl)) _ _ _ _ _ _ _).cell HC1.out HNB.out⟩)
              ((go_at_call 138;refine (HW.out _).mono ?_;rintro e w4 ⟨hw4,hm4⟩;rw [HWE.out] at hw4;obtain ⟨tt,rfl⟩:=hw4;rw [tokC];(first | (have hb4:=hm4.at (drew_at HZZ.out) (by simp);have hmX:Hid (Mod [w3.heap.size] w3 w4):=Hxq (((Mod.refl [w3.heap.size] w3).alloc _).drew.trans hm4 (by simp));obtain ⟨z0,z1,z2,z3,z4,z5,z6⟩:=tok_cells (t:=zeroT) hb4;have fz4:∀ j,w4.frozen? ⟨w3.heap.size,j,none⟩=false:=fun j=>by simp [World.frozen?,hb4]) | (have hmX:Hid (Mod [w3.heap.size] w3 w4):=Hxq ((Mod.refl [w3.heap.size] w3).drew.trans hm4 (by simp))))))
            · go_wp2_with fail
              go_meet
              exact ⟨_,tt,rfl,rfl,rfl,hmX.out.size,heap_alloc_new w4 _,((Mod.refl [] w3).drew.trans hm4 (by simp)).alloc _⟩
            · go_wp2_with fail
              go_meet
              exact ⟨_,tt,rfl,rfl,rfl,Nat.le_refl _,store_tok hb4 _ _ _ _ _ _ _,mod_tok (((Mod.refl [] w3).alloc _).drew.trans hm4 (by simp)) (.inr (Nat.le_refl _)) _ _ _ _ _ _ _⟩
          case rest =>
            obtain ⟨p,t,rfl,rfl,rfl,hp,hP,hm5⟩:=hcut
            have h5:=h3q.past hm5 (by simp)
            have hB5:=hm5.at HB3.out (by simp)
            have hm5':=HMQ.out.trans hm5 (by simp)
            clear c0 c1 c2 c3 c4 c5 c6 c7 c8 h3q
            obtain ⟨c0,c1,c2,c3,c4,c5,c6,c7,c8⟩:=rs_cells h5
            obtain ⟨q0,q1,q2,q3,q4,q5,q6⟩:=tok_cells hB5
            have fz:∀ j,wc.frozen? ⟨w.heap.size,j,none⟩=false:=fun j=>by simp [World.frozen?,hB5]
            have fb:=h5.free
            have H5:=Lib.hid h5;have HM5:=Lib.hid hm5';have HB5:=Lib.hid hB5
            clear h5 hm5' hm5 hB5 hP
            go_wp2_with fail
            obtain ⟨h6,hm6⟩:=rs_fault H5.out er
            have hB6:=hm6.at HB5.out (by simp;omega)
            have hm6':=HM5.out.trans hm6 (fun t ht=>.inl ht)
            clear c0 c1 c2 c3 c4 c5 c6 c7 c8 q0 q1 q2 q3 q4 q5 q6 fz fb
            generalize (((wc.setCell ⟨b,4,none⟩ (.int .i64 (er:Nat))).setCell ⟨b,5,none⟩ (.int .i64 (x.skip.pos.1:Nat))).setCell ⟨b,6,none⟩ (.int .i64 (x.skip.pos.2:Nat)))=w6 at *
            refine bodyPost_ret (res_tok rfl _ _ _ _ _ _ _ rfl rfl (store_tok hB6 _ _ _ _ _ _ _) rfl) rfl ?_
            rw [e.out]
            refine ⟨rfl,q,?_,mod_tok hm6' (.inr (Nat.le_refl _)) _ _ _ _ _ _ _⟩
            exact h6.keep (S:=[w.heap.size]) (mod_tok (Mod.refl _ _) (by simp) _ _ _ _ _ _ _) (by simp;omega)
        | ok wd =>
          have hbx:∀ c∈x.skip.s,c<256:=by rw [<-hxstr];exact Cod.str_lt _
          obtain ⟨hw1,hw2,-⟩:=Lx.word_len hbx hemp hw
          have hwq:q+wd.n<=s.size:=by omega
          clear hbx
          have e:Hid (Lx.next x=({ x.skip with s:=x.skip.s.drop wd.n,pos:=Lx.adv x.skip.pos (x.skip.s.take wd.n),fin:=Lx.adv x.skip.pos (x.skip.s.take wd.n) },
              some ⟨wd.kind,x.skip.s.take wd.n,wd.vk,wd.num,wd.sym,x.skip.pos.1,x.skip.pos.2⟩)):=Hxq (by rw [hN.out,if_neg hemp,hw])
          have HW:=Lib.hid hwd;have H2:=Lib.hid h2;have HM2:=Lib.hid hm2';have HWE:=Lib.hid hw
          clear hwd hw hemp hstr2 hlen2 hpos hxstr hxsz hqlt h2 hm2'
          go_wp2_with fail
          go_quiet (fail)
          go_upto_region 9 with fail
          have hmq:Mod [b] w (w2.drewN nq):=HM2.out.drewN nq
          have h3q:=H2.out.keep (S:=[]) ((Mod.refl [] w2).drewN nq) (by simp)
          have hB3:(w2.drewN nq).heap[w.heap.size]?=some (.cells (tokC zeroT) 74 (0,0)):=hB2
          have hs3:(w2.drewN nq).heap.size=w2.heap.size:=rfl
          clear c0 c1 c2 c3 c4 c5 c6 c7 c8 q0 q1 q2 q3 q4 q5 q6 fz
          generalize w2.drewN nq=w3 at *
          obtain ⟨c0,c1,c2,c3,c4,c5,c6,c7,c8⟩:=rs_cells h3q
          have hlb3:=h3q.lt
          have HMQ:=Lib.hid hmq;have HB3:=Lib.hid hB3
          clear hmq hB3
          have hne3:b≠w3.heap.size:=by omega
          have hw3:w.heap.size<w3.heap.size:=by rw [hs3];exact lt_of_block hB2
          clear hs3 hB2
          go_cut [4,5,6] (fun pv nv ev wx=>∃ (p:Nat),pv=.pointer (some ⟨p,0,none⟩)/\nv=.int .i64 (wd.n:Nat)/\ev=.int .i64 0/\w3.heap.size<=p/\wx.heap[p]?=some (.cells (tokC (wdT x.skip.s wd)) 74 (0,0))/\Mod [] w3 wx)
          case first =>
            have hzz:(w3.alloc (Obj.cells #[Value.int IntKind.i64 0,Value.string ⟨#[]⟩,Value.int IntKind.i64 0,Value.int IntKind.i64 0,Value.string ⟨#[]⟩,Value.int IntKind.i64 0,Value.int IntKind.i64 0] 74)).heap[w3.heap.size]?=some (.cells (tokC zeroT) 74 (0,0)):=heap_alloc_new w3 _
            have hnb:b∉[w3.heap.size]:=by simp;omega
            have d0:w3.drew.cell? ⟨b,0,none⟩=some (.string s):=c0
            have d1:w3.drew.cell? ⟨b,1,none⟩=some (.int .i64 (q:Nat)):=c1
            have k0:(w3.alloc (Obj.cells #[Value.int IntKind.i64 0,Value.string ⟨#[]⟩,Value.int IntKind.i64 0,Value.int IntKind.i64 0,Value.string ⟨#[]⟩,Value.int IntKind.i64 0,Value.int IntKind.i64 0] 74)).drew.cell? ⟨b,0,none⟩=some (.string s):=((Mod.refl [] w3).alloc _).cell c0 (by simp)
            have k1:(w3.alloc (Obj.cells #[Value.int IntKind.i64 0,Value.string ⟨#[]⟩,Value.int IntKind.i64 0,Value.int IntKind.i64 0,Value.string ⟨#[]⟩,Value.int IntKind.i64 0,Value.int IntKind.i64 0] 74)).drew.cell? ⟨b,1,none⟩=some (.int .i64 (q:Nat)):=((Mod.refl [] w3).alloc _).cell c1 (by simp)
            have HD0:=Lib.hid d0;have HD1:=Lib.hid d1;have HK0:=Lib.hid k0;have HK1:=Lib.hid k1;have HZZ:=Lib.hid hzz;have HNB:=Lib.hid hnb;have HC0:=Lib.hid c0;have HC1:=Lib.hid c1
            clear d0 d1 k0 k1 hzz hnb
            go_region_held3 (fun w'=>w'.cell? ⟨b,0,none⟩=some (.string s)/\w'.cell? ⟨b,1,none⟩=some (.int .i64 (q:Nat)))
              (first | with_reducible exact ⟨HD0.out,HD1.out⟩ | with_reducible exact ⟨HK0.out,HK1.out⟩ | with_reducible exact ⟨hmX.out.cell HC0.out HNB.out,hmX.out.cell HC1.out HNB.out⟩ | with_reducible exact ⟨(hmX.out.alloc _).cell HC0.out HNB.out,(hmX.out.alloc _).cell HC1.out HNB.out⟩ | with_reducible exact ⟨(mod_tok hmX.out (.inl (Msq.2 rfl)) _ _ _ _ _ _ _).cell HC0.out HNB.out,(mod_tok hmX.out (.inl (Msq.2 rfl)) _ _ _ _ _ _ _).cell HC1.out HNB.out⟩)
              ((go_at_call 138;refine (HW.out _).mono ?_;rintro e w4 ⟨hw4,hm4⟩;rw [HWE.out] at hw4;obtain rfl:=hw4;rw [tokC];(first | (have hb4:=hm4.at (drew_at HZZ.out) (by simp);have hmX:Hid (Mod [w3.heap.size] w3 w4):=Hxq (((Mod.refl [w3.heap.size] w3).alloc _).drew.trans hm4 (by simp));obtain ⟨z0,z1,z2,z3,z4,z5,z6⟩:=tok_cells (t:=zeroT) hb4;have fz4:∀ j,w4.frozen? ⟨w3.heap.size,j,none⟩=false:=fun j=>by simp [World.frozen?,hb4]) | (have hmX:Hid (Mod [w3.heap.size] w3 w4):=Hxq ((Mod.refl [w3.heap.size] w3).drew.trans hm4 (by simp))))))
            · go_wp2_with fail
              go_meet
              exact ⟨_,rfl,rfl,rfl,hmX.out.size,heap_alloc_new w4 _,((Mod.refl [] w3).drew.trans hm4 (by simp)).alloc _⟩
            · go_wp2_with fail
              go_meet
              exact ⟨_,rfl,rfl,rfl,Nat.le_refl _,store_tok hb4 _ _ _ _ _ _ _,mod_tok (((Mod.refl [] w3).alloc _).drew.trans hm4 (by simp)) (.inr (Nat.le_refl _)) _ _ _ _ _ _ _⟩
          case rest =>
            obtain ⟨p,rfl,rfl,rfl,hp,hP,hm5⟩:=hcut
            have h5:=h3q.past hm5 (by simp)
            have hB5:=hm5.at HB3.out (by simp)
            have hm5':=HMQ.out.trans hm5 (by simp)
            clear c0 c1 c2 c3 c4 c5 c6 c7 c8 h3q
            obtain ⟨c0,c1,c2,c3,c4,c5,c6,c7,c8⟩:=rs_cells h5
            obtain ⟨t0,t1,t2,t3,t4,t5,t6⟩:=tok_cells hP
            have fp:∀ j,wc.frozen? ⟨p,j,none⟩=false:=fun j=>by simp [World.frozen?,hP]
            have hpb:p≠b:=by omega
            have hpw:p≠w.heap.size:=by omega
            have hpbI:b≠p:=by omega
            have H5:=Lib.hid h5;have HM5:=Lib.hid hm5';have HB5:=Lib.hid hB5;have HP:=Lib.hid hP
            clear h5 hm5' hm5 hB5 hP
            go_wp2_with fail
            have hst:=setCell_at (setCell_at HP.out 5 (.int .i64 (x.skip.pos.1:Nat))) 6 (.int .i64 (x.skip.pos.2:Nat))
            have hmt:Mod [p] wc ((wc.setCell ⟨p,5,none⟩ (.int .i64 (x.skip.pos.1:Nat))).setCell ⟨p,6,none⟩ (.int .i64 (x.skip.pos.2:Nat))):=((Mod.refl [p] wc).setCell (p:=⟨p,5,none⟩) (by simp) _).setCell (p:=⟨p,6,none⟩) (by simp) _
            have h6:=H5.out.keep hmt (by simp;omega)
            have hB6:=hmt.at HB5.out (by simp;omega)
            have hm6:Mod [b] w _:=HM5.out.trans hmt (fun t ht=>.inr (by simp at ht;omega))
            clear hmt t0 t1 t2 t3 t4 t5 t6 fp c0 c1 c2 c3 c4 c5 c6 c7 c8
            generalize ((wc.setCell ⟨p,5,none⟩ (.int .i64 (x.skip.pos.1:Nat))).setCell ⟨p,6,none⟩ (.int .i64 (x.skip.pos.2:Nat)))=w6 at *
            obtain ⟨tt,htt⟩:∃ tt:Lx.Tok,tt=⟨wd.kind,x.skip.s.take wd.n,wd.vk,wd.num,wd.sym,x.skip.pos.1,x.skip.pos.2⟩:=⟨_,rfl⟩
            have hst':w6.heap[p]?=some (.cells (tokC tt) 74 (0,0)):=hst.trans (by rw [htt];simp [tokC,wdT])
            rw [<-htt] at e
            have hnb:wd.n<=65536:=by omega
            have HST:=Lib.hid hst';have HB6:=Lib.hid hB6;have HM6:=Lib.hid hm6;have H6:=Lib.hid h6
            clear hst hst' hB6 hm6 h6 htt
            go_loopw [7] (fun i wr=>∃ (k:Nat),k<=wd.n/\i=.int .i64 (k:Int)/\RsIs wr b s (q+k) (St.at x.skip k)/\Mod [b] w6 wr) (fun i _=>wd.n - (intOf i).toNat)
            case atStart=>exact ⟨0,Nat.zero_le _,rfl,by simpa [St.at,Lx.adv] using H6.out,Mod.refl _ _⟩
            case round =>
              obtain ⟨k,hk,rfl,hR,hmr⟩:=hrel
              by_cases hlt:k<wd.n
              · have hltI:(k:Int)<(wd.n:Int):=by omega
                have hat:St.at (St.at x.skip k) 1=St.at x.skip (k+1):=St.at_at _ _ _
                have hstep:=rStep_any b (q+k) s (St.at x.skip k) wr hR (by omega) HL.out
                rw [hat] at hstep
                have HS:=Lib.hid hstep
                clear hstep hat hR
                go_wp2_with fail
                refine HS.out.mono ?_
                rintro e w7 ⟨rfl,hS7,hm7⟩
                go_wp2_with fail
                go_roundw
                case rel=>exact ⟨k+1,by omega,by go_num,hS7,hmr.trans hm7 (fun t ht=>.inl ht)⟩
                case measure=>simp [intOf];omega
              · obtain rfl:k=wd.n:=by omega
                obtain ⟨c0,c1,c2,c3,c4,c5,c6,c7,c8⟩:=rs_cells hR
                have fb:=hR.free
                have hT7:=hmr.at HST.out (by simp;omega)
                obtain ⟨t0,t1,t2,t3,t4,t5,t6⟩:=tok_cells hT7
                have hB7:=hmr.at HB6.out (by simp;omega)
                obtain ⟨q0,q1,q2,q3,q4,q5,q6⟩:=tok_cells hB7
                have fz:∀ j,wr.frozen? ⟨w.heap.size,j,none⟩=false:=fun j=>by simp [World.frozen?,hB7]
                have hm7:=HM6.out.trans hmr (fun t ht=>.inl ht)
                have HR:=Lib.hid hR;have HB7:=Lib.hid hB7;have HM7:=Lib.hid hm7
                clear hR hB7 hm7 hT7 hmr
                go_wp2_with fail
                obtain ⟨h8,hm8⟩:=rs_fin HR.out
                have hB8:=hm8.at HB7.out (by simp;omega)
                have hm8':=HM7.out.trans hm8 (fun t ht=>.inl ht)
                clear c0 c1 c2 c3 c4 c5 c6 c7 c8 q0 q1 q2 q3 q4 q5 q6 fz fb t0 t1 t2 t3 t4 t5 t6
                generalize ((wr.setCell ⟨b,7,none⟩ (.int .i64 ((St.at x.skip wd.n).pos.1:Nat))).setCell ⟨b,8,none⟩ (.int .i64 ((St.at x.skip wd.n).pos.2:Nat)))=w8 at *
                refine bodyPost_ret (res_tok rfl _ _ _ _ _ _ _ rfl rfl (store_tok hB8 _ _ _ _ _ _ _) rfl) rfl ?_
                rw [e.out]
                refine ⟨rfl,q+wd.n,?_,mod_tok hm8' (.inr (Nat.le_refl _)) _ _ _ _ _ _ _⟩
                exact h8.keep (S:=[w.heap.size]) (mod_tok (Mod.refl _ _) (by simp) _ _ _ _ _ _ _) (by simp;omega)
    · have hgt:(65536:Int)<(s.size:Int):=by
        have:=h.long
        rw [hlong] at this
        simp at this
        omega
      have e:Hid (Lx.next x=({ x with code:=2 },none)):=Hxq (by unfold Lx.next;rw [if_neg (by omega),if_pos hlong])
      have H1:=Lib.hid h1;have HB:=Lib.hid hB0;have HM:=Lib.hid hm0;have H:=Lib.hid h
      clear h1 hB0 hm0 hcode
      go_enter Tryz.func129,Tryz.ntmps129
      go_wp2_with fail
      have ha:=alloc_at (w0:=w.setCell ⟨b,4,none⟩ (.int .i64 2)) (Obj.cells (tokC zeroT) 74) (size_setCell _ _ _)
      refine bodyPost_ret (res_tok rfl _ _ _ _ _ _ _ rfl rfl ha rfl) rfl ?_
      rw [e.out]
      exact ⟨rfl,a,(rs_code H.out 2).past ((Mod.refl [] _).alloc _) (by simp),((Mod.refl [b] w).setCell (p:=⟨b,4,none⟩) (by simp) _).alloc _⟩
  · have hcI:((x.code:Int) != 0)=true:=by rw [bne_iff_ne];omega
    have e:Hid (Lx.next x=(x,none)):=Hxq (by unfold Lx.next;rw [if_pos hcode])
    have H1:=Lib.hid h1;have HB:=Lib.hid hB0;have HM:=Lib.hid hm0
    clear h1 hB0 hm0 hcode
    go_enter Tryz.func129,Tryz.ntmps129
    go_wp2_with fail
    refine bodyPost_ret (res_tok rfl _ _ _ _ _ _ _ rfl rfl HB.out rfl) rfl ?_
    rw [e.out]
    exact ⟨rfl,a,H1.out,HM.out.mono (by simp)⟩
theorem rNew_any (s:ByteArray) (hs:s.size<=140737488355328) (w:World) :
  Calls Tryz.prog 128 #[.string s] w fun e w'=>∃ b,e=.returned (.pointer (some ⟨b,0,none⟩))/\RsIs w' b s 0 (Lx.start (Cod.str s))/\w.heap.size<=b/\Mod [] w w':=by
 go_enter Tryz.func128,Tryz.ntmps128
 go_wp2
 go_ret
 refine ⟨_,rfl,⟨?_,by simp [Lx.start],by omega,by simp [Lx.start,Cod.str_len],hs,fun hl=>?_⟩,?_,((Mod.refl [] w).alloc _).alloc _⟩
 ·refine (alloc_at _ (by simp)).trans ?_
  simp [rsCells,Lx.start]
 ·simp only [Lx.start,decide_eq_false_iff_not,Cod.str_len] at hl ⊢
  omega
 ·simp
/-- what Given answers -/
def GivR (l:List Nat) (w:World) (e:Ending) (w':World):Prop :=
 ∃ v,e=.returned (.tuple #[v,.agg (faultV (Lx.given l).2)])/\TokRow w' w.heap.size v (Lx.given l).1/\Mod [] w w'
/-- the loop over all words: what it holds -/
structure GLoop (l:List Nat) (w wr:World) (b a:Nat) (va:Option Addr) (vc:Nat) (acc:List Lx.Tok) (x:Lx.St) (k gk:Nat) (s:ByteArray):Prop where
 row:TokRow wr (w.heap.size+1) (.slice va acc.length vc) acc
 sc:RsIs wr b s a x
 bv:b∉fp (.slice va acc.length vc)
 bw:w.heap.size<b
 all:Lx.given l=(acc++(Lx.allF k x).1,(Lx.allF k x).2)
 lim:x.long=false->acc.length+x.s.length<=65536
 kk:x.s.length+1<=k/\x.s.length+1<=gk
 byte:∀ c∈x.s,c<256
 flt:wr.heap[w.heap.size]?=some (.cells #[Value.int IntKind.i64 0,Value.int IntKind.i64 0,Value.int IntKind.i64 0] 31 (0,0))
 mod:Mod [] w wr
set_option maxHeartbeats 4000000 in
theorem rGiven_any (s:ByteArray) (hs:s.size<=140737488355328) (w:World) :
  Calls Tryz.prog 105 #[.string s] w (GivR (Cod.str s) w):=by
 obtain ⟨i0,hinf,hz0,hz1,hz2⟩:=info_parts Tryz.infoTok
 obtain ⟨l,hl⟩:∃ l,l=Cod.str s:=⟨_,rfl⟩
 have hlb:∀ c∈l,c<256:=by rw [hl];exact Cod.str_lt s
 rw [<-hl]
 have HL:=Lib.hid hl;have HB:=Lib.hid hlb
 clear hl hlb
 go_enter Tryz.func105,Tryz.ntmps105
 go_wp2_with fail
 refine (rNew_any s hs _).mono ?_
 rintro e w1 ⟨b,rfl,h1,hb1,hm1⟩
 rw [<-HL.out] at h1
 have hm0:=(Mod.refl [] w).alloc (Obj.cells #[Value.int IntKind.i64 0,Value.int IntKind.i64 0,Value.int IntKind.i64 0] 31)
 have hF0:=heap_alloc_new w (Obj.cells #[Value.int IntKind.i64 0,Value.int IntKind.i64 0,Value.int IntKind.i64 0] 31)
 have hm1':=hm0.trans hm1 (by simp)
 have hF1:=hm1.at hF0 (by simp)
 have hbw:w.heap.size<b:=by simp at hb1;omega
 have hT0:Hid (GLoop l w w1 b 0 none 0 [] (Lx.start l) (l.length+1) (l.length+1) s):=Lib.hid ⟨TokRow.nil _ _,h1,by simp [fp],hbw,by simp [Lx.given],fun hl=>by simp [Lx.start] at hl ⊢;omega,by simp [Lx.start],HB.out,hF1,hm1'⟩
 clear hF0 hF1 h1 hm1 hm0 hm1'
 go_wp2_with fail
 go_loopg [5,6,7] (l.length+1) (fun gk bv tv kv wr=>∃ (va:Option Addr) (vc a k:Nat) (acc:List Lx.Tok) (x:Lx.St),bv=.slice va acc.length vc/\GLoop l w wr b a va vc acc x k gk s)
 case atStart=>exact ⟨none,0,0,l.length+1,[],Lx.start l,rfl,hT0.out⟩
 case round =>
  obtain ⟨va,vc,a,k,acc,x,rfl,hT⟩:=hrel
  obtain ⟨k',rfl⟩:∃ k',k=k'+1:=⟨k - 1,by have:=hT.kk;omega⟩
  have hall:=hT.all
  rw [allF_succ] at hall
  have hF:=hT.flt
  have hnx:=rNext_any b a s x wr hT.sc
  have hbl:=hT.sc.lt
  cases hn:Lx.next x with
  | mk y o =>
   rw [hn] at hall hnx
   cases o with
   | none =>
    simp only [rest,List.append_nil] at hall
    have HT:=Lib.hid hT;have HA:=Lib.hid hall;have HX:=Lib.hid hnx;have HN:=Lib.hid hn
    have hbw2:=hT.bw
    clear hT hall hnx hn hT0
    go_wp2_with fail
    refine HX.out.mono ?_
    rintro e w2 ⟨rfl,a2,h2,hm2⟩
    rw [nextV,tokC]
    have hF2:=hm2.at hF (by simp;omega)
    have hsz2:=hm2.size
    have hb2:=h2.lt
    obtain ⟨c0,c1,c2,c3,c4,c5,c6,c7,c8⟩:=rs_cells h2
    have fz:∀ j,w2.frozen? ⟨w.heap.size,j,none⟩=false:=fun j=>by simp [World.frozen?,hF2]
    have f0:w2.cell? ⟨w.heap.size,0,none⟩=some (.int .i64 0):=by simp [World.cell?,hF2]
    have f1:w2.cell? ⟨w.heap.size,1,none⟩=some (.int .i64 0):=by simp [World.cell?,hF2]
    have f2:w2.cell? ⟨w.heap.size,2,none⟩=some (.int .i64 0):=by simp [World.cell?,hF2]
    have hne1:b≠w2.heap.size:=by omega
    have hwlt:w.heap.size<w2.heap.size:=by omega
    have hne2:w.heap.size≠w2.heap.size:=by omega
    have hne3:b≠w.heap.size:=by omega
    have H2:=Lib.hid h2;have HM2:=Lib.hid hm2;have HF2:=Lib.hid hF2
    clear h2 hm2 hF2 hF
    go_wp2_with fail
    go_region
    go_wp2_with fail
    have hMw:Mod [] w w2:=HT.out.mod.trans HM2.out (fun t ht=>.inr (by simp at ht;omega))
    refine bodyPost_ret (res_toks rfl _ _ _ _ _ _ _ rfl rfl (drew_at (((Mod.refl [] _).alloc _).at (store3 HF2.out _ _ _) (by simp))) rfl) rfl ?_
    refine ⟨_,by rw [HA.out];rfl,?_,((mod3 hMw (.inr (Nat.le_refl _)) _ _ _).alloc _).drew⟩
    rw [HA.out]
    have hMb:Mod [b,w.heap.size] wr w2:=HM2.out.mono (fun t ht=>.inl (by simp at ht;simp [ht]))
    refine (HT.out.row.keep (S:=[b,w.heap.size]) ((mod3 hMb (.inl (by simp)) _ _ _).alloc _).drew (fun k hk=>?_)).base (by omega)
    have h1:=HT.out.row.new k hk
    have h2:k≠b:=fun h=>HT.out.bv (h ▸ hk)
    simp
    exact ⟨h2,by omega⟩
   | some t =>
    obtain ⟨hd1,hd2,hd3,hd4⟩:=next_len hT.byte hn
    have hbx:=next_bytes hT.byte
    rw [hn] at hbx
    have hlim:=hT.lim hd3
    have hkk:=hT.kk
    have hbw2:=hT.bw
    simp only [rest] at hall
    have HT:=Lib.hid hT;have HA:=Lib.hid hall;have HX:=Lib.hid hnx;have HBX:=Lib.hid hbx
    clear hT hall hnx hn hT0 hbx
    go_wp2_with fail
    refine HX.out.mono ?_
    rintro e w2 ⟨rfl,a2,h2,hm2⟩
    rw [nextV]
    have hF2:=hm2.at hF (by simp;omega)
    have hsz2:=hm2.size
    have hb2:=h2.lt
    have hrow2:TokRow w2 (w.heap.size+1) (.slice va acc.length vc) acc:=HT.out.row.keep hm2 (fun k hk=>by simp;rintro rfl;exact HT.out.bv hk)
    have hMw:Mod [] w w2:=HT.out.mod.trans hm2 (fun t ht=>.inr (by simp at ht;omega))
    have hbv:=HT.out.bv
    have ha:=(Mod.refl [] w2).alloc (Obj.cells (tokC t) 74)
    have hbox:=heap_alloc_new w2 (Obj.cells (tokC t) 74)
    have h3:=h2.past ha (by simp)
    have hF3:=ha.at hF2 (by simp)
    have hrow3:=hrow2.past ha (by simp)
    have hMw3:=hMw.trans ha (by simp)
    have hbx3:w2.heap.size<(w2.alloc (Obj.cells (tokC t) 74)).heap.size:=by simp
    have hb3:=h3.lt
    clear h2 hF2 hrow2 hMw ha hm2 hF
    rw [tokC]
    go_upto_region 6 with fail
    change Code.wp _ _ _ _ (w2.alloc (Obj.cells (tokC t) 74))
    have hp2:w2.heap.size∉fp (.slice va acc.length vc):=fun h=>by have:=hrow3.new _ h;have:=fp_lt HT.out.row.row _ h;omega
    have hpb:w2.heap.size≠b:=by omega
    have hwp:w.heap.size<w2.heap.size:=by omega
    generalize w2.alloc (Obj.cells (tokC t) 74)=w3 at *
    generalize w2.heap.size=p at *
    obtain ⟨t0',t1,t2,t3,t4,t5,t6⟩:=tok_cells hbox
    have hown:=hrow3.row
    have hfn:=hrow3.new
    have hbox':=heap_alloc_new w3 (Obj.cells (tokC t) 74)
    have hsrc:=src_tok hbox'
    have H3:=Lib.hid h3;have HF3:=Lib.hid hF3;have HM3:=Lib.hid hMw3;have HBO:=Lib.hid hbox
    have hszw:=hMw3.size
    clear h3 hF3 hMw3 hrow3 hbox
    go_wp2_with (at_builtin;refine wpList_append_src _ rfl _ _ 69 69 rfl 74 i0 (.agg (tokC zeroT)) 7 72 Tryz.underlying69 hinf hz0 hz1 hz2 rfl (.slice va acc.length vc) acc.length (tokCells acc) rfl (hown.alloc _) _ 1 (tokC t).toList rfl hsrc (by unfold maxLen;omega) (by omega) ?_)
    intro v' w4 hown4 hm4 hf4 hn4
    obtain ⟨va4,vc4,rfl⟩:=owns_slice hown4
    have hma:Mod [] w3 (w3.alloc (Obj.cells (tokC t) 74)):=(Mod.refl [] w3).alloc _
    have hm4r:Mod (fp (.slice va acc.length vc)) w3 w4:=(hma.mono (by simp)).trans hm4 (fun t ht=>.inl ht)
    have hlen:acc.length+1=(acc++[t]).length:=by simp
    have hcl:tokCells acc++(tokC t).toList=tokCells (acc++[t]):=by rw [tokCells_append];simp [tokCells]
    rw [hcl,hlen] at hown4
    have hf4':∀ k∈fp (.slice va4 (acc.length+1) vc4),w.heap.size+1<=k/\(k∈fp (.slice va acc.length vc)\/w3.heap.size<=k):=fun k hk=>by
     rcases hf4 k hk with h | h
     ·exact ⟨hfn k h,.inl h⟩
     ·first | exact ⟨by omega,.inr (by omega)⟩ | (simp at h;exact ⟨by omega,.inr (by omega)⟩)
    have h4:=H3.out.keep hm4r hbv
    have hF4:=hm4r.at HF3.out (fun h=>by have:=hfn _ h;omega)
    have hm4w:Mod [] w w4:=HM3.out.trans hm4r (fun t ht=>.inr (by have:=hfn t ht;omega))
    rw [hlen] at hf4'
    have HO4:=Lib.hid hown4;have HF4':=Lib.hid hf4';have H4:=Lib.hid h4;have HF4:=Lib.hid hF4;have HM4:=Lib.hid hm4w
    clear hown4 hf4' hcl hm4 hn4 hf4 hown hsrc hbox' hma hm4r t0' t1 t2 t3 t4 t5 t6 h4 hF4 hm4w
    go_wp2_with fail
    go_roundg (x.s.length)
    case measure=>omega
    case rel =>
     refine ⟨va4,vc4,a2,k',acc++[t],y,by rw [<-hlen],⟨TokRow.mk HO4.out (fun k hk=>(HF4'.out k hk).1),H4.out,fun hk=>?_,hbw2,?_,fun _=>?_,?_,HBX.out,HF4.out,HM4.out⟩⟩
     ·rcases (HF4'.out b hk).2 with h | h
      ·exact hbv h
      ·omega
     ·rw [HA.out];simp
     ·rw [List.length_append];simp only [List.length_cons,List.length_nil];omega
     ·omega
end Go.Proofs.YtppigckioalhhaaGreatDoorR
namespace Go.Proofs.YtppigckioalhhaaGreatDoorR.Lx
set_option linter.unusedSimpArgs false
set_option linter.unusedVariables false
/-- is nothing there but blanks and remarks? -/
def bare:Bool->List Nat->Bool
 | _,[]=>true
 | r,c :: t=>if c=10 then bare false t else if c=35 then bare true t else if !r && (c != 32 && (c != 9 && c != 13)) then false else bare r t
theorem run_all (p:Nat->Bool) (s:List Nat):∀ c∈s.take (run p s),p c=true:=by
 unfold run
 induction s with
 | nil=>simp
 | cons c t ih =>
  rw [List.takeWhile_cons]
  split
  ·rename_i hc
   intro d hd
   simp only [List.length_cons,List.take_succ_cons,List.mem_cons] at hd
   rcases hd with rfl | hd
   ·exact hc
   ·exact ih d hd
  ·simp
/-- a name begins with a small letter -/
theorem word_name {s:List Nat} {w:Wd} (h:word s=.ok w) (hk:w.kind=1):small (s.headD 0)=true:=by
 unfold word at h
 split at h
 ·rename_i hc
  split at h
  ·simp at h
  ·simp at h;subst h
   simp only at hk
   rw [Bool.or_eq_true] at hc
   rcases hc with hc | hc
   ·exact hc
   ·simp at hk hc;simp [hc] at hk
 ·split at h
  ·split at h <;> simp at h
   subst h;simp at hk
  ·split at h
   ·split at h <;> simp at h
    subst h;simp at hk
   ·split at h <;> simp at h
    subst h;simp at hk
end Go.Proofs.YtppigckioalhhaaGreatDoorR.Lx
namespace Go.Proofs.YtppigckioalhhaaGreatDoorR.Sy
open Lx (Tok adv)
set_option linter.unusedVariables false
set_option linter.unusedSimpArgs false
theorem list_rev {P:List Nat->Prop} (h0:P []) (h1:∀ l c,P l->P (l++[c])) (l:List Nat):P l:=by
 have:∀ (r:List Nat),P r.reverse:=by
  intro r
  induction r with
  | nil=>exact h0
  | cons c t ih=>rw [List.reverse_cons];exact h1 _ _ ih
 have h:=this l.reverse
 rwa [List.reverse_reverse] at h
theorem eot_adv (s:List Nat):eot s=adv (1,1) s:=by
 refine list_rev (P:=fun s=>eot s=adv (1,1) s) rfl (fun l c ih=>?_) s
 rw [Lx.adv_append,<-ih]
 unfold eot
 by_cases hc:c=10
 ·subst hc
  simp [adv]
  omega
 ·simp [adv,hc]
  omega
end Go.Proofs.YtppigckioalhhaaGreatDoorR.Sy
