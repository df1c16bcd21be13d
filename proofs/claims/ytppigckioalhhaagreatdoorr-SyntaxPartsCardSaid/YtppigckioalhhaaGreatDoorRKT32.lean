/- THE TEXTS MERGED: RfScan RfSkip. -/
import Derived.Test.YtppigckioalhhaaGreatDoorRKT1
import Derived.Test.YtppigckioalhhaaGreatDoorRKT31
namespace Go.Proofs.YtppigckioalhhaaGreatDoorR
open Go.RowKit
set_option linter.unusedVariables false
set_option linter.unusedSimpArgs false
set_option maxRecDepth 100000
def rsCells (s:ByteArray) (a:Nat) (x:Lx.St):Array Value :=
 #[.string s,.int .i64 (a:Nat),.int .i64 (x.pos.1:Nat),.int .i64 (x.pos.2:Nat),.int .i64 (x.code:Nat),.int .i64 (x.fp.1:Nat),.int .i64 (x.fp.2:Nat),.int .i64 (x.fin.1:Nat),.int .i64 (x.fin.2:Nat)]
structure RsIs (w:World) (b:Nat) (s:ByteArray) (a:Nat) (x:Lx.St):Prop where
 at_:w.heap[b]?=some (.cells (rsCells s a x) 195 (0,0))
 str:(Cod.str s).drop a=x.s
 ain:a<=s.size
 long:x.long=decide (65536<s.size)
 size:s.size<=140737488355328
 lim:x.long=false->x.pos.1+2 * x.s.length<=200000/\x.pos.2+2 * x.s.length<=200000
theorem RsIs.lt {w:World} {b a:Nat} {s:ByteArray} {x:Lx.St} (h:RsIs w b s a x):b<w.heap.size:=lt_of_block h.at_
theorem RsIs.free {w:World} {b a:Nat} {s:ByteArray} {x:Lx.St} (h:RsIs w b s a x) (i:Nat):w.frozen? ⟨b,i,none⟩=false:=by simp [World.frozen?,h.at_]
theorem RsIs.keep {S:List Nat} {w w':World} {b a:Nat} {s:ByteArray} {x:Lx.St} (h:RsIs w b s a x) (hm:Mod S w w') (hb:b∉S):RsIs w' b s a x :=
 ⟨hm.at h.at_ hb,h.str,h.ain,h.long,h.size,h.lim⟩
theorem RsIs.past {S:List Nat} {w w':World} {b a:Nat} {s:ByteArray} {x:Lx.St} (h:RsIs w b s a x) (hm:Mod S w w') (hS:∀ t∈S,w.heap.size<=t):RsIs w' b s a x :=
 h.keep hm (fun hb=>by have:=hS b hb;have:=h.lt;omega)
theorem RsIs.len {w:World} {b a:Nat} {s:ByteArray} {x:Lx.St} (h:RsIs w b s a x):x.s.length=s.size - a:=by rw [<-h.str,List.length_drop,Cod.str_len]
theorem rs_cells {w:World} {b a:Nat} {s:ByteArray} {x:Lx.St} (h:RsIs w b s a x) :
  w.cell? ⟨b,0,none⟩=some (.string s)/\w.cell? ⟨b,1,none⟩=some (.int .i64 (a:Nat))/\w.cell? ⟨b,2,none⟩=some (.int .i64 (x.pos.1:Nat))/\w.cell? ⟨b,3,none⟩=some (.int .i64 (x.pos.2:Nat))/\w.cell? ⟨b,4,none⟩=some (.int .i64 (x.code:Nat)) /\
  w.cell? ⟨b,5,none⟩=some (.int .i64 (x.fp.1:Nat))/\w.cell? ⟨b,6,none⟩=some (.int .i64 (x.fp.2:Nat))/\w.cell? ⟨b,7,none⟩=some (.int .i64 (x.fin.1:Nat))/\w.cell? ⟨b,8,none⟩=some (.int .i64 (x.fin.2:Nat)):=by
 simp [World.cell?,h.at_,rsCells]
theorem rStep_any (b a:Nat) (s:ByteArray) (x:Lx.St) (w:World) (h:RsIs w b s a x) (ha:a<s.size) (hl:x.long=false) :
  Calls Tryz.prog 139 #[.pointer (some ⟨b,0,none⟩)] w fun e w'=>e=.returned (.tuple #[])/\RsIs w' b s (a+1) (St.at x 1)/\Mod [b] w w':=by
 have hlen:=h.len
 obtain ⟨hl1,hl2⟩:=h.lim hl
 have hsz:=h.size
 obtain ⟨c,r,hd⟩:∃ c r,x.s=c :: r:=by
  cases hx:x.s with
  | nil=>rw [hx] at hlen;simp at hlen;omega
  | cons c r=>exact ⟨_,_,rfl⟩
 have hc0:s[a].toNat=c:=by
  rw [<-Lx.get_str s a ha,List.getD_eq_getElem?_getD,<-List.head?_drop,h.str,hd];rfl
 have hD:Hid (∀ n,RsIs (w.drewN n) b s a x):=Hxq (fun n=>h.keep ((Mod.refl [] w).drewN n) (by simp))
 have haI:(a:Int)<(s.size:Int):=by omega
 have ha0:(0:Int)<=(a:Int):=by omega
 obtain ⟨c0,c1,c2,c3,c4,c5,c6,c7,c8⟩:=rs_cells h
 have fb:=h.free
 have H:=Lib.hid h
 have hfin:∀ (w':World) (p:Nat × Nat),w'.heap[b]?=some (.cells (rsCells s (a+1) { x with pos:=p }) 195 (0,0))->p=(if c=10 then (x.pos.1+1,1) else (x.pos.1,x.pos.2+1))->RsIs w' b s (a+1) (St.at x 1):=by
  intro w' p hw hp
  have e:St.at x 1={ x with s:=r,pos:=p }:=by
   unfold St.at
   rw [hd,hp]
   rfl
  have hrl:r.length+1=x.s.length:=by rw [hd];rfl
  rw [e]
  refine ⟨hw,?_,by omega,h.long,h.size,fun _=>?_⟩
  ·show (Cod.str s).drop (a+1)=r
   rw [<-List.drop_drop,h.str,hd];rfl
  ·simp only
   rw [hp]
   split <;> simp only <;> omega
 have HF:=Lib.hid hfin
 have hx1:x.pos.1<=200000:=by omega
 have hx2:x.pos.2<=200000:=by omega
 have hM:∀ n,Mod [b] w (w.drewN n):=fun n=>(Mod.refl [b] w).drewN n
 have HM:=Lib.hid hM
 clear h hd hfin hlen hM
 by_cases h10:c=10
 ·have p10:((s[a].toNat:Int) == 10)=true:=by rw [hc0,h10];rfl
  clear hc0
  go_enter Tryz.func139,Tryz.ntmps139
  go_wp2_with fail
  go_quiet (fail)
  go_wp2_with fail
  go_end0
  refine ⟨rfl,HF.out _ (x.pos.1+1,1) ?_ (by rw [if_pos h10]),(((HM.out nq).setCell (p:=⟨b,2,none⟩) (by simp) _).setCell (p:=⟨b,3,none⟩) (by simp) _).setCell (p:=⟨b,1,none⟩) (by simp) _⟩
  rw [setCell_at (setCell_at (setCell_at (hD.out nq).at_ 2 _) 3 _) 1 _]
  rfl
 ·have p10:((s[a].toNat:Int) == 10)=false:=by rw [hc0,beq_eq_false_iff_ne];omega
  clear hc0
  go_enter Tryz.func139,Tryz.ntmps139
  go_wp2_with fail
  go_quiet (fail)
  go_wp2_with fail
  go_end0
  refine ⟨rfl,HF.out _ (x.pos.1,x.pos.2+1) ?_ (by rw [if_neg h10]),((HM.out nq).setCell (p:=⟨b,3,none⟩) (by simp) _).setCell (p:=⟨b,1,none⟩) (by simp) _⟩
  rw [setCell_at (setCell_at (hD.out nq).at_ 3 _) 1 _]
  rfl
theorem skipN_cons (r:Bool) (c:Nat) (t:List Nat):Lx.skipN r (c :: t)=if !(if c=35 then true else if c=10 then false else r) && !Lx.blank c then 0 else Lx.skipN (if c=35 then true else if c=10 then false else r) t+1:=by
 conv=>lhs;unfold Lx.skipN
set_option maxHeartbeats 2000000 in
theorem rSkip_any (b a:Nat) (s:ByteArray) (x:Lx.St) (w:World) (h:RsIs w b s a x) (hl:x.long=false) :
  Calls Tryz.prog 137 #[.pointer (some ⟨b,0,none⟩)] w fun e w'=>e=.returned (.tuple #[])/\RsIs w' b s (a+Lx.skipN false x.s) x.skip/\Mod [b] w w':=by
 have hsz:=h.size
 have hxl:=h.len
 have hain:=h.ain
 go_enter Tryz.func137,Tryz.ntmps137
 go_wp2_with fail
 go_loopg [2] x.s.length (fun g rv wr=>∃ m r,x.s.length=g+m/\rv=.bool r/\RsIs wr b s (a+m) (St.at x m)/\Lx.skipN false x.s=m+Lx.skipN r (x.s.drop m)/\Mod [b] w wr)
 case atStart=>exact ⟨0,false,rfl,rfl,by simpa [St.at,Lx.adv] using h,by simp,Mod.refl _ _⟩
 case round =>
  obtain ⟨m,r,hg,rfl,hS,hk,hmr⟩:=hrel
  obtain ⟨c0,c1,c2,c3,c4,c5,c6,c7,c8⟩:=rs_cells hS
  clear c2 c3 c4 c5 c6 c7 c8
  have hlen:x.s.length - m=s.size - (a+m):=by omega
  have hM:Hid (∀ n,Mod [b] w (wr.drewN n)):=Hxq (fun n=>hmr.drewN n)
  have hD:Hid (∀ n,RsIs (wr.drewN n) b s (a+m) (St.at x m)):=Hxq (fun n=>hS.keep ((Mod.refl [] wr).drewN n) (by simp))
  have hdl:(x.s.drop m).length=x.s.length - m:=List.length_drop
  have hidx:∀ c t,x.s.drop m=c :: t->∀ hq:a+m<s.size,s[a+m].toNat=c:=by
   intro c t hd hq
   rw [<-Lx.get_str s (a+m) hq,List.getD_eq_getElem?_getD,<-List.head?_drop,<-List.drop_drop,h.str,hd];rfl
  clear h
  cases hd:x.s.drop m with
  | nil =>
   rw [hd] at hk hdl
   have hqe:a+m=s.size:=by simp at hdl;omega
   clear hidx hS
   generalize hqq:a+m=q at *
   have HQ:=Lib.hid hqq
   clear hqq
   have hlt:¬ (q:Int)<(s.size:Int):=by omega
   have HK:=Lib.hid hk
   clear hd hk
   go_wp2_with fail
   go_quiet (fail)
   go_wp2_with fail
   go_end0
   refine ⟨rfl,?_,hM.out nq⟩
   have e:Lx.skipN false x.s=m:=by rw [HK.out];simp [Lx.skipN]
   have e2:x.skip=St.at x m:=by unfold Lx.St.skip St.at;rw [e]
   rw [e,e2,HQ.out]
   exact hD.out nq
  | cons c t =>
   rw [hd] at hk hdl
   have hqe:a+m<s.size:=by simp at hdl;omega
   have hc0:=hidx c t hd hqe
   have hgm:gk=t.length+1:=by simp at hdl;omega
   have hdt:x.s.drop (m+1)=t:=by rw [<-List.drop_drop,hd];rfl
   rw [skipN_cons] at hk
   have hstep:=fun n=>rStep_any b (a+m) s (St.at x m) (wr.drewN n) (hD.out n) hqe hl
   have hat:St.at (St.at x m) 1=St.at x (m+1):=St.at_at x m 1
   simp only [hat] at hstep
   clear hidx hS
   have hlt:((a+m:Nat):Int)<(s.size:Int):=by omega
   have hq0:(0:Int)<=((a+m:Nat):Int):=by omega
   have hx:a+(m+1)=a+m+1:=by omega
   have HK:=Lib.hid hk;have HS:=Lib.hid hstep;have HG:=Lib.hid hg;have HGM:=Lib.hid hgm;have HDT:=Lib.hid hdt;have HX:=Lib.hid hx;have HC:=Lib.hid hc0
   clear hk hstep hg hgm hdt hd hx hdl hat hlen
   have hrel:∀ w',RsIs w' b s (a+m+1) (St.at x (m+1))->RsIs w' b s (a+(m+1)) (St.at x (m+1)):=fun _ h=>h
   have HR:=Lib.hid hrel
   clear hrel
   generalize hqq:a+m=q at *
   have HQ:=Lib.hid hqq
   clear hqq
   -- the loop goes on with r'
   have hon:∀ (r':Bool),(if c=35 then true else if c=10 then false else r)=r'->((!r' && !Lx.blank c)=false)->Lx.skipN false x.s=(m+1)+Lx.skipN r' (x.s.drop (m+1)):=by
    intro r' h1 h2
    rw [HK.out,h1,h2,HDT.out]
    simp only [Bool.false_eq_true,if_false]
    omega
   have HON:=Lib.hid hon
   clear hon
   by_cases h10:c=10
   ·have p10:((s[q].toNat:Int) == 10)=true:=by rw [hc0,h10];rfl
    have q10:((s[q].toNat:Int) != 10)=false:=by unfold bne;rw [p10];rfl
    have p35:((s[q].toNat:Int) == 35)=false:=by rw [hc0,h10];rfl
    have q35:((s[q].toNat:Int) != 35)=true:=by unfold bne;rw [p35];rfl
    have n35:¬ (s[q].toNat:Int)=35:=by intro h;rw [h] at p35;cases p35
    have p32:((s[q].toNat:Int) == 32)=false:=by rw [hc0,h10];rfl
    have q32:((s[q].toNat:Int) != 32)=true:=by unfold bne;rw [p32];rfl
    have n32:¬ (s[q].toNat:Int)=32:=by intro h;rw [h] at p32;cases p32
    have p9:((s[q].toNat:Int) == 9)=false:=by rw [hc0,h10];rfl
    have q9:((s[q].toNat:Int) != 9)=true:=by unfold bne;rw [p9];rfl
    have n9:¬ (s[q].toNat:Int)=9:=by intro h;rw [h] at p9;cases p9
    have p13:((s[q].toNat:Int) == 13)=false:=by rw [hc0,h10];rfl
    have q13:((s[q].toNat:Int) != 13)=true:=by unfold bne;rw [p13];rfl
    have n13:¬ (s[q].toNat:Int)=13:=by intro h;rw [h] at p13;cases p13
    have HN:=Hxq (HON.out false (by rw [h10];rfl) (by rw [h10];rfl))
    clear hc0 h10 HC
    go_wp2_with fail
    go_quiet (fail)
    go_wp2_with fail
    go_quiet (fail)
    go_wp2_with fail
    refine (HS.out _).mono ?_
    rintro e w2 ⟨rfl,hS2,hm2⟩
    have hm3:=(hM.out _).trans hm2 (fun t ht=>.inl ht)
    go_wp2_with fail
    go_roundg (gk - 1)
    case measure=>have:=HGM.out;omega
    case rel=>exact ⟨m+1,_,by have:=HG.out;have:=HGM.out;omega,rfl,HR.out _ hS2,HN.out,hm3⟩
   by_cases h35:c=35
   ·have p10:((s[q].toNat:Int) == 10)=false:=by rw [hc0,h35];rfl
    have q10:((s[q].toNat:Int) != 10)=true:=by unfold bne;rw [p10];rfl
    have n10:¬ (s[q].toNat:Int)=10:=by intro h;rw [h] at p10;cases p10
    have p35:((s[q].toNat:Int) == 35)=true:=by rw [hc0,h35];rfl
    have q35:((s[q].toNat:Int) != 35)=false:=by unfold bne;rw [p35];rfl
    have p32:((s[q].toNat:Int) == 32)=false:=by rw [hc0,h35];rfl
    have q32:((s[q].toNat:Int) != 32)=true:=by unfold bne;rw [p32];rfl
    have n32:¬ (s[q].toNat:Int)=32:=by intro h;rw [h] at p32;cases p32
    have p9:((s[q].toNat:Int) == 9)=false:=by rw [hc0,h35];rfl
    have q9:((s[q].toNat:Int) != 9)=true:=by unfold bne;rw [p9];rfl
    have n9:¬ (s[q].toNat:Int)=9:=by intro h;rw [h] at p9;cases p9
    have p13:((s[q].toNat:Int) == 13)=false:=by rw [hc0,h35];rfl
    have q13:((s[q].toNat:Int) != 13)=true:=by unfold bne;rw [p13];rfl
    have n13:¬ (s[q].toNat:Int)=13:=by intro h;rw [h] at p13;cases p13
    have HN:=Hxq (HON.out true (by rw [h35];rfl) rfl)
    clear hc0 h35 HC h10
    go_wp2_with fail
    go_quiet (fail)
    go_wp2_with fail
    go_quiet (fail)
    go_wp2_with fail
    refine (HS.out _).mono ?_
    rintro e w2 ⟨rfl,hS2,hm2⟩
    have hm3:=(hM.out _).trans hm2 (fun t ht=>.inl ht)
    go_wp2_with fail
    go_roundg (gk - 1)
    case measure=>have:=HGM.out;omega
    case rel=>exact ⟨m+1,_,by have:=HG.out;have:=HGM.out;omega,rfl,HR.out _ hS2,HN.out,hm3⟩
   have hr':(if c=35 then true else if c=10 then false else r)=r:=by rw [if_neg h35,if_neg h10]
   have p10:((s[q].toNat:Int) == 10)=false:=by rw [hc0,beq_eq_false_iff_ne];omega
   have p35:((s[q].toNat:Int) == 35)=false:=by rw [hc0,beq_eq_false_iff_ne];omega
   have q10:((s[q].toNat:Int) != 10)=true:=by unfold bne;rw [p10];rfl
   have n10:¬ (s[q].toNat:Int)=10:=by omega
   have n35:¬ (s[q].toNat:Int)=35:=by omega
   cases r with
   | true =>
    have HN:=Hxq (HON.out true hr' rfl)
    clear hc0 HC h10 h35 hr'
    go_wp2_with fail
    go_quiet (fail)
    go_wp2_with fail
    go_quiet (fail)
    go_wp2_with fail
    refine (HS.out _).mono ?_
    rintro e w2 ⟨rfl,hS2,hm2⟩
    have hm3:=(hM.out _).trans hm2 (fun t ht=>.inl ht)
    go_wp2_with fail
    go_roundg (gk - 1)
    case measure=>have:=HGM.out;omega
    case rel=>exact ⟨m+1,_,by have:=HG.out;have:=HGM.out;omega,rfl,HR.out _ hS2,HN.out,hm3⟩
   | false =>
    by_cases h32:c=32
    ·clear p10 p35 q10 n10 n35
     have p10:((s[q].toNat:Int) == 10)=false:=by rw [hc0,h32];rfl
     have q10:((s[q].toNat:Int) != 10)=true:=by unfold bne;rw [p10];rfl
     have n10:¬ (s[q].toNat:Int)=10:=by intro h;rw [h] at p10;cases p10
     have p35:((s[q].toNat:Int) == 35)=false:=by rw [hc0,h32];rfl
     have q35:((s[q].toNat:Int) != 35)=true:=by unfold bne;rw [p35];rfl
     have n35:¬ (s[q].toNat:Int)=35:=by intro h;rw [h] at p35;cases p35
     have p32:((s[q].toNat:Int) == 32)=true:=by rw [hc0,h32];rfl
     have q32:((s[q].toNat:Int) != 32)=false:=by unfold bne;rw [p32];rfl
     have p9:((s[q].toNat:Int) == 9)=false:=by rw [hc0,h32];rfl
     have q9:((s[q].toNat:Int) != 9)=true:=by unfold bne;rw [p9];rfl
     have n9:¬ (s[q].toNat:Int)=9:=by intro h;rw [h] at p9;cases p9
     have p13:((s[q].toNat:Int) == 13)=false:=by rw [hc0,h32];rfl
     have q13:((s[q].toNat:Int) != 13)=true:=by unfold bne;rw [p13];rfl
     have n13:¬ (s[q].toNat:Int)=13:=by intro h;rw [h] at p13;cases p13
     have HN:=Hxq (HON.out false hr' (by rw [h32];rfl))
     clear hc0 HC h10 h35 hr' h32
     go_wp2_with fail
     go_quiet (fail)
     go_wp2_with fail
     go_quiet (fail)
     go_wp2_with fail
     refine (HS.out _).mono ?_
     rintro e w2 ⟨rfl,hS2,hm2⟩
     have hm3:=(hM.out _).trans hm2 (fun t ht=>.inl ht)
     go_wp2_with fail
     go_roundg (gk - 1)
     case measure=>have:=HGM.out;omega
     case rel=>exact ⟨m+1,_,by have:=HG.out;have:=HGM.out;omega,rfl,HR.out _ hS2,HN.out,hm3⟩
    by_cases h9:c=9
    ·clear p10 p35 q10 n10 n35
     have p10:((s[q].toNat:Int) == 10)=false:=by rw [hc0,h9];rfl
     have q10:((s[q].toNat:Int) != 10)=true:=by unfold bne;rw [p10];rfl
     have n10:¬ (s[q].toNat:Int)=10:=by intro h;rw [h] at p10;cases p10
     have p35:((s[q].toNat:Int) == 35)=false:=by rw [hc0,h9];rfl
     have q35:((s[q].toNat:Int) != 35)=true:=by unfold bne;rw [p35];rfl
     have n35:¬ (s[q].toNat:Int)=35:=by intro h;rw [h] at p35;cases p35
     have p32:((s[q].toNat:Int) == 32)=false:=by rw [hc0,h9];rfl
     have q32:((s[q].toNat:Int) != 32)=true:=by unfold bne;rw [p32];rfl
     have n32:¬ (s[q].toNat:Int)=32:=by intro h;rw [h] at p32;cases p32
     have p9:((s[q].toNat:Int) == 9)=true:=by rw [hc0,h9];rfl
     have q9:((s[q].toNat:Int) != 9)=false:=by unfold bne;rw [p9];rfl
     have p13:((s[q].toNat:Int) == 13)=false:=by rw [hc0,h9];rfl
     have q13:((s[q].toNat:Int) != 13)=true:=by unfold bne;rw [p13];rfl
     have n13:¬ (s[q].toNat:Int)=13:=by intro h;rw [h] at p13;cases p13
     have HN:=Hxq (HON.out false hr' (by rw [h9];rfl))
     clear hc0 HC h10 h35 hr' h9
     go_wp2_with fail
     go_quiet (fail)
     go_wp2_with fail
     go_quiet (fail)
     go_wp2_with fail
     refine (HS.out _).mono ?_
     rintro e w2 ⟨rfl,hS2,hm2⟩
     have hm3:=(hM.out _).trans hm2 (fun t ht=>.inl ht)
     go_wp2_with fail
     go_roundg (gk - 1)
     case measure=>have:=HGM.out;omega
     case rel=>exact ⟨m+1,_,by have:=HG.out;have:=HGM.out;omega,rfl,HR.out _ hS2,HN.out,hm3⟩
    by_cases h13:c=13
    ·clear p10 p35 q10 n10 n35
     have p10:((s[q].toNat:Int) == 10)=false:=by rw [hc0,h13];rfl
     have q10:((s[q].toNat:Int) != 10)=true:=by unfold bne;rw [p10];rfl
     have n10:¬ (s[q].toNat:Int)=10:=by intro h;rw [h] at p10;cases p10
     have p35:((s[q].toNat:Int) == 35)=false:=by rw [hc0,h13];rfl
     have q35:((s[q].toNat:Int) != 35)=true:=by unfold bne;rw [p35];rfl
     have n35:¬ (s[q].toNat:Int)=35:=by intro h;rw [h] at p35;cases p35
     have p32:((s[q].toNat:Int) == 32)=false:=by rw [hc0,h13];rfl
     have q32:((s[q].toNat:Int) != 32)=true:=by unfold bne;rw [p32];rfl
     have n32:¬ (s[q].toNat:Int)=32:=by intro h;rw [h] at p32;cases p32
     have p9:((s[q].toNat:Int) == 9)=false:=by rw [hc0,h13];rfl
     have q9:((s[q].toNat:Int) != 9)=true:=by unfold bne;rw [p9];rfl
     have n9:¬ (s[q].toNat:Int)=9:=by intro h;rw [h] at p9;cases p9
     have p13:((s[q].toNat:Int) == 13)=true:=by rw [hc0,h13];rfl
     have q13:((s[q].toNat:Int) != 13)=false:=by unfold bne;rw [p13];rfl
     have HN:=Hxq (HON.out false hr' (by rw [h13];rfl))
     clear hc0 HC h10 h35 hr' h13
     go_wp2_with fail
     go_quiet (fail)
     go_wp2_with fail
     go_quiet (fail)
     go_wp2_with fail
     refine (HS.out _).mono ?_
     rintro e w2 ⟨rfl,hS2,hm2⟩
     have hm3:=(hM.out _).trans hm2 (fun t ht=>.inl ht)
     go_wp2_with fail
     go_roundg (gk - 1)
     case measure=>have:=HGM.out;omega
     case rel=>exact ⟨m+1,_,by have:=HG.out;have:=HGM.out;omega,rfl,HR.out _ hS2,HN.out,hm3⟩
    clear p10 p35 q10 n10 n35
    have p10:((s[q].toNat:Int) == 10)=false:=by rw [hc0,beq_eq_false_iff_ne];omega
    have q10:((s[q].toNat:Int) != 10)=true:=by unfold bne;rw [p10];rfl
    have n10:¬ (s[q].toNat:Int)=10:=by intro h;rw [h] at p10;cases p10
    have p35:((s[q].toNat:Int) == 35)=false:=by rw [hc0,beq_eq_false_iff_ne];omega
    have q35:((s[q].toNat:Int) != 35)=true:=by unfold bne;rw [p35];rfl
    have n35:¬ (s[q].toNat:Int)=35:=by intro h;rw [h] at p35;cases p35
    have p32:((s[q].toNat:Int) == 32)=false:=by rw [hc0,beq_eq_false_iff_ne];omega
    have q32:((s[q].toNat:Int) != 32)=true:=by unfold bne;rw [p32];rfl
    have n32:¬ (s[q].toNat:Int)=32:=by intro h;rw [h] at p32;cases p32
    have p9:((s[q].toNat:Int) == 9)=false:=by rw [hc0,beq_eq_false_iff_ne];omega
    have q9:((s[q].toNat:Int) != 9)=true:=by unfold bne;rw [p9];rfl
    have n9:¬ (s[q].toNat:Int)=9:=by intro h;rw [h] at p9;cases p9
    have p13:((s[q].toNat:Int) == 13)=false:=by rw [hc0,beq_eq_false_iff_ne];omega
    have q13:((s[q].toNat:Int) != 13)=true:=by unfold bne;rw [p13];rfl
    have n13:¬ (s[q].toNat:Int)=13:=by intro h;rw [h] at p13;cases p13
    have hb:Lx.blank c=false:=by simp [Lx.blank,h10,h32,h9,h13]
    have HN:=Hxq (show Lx.skipN false x.s=m by rw [HK.out,hr',hb];rfl)
    clear hc0 HC h10 h35 hr' h32 h9 h13 hb
    go_wp2_with fail
    go_quiet (fail)
    go_wp2_with fail
    go_quiet (fail)
    go_wp2_with fail
    refine bodyPost_ret (results_none rfl _ _ _) rfl ?_
    refine ⟨rfl,?_,hM.out _⟩
    have e2:x.skip=St.at x m:=by unfold Lx.St.skip St.at;rw [HN.out]
    rw [HN.out,e2,HQ.out]
    exact hD.out _
end Go.Proofs.YtppigckioalhhaaGreatDoorR
