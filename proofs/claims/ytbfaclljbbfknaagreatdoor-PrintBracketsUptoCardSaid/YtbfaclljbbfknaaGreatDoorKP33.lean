/- THE TEXTS MERGED: PkWalk PkLaw PkOpen. -/
import Derived.Test.YtbfaclljbbfknaaGreatDoorKP16
import Derived.Test.YtbfaclljbbfknaaGreatDoorKP32
namespace Go.Proofs.YtbfaclljbbfknaaGreatDoor
open Go.RowKit
set_option linter.unusedVariables false
set_option linter.unusedSimpArgs false
set_option maxRecDepth 100000
theorem str_app2 (a b:ByteArray):Cod.str (a++b)=Cod.str a++Cod.str b:=by
 unfold Cod.str
 rw [ByteArray.data_append]
 simp
def cloV (o:Option Nat):Int:=match o with | some c=>(c:Nat) | none=>-1
theorem clo_skip (d:Int) (i:Nat) (r:List Nat):Pk.clo 1 d i (92 :: r)=Pk.clo 1 d (i+2) (r.drop 1):=by
 rw [Pk.clo,if_neg (by simp),if_neg (by simp)]
 cases r with
 | nil=>rfl
 | cons c t =>
  show Pk.clo 2 d (i+1) (c :: t)=_
  rw [Pk.clo,if_neg (by simp),if_neg (by simp)]
  rfl
theorem clo_q34 (d:Int) (i:Nat) (r:List Nat):Pk.clo 1 d i (34 :: r)=Pk.clo 0 d (i+1) r:=by
 rw [Pk.clo,if_neg (by simp),if_neg (by simp)];rfl
theorem clo_q (d:Int) (i c:Nat) (r:List Nat) (h1:c≠92) (h2:c≠34):Pk.clo 1 d i (c :: r)=Pk.clo 1 d (i+1) r:=by
 rw [Pk.clo,if_neg (by simp),if_neg (by simp),show Pk.st 1 c=1 by unfold Pk.st;rw [if_neg (by decide),if_pos rfl,if_neg h1,if_neg h2]]
theorem clo_34 (d:Int) (i:Nat) (r:List Nat):Pk.clo 0 d i (34 :: r)=Pk.clo 1 d (i+1) r:=by
 rw [Pk.clo,if_neg (by simp),if_neg (by simp)];rfl
theorem clo_40 (d:Int) (i:Nat) (r:List Nat):Pk.clo 0 d i (40 :: r)=Pk.clo 0 (d+1) (i+1) r:=by
 rw [Pk.clo,if_pos ⟨rfl,rfl⟩];rfl
theorem clo_41 (d:Int) (i:Nat) (r:List Nat):Pk.clo 0 d i (41 :: r)=if d - 1=0 then some i else Pk.clo 0 (d - 1) (i+1) r:=by
 rw [Pk.clo,if_neg (by simp),if_pos ⟨rfl,rfl⟩];rfl
theorem clo_o (d:Int) (i c:Nat) (r:List Nat) (h1:c≠34) (h2:c≠40) (h3:c≠41):Pk.clo 0 d i (c :: r)=Pk.clo 0 d (i+1) r:=by
 rw [Pk.clo,if_neg (fun h=>h2 h.2),if_neg (fun h=>h3 h.2),show Pk.st 0 c=0 by unfold Pk.st;rw [if_pos rfl,if_neg h1]]
theorem byte_at (s:ByteArray) (i:Nat) (h:i<s.size):∃ c,(s[i]'h).toNat=c/\(Cod.str s).drop i=c :: (Cod.str s).drop (i+1):=by
 have hl:i<(Cod.str s).length:=by rw [Cod.str_len];exact h
 refine ⟨_,rfl,?_⟩
 rw [List.drop_eq_getElem_cons hl]
 congr 1
 have:=Lx.get_str s i h
 rw [List.getD_eq_getElem?_getD,List.getElem?_eq_getElem hl] at this
 exact this
theorem past_end (s:ByteArray) (i:Nat) (h:s.size<=i):(Cod.str s).drop i=[]:=List.drop_eq_nil_of_le (by rw [Cod.str_len];exact h)
def qn (q:Bool):Nat:=if q then 1 else 0
set_option maxHeartbeats 4000000 in
theorem closing_any (s:ByteArray) (hs:s.size<=1152921504606846976) (p:Nat) (hp:p<=s.size) (w:World) :
  Calls Tryz.prog 8 #[.string s,.int .i64 (p:Nat)] w fun e w'=>e=.returned (.int .i64 (cloV (Pk.clo 0 0 p ((Cod.str s).drop p))))/\Mod [] w w':=by
 obtain ⟨o,ho⟩:∃ o,Pk.clo 0 0 p ((Cod.str s).drop p)=o:=⟨_,rfl⟩
 rw [ho]
 obtain ⟨R,hR⟩:∃ R,R=fun (e:Ending) (w':World)=>e=.returned (.int .i64 (cloV o))/\Mod [] w w':=⟨_,rfl⟩
 rw [<-hR]
 have HR:=Lib.hid hR;have HO:=Lib.hid ho
 clear hR ho
 go_enter Tryz.func8,Tryz.ntmps8
 go_wp2_with fail
 go_loopw [5,6,7] (fun dv qv iv wr=>∃ (i:Nat) (q:Bool) (d:Int),i<=s.size+1/\dv=.int .i64 d/\qv=.bool q/\iv=.int .i64 (i:Nat)/\(-(i:Int)<=d/\d<=(i:Int))/\Pk.clo (qn q) d i ((Cod.str s).drop i)=o/\Mod [] w wr) (fun dv qv iv _=>s.size+2 - (intOf iv).toNat)
 case atStart=>exact ⟨p,false,0,by omega,rfl,rfl,rfl,by omega,HO.out,Mod.refl _ _⟩
 case round =>
  obtain ⟨i,q,d,hi,rfl,rfl,rfl,hd,hc,hm⟩:=hrel
  have HM:=Lib.hid hm;have HC:=Lib.hid hc
  clear hm hc
  by_cases hlt:i<s.size
  ·have hiI:(i:Int)<(s.size:Int):=by omega
   have hi0:(0:Int)<=(i:Int):=by omega
   obtain ⟨c,hc1,hc2⟩:=byte_at s i hlt
   have hb:((s[i]'hlt).toNat:Int)=(c:Int):=by rw [hc1]
   have HC2:=Hxq (show Pk.clo (qn q) d i (c :: (Cod.str s).drop (i+1))=o by rw [<-hc2];exact HC.out)
   clear hc1 hc2 HC
   cases q with
   | true =>
    by_cases c92:c=92
    ·have e1:((c:Int) == 92)=true:=by rw [beq_iff_eq];omega
     have e1p:(c:Int)=92:=by omega
     have HN:Hid (Pk.clo (qn true) d (i+2) ((Cod.str s).drop (i+2))=o):=Hxq (by
      have h:=HC2.out
      rw [c92] at h
      have h2:=clo_skip d i ((Cod.str s).drop (i+1))
      rw [List.drop_drop] at h2
      exact h2.symm.trans h)
     clear c92 HC2
     go_wp2_with fail
     go_roundw
     case rel=>exact ⟨i+2,true,d,by omega,rfl,rfl,by go_num,by omega,HN.out,HM.out⟩
     case measure=>simp [intOf];omega
    ·have e1:((c:Int) == 92)=false:=by rw [beq_eq_false_iff_ne];omega
     have e1p:¬ (c:Int)=92:=by omega
     by_cases c34:c=34
     ·have e2:((c:Int) == 34)=true:=by rw [beq_iff_eq];omega
      have e2p:(c:Int)=34:=by omega
      have HN:Hid (Pk.clo (qn false) d (i+1) ((Cod.str s).drop (i+1))=o):=Hxq (by
       have h:=HC2.out
       rw [c34] at h
       exact (clo_q34 _ _ _).symm.trans h)
      clear c92 c34 HC2
      go_wp2_with fail
      go_roundw
      case rel=>exact ⟨i+1,false,d,by omega,rfl,rfl,by go_num,by omega,HN.out,HM.out⟩
      case measure=>simp [intOf];omega
     ·have e2:((c:Int) == 34)=false:=by rw [beq_eq_false_iff_ne];omega
      have e2p:¬ (c:Int)=34:=by omega
      have HN:Hid (Pk.clo (qn true) d (i+1) ((Cod.str s).drop (i+1))=o):=Hxq ((clo_q _ _ _ _ c92 c34).symm.trans HC2.out)
      clear c92 c34 HC2
      go_wp2_with fail
      go_roundw
      case rel=>exact ⟨i+1,true,d,by omega,rfl,rfl,by go_num,by omega,HN.out,HM.out⟩
      case measure=>simp [intOf];omega
   | false =>
    by_cases c34:c=34
    ·have e2:((c:Int) == 34)=true:=by rw [beq_iff_eq];omega
     have e2p:(c:Int)=34:=by omega
     have HN:Hid (Pk.clo (qn true) d (i+1) ((Cod.str s).drop (i+1))=o):=Hxq (by
      have h:=HC2.out
      rw [c34] at h
      exact (clo_34 _ _ _).symm.trans h)
     clear c34 HC2
     go_wp2_with fail
     go_roundw
     case rel=>exact ⟨i+1,true,d,by omega,rfl,rfl,by go_num,by omega,HN.out,HM.out⟩
     case measure=>simp [intOf];omega
    ·have e2:((c:Int) == 34)=false:=by rw [beq_eq_false_iff_ne];omega
     have e2p:¬ (c:Int)=34:=by omega
     by_cases c40:c=40
     ·have e3:((c:Int) == 40)=true:=by rw [beq_iff_eq];omega
      have e3p:(c:Int)=40:=by omega
      have hw1:IntKind.i64.wrap (d+1)=d+1:=by rw [IntKind.wrap_i64];omega
      have HN:Hid (Pk.clo (qn false) (d+1) (i+1) ((Cod.str s).drop (i+1))=o):=Hxq (by
       have h:=HC2.out
       rw [c40] at h
       exact (clo_40 _ _ _).symm.trans h)
      clear c34 c40 HC2
      go_wp2_with fail
      go_roundw
      case rel=>exact ⟨i+1,false,d+1,by omega,by first | rfl | rw [hw1],rfl,by go_num,by omega,HN.out,HM.out⟩
      case measure=>simp [intOf];omega
     ·have e3:((c:Int) == 40)=false:=by rw [beq_eq_false_iff_ne];omega
      have e3p:¬ (c:Int)=40:=by omega
      by_cases c41:c=41
      ·have e4:((c:Int) == 41)=true:=by rw [beq_iff_eq];omega
       have e4p:(c:Int)=41:=by omega
       have hw1:IntKind.i64.wrap (d - 1)=d - 1:=by rw [IntKind.wrap_i64];omega
       by_cases hd1:d - 1=0
       ·have HN:Hid (o=some i):=Hxq (by
         have h:=HC2.out
         rw [c41] at h
         have h2:=(clo_41 d i ((Cod.str s).drop (i+1))).symm.trans h
         rw [if_pos hd1] at h2
         exact h2.symm)
        have hd2:(d - 1 == 0)=true:=by rw [beq_iff_eq];exact hd1
        clear c34 c40 c41 HC2
        go_wp2_with fail
        rw [HR.out]
        exact ⟨by rw [HN.out];rfl,HM.out⟩
       ·have HN:Hid (Pk.clo (qn false) (d - 1) (i+1) ((Cod.str s).drop (i+1))=o):=Hxq (by
         have h:=HC2.out
         rw [c41] at h
         have h2:=(clo_41 d i ((Cod.str s).drop (i+1))).symm.trans h
         rw [if_neg hd1] at h2
         exact h2)
        have hd2:(d - 1 == 0)=false:=by rw [beq_eq_false_iff_ne];exact hd1
        clear c34 c40 c41 HC2
        go_wp2_with fail
        go_roundw
        case rel=>exact ⟨i+1,false,d - 1,by omega,by first | rfl | rw [hw1],rfl,by go_num,by omega,HN.out,HM.out⟩
        case measure=>simp [intOf];omega
      ·have e4:((c:Int) == 41)=false:=by rw [beq_eq_false_iff_ne];omega
       have e4p:¬ (c:Int)=41:=by omega
       have HN:Hid (Pk.clo (qn false) d (i+1) ((Cod.str s).drop (i+1))=o):=Hxq ((clo_o _ _ _ _ c34 c40 c41).symm.trans HC2.out)
       clear c34 c40 c41 HC2
       go_wp2_with fail
       go_roundw
       case rel=>exact ⟨i+1,false,d,by omega,rfl,rfl,by go_num,by omega,HN.out,HM.out⟩
       case measure=>simp [intOf];omega
  ·have hiI:¬ (i:Int)<(s.size:Int):=by omega
   have HN:Hid (o=none):=Hxq (by
    have h:=HC.out
    rw [past_end s i (by omega)] at h
    exact h.symm)
   clear HC
   go_wp2_with fail
   rw [HR.out]
   exact ⟨by rw [HN.out];rfl,HM.out⟩
set_option maxHeartbeats 1000000 in
theorem without_any (s:ByteArray) (hs:s.size<=65536) (p c:Nat) (hp:p<c) (hc:c<s.size) (w:World) :
  Calls Tryz.prog 9 #[.string s,.int .i64 (p:Nat),.int .i64 (c:Nat)] w fun e w'=>∃ t:ByteArray,e=.returned (.string t)/\Cod.str t=Pk.wo (Cod.str s) p c/\Mod [] w w':=by
 have hp0:(0:Int)<=(p:Int):=by omega
 have hc0:(0:Int)<=(c:Int):=by omega
 have h1:(p:Int)<=(s.size:Int):=by omega
 have h2:(c:Int)<=(s.size:Int):=by omega
 have h3:(p:Int)+1<=(c:Int):=by omega
 have h4:(c:Int)+1<=(s.size:Int):=by omega
 have h5:(0:Int)<=(p:Int)+1:=by omega
 have h6:(0:Int)<=(c:Int)+1:=by omega
 have w1:IntKind.i64.wrap ((p:Int)+1)=(p:Int)+1:=by rw [IntKind.wrap_i64];omega
 have w2:IntKind.i64.wrap ((c:Int)+1)=(c:Int)+1:=by rw [IntKind.wrap_i64];omega
 go_enter Tryz.func9,Tryz.ntmps9
 go_wp2_with fail
 go_quiet (fail)
 go_wp2_with fail
 go_ret
 refine ⟨_,rfl,?_,(Mod.refl [] w).drewN _⟩
 rw [str_app2,str_app2,Lx.str_extract,Lx.str_extract,Lx.str_extract]
 unfold Pk.wo
 have hl:=Cod.str_len s
 rw [Nat.sub_zero,List.drop_zero,List.append_assoc,List.drop_take]
 congr 2
 exact List.take_of_length_le (by rw [List.length_drop];omega)
theorem ahead_size (s:ByteArray):(({ data:=#[88,32,61,32] }:ByteArray)++s).size=s.size+4:=by
 rw [<-Cod.str_len,str_app2,List.length_append,Cod.str_len,Cod.str_len]
 show 4+s.size=_
 omega
theorem opn_skip (i:Nat) (r:List Nat):Pk.opn 1 i (92 :: r)=Pk.opn 1 (i+2) (r.drop 1):=by
 rw [Pk.opn,if_neg (by simp)]
 cases r with
 | nil=>rfl
 | cons c t =>
  show Pk.opn 2 (i+1) (c :: t)=_
  rw [Pk.opn,if_neg (by simp)]
  rfl
theorem opn_q34 (i:Nat) (r:List Nat):Pk.opn 1 i (34 :: r)=Pk.opn 0 (i+1) r:=by
 rw [Pk.opn,if_neg (by simp)];rfl
theorem opn_q (i c:Nat) (r:List Nat) (h1:c≠92) (h2:c≠34):Pk.opn 1 i (c :: r)=Pk.opn 1 (i+1) r:=by
 rw [Pk.opn,if_neg (by simp),show Pk.st 1 c=1 by unfold Pk.st;rw [if_neg (by decide),if_pos rfl,if_neg h1,if_neg h2]]
theorem opn_34 (i:Nat) (r:List Nat):Pk.opn 0 i (34 :: r)=Pk.opn 1 (i+1) r:=by
 rw [Pk.opn,if_neg (by simp)];rfl
theorem opn_40 (i:Nat) (r:List Nat):Pk.opn 0 i (40 :: r)=i :: Pk.opn 0 (i+1) r:=by
 rw [Pk.opn,if_pos ⟨rfl,rfl⟩];rfl
theorem opn_o (i c:Nat) (r:List Nat) (h1:c≠34) (h2:c≠40):Pk.opn 0 i (c :: r)=Pk.opn 0 (i+1) r:=by
 rw [Pk.opn,if_neg (fun h=>h2 h.2),show Pk.st 0 c=0 by unfold Pk.st;rw [if_pos rfl,if_neg h1]]
theorem lit_cells (k:Int) (a:Pr.Atom) (op:Int) (l r:Pr.Ex) (fn:Int) (av:ByteArray) (of:Pr.Ex) (body:List Pr.Li) (ln cl:Int) (U:LU):∀ j,j<7->(liV (.mk k a op l r fn av of body ln cl) U)[11+j]?=(exV r U.r)[j]?:=by
 intro j hj
 match j,hj with
 | 0,_=>rfl
 | 1,_=>rfl
 | 2,_=>rfl
 | 3,_=>rfl
 | 4,_=>rfl
 | 5,_=>rfl
 | 6,_=>rfl
theorem str_ahead (s:ByteArray):Cod.str (({ data:=#[88,32,61,32] }:ByteArray)++s)=Pk.ahead (Cod.str s):=by
 rw [str_app2];rfl
theorem wo_le (s:List Nat) (p c:Nat):(Pk.wo s p c).length<=s.length+s.length+s.length:=by
 unfold Pk.wo
 simp only [List.length_append,List.length_take,List.length_drop]
 omega
theorem pE_k {e:Pr.Ex} {t:List Nat} (h:Pr.pE 17 e=some t):e.k≠0:=by
 intro hk
 rw [show (17:Nat)=16+1 from rfl,Pr.pE,if_neg (by omega),if_neg (by omega),if_neg (by omega)] at h
 cases h
theorem pars_any (s:ByteArray) (hs:s.size<=140737488355328) (w:World) (hG:Glob w) (e:Pr.Ex) (hby:∀ c∈Cod.str s,c<256) (hne:∀ li j,Sy.whole (Sy.envOf (Cod.str s)) (Sy.lit (Sy.envOf (Cod.str s)) 0)=.ok li j->Pk.rt li≠e) :
  Calls Tryz.prog 6 #[.string s] w fun o w'=>∃ (C:Array Value) (g0 g1 g2:Int),o=.returned (.tuple #[.agg C,.agg #[.int .i64 g0,.int .i64 g1,.int .i64 g2]])/\C.size=30/\C.toList.all (·.oneCell')=true/\Mod [] w w' /\
   (g0≠0\/g0=0/\∃ (F:Nat->Prop) (r:Pr.Ex) (u:Value),r≠e/\EB F w' r u/\Rt.ExO r/\∀ j,j<7->C[11+j]?=(exV r u)[j]?):=by
 refine Calls.mono (entL_any s hs w hG) ?_
 rintro o w' h
 have hnz:Sy.Nz (Sy.whole (Sy.envOf (Cod.str s)) ((fun v=>Sy.lit v 0) (Sy.envOf (Cod.str s)))):=Sy.nz_whole (Sy.env_last _) (Sy.nz_lit (Sy.env_last _) 0 0)
 unfold AllRes at h
 cases hr:Sy.whole (Sy.envOf (Cod.str s)) ((fun v=>Sy.lit v 0) (Sy.envOf (Cod.str s))) with
 | err g =>
  rw [hr] at h hnz
  obtain ⟨rfl,m⟩:=h
  refine ⟨_,_,_,_,rfl,rfl,rfl,m,.inl ?_⟩
  have:=hnz g rfl
  omega
 | ok li j =>
  rw [hr] at h
  obtain ⟨C,rfl,hv,m⟩:=h
  obtain ⟨c1,c2⟩:=valL_cells hv
  obtain ⟨U,hC,hB⟩:=hv
  refine ⟨C,_,_,_,rfl,c1,c2,m,.inr ⟨rfl,?_⟩⟩
  have hn:=hne li j hr
  have hV:Rt.LiV li:=by
   have h1:=Pk.whole_lit hr
   unfold Sy.lit at h1
   exact Rt.litF_vo (Rt.wm_of _ hby) (Rt.wb_of _ hby) _ _ _ _ _ h1
  obtain ⟨lk,la,lo,ll,lr,lf,lav,lof,lb,lln,lcl⟩:=li
  cases hV with
  | mk ha hl hr2 ho hb =>
   refine ⟨_,lr,U.r,hn,hB.parts.2.2.1,hr2.o,?_⟩
   simp only [Value.agg.injEq] at hC
   rw [hC]
   exact lit_cells _ _ _ _ _ _ _ _ _ _ _ U
set_option maxHeartbeats 8000000 in
theorem PrintBrackets_any (e:Pr.Ex) (u:Value) (hwt:exWt e<=1048576000) (w:World) (hE:EB All w e u/\Rt.ExV e) (hG:Glob w/\GlobV w) :
  Calls Tryz.prog 3 #[.agg (exV e u)] w fun o w'=>o=.returned (.bool true)/\Mod [] w w':=by
 obtain ⟨hE,hV⟩:=hE
 have hO:=hV.o
 obtain ⟨ua,uc,rfl⟩:=hE.lit
 have mA:=(Mod.refl [] w).alloc (Obj.cells (exV e (.slice ua e.args.length uc)) 26)
 have eA:=heap_alloc_new w (Obj.cells (exV e (.slice ua e.args.length uc)) 26)
 obtain ⟨R,hR⟩:∃ R,R=fun (o:Ending) (w':World)=>o=.returned (.bool true)/\Mod [] w w':=⟨_,rfl⟩
 rw [<-hR]
 have HR:=Lib.hid hR;have HE:=Lib.hid hE;have HO:=Lib.hid hO;have HVV:=Lib.hid hV
 have HG:=Lib.hid hG.1;have HV:=Lib.hid hG.2
 clear hR hE hO hV hG
 have ev:exV e (.slice ua e.args.length uc)=#[.int .i64 e.k,.string e.v,.int .i64 e.x.k,.int .i64 e.x.n,.string (Lx.ofS e.x.s),.int .i64 e.op,.slice ua e.args.length uc]:=rfl
 rw [ev] at mA eA ⊢
 go_enter Tryz.func3,Tryz.ntmps3
 go_upto_region 1 with fail
 generalize w.alloc (Obj.cells _ 26)=x0 at *
 generalize hq:w.heap.size=q at *
 have M0:=Lib.hid mA;have E0:=Lib.hid eA
 clear mA eA
 go_wp2_with fail
 refine Calls.mono (awake_any x0 (HV.out.past M0.out (by simp))) ?_
 rintro e1 w1 ⟨rfl,m1⟩
 have M1:=Hxq (M0.out.trans m1 (by simp));have E1:=Hxq (m1.at E0.out (by simp))
 clear m1
 have d:=fun j=>cell_at E1.out j
 have d0:=d 0;have d1:=d 1;have d2:=d 2;have d3:=d 3;have d4:=d 4;have d5:=d 5;have d6:=d 6
 simp only [List.getElem?_toArray,List.getElem?_cons_zero,List.getElem?_cons_succ] at d0 d1 d2 d3 d4 d5 d6
 clear d
 go_wp2_with fail
 rw [<-ev]
 refine Calls.mono (Expr_any e _ w1 ((HE.out.keep M1.out (by simp)).eok HVV.out) (HV.out.past M1.out (by simp)) (by omega)) ?_
 rintro e2 w2 ⟨rfl,m2,hlen⟩
 have M2:=Hxq (M1.out.trans m2 (by simp));have E2:=Hxq (m2.at E1.out (by simp))
 clear m2 d0 d1 d2 d3 d4 d5 d6
 cases ho:Pr.pE 17 e with
 | none =>
  unfold tv
  dsimp only
  go_wp2_with fail
  rw [HR.out]
  exact ⟨rfl,M2.out⟩
 | some t =>
  have hby:=Rt.pE_by 17 e t HO.out ho
  obtain ⟨sT,hsT⟩:∃ sT,sT=Lx.ofS t:=⟨_,rfl⟩
  have hst:Cod.str sT=t:=by rw [hsT];exact Lx.str_ofS hby
  have hsz:sT.size=t.length:=by rw [<-hst,Cod.str_len]
  unfold tv
  dsimp only
  rw [<-hsT]
  have HST:=Lib.hid hst;have HBY:=Lib.hid hby;have HHO:=Lib.hid ho
  clear hsT hst hby ho
  have hln:=hlen t HHO.out
  have hln2:t.length<=1048576000:=by omega
  have HSZ:=Lib.hid hsz
  clear hlen hln
  by_cases hbig:65536<(t.length:Int)+4
  ·rw [<-hsz] at hbig hln2
   clear hsz
   go_wp2_with fail
   rw [HR.out]
   exact ⟨rfl,M2.out⟩
  ·have hl4:t.length+4<=65536:=by omega
   rw [<-hsz] at hbig hln2
   clear hsz
   go_wp2_with fail
   refine Calls.mono (entL_any (({ data:=#[88,32,61,32] }:ByteArray)++sT) (by have:=HSZ.out;rw [ahead_size];omega) w2 (HG.out.keep M2.out (by simp))) ?_
   rintro e3 w3 h3
   obtain ⟨li,j,hl1,hl2⟩:=Pk.lit_back HO.out HHO.out HBY.out hl4
   rw [str_ahead,HST.out] at h3
   simp only at h3
   rw [hl1] at h3
   obtain ⟨C,rfl,⟨U,hC,hLB⟩,m3⟩:=h3
   obtain ⟨lk,la,lo,ll,lr,lf,lav,lof,lb,lln,lcl⟩:=li
   have hre:e=lr:=hl2.symm
   subst hre
   have hCC:C=liV (.mk lk la lo ll e lf lav lof lb lln lcl) U:=by simpa using hC
   obtain ⟨hCs,hC1⟩:=valL_cells (n:=w2.heap.size) ⟨U,hC,hLB⟩
   have HLR:=Lib.hid hLB.parts.2.2.1
   have a6:=heap_alloc_new w3 (Obj.cells #[Value.int IntKind.i64 0,Value.string ⟨#[]⟩,Value.slice none 0 0,Value.int IntKind.i64 0,Value.int IntKind.i64 0,Value.string ⟨#[]⟩,Value.int IntKind.i64 0,Value.int IntKind.i64 0,Value.string ⟨#[]⟩,Value.int IntKind.i64 0,Value.slice none 0 0,Value.int IntKind.i64 0,Value.string ⟨#[]⟩,Value.int IntKind.i64 0,Value.int IntKind.i64 0,Value.string ⟨#[]⟩,Value.int IntKind.i64 0,Value.slice none 0 0,Value.int IntKind.i64 0,Value.string ⟨#[]⟩,Value.int IntKind.i64 0,Value.string ⟨#[]⟩,Value.int IntKind.i64 0,Value.int IntKind.i64 0,Value.string ⟨#[]⟩,Value.int IntKind.i64 0,Value.slice none 0 0,Value.slice none 0 0,Value.int IntKind.i64 0,Value.int IntKind.i64 0] 40)
   have mZ:=((Mod.refl [] w3).alloc (Obj.cells #[Value.int IntKind.i64 0,Value.string ⟨#[]⟩,Value.slice none 0 0,Value.int IntKind.i64 0,Value.int IntKind.i64 0,Value.string ⟨#[]⟩,Value.int IntKind.i64 0,Value.int IntKind.i64 0,Value.string ⟨#[]⟩,Value.int IntKind.i64 0,Value.slice none 0 0,Value.int IntKind.i64 0,Value.string ⟨#[]⟩,Value.int IntKind.i64 0,Value.int IntKind.i64 0,Value.string ⟨#[]⟩,Value.int IntKind.i64 0,Value.slice none 0 0,Value.int IntKind.i64 0,Value.string ⟨#[]⟩,Value.int IntKind.i64 0,Value.string ⟨#[]⟩,Value.int IntKind.i64 0,Value.int IntKind.i64 0,Value.string ⟨#[]⟩,Value.int IntKind.i64 0,Value.slice none 0 0,Value.slice none 0 0,Value.int IntKind.i64 0,Value.int IntKind.i64 0] 40)).alloc (Obj.cells #[Value.int IntKind.i64 0,Value.int IntKind.i64 0,Value.int IntKind.i64 0] 42)
   have A1:=Hxq (((Mod.refl [] (w3.alloc (Obj.cells #[Value.int IntKind.i64 0,Value.string ⟨#[]⟩,Value.slice none 0 0,Value.int IntKind.i64 0,Value.int IntKind.i64 0,Value.string ⟨#[]⟩,Value.int IntKind.i64 0,Value.int IntKind.i64 0,Value.string ⟨#[]⟩,Value.int IntKind.i64 0,Value.slice none 0 0,Value.int IntKind.i64 0,Value.string ⟨#[]⟩,Value.int IntKind.i64 0,Value.int IntKind.i64 0,Value.string ⟨#[]⟩,Value.int IntKind.i64 0,Value.slice none 0 0,Value.int IntKind.i64 0,Value.string ⟨#[]⟩,Value.int IntKind.i64 0,Value.string ⟨#[]⟩,Value.int IntKind.i64 0,Value.int IntKind.i64 0,Value.string ⟨#[]⟩,Value.int IntKind.i64 0,Value.slice none 0 0,Value.slice none 0 0,Value.int IntKind.i64 0,Value.int IntKind.i64 0] 40))).alloc (Obj.cells #[Value.int IntKind.i64 0,Value.int IntKind.i64 0,Value.int IntKind.i64 0] 42)).at a6 (by simp))
   have b7:=heap_alloc_new (w3.alloc (Obj.cells #[Value.int IntKind.i64 0,Value.string ⟨#[]⟩,Value.slice none 0 0,Value.int IntKind.i64 0,Value.int IntKind.i64 0,Value.string ⟨#[]⟩,Value.int IntKind.i64 0,Value.int IntKind.i64 0,Value.string ⟨#[]⟩,Value.int IntKind.i64 0,Value.slice none 0 0,Value.int IntKind.i64 0,Value.string ⟨#[]⟩,Value.int IntKind.i64 0,Value.int IntKind.i64 0,Value.string ⟨#[]⟩,Value.int IntKind.i64 0,Value.slice none 0 0,Value.int IntKind.i64 0,Value.string ⟨#[]⟩,Value.int IntKind.i64 0,Value.string ⟨#[]⟩,Value.int IntKind.i64 0,Value.int IntKind.i64 0,Value.string ⟨#[]⟩,Value.int IntKind.i64 0,Value.slice none 0 0,Value.slice none 0 0,Value.int IntKind.i64 0,Value.int IntKind.i64 0] 40)) (Obj.cells #[Value.int IntKind.i64 0,Value.int IntKind.i64 0,Value.int IntKind.i64 0] 42)
   have hz1:(w3.alloc (Obj.cells #[Value.int IntKind.i64 0,Value.string ⟨#[]⟩,Value.slice none 0 0,Value.int IntKind.i64 0,Value.int IntKind.i64 0,Value.string ⟨#[]⟩,Value.int IntKind.i64 0,Value.int IntKind.i64 0,Value.string ⟨#[]⟩,Value.int IntKind.i64 0,Value.slice none 0 0,Value.int IntKind.i64 0,Value.string ⟨#[]⟩,Value.int IntKind.i64 0,Value.int IntKind.i64 0,Value.string ⟨#[]⟩,Value.int IntKind.i64 0,Value.slice none 0 0,Value.int IntKind.i64 0,Value.string ⟨#[]⟩,Value.int IntKind.i64 0,Value.string ⟨#[]⟩,Value.int IntKind.i64 0,Value.int IntKind.i64 0,Value.string ⟨#[]⟩,Value.int IntKind.i64 0,Value.slice none 0 0,Value.slice none 0 0,Value.int IntKind.i64 0,Value.int IntKind.i64 0] 40)).heap.size=w3.heap.size+1:=by simp
   rw [hz1] at b7
   have B1:=Lib.hid b7;have MZ:=Lib.hid mZ
   have HC1:=Lib.hid hC1;have HCC:=Lib.hid hCC;have HM3:=Lib.hid m3
   have HOE:=Hxq (exM_wt e)
   clear a6 mZ b7 hz1 hl1 hl2 hC hLB hC1 hCC m3 HVV
   go_upto_region 6 with (first | refine wpList_store_at rfl 40 _ _ rfl w3.heap.size C _ 40 rfl rfl A1.out (size_of sizeL hCs) (by rw [hCs];rfl) HC1.out ?_ | refine wpList_store_at rfl 42 _ _ rfl (w3.heap.size+1) #[.int .i64 0,.int .i64 0,.int .i64 0] _ 42 rfl rfl ((setRow_other _ w3.heap.size (w3.heap.size+1) C (by omega)).trans B1.out) sizeFlt rfl rfl ?_)
   generalize (w3.alloc (Obj.cells _ 40)).alloc (Obj.cells _ 42)=w4 at *
   have mR:=Mod.setRow w4 w3.heap.size C
   have mR2:=Mod.setRow (w4.setRow w3.heap.size C) (w3.heap.size+1) #[.int .i64 0,.int .i64 0,.int .i64 0]
   have L5:=Hxq (mR2.at (setRow_heap w4 w3.heap.size _ C 40 _ A1.out) (by simp))
   have F5:=Hxq (setRow_heap (w4.setRow w3.heap.size C) (w3.heap.size+1) _ #[.int .i64 0,.int .i64 0,.int .i64 0] 42 _ ((setRow_other w4 w3.heap.size (w3.heap.size+1) C (by omega)).trans B1.out))
   have M5:Hid (Mod [] w3 _):=Hxq ((MZ.out.trans mR (fun t ht=>by rw [Msq] at ht;subst ht;exact .inr (Nat.le_refl _))).trans mR2 (fun t ht=>by rw [Msq] at ht;subst ht;exact .inr (by omega)))
   clear mR mR2 A1 B1 MZ
   generalize (w4.setRow w3.heap.size C).setRow _ _=w5 at *
   generalize w3.heap.size=b6 at *
   have f0:=cell_at F5.out 0
   have lc:∀ j,j<7->w5.cell? ⟨b6,11+j,none⟩=(exV e U.r)[j]?:=fun j hj=>(cell_at L5.out (11+j)).trans (by rw [HCC.out];exact lit_cells _ _ _ _ _ _ _ _ _ _ _ U j hj)
   have l0:=lc 0 (by omega);have l1:=lc 1 (by omega);have l2:=lc 2 (by omega);have l3:=lc 3 (by omega);have l4:=lc 4 (by omega);have l5:=lc 5 (by omega);have l6:=lc 6 (by omega)
   have m35:=HM3.out.trans M5.out (by simp)
   have E5:=Hxq (m35.at E2.out (by simp))
   have M6:=Hxq (M2.out.trans m35 (by simp))
   have d:=fun j=>cell_at E5.out j
   have d0:=d 0;have d1:=d 1;have d2:=d 2;have d3:=d 3;have d4:=d 4;have d5:=d 5;have d6:=d 6
   have HLR5:=Hxq (HLR.out.keep M5.out (by simp))
   unfold exV at l0 l1 l2 l3 l4 l5 l6
   simp only [Nat.add_zero,Nat.reduceAdd,List.getElem?_toArray,List.getElem?_cons_zero,List.getElem?_cons_succ] at f0 l0 l1 l2 l3 l4 l5 l6 d0 d1 d2 d3 d4 d5 d6
   clear d lc m35 hCs
   go_wp2_with fail
   have hM:exM e<=140737488355328:=by have:=HOE.out;omega
   refine Calls.mono (sameExpr_any e hM U.r _ w5 HLR5.out (HE.out.keep M6.out (by simp))) ?_
   rintro e7 w7 ⟨rfl,m7⟩
   have M7:=Hxq (M6.out.trans m7 (by simp));have E7:=Hxq (m7.at E5.out (by simp))
   clear m7 d0 d1 d2 d3 d4 d5 d6 l0 l1 l2 l3 l4 l5 l6 f0 L5 F5 HLR5 HLR M6 M5 HM3 E5 E2 M2 M1 M0 E1 E0 HCC HC1
   go_wp2_with fail
   have HGd:=Hxq (Pk.pE_good 17 e t HO.out HHO.out)
   have hk0:=pE_k HHO.out
   have HK:=Lib.hid hk0
   have HSS:Hid (sT.size<=65532):=Hxq (by have:=HSZ.out;omega)
   have HL4:=Lib.hid hl4
   have HWT:=Lib.hid hwt
   clear hk0 hln2 hbig hl4 hM hwt
   go_loopw [8,9] (fun qv iv wr=>∃ (i:Nat) (q:Bool),i<=sT.size+1/\qv=.bool q/\iv=.int .i64 (i:Nat)/\(∀ p∈Pk.opn (qn q) i (t.drop i),p∈Pk.opn 0 0 t)/\Mod [] w7 wr) (fun qv iv _=>sT.size+2 - (intOf iv).toNat)
   case atStart=>exact ⟨0,false,by omega,rfl,rfl,fun p hp=>hp,Mod.refl _ _⟩
   case round =>
    obtain ⟨i,q,hi,rfl,rfl,hc,hm⟩:=hrel
    have hsb:=HSS.out
    have HM:=Lib.hid hm;have HC:=Lib.hid hc
    clear hm hc
    by_cases hlt:i<sT.size
    ·have hiI:(i:Int)<(sT.size:Int):=by omega
     have hi0:(0:Int)<=(i:Int):=by omega
     obtain ⟨c,hc1,hc2⟩:=byte_at sT i hlt
     rw [HST.out] at hc2
     have hb:((sT[i]'hlt).toNat:Int)=(c:Int):=by rw [hc1]
     have HC2:Hid (∀ p∈Pk.opn (qn q) i (c :: t.drop (i+1)),p∈Pk.opn 0 0 t):=Hxq (by rw [<-hc2];exact HC.out)
     clear hc1 hc2 HC
     cases q with
     | true =>
      by_cases c92:c=92
      ·have e1:((c:Int) == 92)=true:=by rw [beq_iff_eq];omega
       have e1p:(c:Int)=92:=by omega
       have HN:Hid (∀ p∈Pk.opn (qn true) (i+2) (t.drop (i+2)),p∈Pk.opn 0 0 t):=Hxq (by
        have h:=HC2.out
        rw [c92] at h
        have h2:=opn_skip i (t.drop (i+1))
        rw [List.drop_drop] at h2
        change ∀ p∈Pk.opn 1 i (92 :: t.drop (i+1)),_ at h
        rw [h2] at h
        exact h)
       clear c92 HC2
       go_wp2_with fail
       go_roundw
       case rel=>exact ⟨i+2,true,by omega,rfl,by go_num,HN.out,HM.out⟩
       case measure=>simp [intOf];omega
      ·have e1:((c:Int) == 92)=false:=by rw [beq_eq_false_iff_ne];omega
       have e1p:¬ (c:Int)=92:=by omega
       by_cases c34:c=34
       ·have e2:((c:Int) == 34)=true:=by rw [beq_iff_eq];omega
        have e2p:(c:Int)=34:=by omega
        have HN:Hid (∀ p∈Pk.opn (qn false) (i+1) (t.drop (i+1)),p∈Pk.opn 0 0 t):=Hxq (by
         have h:=HC2.out
         rw [c34] at h
         change ∀ p∈Pk.opn 1 i (34 :: t.drop (i+1)),_ at h
         rw [opn_q34] at h
         exact h)
        clear c92 c34 HC2
        go_wp2_with fail
        go_roundw
        case rel=>exact ⟨i+1,false,by omega,rfl,by go_num,HN.out,HM.out⟩
        case measure=>simp [intOf];omega
       ·have e2:((c:Int) == 34)=false:=by rw [beq_eq_false_iff_ne];omega
        have e2p:¬ (c:Int)=34:=by omega
        have HN:Hid (∀ p∈Pk.opn (qn true) (i+1) (t.drop (i+1)),p∈Pk.opn 0 0 t):=Hxq (by
         have h:=HC2.out
         change ∀ p∈Pk.opn 1 i (c :: t.drop (i+1)),_ at h
         rw [opn_q _ _ _ c92 c34] at h
         exact h)
        clear c92 c34 HC2
        go_wp2_with fail
        go_roundw
        case rel=>exact ⟨i+1,true,by omega,rfl,by go_num,HN.out,HM.out⟩
        case measure=>simp [intOf];omega
     | false =>
      by_cases c34:c=34
      ·have e2:((c:Int) == 34)=true:=by rw [beq_iff_eq];omega
       have e2p:(c:Int)=34:=by omega
       have HN:Hid (∀ p∈Pk.opn (qn true) (i+1) (t.drop (i+1)),p∈Pk.opn 0 0 t):=Hxq (by
        have h:=HC2.out
        rw [c34] at h
        change ∀ p∈Pk.opn 0 i (34 :: t.drop (i+1)),_ at h
        rw [opn_34] at h
        exact h)
       clear c34 HC2
       go_wp2_with fail
       go_roundw
       case rel=>exact ⟨i+1,true,by omega,rfl,by go_num,HN.out,HM.out⟩
       case measure=>simp [intOf];omega
      ·have e2:((c:Int) == 34)=false:=by rw [beq_eq_false_iff_ne];omega
       have e2p:¬ (c:Int)=34:=by omega
       by_cases c40:c=40
       ·have e3:((c:Int) == 40)=true:=by rw [beq_iff_eq];omega
        have e3p:(c:Int)=40:=by omega
        have hN:i∈Pk.opn 0 0 t/\∀ p∈Pk.opn (qn false) (i+1) (t.drop (i+1)),p∈Pk.opn 0 0 t:=by
         have h:=HC2.out
         rw [c40] at h
         change ∀ p∈Pk.opn 0 i (40 :: t.drop (i+1)),_ at h
         rw [opn_40] at h
         exact ⟨h i (by simp),fun p hp=>h p (List.mem_cons_of_mem _ hp)⟩
        obtain ⟨c',g1,g2,g3,g4⟩:=Pk.lit_less HGd.out HK.out HBY.out HL4.out hN.1
        rw [<-HSZ.out] at g2
        have HN:=Lib.hid hN.2
        have hv:cloV (Pk.clo 0 0 i ((Cod.str sT).drop i))=(c':Int):=by rw [HST.out,g3];rfl
        have HV4:=Lib.hid hv;have H4:=Lib.hid g4
        clear c34 c40 HC2 hN g3 g4 hv
        have hcn:¬ (c':Int)<0:=by omega
        have hc0:0<=(c':Int):=by omega
        go_wp2_with fail
        refine Calls.mono (closing_any sT (by have:=HSS.out;omega) i (by omega) wr) ?_
        rintro e8 w8 ⟨rfl,m8⟩
        rw [HV4.out]
        have M8:=Hxq (HM.out.trans m8 (by simp))
        clear m8 HM
        go_wp2_with fail
        refine Calls.mono (without_any sT (by have:=HSS.out;omega) i c' g1 g2 w8) ?_
        rintro e9 w9 ⟨t2,rfl,ht2,m9⟩
        rw [HST.out] at ht2
        have M9:=Hxq (M8.out.trans m9 (by simp));have HT2:=Lib.hid ht2
        have hts:t2.size<=196596:=by rw [<-Cod.str_len,HT2.out];have:=wo_le t i c';have:=HSZ.out;omega
        clear m9 M8 ht2
        go_wp2_with fail
        have hby2:∀ c∈Cod.str (({ data:=#[88,32,61,32] }:ByteArray)++t2),c<256:=fun c hc=>Cod.str_lt _ c hc
        refine Calls.mono (pars_any (({ data:=#[88,32,61,32] }:ByteArray)++t2) (by have:=HSS.out;rw [ahead_size,<-Cod.str_len,HT2.out];have:=wo_le t i c';have:=HSZ.out;omega) w9 (HG.out.keep (M7.out.trans M9.out (by simp)) (by simp)) e hby2 (by rw [str_ahead,HT2.out];exact H4.out)) ?_
        rintro e10 w3 ⟨C,v0,v1,v2,rfl,hCs,hC1,m3,hcase⟩
        have HM3:=Hxq (M9.out.trans m3 (by simp));have HC1:=Lib.hid hC1;have HCA:=Lib.hid hcase
        clear m3 hC1 hcase M9 hby2 H4 HT2 HV4
        have a6:=heap_alloc_new w3 (Obj.cells #[Value.int IntKind.i64 0,Value.string ⟨#[]⟩,Value.slice none 0 0,Value.int IntKind.i64 0,Value.int IntKind.i64 0,Value.string ⟨#[]⟩,Value.int IntKind.i64 0,Value.int IntKind.i64 0,Value.string ⟨#[]⟩,Value.int IntKind.i64 0,Value.slice none 0 0,Value.int IntKind.i64 0,Value.string ⟨#[]⟩,Value.int IntKind.i64 0,Value.int IntKind.i64 0,Value.string ⟨#[]⟩,Value.int IntKind.i64 0,Value.slice none 0 0,Value.int IntKind.i64 0,Value.string ⟨#[]⟩,Value.int IntKind.i64 0,Value.string ⟨#[]⟩,Value.int IntKind.i64 0,Value.int IntKind.i64 0,Value.string ⟨#[]⟩,Value.int IntKind.i64 0,Value.slice none 0 0,Value.slice none 0 0,Value.int IntKind.i64 0,Value.int IntKind.i64 0] 40)
        have mZ:=((Mod.refl [] w3).alloc (Obj.cells #[Value.int IntKind.i64 0,Value.string ⟨#[]⟩,Value.slice none 0 0,Value.int IntKind.i64 0,Value.int IntKind.i64 0,Value.string ⟨#[]⟩,Value.int IntKind.i64 0,Value.int IntKind.i64 0,Value.string ⟨#[]⟩,Value.int IntKind.i64 0,Value.slice none 0 0,Value.int IntKind.i64 0,Value.string ⟨#[]⟩,Value.int IntKind.i64 0,Value.int IntKind.i64 0,Value.string ⟨#[]⟩,Value.int IntKind.i64 0,Value.slice none 0 0,Value.int IntKind.i64 0,Value.string ⟨#[]⟩,Value.int IntKind.i64 0,Value.string ⟨#[]⟩,Value.int IntKind.i64 0,Value.int IntKind.i64 0,Value.string ⟨#[]⟩,Value.int IntKind.i64 0,Value.slice none 0 0,Value.slice none 0 0,Value.int IntKind.i64 0,Value.int IntKind.i64 0] 40)).alloc (Obj.cells #[Value.int IntKind.i64 0,Value.int IntKind.i64 0,Value.int IntKind.i64 0] 42)
        have A1:=Hxq (((Mod.refl [] (w3.alloc (Obj.cells #[Value.int IntKind.i64 0,Value.string ⟨#[]⟩,Value.slice none 0 0,Value.int IntKind.i64 0,Value.int IntKind.i64 0,Value.string ⟨#[]⟩,Value.int IntKind.i64 0,Value.int IntKind.i64 0,Value.string ⟨#[]⟩,Value.int IntKind.i64 0,Value.slice none 0 0,Value.int IntKind.i64 0,Value.string ⟨#[]⟩,Value.int IntKind.i64 0,Value.int IntKind.i64 0,Value.string ⟨#[]⟩,Value.int IntKind.i64 0,Value.slice none 0 0,Value.int IntKind.i64 0,Value.string ⟨#[]⟩,Value.int IntKind.i64 0,Value.string ⟨#[]⟩,Value.int IntKind.i64 0,Value.int IntKind.i64 0,Value.string ⟨#[]⟩,Value.int IntKind.i64 0,Value.slice none 0 0,Value.slice none 0 0,Value.int IntKind.i64 0,Value.int IntKind.i64 0] 40))).alloc (Obj.cells #[Value.int IntKind.i64 0,Value.int IntKind.i64 0,Value.int IntKind.i64 0] 42)).at a6 (by simp))
        have b7:=heap_alloc_new (w3.alloc (Obj.cells #[Value.int IntKind.i64 0,Value.string ⟨#[]⟩,Value.slice none 0 0,Value.int IntKind.i64 0,Value.int IntKind.i64 0,Value.string ⟨#[]⟩,Value.int IntKind.i64 0,Value.int IntKind.i64 0,Value.string ⟨#[]⟩,Value.int IntKind.i64 0,Value.slice none 0 0,Value.int IntKind.i64 0,Value.string ⟨#[]⟩,Value.int IntKind.i64 0,Value.int IntKind.i64 0,Value.string ⟨#[]⟩,Value.int IntKind.i64 0,Value.slice none 0 0,Value.int IntKind.i64 0,Value.string ⟨#[]⟩,Value.int IntKind.i64 0,Value.string ⟨#[]⟩,Value.int IntKind.i64 0,Value.int IntKind.i64 0,Value.string ⟨#[]⟩,Value.int IntKind.i64 0,Value.slice none 0 0,Value.slice none 0 0,Value.int IntKind.i64 0,Value.int IntKind.i64 0] 40)) (Obj.cells #[Value.int IntKind.i64 0,Value.int IntKind.i64 0,Value.int IntKind.i64 0] 42)
        have hz1:(w3.alloc (Obj.cells #[Value.int IntKind.i64 0,Value.string ⟨#[]⟩,Value.slice none 0 0,Value.int IntKind.i64 0,Value.int IntKind.i64 0,Value.string ⟨#[]⟩,Value.int IntKind.i64 0,Value.int IntKind.i64 0,Value.string ⟨#[]⟩,Value.int IntKind.i64 0,Value.slice none 0 0,Value.int IntKind.i64 0,Value.string ⟨#[]⟩,Value.int IntKind.i64 0,Value.int IntKind.i64 0,Value.string ⟨#[]⟩,Value.int IntKind.i64 0,Value.slice none 0 0,Value.int IntKind.i64 0,Value.string ⟨#[]⟩,Value.int IntKind.i64 0,Value.string ⟨#[]⟩,Value.int IntKind.i64 0,Value.int IntKind.i64 0,Value.string ⟨#[]⟩,Value.int IntKind.i64 0,Value.slice none 0 0,Value.slice none 0 0,Value.int IntKind.i64 0,Value.int IntKind.i64 0] 40)).heap.size=w3.heap.size+1:=by simp
        rw [hz1] at b7
        have B1:=Lib.hid b7;have MZ:=Lib.hid mZ
        clear a6 mZ b7 hz1
        go_upto_region 21 with (first | refine wpList_store_at rfl 40 _ _ rfl w3.heap.size C _ 40 rfl rfl A1.out (size_of sizeL hCs) (by rw [hCs];rfl) HC1.out ?_ | refine wpList_store_at rfl 42 _ _ rfl (w3.heap.size+1) #[.int .i64 v0,.int .i64 v1,.int .i64 v2] _ 42 rfl rfl ((setRow_other _ w3.heap.size (w3.heap.size+1) C (by omega)).trans B1.out) sizeFlt rfl rfl ?_)
        generalize (w3.alloc (Obj.cells _ 40)).alloc (Obj.cells _ 42)=w4 at *
        have mR:=Mod.setRow w4 w3.heap.size C
        have mR2:=Mod.setRow (w4.setRow w3.heap.size C) (w3.heap.size+1) #[.int .i64 v0,.int .i64 v1,.int .i64 v2]
        have L5:=Hxq (mR2.at (setRow_heap w4 w3.heap.size _ C 40 _ A1.out) (by simp))
        have F5:=Hxq (setRow_heap (w4.setRow w3.heap.size C) (w3.heap.size+1) _ #[.int .i64 v0,.int .i64 v1,.int .i64 v2] 42 _ ((setRow_other w4 w3.heap.size (w3.heap.size+1) C (by omega)).trans B1.out))
        have M5:Hid (Mod [] w3 _):=Hxq ((MZ.out.trans mR (fun t ht=>by rw [Msq] at ht;subst ht;exact .inr (Nat.le_refl _))).trans mR2 (fun t ht=>by rw [Msq] at ht;subst ht;exact .inr (by omega)))
        clear mR mR2 A1 B1 MZ
        generalize (w4.setRow w3.heap.size C).setRow _ _=w5 at *
        generalize w3.heap.size=b6 at *
        have f0:=cell_at F5.out 0
        simp only [Nat.add_zero,List.getElem?_toArray,List.getElem?_cons_zero] at f0
        have M10:=Hxq (HM3.out.trans M5.out (by simp))
        rcases HCA.out with hv | ⟨hv,F,r,ur,hne,hEB,hEO,hcl⟩
        ·have hv1:(v0 == 0)=false:=by rw [beq_eq_false_iff_ne];exact hv
         go_wp2_with fail
         go_roundw
         case rel=>exact ⟨i+1,false,by omega,rfl,by go_num,HN.out,M10.out⟩
         case measure=>simp [intOf];omega
        ·subst hv
         have lc:∀ j,j<7->w5.cell? ⟨b6,11+j,none⟩=(exV r ur)[j]?:=fun j hj=>(cell_at L5.out (11+j)).trans (hcl j hj)
         have l0:=lc 0 (by omega);have l1:=lc 1 (by omega);have l2:=lc 2 (by omega);have l3:=lc 3 (by omega);have l4:=lc 4 (by omega);have l5:=lc 5 (by omega);have l6:=lc 6 (by omega)
         have d:=fun j=>cell_at (M10.out.at E7.out (by simp)) j
         have d0:=d 0;have d1:=d 1;have d2:=d 2;have d3:=d 3;have d4:=d 4;have d5:=d 5;have d6:=d 6
         have hEB5:=hEB.keep M5.out (by simp)
         unfold exV at l0 l1 l2 l3 l4 l5 l6
         simp only [Nat.add_zero,Nat.reduceAdd,List.getElem?_toArray,List.getElem?_cons_zero,List.getElem?_cons_succ] at l0 l1 l2 l3 l4 l5 l6 d0 d1 d2 d3 d4 d5 d6
         have HEB5:=Lib.hid hEB5;have HNE:=Lib.hid hne;have HEO:=Lib.hid hEO
         clear d lc hEB hEB5 hne hEO hcl HCA
         go_wp2_with fail
         refine Calls.mono (sameExpr_all r e (by have:=HOE.out;have:=HWT.out;omega) HEO.out HO.out ur _ w5 HEB5.out (HE.out.keep (M7.out.trans M10.out (by simp)) (by simp))) ?_
         rintro e11 w11 ⟨b,rfl,hbt,m11⟩
         have hbf:b=false:=by
          cases b with
          | false=>rfl
          | true=>exact absurd (hbt rfl) HNE.out
         subst hbf
         have M11:=Hxq (M10.out.trans m11 (by simp))
         clear m11 hbt l0 l1 l2 l3 l4 l5 l6 d0 d1 d2 d3 d4 d5 d6
         go_wp2_with fail
         go_roundw
         case rel=>exact ⟨i+1,false,by omega,rfl,by go_num,HN.out,M11.out⟩
         case measure=>simp [intOf];omega
       ·have e3:((c:Int) == 40)=false:=by rw [beq_eq_false_iff_ne];omega
        have e3p:¬ (c:Int)=40:=by omega
        have HN:Hid (∀ p∈Pk.opn (qn false) (i+1) (t.drop (i+1)),p∈Pk.opn 0 0 t):=Hxq (by
         have h:=HC2.out
         change ∀ p∈Pk.opn 0 i (c :: t.drop (i+1)),_ at h
         rw [opn_o _ _ _ c34 c40] at h
         exact h)
        clear c34 c40 HC2
        go_wp2_with fail
        go_roundw
        case rel=>exact ⟨i+1,false,by omega,rfl,by go_num,HN.out,HM.out⟩
        case measure=>simp [intOf];omega
    ·have hiI:¬ (i:Int)<(sT.size:Int):=by omega
     go_wp2_with fail
     rw [HR.out]
     exact ⟨rfl,M7.out.trans HM.out (by simp)⟩
section
variable {H:Type} {enc:TypeId × Value->H} {W:World} {v0:Value} {d:DataW H} {p:List MemPlace}
theorem open_expr_arg (hv:∃ cs,v0=.agg cs/\cs.size=Tryz.prog.cellsOf 26) (h:DataW.Trod enc Tryz.prog W 0 (fun _=>true) true 26 v0 d p) :
  ∃ (e:Pr.Ex) (u:Value),v0=.agg (exV e u)/\(EB All W e u/\Rt.ExV e)/\exWt e<=1000 * Rows.uptoBulk d:=by
 obtain ⟨cs,rfl,-⟩:=hv
 obtain ⟨fuel,hf⟩:=h
 obtain ⟨q,⟨⟨e,hB,hV⟩,-⟩,hw⟩:=open_expr fuel hf
 refine ⟨q.1,q.2,?_,⟨hB,hV⟩,hw⟩
 congr 1
 apply Array.ext'
 simpa [Value.cells] using e
end
end Go.Proofs.YtbfaclljbbfknaaGreatDoor
