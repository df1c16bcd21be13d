/- THE TEXTS MERGED: SyLawPieces SyGlob PfSyPieces. -/
import Derived.Test.YtppigckioalhhaaGreatDoorRKP1
import Derived.Test.YtppigckioalhhaaGreatDoorRKP29
import Derived.Test.YtppigckioalhhaaGreatDoorRKP30
import Derived.Test.YtppigckioalhhaaGreatDoorRKP20
import Derived.Test.YtppigckioalhhaaGreatDoorRRows
import Derived.ProofKit
import Derived.OpenShut
import Derived.LaidMore
import Derived.Stop.LaidErr
import Derived.Stop.Joined
import Derived.Test.YtppigckioalhhaaGreatDoorRCards
import Derived.Test.YtppigckioalhhaaGreatDoorRTie
import Derived.ShutString
import Derived.SizedLaws
import Derived.JoinedCond
import Derived.Deep.CondSized
import Derived.Deep.DeepHandedRow
import Derived.Deep.DeepWitnessRowRef
import Derived.SevenTiedAt
namespace Go.Proofs.YtppigckioalhhaaGreatDoorR
open Go.RowKit
set_option linter.unusedVariables false
set_option linter.unusedSimpArgs false
set_option maxRecDepth 100000
theorem rule_word {s:ByteArray} (hs:s.size<=140737488351232) {p e:Nat} (h:Sy.Apart (Cod.str s) p e) (hpe:p<e) {r:Pr.Rul} (hr:Sy.rule (Sy.envOf (Cod.str s)) p=.ok r e) :
  ∃ r',Sy.bareU r=Sy.bareU r'/\PgM ⟨[],[r']⟩/\∀ w,Glob w->Calls Tryz.prog 15 #[.string (s.extract (Sy.offT (Cod.str s) ((Sy.envOf (Cod.str s)).tk p)) (Sy.offT (Cod.str s) ((Sy.envOf (Cod.str s)).tk e)))] w fun en w' =>
   ∃ C:Array Value,en=.returned (.tuple #[.agg C,.agg #[.int .i64 0,.int .i64 0,.int .i64 0]])/\valR w.heap.size r' w' (.agg C)/\Mod [] w w':=by
 obtain ⟨r',j,h1,h2⟩:=Sy.rule_piece h hr hpe
 have he:Cod.str (s.extract (Sy.offT (Cod.str s) ((Sy.envOf (Cod.str s)).tk p)) (Sy.offT (Cod.str s) ((Sy.envOf (Cod.str s)).tk e)))=Sy.cutT (Cod.str s) ((Sy.envOf (Cod.str s)).tk p) ((Sy.envOf (Cod.str s)).tk e):=Lx.str_extract _ _ _
 rw [<-he] at h1
 obtain ⟨i,h3⟩:=Sy.one_of h1
 have hl:=(Sy.env_toks _ (Cod.str_lt (s.extract (Sy.offT (Cod.str s) ((Sy.envOf (Cod.str s)).tk p)) (Sy.offT (Cod.str s) ((Sy.envOf (Cod.str s)).tk e))))).2
 have hm:=Sy.rule_M h3
 refine ⟨r',h2,⟨by simp,by simp,by simp,fun q hq=>?_,fun q hq=>?_,fun q hq=>?_⟩,fun w hG=>AllRes.okC (entU_any _ (by rw [ByteArray.size_extract];omega) w hG) h1⟩
 ·rw [Msq] at hq;subst hq;have:=hm.1;omega
 ·rw [Msq] at hq;subst hq;have:=hm.2.1;omega
 ·rw [Msq] at hq;subst hq;have:=hm.2.2;omega
theorem PgB.one {w:World} {g:Nat} {T:TypeId} {r:Pr.Rul} {tu ub:Value} {fr:Nat × Nat} (h:w.heap[g]?=some (.cells (ruV r tu ub) T fr)) (ht:RowB (fun _=>True) w 5 tmV r.head.terms tu) (hb:BB (fun _=>True) w r.body ub) :
  PgB (fun _=>True) w ⟨[],[r]⟩ (.agg #[.slice none 0 0,.slice (some ⟨g,0,none⟩) 1 1]) :=
 ⟨[],[(r,tu,ub)],_,_,rfl,rfl,.nil,RowB.row (l:=[(r,tu,ub)]) (cs:=csU) trivial (lt_of_block h) (fun i hi=>by
  obtain rfl:i=0:=by simp at hi;omega
  intro j v hv
  simp only [List.getElem_cons_zero,Nat.zero_mul,Nat.add_zero,Nat.zero_add] at hv ⊢
  rw [cell_at h];exact hv),by simp,fun q hq=>by rw [Msq] at hq;subst hq;exact ⟨ht,hb⟩⟩
theorem tk_dot (s:List Nat) (i:Nat) (h:((Sy.envOf s).tk i).kind=1):((Sy.envOf s).tk i).text≠[46]:=by
 intro e
 by_cases hi:i<(Sy.envOf s).ws.length
 ·have hm:=Sy.env_k s _ (List.getElem_mem hi)
  rw [Sy.tk_ws _ hi] at h e
  have:=hm.name h
  rw [e] at this
  exact absurd this (by decide)
 ·unfold Sy.Env.tk at h
  rw [List.getD_eq_getElem?_getD,List.getElem?_eq_none (by omega)] at h
  exact absurd h (by decide)
theorem tl_dot:(Lx.ofS [46]).toList=[46]:=by rw [ByteArray.toList_eq];rfl
theorem tl_rel:(Lx.ofS [114,101,108,97,116,105,111,110]).toList=[114,101,108,97,116,105,111,110]:=by rw [ByteArray.toList_eq];rfl
theorem whole_prog {v:Sy.Env} {p:Pr.Prog} {j:Nat} (h:Sy.whole v (Sy.prog v)=.ok p j):∃ e,Sy.prog v 0=.ok p e:=Sy.one_of h
theorem pgM_one {p:Pr.Prog} (h:PgM p) {n:Nat} (hn:n<p.rules.length):PgM ⟨[],[p.rules[n]]⟩ :=
 ⟨by simp,by simp,by simp,fun q hq=>by rw [Msq] at hq;subst hq;exact h.terms _ (List.getElem_mem hn),fun q hq=>by rw [Msq] at hq;subst hq;exact h.body _ (List.getElem_mem hn),fun q hq=>by rw [Msq] at hq;subst hq;exact h.deep _ (List.getElem_mem hn)⟩
set_option maxHeartbeats 32000000 in
theorem SyntaxPieces_any (s:ByteArray) (hs:s.size<=140737488351232) (w:World) (hG:Glob w) :
  Calls Tryz.prog 8 #[.string s] w fun e w'=>e=.returned (.bool true)/\Mod [] w w':=by
 have hP:=fun w hG=>entP_any s (by omega) w hG
 have HT:=Hxq (fun w hG=>Tokens_any s (by omega) w hG)
 have hnz:Sy.Nz (Sy.whole (Sy.envOf (Cod.str s)) (Sy.prog (Sy.envOf (Cod.str s)))):=Sy.nz_whole (Sy.env_last _) (Sy.nz_prog (Sy.env_last _) 0)
 obtain ⟨q,hq⟩:∃ q,Sy.whole (Sy.envOf (Cod.str s)) (Sy.prog (Sy.envOf (Cod.str s)))=q:=⟨_,rfl⟩
 rw [hq] at hP hnz
 have HCS:Hid (Cod.str s=Cod.str s):=Lib.hid rfl
 cases q with
 | err g =>
  have hg:=hnz g rfl
  have hgB:((g.1:Int) != 0)=true:=by rw [bne_iff_ne];omega
  have HP:=Lib.hid hP
  clear hP hnz hg hq
  go_enter Tryz.func8,Tryz.ntmps8
  go_wp2_with fail
  refine (shown_any w hG).mono ?_
  rintro e0 w0 ⟨rfl,m0⟩
  have M0:=Lib.hid m0
  clear m0
  go_wp2_with fail
  refine (HP.out w0 (hG.past M0.out (by simp))).mono ?_
  rintro e1 w1 ⟨rfl,m1⟩
  have M1:=Hxq (M0.out.trans m1 (by simp))
  clear m1
  unfold fltC
  have mA:=((Mod.refl [] w1).alloc (Obj.cells #[.slice none 0 0,.slice none 0 0] 26)).alloc (Obj.cells #[.int .i64 (g.1:Nat),.int .i64 (g.2.1:Nat),.int .i64 (g.2.2:Nat)] 31)
  have eA:=two_b w1 #[.slice none 0 0,.slice none 0 0] #[.int .i64 (g.1:Nat),.int .i64 (g.2.1:Nat),.int .i64 (g.2.2:Nat)] 26 31
  go_upto_region 3 with fail
  generalize (w1.alloc (Obj.cells _ 26)).alloc (Obj.cells _ 31)=w2 at *
  have M2:=Hxq (M1.out.trans mA (by simp));have EA:=Lib.hid eA
  clear mA eA
  go_wp2_with fail
  refine (HT.out w2 (hG.past M2.out (by simp))).mono ?_
  rintro e3 w3 ⟨tv,rfl,hrow,m3⟩
  obtain ⟨ta,tc,rfl⟩:=hrow.lit
  have M3:=Hxq (M2.out.trans m3 (by simp));have E3:=Hxq (m3.at EA.out (by simp));have HR3:=Lib.hid hrow
  clear m3 EA hrow
  generalize hfl:Lx.fault (Cod.str s)=fl at *
  have HFL:=Lib.hid hfl
  clear hfl
  generalize htl:Lx.tokens (Cod.str s)=tl at *
  have HTL:=Lib.hid htl
  clear htl
  unfold fltV
  have mB:=(Mod.refl [] w3).alloc (Obj.cells #[.int .i64 (fl.1:Nat),.int .i64 (fl.2.1:Nat),.int .i64 (fl.2.2:Nat)] 31)
  have eB:=heap_alloc_new w3 (Obj.cells #[.int .i64 (fl.1:Nat),.int .i64 (fl.2.1:Nat),.int .i64 (fl.2.2:Nat)] 31)
  have hz3:=lt_of_block E3.out
  go_upto_region 4 with fail
  generalize w3.alloc (Obj.cells _ 31)=w4 at *
  have M4:=Hxq (M3.out.trans mB (by simp));have E4:=Hxq (mB.at E3.out (by simp));have F4:=Lib.hid eB;have HR4:=Hxq (HR3.out.past mB (by simp))
  clear mB eB E3 HR3
  have f0:=cell_at E4.out 0
  have f1:=cell_at F4.out 0
  simp only [List.getElem?_toArray,List.getElem?_cons_zero] at f0 f1
  go_wp2_with fail
  go_ret
  exact ⟨rfl,M4.out⟩
 | ok p j =>
  have HP:=Lib.hid hP
  clear hP hnz
  by_cases hc:(Lx.given (Cod.str s)).2.code=0
  ·have htoks:Lx.tokens (Cod.str s)=(Sy.envOf (Cod.str s)).ws:=by unfold Lx.tokens;rw [if_pos hc];rfl
   have hflt:Lx.fault (Cod.str s)=(0,0,0):=by unfold Lx.fault;rw [if_pos hc]
   have hlen:=(Sy.env_toks (Cod.str s) (Cod.str_lt s)).2
   have hpm:=Sy.prog_pgM hlen hq
   obtain ⟨pe,hpe0⟩:=whole_prog hq
   have HS0:=Hxq (Sy.Stand.begin hpe0)
   have HKD:=Hxq (tk_dot (Cod.str s))
   have HBY:=Hxq (fun k=>(envOk s).tbyte k)
   have HAP:=Hxq (fun (p e:Nat) (hpe:p<e) (he:e<(Sy.envOf (Cod.str s)).ws.length)=>(show Sy.Apart (Cod.str s) p e/\Sy.Placed (Cod.str s) ((Sy.envOf (Cod.str s)).tk p)/\Sy.Placed (Cod.str s) ((Sy.envOf (Cod.str s)).tk e)/\Sy.offT (Cod.str s) ((Sy.envOf (Cod.str s)).tk p)<Sy.offT (Cod.str s) ((Sy.envOf (Cod.str s)).tk e) from ⟨Sy.apart_of (Cod.str_lt s) hc hpe he,(Sy.apart_of (Cod.str_lt s) hc hpe he).pp,(Sy.apart_of (Cod.str_lt s) hc hpe he).pe,(Sy.apart_of (Cod.str_lt s) hc hpe he).lt⟩))
   have HOW:=Hxq (fun (p:Nat) (h:Sy.Placed (Cod.str s) ((Sy.envOf (Cod.str s)).tk p)) w=>off_word hs hc (p:=p) h w)
   have HRW:=Hxq (fun (p e:Nat) (h:Sy.Apart (Cod.str s) p e) hpe (r:Pr.Rul) hr=>rule_word hs h hpe (r:=r) hr)
   have HPC:=Hxq (fun (u:Value) (F G:Nat->Prop) (r:Pr.Rul) (tu ub:Value) (fr dot e:Nat) hP hq1 hq2 hq3 w hG hT h1 h2=>pieces_any s hs hc u (F:=F) (G:=G) r tu ub fr dot e hP hq1 hq2 hq3 w hG hT h1 h2)
   have hsz:=Cod.str_len s
   have HPM:=Lib.hid hpm
   clear hq hpe0 hpm
   go_enter Tryz.func8,Tryz.ntmps8
   go_wp2_with fail
   refine (shown_any w hG).mono ?_
   rintro e0 w0 ⟨rfl,m0⟩
   have M0:=Lib.hid m0
   clear m0
   go_wp2_with fail
   refine (HP.out w0 (hG.past M0.out (by simp))).mono ?_
   rintro e1 w1 ⟨C,rfl,hval,m1⟩
   have M1:=Hxq (M0.out.trans m1 (by simp))
   obtain ⟨a1,c1,a2,c2,rfl⟩:=valP_lit hval
   have PB1:=Hxq (show PgB (fun _=>True) w1 p (.agg #[.slice a1 p.rels.length c1,.slice a2 p.rules.length c2]) from PgB.mono hval (fun _ _ _=>trivial))
   clear m1 hval
   generalize hn1:p.rels.length=n1 at *
   generalize hn2:p.rules.length=n2 at *
   have HN2:=Lib.hid hn2;have HN1:=Lib.hid hn1
   clear hn1 hn2
   have mA:=((Mod.refl [] w1).alloc (Obj.cells #[.slice a1 n1 c1,.slice a2 n2 c2] 26)).alloc (Obj.cells #[.int .i64 0,.int .i64 0,.int .i64 0] 31)
   have eP:=two_a w1 #[.slice a1 n1 c1,.slice a2 n2 c2] #[.int .i64 0,.int .i64 0,.int .i64 0] 26 31
   have eA:=two_b w1 #[.slice a1 n1 c1,.slice a2 n2 c2] #[.int .i64 0,.int .i64 0,.int .i64 0] 26 31
   go_upto_region 3 with fail
   generalize (w1.alloc (Obj.cells _ 26)).alloc (Obj.cells _ 31)=w2 at *
   have M2:=Hxq (M1.out.trans mA (by simp));have EA:=Lib.hid eA;have EP:=Lib.hid eP;have PB2:=Hxq (PB1.out.keep mA (by simp))
   clear mA eA eP PB1
   go_wp2_with fail
   refine (HT.out w2 (hG.past M2.out (by simp))).mono ?_
   rintro e3 w3 ⟨tv,rfl,hrow,m3⟩
   have M3:=Hxq (M2.out.trans m3 (by simp));have E3:=Hxq (m3.at EA.out (by simp));have P3:=Hxq (m3.at EP.out (by simp));have PB3:=Hxq (PB2.out.keep m3 (by simp))
   have hr:=hrow.rowB
   clear m3 EA EP PB2 hrow
   rw [hflt]
   rw [htoks] at hr
   obtain ⟨ta,tc,rfl⟩:=hr.lit
   have HR3:=Hxq (hr.mono (F':=fun _=>True) (fun _ _ _=>trivial))
   clear hr hflt htoks
   unfold fltV
   dsimp only
   have hzz:((0:Nat):Int)=0:=rfl
   simp only [hzz]
   clear hzz
   have mB:=(Mod.refl [] w3).alloc (Obj.cells #[.int .i64 0,.int .i64 0,.int .i64 0] 31)
   have eB:=heap_alloc_new w3 (Obj.cells #[.int .i64 0,.int .i64 0,.int .i64 0] 31)
   have hz3:=lt_of_block E3.out
   have hz4:=lt_of_block P3.out
   go_upto_region 4 with fail
   generalize w3.alloc (Obj.cells _ 31)=w4 at *
   have M4:=Hxq (M3.out.trans mB (by simp));have E4:=Hxq (mB.at E3.out (by simp));have P4:=Hxq (mB.at P3.out (by simp));have PB4:=Hxq (PB3.out.keep mB (by simp));have F4:=Lib.hid eB;have HR4:=Hxq (HR3.out.keep mB (by simp))
   clear mB eB E3 P3 PB3 HR3
   have f0:=cell_at E4.out 0
   have f1:=cell_at F4.out 0
   simp only [List.getElem?_toArray,List.getElem?_cons_zero] at f0 f1
   generalize hv:Sy.envOf (Cod.str s)=v at *
   clear hv
   go_wp2_with fail
   go_loopw [8,9,10] (fun nv fv iv wr=>∃ n fr i:Nat,i<=v.ws.length/\fr<=i/\nv=.int .i64 (n:Nat)/\fv=.int .i64 (fr:Nat)/\iv=.int .i64 (i:Nat)/\Sy.Stand v p n fr/\Sy.NoDot v fr i/\Mod [] w4 wr) (fun nv fv iv wr=>v.ws.length - (intOf iv).toNat)
   case atStart=>exact ⟨0,0,0,Nat.zero_le _,Nat.le_refl _,rfl,rfl,rfl,HS0.out,.nil _,Mod.refl _ _⟩
   case round =>
    obtain ⟨n,fr,i,hi,hfi,rfl,rfl,rfl,hst,hnd,hm⟩:=hrel
    have HST:=Lib.hid hst;have HND:=Lib.hid hnd;have MR:=Lib.hid hm
    have P5:=Hxq (hm.at P4.out (by simp));have PB5:=Hxq (PB4.out.keep hm (by simp));have T5:=Hxq (HR4.out.keep hm (by simp))
    clear hst hnd hm
    have x1:=cell_at P5.out 1
    simp only [List.getElem?_toArray,List.getElem?_cons_zero,List.getElem?_cons_succ] at x1
    by_cases hlt:i<v.ws.length
    ·have hiI:(i:Int)<(v.ws.length:Int):=by omega
     have hi0:(0:Int)<=(i:Int):=by omega
     obtain ⟨tb,tf,rfl,hci⟩:=T5.out.at i hlt
     rw [<-Sy.tk_ws v hlt] at hci
     have p0:=hci 0 (.int .i64 ((v.tk i).kind:Nat)) rfl;have p1:=hci 1 (.string (Lx.ofS (v.tk i).text)) rfl
     rw [Nat.add_zero] at p0
     by_cases hk5:(v.tk i).kind=5
     ·have k5:(((v.tk i).kind:Int) != 5)=false:=by rw [hk5];rfl
      have hq:=ofS_beq (HBY.out i) (l:=[46]) (by decide)
      rw [tl_dot] at hq
      by_cases hdt:(v.tk i).text=[46]
      ·have hqt:((Lx.ofS (v.tk i).text).toList == ([46]:List UInt8))=true:=by rw [hq,hdt];rfl
       have hqn:(!((Lx.ofS (v.tk i).text).toList == ([46]:List UInt8)))=false:=by rw [hqt];rfl
       have hdot:Sy.isDot (v.tk i)=true:=by unfold Sy.isDot;rw [hk5,hdt];rfl
       obtain ⟨d,hd1,hd2,hd3,hd4,hd5⟩:=HST.out.next (by omega) HKD.out
       have hdi:d=i:=by
        rcases Nat.lt_trichotomy d i with h | h | h
        ·exact absurd (HND.out d hd1 h) (by rw [hd3];decide)
        ·exact h
        ·exact absurd (hd4 i hfi h) (by rw [hdot];decide)
       subst hdi
       have HD5:=Lib.hid hd5
       have hfn:fr≠d:=by
        intro e
        subst e
        rcases hd5 with ⟨h,-⟩ | ⟨h,-⟩
        ·exact absurd (Sy.dot_sign h (by decide)) (by rw [hdot];decide)
        ·exact absurd (Sy.dot_kind (t:=v.tk fr) (by rw [Sy.plain_kind h];decide)) (by rw [hdot];decide)
       clear hd1 hd2 hd3 hd4 hd5 hq hdot hk5 hdt HND HST hci
       have hfd:fr<d:=by omega
       clear hfn hfi
       obtain ⟨hA,hpp,hpe,ho12⟩:=HAP.out fr d hfd hlt
       have HA:=Lib.hid hA;have HO1:=Hxq (HOW.out fr hpp);have HO2:=Hxq (HOW.out d hpe)
       have ho2:=hpe.le
       rw [hsz] at ho2
       have HRW2:=Hxq (fun r hr=>HRW.out fr d hA hfd r hr)
       clear hA hpp hpe
       obtain ⟨tb2,tf2,htb2,hcf⟩:=T5.out.at fr (by omega)
       obtain ⟨tb3,tf3,htb3,hcd⟩:=T5.out.at d (by omega)
       simp only [Option.some.injEq,Addr.mk.injEq] at htb2 htb3
       obtain ⟨rfl,rfl,-⟩:=htb2
       obtain ⟨rfl,rfl,-⟩:=htb3
       rw [<-Sy.tk_ws v (by omega)] at hcf hcd
       have d5:=hcd 5 (.int .i64 ((v.tk d).line:Nat)) rfl;have d6:=hcd 6 (.int .i64 ((v.tk d).col:Nat)) rfl
       have f5:=hcf 5 (.int .i64 ((v.tk fr).line:Nat)) rfl;have f6:=hcf 6 (.int .i64 ((v.tk fr).col:Nat)) rfl
       have hf0:(0:Int)<=(fr:Int):=by omega
       have hfI:(fr:Int)<(v.ws.length:Int):=by omega
       have HCF:=Hxq (fun w' (m:Mod [] wr w')=>And.intro (m.cell (hcd 5 (.int .i64 ((v.tk d).line:Nat)) rfl) (by simp)) (And.intro (m.cell (hcd 6 (.int .i64 ((v.tk d).col:Nat)) rfl) (by simp)) (m.cell (hcf 1 (.string (Lx.ofS (v.tk fr).text)) rfl) (by simp))))
       clear hcf hcd
       go_wp2_with fail
       refine (HO1.out wr).mono ?_
       rintro e5 w5 ⟨rfl,m5⟩
       have N5:=Lib.hid m5
       obtain ⟨d5',d6',f1'⟩:=HCF.out _ m5
       clear m5 d5 d6 f5 f6 p0 p1 k5 hqt hqn HO1
       go_wp2_with fail
       refine (HO2.out w5).mono ?_
       rintro e6 w6 ⟨rfl,m6⟩
       have N6:=Hxq (N5.out.trans m6 (by simp))
       clear m6 d5' d6' f1' N5 HO2
       obtain ⟨d5',d6',f1'⟩:=HCF.out _ N6.out
       have M6:=Hxq (MR.out.trans N6.out (by simp));have P6:=Hxq (N6.out.at P5.out (by simp));have PB6:=Hxq (PB5.out.keep N6.out (by simp));have T6:=Hxq (T5.out.keep N6.out (by simp))
       clear d5' d6' x1 P5 PB5 T5 MR N6 HCF
       have hqr:=ofS_beq (HBY.out fr) (l:=[114,101,108,97,116,105,111,110]) (by decide)
       rw [tl_rel] at hqr
       rcases HD5.out with ⟨hrel,hst2⟩ | ⟨hpl,hn,hru,hst2⟩
       ·have hqt:((Lx.ofS (v.tk fr).text).toList == ([114,101,108,97,116,105,111,110]:List UInt8))=true:=by rw [hqr,Sy.sign_word hrel];rfl
        have HST2:=Lib.hid hst2
        clear hqr hrel hst2 HD5
        go_wp2_with fail
        go_roundw
        case rel=>exact ⟨n,d+1,d+1,by omega,Nat.le_refl _,rfl,by go_num,by go_num,HST2.out,.nil _,M6.out⟩
        case measure=>simp [intOf];omega
       ·have hqt:((Lx.ofS (v.tk fr).text).toList == ([114,101,108,97,116,105,111,110]:List UInt8))=false:=by rw [hqr,decide_eq_false (Sy.plain_word hpl)]
        have HST2:=Lib.hid hst2;have HRU:=Lib.hid hru
        clear hqr hpl hst2 HD5
        have hn2:n<n2:=by rw [<-HN2.out];exact hn
        have hnb:n<=1048576:=by have:=HPM.out.rules;omega
        have hnI:¬ (n2:Int)<=(n:Int):=by omega
        have hnI2:(n:Int)<(n2:Int):=by omega
        have hnI0:(0:Int)<=(n:Int):=by omega
        have x1:=cell_at P6.out 1
        simp only [List.getElem?_toArray,List.getElem?_cons_zero,List.getElem?_cons_succ] at x1
        generalize Sy.offT (Cod.str s) (v.tk fr)=o1 at *
        generalize Sy.offT (Cod.str s) (v.tk d)=o2 at *
        have ha0:¬ (o1:Int)<0:=by omega
        have hb0:¬ (s.size:Int)<(o2:Int):=by omega
        have hab:¬ (o2:Int)<(o1:Int):=by omega
        have ho3:o1<=o2:=by omega
        obtain ⟨r',hbu,hpm1,hcall⟩:=HRW2.out _ HRU.out
        have HCA:=Lib.hid hcall;have HBU:=Lib.hid hbu;have HP1:=Lib.hid hpm1
        clear hbu hpm1 hcall HRW2
        have hG6:=Hxq (hG.past (M4.out.trans M6.out (by simp)) (by simp))
        go_wp2_with fail
        refine (HCA.out w6 hG6.out).mono ?_
        rintro e7 w7 ⟨C,rfl,⟨tu,ub,hC,hrt,hrb⟩,m7⟩
        obtain rfl:C=ruV r' tu ub:=by simpa using hC
        clear hC HCA
        obtain ⟨ta1,tc1,rfl⟩:=hrt.lit
        obtain ⟨ba1,bc1,rfl⟩:=hrb.lit
        obtain ⟨⟨rel1,ts1⟩,body1,ln1,cl1⟩:=r'
        dsimp only [ruV] at *
        have hz7:=m7.size
        have mA:=((Mod.refl [] w7).alloc (Obj.cells #[.string rel1,.slice ta1 ts1.length tc1,.slice ba1 body1.length bc1,.int .i64 ln1,.int .i64 cl1] 55)).alloc (Obj.cells #[.int .i64 0,.int .i64 0,.int .i64 0] 31)
        have eR:=two_a w7 #[.string rel1,.slice ta1 ts1.length tc1,.slice ba1 body1.length bc1,.int .i64 ln1,.int .i64 cl1] #[.int .i64 0,.int .i64 0,.int .i64 0] 55 31
        have eF:=two_b w7 #[.string rel1,.slice ta1 ts1.length tc1,.slice ba1 body1.length bc1,.int .i64 ln1,.int .i64 cl1] #[.int .i64 0,.int .i64 0,.int .i64 0] 55 31
        have T7:=Hxq ((T6.out.keep m7 (by simp)).keep mA (by simp));have P7:=Hxq (mA.at (m7.at P6.out (by simp)) (by simp));have PB7:=Hxq ((PB6.out.keep m7 (by simp)).keep mA (by simp));have M7:=Hxq ((M6.out.trans m7 (by simp)).trans mA (by simp));have ER:=Lib.hid eR;have EF:=Lib.hid eF
        have RT:=Hxq ((hrt.mono (F':=fun _=>True) (fun _ _ _=>trivial)).keep mA (by simp));have RB:=Hxq ((hrb.mono (F':=fun _=>True) (fun _ _ _=>trivial)).keep mA (by simp))
        have hzP:=lt_of_block P6.out
        clear m7 mA eR eF hrt hrb T6 P6 PB6 M6 x1
        go_upto_region 21 with fail
        generalize (w7.alloc (Obj.cells _ 55)).alloc (Obj.cells _ 31)=w8 at *
        have x0:=cell_at ER.out 0;have x1:=cell_at ER.out 1;have x2:=cell_at ER.out 2;have x3:=cell_at ER.out 3;have x4:=cell_at ER.out 4
        simp only [List.getElem?_toArray,List.getElem?_cons_zero,List.getElem?_cons_succ] at x0 x1 x2 x3 x4
        have mS:=(Mod.refl [] w8).alloc (Obj.cells #[.string rel1,.slice ta1 ts1.length tc1,.slice ba1 body1.length bc1,.int .i64 ln1,.int .i64 cl1] 55)
        have eS:=heap_alloc_new w8 (Obj.cells #[.string rel1,.slice ta1 ts1.length tc1,.slice ba1 body1.length bc1,.int .i64 ln1,.int .i64 cl1] 55)
        have HS1:=Hxq (PgB.one (r:=⟨⟨rel1,ts1⟩,body1,ln1,cl1⟩) eS (RT.out.keep mS (by simp)) (RB.out.keep mS (by simp)))
        have T8:=Hxq (T7.out.keep mS (by simp));have P8:=Hxq (mS.at P7.out (by have:=lt_of_block P7.out;simp));have PB8:=Hxq (PB7.out.keep mS (by simp));have M8:=Hxq (M7.out.trans mS (by simp));have E8:=Hxq (mS.at EF.out (by simp))
        clear mS eS RT RB T7 P7 PB7 M7 ER EF
        go_wp2_with fail
        generalize w8.alloc (Obj.cells _ 55)=w8' at *
        refine (bare_any _ HP1.out _ _ HS1.out).mono ?_
        rintro e9 w9 ⟨X,rfl,hpx,m9⟩
        obtain ⟨xa,xc,xb,xd,hx⟩:=hpx.lit
        simp only [Value.agg.injEq] at hx
        subst hx
        have hy:=hpx.mono (G:=fun _=>True) (fun _ _ _=>trivial)
        clear hpx
        simp only [Sy.bareP,List.map_nil,List.map_cons,List.length_nil,List.length_cons,Nat.zero_add] at hy ⊢
        have mX:=(Mod.refl [] w9).alloc (Obj.cells #[.slice xa 0 xc,.slice xb 1 xd] 26)
        have eX:=heap_alloc_new w9 (Obj.cells #[.slice xa 0 xc,.slice xb 1 xd] 26)
        have T9:=Hxq ((T8.out.keep m9 (by simp)).keep mX (by simp));have P9:=Hxq (mX.at (m9.at P8.out (by simp)) (by have:=lt_of_block (m9.at P8.out (by simp));simp));have PB9:=Hxq ((PB8.out.keep m9 (by simp)).keep mX (by simp));have M9:=Hxq ((M8.out.trans m9 (by simp)).trans mX (by simp));have E9:=Hxq (mX.at (m9.at E8.out (by simp)) (by have:=lt_of_block (m9.at E8.out (by simp));simp));have X9:=Lib.hid eX;have HX9:=Hxq (hy.keep mX (by simp))
        clear m9 mX eX hy HS1 T8 P8 PB8 M8 E8 x0 x1 x2 x3 x4
        go_upto_region 22 with fail
        generalize w9.alloc (Obj.cells _ 26)=w10 at *
        have hPB:=PB9.out
        rw [<-HN1.out,<-HN2.out] at hPB
        obtain ⟨pg,po,u0,u0',hpa,hpc,hpt,hpb⟩:=hPB.rulAt n hn
        clear hPB
        obtain ⟨e0,hpp⟩:=Sy.Parts.of HRU.out (by omega) hlt
        have hm1:=HPM.out.terms _ (List.getElem_mem hn);have hm2:=HPM.out.body _ (List.getElem_mem hn);have hm3:=HPM.out.deep _ (List.getElem_mem hn)
        have HM0:=Hxq (pgM_one HPM.out hn)
        clear HRU
        generalize p.rules[n]=r0 at *
        obtain ⟨ta0,tc0,rfl⟩:=hpt.lit
        obtain ⟨ba0,bc0,rfl⟩:=hpb.lit
        obtain ⟨⟨rel0,ts0⟩,body0,ln0,cl0⟩:=r0
        dsimp only [ruV] at *
        subst hpa
        have HPP:=Lib.hid hpp;have HPT:=Lib.hid hpt;have HPB:=Lib.hid hpb
        have HPCc:=Hxq (fun w' (m:Mod [] w10 w')=>And.intro (m.cell (hpc 0 (.string rel0) rfl) (by simp)) (And.intro (m.cell (hpc 1 (.slice ta0 ts0.length tc0) rfl) (by simp)) (And.intro (m.cell (hpc 2 (.slice ba0 body0.length bc0) rfl) (by simp)) (And.intro (m.cell (hpc 3 (.int .i64 ln0) rfl) (by simp)) (m.cell (hpc 4 (.int .i64 cl0) rfl) (by simp))))))
        have hm1':ts0.length<=1048576:=hm1
        have hm2':body0.length<=1048576:=hm2
        have HM3:=Lib.hid hm3
        clear hpp hpt hpb hpc hm1 hm2 hm3
        obtain ⟨x0,x1,x2,x3,x4⟩:=HPCc.out w10 (Mod.refl _ _)
        rw [Nat.add_zero] at x0
        have y1:=cell_at P9.out 1
        simp only [List.getElem?_toArray,List.getElem?_cons_zero,List.getElem?_cons_succ] at y1
        have mS:=(Mod.refl [] w10).alloc (Obj.cells #[.string rel0,.slice ta0 ts0.length tc0,.slice ba0 body0.length bc0,.int .i64 ln0,.int .i64 cl0] 55)
        have eS:=heap_alloc_new w10 (Obj.cells #[.string rel0,.slice ta0 ts0.length tc0,.slice ba0 body0.length bc0,.int .i64 ln0,.int .i64 cl0] 55)
        have HS2:=Hxq (PgB.one (r:=⟨⟨rel0,ts0⟩,body0,ln0,cl0⟩) eS ((HPT.out.mono (F':=fun _=>True) (fun _ _ _=>trivial)).keep mS (by simp)) ((HPB.out.mono (F':=fun _=>True) (fun _ _ _=>trivial)).keep mS (by simp)))
        have T10:=Hxq (T9.out.keep mS (by simp));have P10:=Hxq (mS.at P9.out (by have:=lt_of_block P9.out;simp));have PB10:=Hxq (PB9.out.keep mS (by simp));have M10:=Hxq (M9.out.trans mS (by simp));have E10:=Hxq (mS.at E9.out (by simp));have X10:=Hxq (mS.at X9.out (by simp));have HX10:=Hxq (HX9.out.keep mS (by simp));have N10:=Lib.hid mS
        clear mS eS T9 P9 PB9 M9 E9 X9 HX9
        go_wp2_with fail
        generalize w10.alloc (Obj.cells _ 55)=w11 at *
        refine (bare_any _ HM0.out _ _ HS2.out).mono ?_
        rintro e12 w12 ⟨Y,rfl,hpy,m12⟩
        obtain ⟨ya,yc,yb,yd,hx⟩:=hpy.lit
        simp only [Value.agg.injEq] at hx
        subst hx
        have hy:=hpy.mono (G:=fun _=>True) (fun _ _ _=>trivial)
        clear hpy
        simp only [Sy.bareP,List.map_nil,List.map_cons,List.length_nil,List.length_cons,Nat.zero_add] at hy ⊢
        rw [HBU.out] at hy
        have mX:=(Mod.refl [] w12).alloc (Obj.cells #[.slice ya 0 yc,.slice yb 1 yd] 26)
        have eX:=heap_alloc_new w12 (Obj.cells #[.slice ya 0 yc,.slice yb 1 yd] 26)
        have T12:=Hxq ((T10.out.keep m12 (by simp)).keep mX (by simp));have P12:=Hxq (mX.at (m12.at P10.out (by simp)) (by have:=lt_of_block (m12.at P10.out (by simp));simp));have PB12:=Hxq ((PB10.out.keep m12 (by simp)).keep mX (by simp));have M12:=Hxq ((M10.out.trans m12 (by simp)).trans mX (by simp));have E12:=Hxq (mX.at (m12.at E10.out (by simp)) (by have:=lt_of_block (m12.at E10.out (by simp));simp));have X12:=Hxq (mX.at (m12.at X10.out (by simp)) (by have:=lt_of_block (m12.at X10.out (by simp));simp));have Y12:=Lib.hid eX;have HX12:=Hxq ((HX10.out.keep m12 (by simp)).keep mX (by simp));have HY12:=Hxq (hy.keep mX (by simp));have N12:=Hxq ((N10.out.trans m12 (by simp)).trans mX (by simp))
        have hz9:=lt_of_block X10.out
        clear m12 mX eX hy HS2 T10 P10 PB10 M10 E10 X10 HX10 N10 x0 x1 x2 x3 x4 y1
        have HSP:=Hxq (fun w u u' h h'=>sameProg_any (F:=fun _=>True) (G:=fun _=>True) _ (Sy.bareP_M HP1.out) u u' w h h')
        go_upto_region 23 with fail
        generalize w12.alloc (Obj.cells _ 26)=w13 at *
        have y0:=cell_at E12.out 0
        have a0:=cell_at X12.out 0;have a1':=cell_at X12.out 1
        have b0:=cell_at Y12.out 0;have b1:=cell_at Y12.out 1
        simp only [List.getElem?_toArray,List.getElem?_cons_zero,List.getElem?_cons_succ] at y0 a0 a1' b0 b1
        go_wp2_with fail
        refine (HSP.out _ _ _ HX12.out HY12.out).mono ?_
        rintro e14 w14 ⟨rfl,m14⟩
        have N14:=Hxq (N12.out.trans m14 (by simp));have M14:=Hxq (M12.out.trans m14 (by simp));have P14:=Hxq (m14.at P12.out (by simp));have T14:=Hxq (T12.out.keep m14 (by simp))
        clear m14 a0 a1' b0 b1 y0 HX12 HY12 HSP N12 M12 P12 T12 X12 Y12 E12 PB12
        obtain ⟨x0,x1,x2,x3,x4⟩:=HPCc.out w14 N14.out
        rw [Nat.add_zero] at x0
        have y1:=cell_at P14.out 1
        simp only [List.getElem?_toArray,List.getElem?_cons_zero,List.getElem?_cons_succ] at y1
        have hG14:=Hxq (hG.past (M4.out.trans M14.out (by simp)) (by simp))
        go_wp2_with fail
        refine (HPC.out _ (fun _=>True) (fun _=>True) ⟨⟨rel0,ts0⟩,body0,ln0,cl0⟩ _ _ fr d e0 HPP.out hm1' hm2' HM3.out w14 hG14.out T14.out (HPT.out.keep N14.out (by simp)) (HPB.out.keep N14.out (by simp))).mono ?_
        rintro e15 w15 ⟨rfl,m15⟩
        have M15:=Hxq (M14.out.trans m15 (by simp))
        clear m15
        go_wp2_with fail
        go_roundw
        case rel=>exact ⟨n+1,d+1,d+1,by omega,Nat.le_refl _,by go_num,by go_num,by go_num,HST2.out,.nil _,M15.out⟩
        case measure=>simp [intOf];omega
      ·have hqt:((Lx.ofS (v.tk i).text).toList == ([46]:List UInt8))=false:=by rw [hq];exact decide_eq_false hdt
       have hnd2:Sy.isDot (v.tk i)=false:=by unfold Sy.isDot;rw [decide_eq_false hdt,Bool.and_false]
       have HND2:=Hxq (HND.out.trans (Sy.NoDot.one hnd2))
       clear hq hdt hnd2 hci hk5
       go_wp2_with fail
       go_roundw
       case rel=>exact ⟨n,fr,i+1,by omega,by omega,rfl,rfl,by go_num,HST.out,HND2.out,MR.out⟩
       case measure=>simp [intOf];omega
     ·have k5:(((v.tk i).kind:Int) != 5)=true:=by rw [bne_iff_ne];omega
      have HND2:=Hxq (HND.out.trans (Sy.NoDot.one (Sy.dot_kind hk5)))
      clear hk5 hci
      go_wp2_with fail
      go_roundw
      case rel=>exact ⟨n,fr,i+1,by omega,by omega,rfl,rfl,by go_num,HST.out,HND2.out,MR.out⟩
      case measure=>simp [intOf];omega
    ·obtain rfl:i=v.ws.length:=by omega
     have hiI:¬ (v.ws.length:Int)<(v.ws.length:Int):=by omega
     have hfr:fr=v.ws.length:=by
      rcases Nat.lt_or_ge fr v.ws.length with h | h
      ·obtain ⟨d,hd1,hd2,hd3,-⟩:=HST.out.next h HKD.out
       exact absurd (HND.out d hd1 hd2) (by rw [hd3];decide)
      ·omega
     have hnn:n=n2:=by rw [<-HN2.out];exact HST.out.stop hfr
     subst hnn
     have hnI:((n:Int) == (n:Int))=true:=by simp
     clear hfr
     go_wp2_with fail
     go_ret
     exact ⟨rfl,M4.out.trans MR.out (by simp)⟩
  ·have hflc:(Lx.fault (Cod.str s)).1=(Lx.given (Cod.str s)).2.code:=fault_code _
   have hcB:(((Lx.fault (Cod.str s)).1:Int) != 0)=true:=by rw [bne_iff_ne,hflc];omega
   clear hflc hq hc
   go_enter Tryz.func8,Tryz.ntmps8
   go_wp2_with fail
   refine (shown_any w hG).mono ?_
   rintro e0 w0 ⟨rfl,m0⟩
   have M0:=Lib.hid m0
   clear m0
   go_wp2_with fail
   refine (HP.out w0 (hG.past M0.out (by simp))).mono ?_
   rintro e1 w1 ⟨C,rfl,hval,m1⟩
   have M1:=Hxq (M0.out.trans m1 (by simp))
   obtain ⟨a1,c1,a2,c2,rfl⟩:=valP_lit hval
   have PB1:=Hxq (show PgB (fun _=>True) w1 p (.agg #[.slice a1 p.rels.length c1,.slice a2 p.rules.length c2]) from PgB.mono hval (fun _ _ _=>trivial))
   clear m1 hval
   generalize hn1:p.rels.length=n1 at *
   generalize hn2:p.rules.length=n2 at *
   have HN2:=Lib.hid hn2;have HN1:=Lib.hid hn1
   clear hn1 hn2
   have mA:=((Mod.refl [] w1).alloc (Obj.cells #[.slice a1 n1 c1,.slice a2 n2 c2] 26)).alloc (Obj.cells #[.int .i64 0,.int .i64 0,.int .i64 0] 31)
   have eP:=two_a w1 #[.slice a1 n1 c1,.slice a2 n2 c2] #[.int .i64 0,.int .i64 0,.int .i64 0] 26 31
   have eA:=two_b w1 #[.slice a1 n1 c1,.slice a2 n2 c2] #[.int .i64 0,.int .i64 0,.int .i64 0] 26 31
   go_upto_region 3 with fail
   generalize (w1.alloc (Obj.cells _ 26)).alloc (Obj.cells _ 31)=w2 at *
   have M2:=Hxq (M1.out.trans mA (by simp));have EA:=Lib.hid eA;have EP:=Lib.hid eP;have PB2:=Hxq (PB1.out.keep mA (by simp))
   clear mA eA eP PB1
   go_wp2_with fail
   refine (HT.out w2 (hG.past M2.out (by simp))).mono ?_
   rintro e3 w3 ⟨tv,rfl,hrow,m3⟩
   have M3:=Hxq (M2.out.trans m3 (by simp));have E3:=Hxq (m3.at EA.out (by simp));have P3:=Hxq (m3.at EP.out (by simp));have PB3:=Hxq (PB2.out.keep m3 (by simp))
   have hr:=hrow.rowB
   clear m3 EA EP PB2 hrow
   obtain ⟨ta,tc,rfl⟩:=hr.lit
   clear hr
   generalize Lx.fault (Cod.str s)=fl at *
   generalize (Lx.tokens (Cod.str s)).length=tl at *
   unfold fltV
   have mB:=(Mod.refl [] w3).alloc (Obj.cells #[.int .i64 (fl.1:Nat),.int .i64 (fl.2.1:Nat),.int .i64 (fl.2.2:Nat)] 31)
   have eB:=heap_alloc_new w3 (Obj.cells #[.int .i64 (fl.1:Nat),.int .i64 (fl.2.1:Nat),.int .i64 (fl.2.2:Nat)] 31)
   have hz3:=lt_of_block E3.out
   have hz4:=lt_of_block P3.out
   go_upto_region 4 with fail
   generalize w3.alloc (Obj.cells _ 31)=w4 at *
   have M4:=Hxq (M3.out.trans mB (by simp));have E4:=Hxq (mB.at E3.out (by simp));have P4:=Hxq (mB.at P3.out (by simp));have PB4:=Hxq (PB3.out.keep mB (by simp));have F4:=Lib.hid eB;have HR4:=Lib.hid trivial
   clear mB eB E3 P3 PB3
   have f0:=cell_at E4.out 0
   have f1:=cell_at F4.out 0
   simp only [List.getElem?_toArray,List.getElem?_cons_zero] at f0 f1
   go_wp2_with fail
   go_ret
   exact ⟨rfl,M4.out⟩
theorem gRng : Tryz.prog.globalNamed "strconv.ErrRange" = some 3 := by kernel_rfl
theorem gSyn : Tryz.prog.globalNamed "strconv.ErrSyntax" = some 2 := by kernel_rfl
theorem gMrk : Tryz.prog.globalNamed "pedigree/lex.marks" = some 0 := by kernel_rfl
theorem tRng:(Tryz.prog.globals[3]?).map (·.type)=some 199:=by kernel_rfl
theorem tSyn:(Tryz.prog.globals[2]?).map (·.type)=some 199:=by kernel_rfl
theorem tMrk:(Tryz.prog.globals[0]?).map (·.type)=some 187:=by kernel_rfl
theorem starE : "*" ++ "errors.errorString" = "*errors.errorString" := by decide
theorem rowE (u : TypeId) (h : Tryz.prog.typeName? 3 u = some "*errors.errorString") : u = 234 :=
 typeName_ptr_named (nm := "errors.errorString") (by rw [starE]; kernel_rfl) (by kernel_rfl) (by decide) u (by rw [starE]; exact h)
theorem var_heap {P:Program} {w:World} {n:String} {g:Nat} {cs:Array Value} (hg:P.globalNamed n=some g) (h:w.var? P n=some cs):∃ T fr,w.heap[g]?=some (.cells cs T fr):=by
 simp only [World.var?,hg,Option.bind_some] at h
 split at h
 ·rename_i c T fr he
  cases h
  exact ⟨_,_,he⟩
 ·cases h
theorem glob_of_laid {W:World} (h:laidMetH Tryz.prog Rows.syntaxDeepRow.laid W):Glob W:=by
 rw [MakeChecks.laidMetH_plain _ _ _ (by kernel_rfl)] at h
 have h3:=h.tail.tail.tail
 obtain ⟨a0,s0,hv0,-⟩:=laid_sentinel h3 gRng tRng Tryz.underlying199 rowE Tryz.underlying234 Tryz.underlying236 rfl rfl Tryz.underlying9 (by kernel_rfl) (by kernel_rfl)
 obtain ⟨a1,s1,hv1,-⟩:=laid_sentinel h3.tail gSyn tSyn Tryz.underlying199 rowE Tryz.underlying234 Tryz.underlying236 rfl rfl Tryz.underlying9 (by kernel_rfl) (by kernel_rfl)
 obtain ⟨T0,f0,hr⟩:=var_heap gRng hv0
 obtain ⟨T1,f1,hs⟩:=var_heap gSyn hv1
 obtain ⟨ps,⟨g2,t2,cs2,fu,p2,q2,hg2,ht2,hv2,hd2,-,-⟩,-,-⟩:=h3.tail.tail
 obtain rfl:=Option.some.inj (gMrk.symm.trans hg2)
 obtain rfl:=Option.some.inj (tMrk.symm.trans ht2)
 obtain ⟨T2,f2,hm⟩:=var_heap gMrk hv2
 obtain ⟨xs,m,rfl,hx,hlen,hn,hel⟩:=DataW.trod_array Tryz.underlying187 hd2
 rw [show Tryz.prog.cellsOf 187=19 by kernel_rfl] at hlen
 rw [show Tryz.prog.cellsOf 9=1 by kernel_rfl] at hel
 simp only [Prod.mk.injEq,DataW.agg.injEq,Rows.laid_pedigree_lex_marks] at hx
 have hcs:cs2=(markL.map fun l=>Value.string (Lx.ofS l)).toArray:=by
  apply Array.ext'
  apply List.ext_getElem?
  intro i
  by_cases hi:i<19
  ·have he:=hel i hi
   have hlt:i<cs2.toList.length:=by omega
   have hone:(cs2.toList.drop (i * 1)).take 1=[cs2.toList[i]]:=by
    rw [Nat.mul_one,List.drop_eq_getElem_cons hlt];rfl
   rw [hone] at he
   have hxi:i<xs.length:=by omega
   rw [List.getElem?_eq_getElem hxi] at he
   obtain ⟨s,hc,hy,-⟩:=DataW.trod_string Tryz.underlying9 he
   rw [List.getElem?_eq_getElem hlt]
   have hlit:(markL.map fun l=>(DataW.lit (.string (l.map UInt8.ofNat)):DataW Unit))=xs.map (·.1):=hx.1
   have h1:(markL.map fun l=>(DataW.lit (.string (l.map UInt8.ofNat)):DataW Unit))[i]?=(xs.map (·.1))[i]?:=by rw [hlit]
   rw [List.getElem?_map,List.getElem?_map,List.getElem?_eq_getElem hxi,hy] at h1
   have hmi:i<markL.length:=by show i<19;exact hi
   rw [List.getElem?_eq_getElem hmi] at h1
   simp only [Option.map_some,Option.some.injEq,DataW.lit.injEq,Lit.string.injEq] at h1
   simp only [List.getElem?_map]
   rw [List.getElem?_eq_getElem hmi]
   have hcc:cs2.toList[i]=Value.string s:=by simpa using hc
   rw [hcc]
   simp only [Option.map_some]
   congr 2
   unfold Lx.ofS
   rw [h1]
  ·rw [List.getElem?_eq_none (by omega),List.getElem?_eq_none (by simp [markL];omega)]
 exact ⟨⟨_,_,hcs ▸ hm⟩,⟨_,_,_,_,hs⟩,⟨_,_,_,_,hr⟩⟩
end Go.Proofs.YtppigckioalhhaaGreatDoorR
namespace Go.Proofs.YtppigckioalhhaaGreatDoorR.pSyntaxPieces
open Go.ChangeShapes Go.WideShapes Go.ChangeAt Go.RowKit
open Go.ChangeMaps (open_string shut_string)
set_option linter.unusedVariables false
set_option maxRecDepth 100000
set_option maxHeartbeats 1000000
theorem own:ownKnob Tryz.prog.godebug=none:=by kernel_rfl
theorem laidOut:laidOutB Tryz.prog=true:=by kernel_rfl
theorem contract (H:Type) (enc:TypeId × Value->H) (W:World) (base:Nat) (args:Array Value) (ds gs:List (DataW H)) (before:List MemPlace)
  (hval:∀ (j:Nat) t v,Tryz.f8.params[j]?=some t->args[j]?=some v->Value.okWide Tryz.prog W .any base t v)
  (hW:DataW.Whole enc Tryz.prog Tryz.f8.params.toList Rows.syntaxPiecesSpec.vars false W args.toList ds gs before)
  (hsz0:(DataW.weightsEach Tryz.prog (Tryz.f8.params.toList++Rows.syntaxPiecesSpec.plain.varTypes Tryz.prog) (ds++gs)).all (·<=reachBytes)=true)
  (hL:laidMetH Tryz.prog Rows.syntaxPiecesRow.laid W) :
  Calls Tryz.prog 8 args W fun e W'=>∃ v,e=.returned v/\Rows.syntaxPiecesSpec.post enc Tryz.prog Tryz.f8 false true false false W args v W':=by
 have hW':=hW
 have hG:=glob_of_laid hL
 obtain ⟨p,q,hA0,hV,rfl,hfz,hnd⟩:=hW
 have hA:DataW.TrodAll enc Tryz.prog W 0 (fun _=>true) true Tryz.f8.params.toList args.toList ds p:=hA0
 rw [Tryz.params8] at hA hval hsz0
 obtain ⟨v0,vs0,d0,ds0,p0,q0,hargs,rfl,rfl,h0,r0⟩:=trodAll_cons hA
 obtain ⟨rfl,rfl,rfl⟩:=trodAll_nil r0
 obtain rfl:args=#[v0]:=by cases args;simp_all
 obtain ⟨rfl,rfl⟩:=trodVars_none hV
 obtain ⟨s0,rfl,rfl,rfl,hz0⟩:=open_string Tryz.underlying9 (hval 0 9 v0 rfl rfl) h0
 have hs0:s0.size<=140737488351232:=by
  have:=sized_string hsz0 (j:=0) (t:=9) rfl rfl
  rw [Array.length_toList] at this
  exact this
 clear hA0
 refine (SyntaxPieces_any s0 (by omega) W hG).mono fun e W' ⟨he,hm⟩=>?_
 subst he
 have bel:Below W.heap.size W W':=hm.below (Nat.le_refl _) (by simp)
 exact ⟨_,rfl,_,_,_,[],_,[],hW',trodAll_mk1 (shut_bool Tryz.underlying4 _),(trodAll_cons_mk (shut_string Tryz.underlying9 hz0) trodAll_mk0),rfl,bel.frame _,fun h=>by cases h⟩
theorem door_met (os:Os):laidMetH Tryz.prog Rows.syntaxPiecesRow.laid ((World.doorLaid Tryz.prog 67 os).forCall (fun _ _=>0) ⟨#[],#[.string ⟨#[]⟩],[]⟩).memory:=by
 rw [MakeChecks.laidMetH_plain _ _ _ (by kernel_rfl)]
 exact laidMet_of_run' 8 (by kernel_rfl) (by kernel_rfl)
theorem reads (os:Os) {H:Type} (enc:TypeId × Value->H):∃ places,DataW.whole enc Tryz.prog ((World.doorLaid Tryz.prog 67 os).forCall (fun _ _=>0) ⟨#[],#[.string ⟨#[]⟩],[]⟩).memory Tryz.f8.params.toList Rows.syntaxPiecesSpec.vars false (#[.string ⟨#[]⟩]:Array Value).toList 8=some ([.lit (.string [])],[],places) :=
 ⟨[],by kernel_rfl⟩
theorem lifted (os:Os) (started:os.Started) (H:Type) (enc:TypeId × Value->H) (F:Stop.Interp) :
  ReturnsInHanded {} Tryz.checked os 8 .any ((OpenSpec.ofChange Rows.syntaxPiecesSpec).preRow enc Tryz.prog Tryz.f8 Rows.syntaxPiecesRow.domain false Rows.syntaxPiecesRow.laid) (((OpenSpec.ofChange Rows.syntaxPiecesSpec).at F).post enc Tryz.prog Tryz.f8 false true false false):=by
 obtain ⟨places,hx⟩:=reads os enc
 refine returnsInHanded_of_row (C:=Tryz.checked) (s:=OpenSpec.ofChange Rows.syntaxPiecesSpec) own started (by kernel_rfl) Tryz.func8
  (witness_row_atRef (enc:=enc) (C:=Tryz.checked) false (World.doorLaid Tryz.prog 67 os) #[.string ⟨#[]⟩] rfl (by kernel_rfl) (by kernel_rfl) (by kernel_rfl)
   (OpenSpec.preRow_of_cond 8 hx (by kernel_rfl) (fun k hk=>by cases hk) (by kernel_rfl) (door_met os))) ?_
 intro W base args ds gs before hval hW _ _ hsz hL _ _
 exact contract H enc W base args ds gs before hval hW hsz hL
theorem said:Rows.SyntaxPiecesSaid :=
 OpenClaim.holds_of_cond 8 Tryz.f8 rfl rfl rfl rfl rfl rfl rfl ⟨rfl,rfl,rfl,rfl,rfl⟩ rfl rfl rfl rfl rfl (by kernel_rfl) Tryz.func8 (by kernel_rfl)
  (of_decide_eq_true (by kernel_rfl)) (by unfold Func.isWrapper;first | (rw [if_pos (by decide +kernel)];kernel_rfl) | (rw [if_neg (by decide +kernel)];exact ⟨rfl,rfl⟩))
  (fun os started H enc _ F=>by rw [OpenClaim.pre_eq_preRow];exact lifted os started H enc F)
theorem plain (f : FuncId) (fn : Func) (hf : Tryz.pinned.checked.prog.funcNamed "pedigree/pedigreelaw04.SyntaxPieces" = some f) (hfn : Tryz.pinned.checked.prog.funcs[f]? = some fn) :
  true=Tryz.pinned.checked.prog.looks []/\∀ (j:Nat) t,fn.params[j]?=some t->Tryz.pinned.checked.prog.wantsStandIn t=false:=by
 obtain rfl : f = 8 := Option.some.inj ((show Tryz.prog.funcNamed "pedigree/pedigreelaw04.SyntaxPieces" = some 8 by kernel_rfl).symm.trans hf) |>.symm
 obtain rfl:fn=Tryz.f8:=(Option.some.inj (Tryz.func8.symm.trans hfn)).symm
 refine ⟨by kernel_rfl,fun j t ht=>?_⟩
 rw [Tryz.params8] at ht
 have hm:t∈[9]:=by simpa using Array.mem_of_getElem? ht
 have hall:([9].all fun u=>!Tryz.prog.wantsStandIn u)=true:=by kernel_rfl
 exact (show Tryz.prog.wantsStandIn t=false by simpa using List.all_eq_true.1 hall t hm)
/-- THE STATEMENT -/
theorem proved:Rows.SyntaxPiecesCardSaid :=
 Claim7.holds_tied_plain_at .later [] _ _ _ _ said (fun _ h=>by cases h) (by kernel_rfl) (fun _ h=>by cases h) syntaxPieces_row_tie rfl ⟨rfl,rfl⟩ (by kernel_rfl) rfl plain (by kernel_rfl)
end Go.Proofs.YtppigckioalhhaaGreatDoorR.pSyntaxPieces
