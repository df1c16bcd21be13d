/- THE TEXTS MERGED: PwLawFix PwGlob PfPFix. -/
import Derived.Test.YtohnmnfhmbmoaaaGreatDoorKF1
import Derived.Test.YtohnmnfhmbmoaaaGreatDoorKF22
import Derived.Test.YtohnmnfhmbmoaaaGreatDoorKF37
import Derived.Test.YtohnmnfhmbmoaaaGreatDoorKF38
import Derived.Test.YtohnmnfhmbmoaaaGreatDoorKF18
import Derived.Test.YtohnmnfhmbmoaaaGreatDoorKF17
import Derived.Test.YtohnmnfhmbmoaaaGreatDoorKF20
import Derived.Test.YtohnmnfhmbmoaaaGreatDoorRows
import Derived.ProofKit
import Derived.OpenShut
import Derived.LaidMore
import Derived.Stop.LaidErr
import Derived.Stop.Joined
import Derived.Test.YtohnmnfhmbmoaaaGreatDoorCards
import Derived.Test.YtohnmnfhmbmoaaaGreatDoorTie
import Derived.ShutString
import Derived.SizedLaws
import Derived.JoinedCond
import Derived.Deep.CondSized
import Derived.Deep.DeepHandedRow
import Derived.Deep.DeepWitnessRowRef
import Derived.SevenTiedAt
namespace Go.Proofs.YtohnmnfhmbmoaaaGreatDoor
open Go.RowKit
set_option linter.unusedVariables false
set_option linter.unusedSimpArgs false
set_option maxRecDepth 100000
/-- Program's answer where the text is read -/
theorem AllRes.okP {p:Pr.Prog} {j n:Nat} {w:World} {e:Ending} {w':World} (h:AllRes (.ok p j) (valP n) (.agg #[.slice none 0 0,.slice none 0 0]) w e w') :
  ∃ (a1:Option Addr) (c1:Nat) (a2:Option Addr) (c2:Nat),e=.returned (.tuple #[.agg #[.slice a1 p.rels.length c1,.slice a2 p.rules.length c2],.agg #[.int .i64 0,.int .i64 0,.int .i64 0]]) /\
   PgB (fun k=>n<=k) w' p (.agg #[.slice a1 p.rels.length c1,.slice a2 p.rules.length c2])/\Mod [] w w':=by
 obtain ⟨C,rfl,hv,hm⟩:=h
 obtain ⟨a1,c1,a2,c2,hx⟩:=PgB.lit hv
 rw [hx] at hv
 simp only [Value.agg.injEq] at hx
 subst hx
 exact ⟨a1,c1,a2,c2,rfl,hv,hm⟩
/-- what the printer says of a program that was read -/
theorem told_read {F:Nat->Prop} {s:List Nat} (hb:∀ c∈s,c<256) {p:Pr.Prog} {j:Nat} (h:Sy.whole (Sy.envOf s) (Sy.prog (Sy.envOf s))=.ok p j) {t:List Nat} (ht:Pr.pP p=some t) {x y:Value} {w:World} (hG:GlobV w) (hp:PgB F w p (.agg #[x,y])) :
  Calls Tryz.prog 9 #[.agg #[x,y]] w fun e w'=>e=.returned (.tuple #[.string (Lx.ofS t),.int .i64 0])/\Mod [] w w':=by
 obtain ⟨du,ru,hx,hD,hR⟩:=hp.ok (Rt.prog_vo hb h)
 simp only [Value.agg.injEq,Array.mk.injEq,List.cons.injEq,and_true] at hx
 obtain ⟨rfl,rfl⟩:=hx
 have hwt:=Rt.prog_wt hb h
 refine (Program_any p x y w hD hR hG (by omega)).mono ?_
 rintro e w' ⟨rfl,hm,-⟩
 rw [ht]
 exact ⟨rfl,hm⟩
set_option maxHeartbeats 8000000 in
theorem PrintFix_any (s:ByteArray) (hs:s.size<=140737488355328) (w:World) (hG:Glob w) (hV:GlobV w) :
  Calls Tryz.prog 5 #[.string s] w fun e w'=>e=.returned (.bool true)/\Mod [] w w':=by
 have HG:=Lib.hid hG;have HV:=Lib.hid hV
 have hsb:∀ c∈Cod.str s,c<256:=Cod.str_lt s
 have HSB:=Lib.hid hsb
 clear hG hV hsb
 go_enter Tryz.func5,Tryz.ntmps5
 go_wp2_with fail
 refine (awake_any w HV.out).mono ?_
 rintro e1 w1 ⟨rfl,m1⟩
 have M1:=Lib.hid m1
 have HG1:=Hxq (HG.out.keep m1 (by simp));have HV1:=Hxq (HV.out.past m1 (by simp))
 clear m1
 go_wp2_with fail
 refine (entP_any s hs w1 HG1.out).mono ?_
 rintro e2 w2 h2
 cases hr:Sy.whole (Sy.envOf (Cod.str s)) (Sy.prog (Sy.envOf (Cod.str s))) with
 | err g =>
  rw [hr] at h2
  obtain ⟨rfl,m2⟩:=h2
  have hnz:g.1≠0:=Sy.nz_whole (Sy.env_last _) (Sy.nz_prog (Sy.env_last _) 0) g hr
  obtain ⟨c,x,y⟩:=g
  have hc:(c:Int)≠0:=by simp only at hnz;omega
  unfold fltC
  dsimp only
  have M2:=Hxq (M1.out.trans m2 (by simp))
  clear m2 hr hnz
  go_wp2_with fail
  go_ret
  exact ⟨rfl,((M2.out.alloc _).alloc _)⟩
 | ok p j =>
  rw [hr] at h2
  obtain ⟨a1,c1,a2,c2,rfl,hP,m2⟩:=h2.okP
  obtain ⟨t,htp,hfix⟩:=Rt.fix_law HSB.out hr
  have hby:∀ c∈t,c<256:=Rt.pP_by (Rt.prog_vo HSB.out hr).o htp
  have HFX:=Lib.hid hfix;have HTP:=Lib.hid htp;have HBY:=Lib.hid hby;have HR:=Lib.hid hr
  have M2:=Hxq (M1.out.trans m2 (by simp))
  have HG2:=Hxq (HG1.out.keep m2 (by simp));have HV2:=Hxq (HV1.out.past m2 (by simp))
  have HMP:=Hxq (Sy.prog_pgM (envOk s).len hr)
  have HP0:=Lib.hid hP
  have mA:=((Mod.refl [] w2).alloc (Obj.cells #[.slice a1 p.rels.length c1,.slice a2 p.rules.length c2] 25)).alloc (Obj.cells #[.int .i64 0,.int .i64 0,.int .i64 0] 51)
  have eA:=two_a w2 #[.slice a1 p.rels.length c1,.slice a2 p.rules.length c2] #[.int .i64 0,.int .i64 0,.int .i64 0] 25 51
  have eB:=two_b w2 #[.slice a1 p.rels.length c1,.slice a2 p.rules.length c2] #[.int .i64 0,.int .i64 0,.int .i64 0] 25 51
  clear m2 hr htp hby hfix hP h2
  go_upto_region 3 with fail
  generalize (w2.alloc (Obj.cells _ 25)).alloc (Obj.cells _ 51)=w3 at *
  have MA:=Lib.hid mA;have EA:=Lib.hid eA;have EB:=Lib.hid eB
  clear mA eA eB
  generalize hpx:w2.heap.size=px at *
  have HP:=Hxq (HP0.out.keep MA.out (by simp))
  have HG3:=Hxq (HG2.out.keep MA.out (by simp));have HV3:=Hxq (HV2.out.past MA.out (by simp))
  have M3:=Hxq (M2.out.trans MA.out (by simp))
  clear HP0 HG2 HV2 HG1 HV1 HG HV
  have k0:=cell_at EA.out 0;have k1:=cell_at EA.out 1;have f0:=cell_at EB.out 0
  simp only [List.getElem?_toArray,List.getElem?_cons_zero,List.getElem?_cons_succ] at k0 k1 f0
  go_wp2_with fail
  refine (told_read HSB.out HR.out HTP.out HV3.out HP.out).mono ?_
  rintro e4 w4 ⟨rfl,m4⟩
  have EA4:=Hxq (m4.at EA.out (by simp))
  have HP4:=Hxq (HP.out.keep m4 (by simp))
  have HG4:=Hxq (HG3.out.keep m4 (by simp));have HV4:=Hxq (HV3.out.past m4 (by simp))
  have M4:=Hxq (M3.out.trans m4 (by simp))
  clear m4 k0 k1 f0 EA EB HP HG3 HV3 M3 MA
  have hsz:(Lx.ofS t).size=t.length:=ofS_size t
  generalize hst:Lx.ofS t=st at *
  by_cases hlen:t.length<=65536
  ·have hl1:¬ (65536:Int)<(st.size:Int):=by omega
   obtain ⟨q,jq,hq,hbq,hpq⟩:=HFX.out HBY.out hlen
   have hstr:Cod.str st=t:=by rw [<-hst];exact Lx.str_ofS HBY.out
   rw [<-hstr] at hq
   have HQR:=Lib.hid hq;have HBQ:=Lib.hid hbq;have HPQ:=Lib.hid hpq
   have HMQ:=Hxq (Sy.prog_pgM (envOk st).len hq)
   have HMB:=Hxq (Sy.bareP_M HMP.out)
   have hss:st.size<=140737488355328:=by omega
   have HST:=Lib.hid hst
   clear hq hbq hpq hstr hst
   go_wp2_with fail
   refine (entP_any st hss w4 HG4.out).mono ?_
   rintro e5 w5 h5
   rw [HQR.out] at h5
   obtain ⟨a3,c3,a4,c4,rfl,hQ,m5⟩:=h5.okP
   have EA5:=Hxq (m5.at EA4.out (by simp))
   have HP5:=Hxq (HP4.out.keep m5 (by simp))
   have HV5:=Hxq (HV4.out.past m5 (by simp))
   have M5:=Hxq (M4.out.trans m5 (by simp))
   have HQ5:=Lib.hid hQ
   have mA:=((Mod.refl [] w5).alloc (Obj.cells #[.slice a3 q.rels.length c3,.slice a4 q.rules.length c4] 25)).alloc (Obj.cells #[.int .i64 0,.int .i64 0,.int .i64 0] 51)
   have eA:=two_a w5 #[.slice a3 q.rels.length c3,.slice a4 q.rules.length c4] #[.int .i64 0,.int .i64 0,.int .i64 0] 25 51
   have eB:=two_b w5 #[.slice a3 q.rels.length c3,.slice a4 q.rules.length c4] #[.int .i64 0,.int .i64 0,.int .i64 0] 25 51
   clear m5 hQ h5 EA4 HP4 HG4 HV4 M4
   go_upto_region 11 with fail
   generalize (w5.alloc (Obj.cells _ 25)).alloc (Obj.cells _ 51)=w6 at *
   have MA:=Lib.hid mA;have EQ:=Lib.hid eA;have EF:=Lib.hid eB;have EP:=Hxq (mA.at EA5.out (by simp))
   have HP6:=Hxq (HP5.out.keep mA (by simp));have HQ6:=Hxq (HQ5.out.keep mA (by simp));have HV6:=Hxq (HV5.out.past mA (by simp))
   have M6:=Hxq (M5.out.trans mA (by simp))
   clear mA eA eB EA5 HP5 HQ5 HV5 M5
   generalize hpq:w5.heap.size=pq at *
   have k0:=cell_at EQ.out 0;have k1:=cell_at EQ.out 1
   simp only [List.getElem?_toArray,List.getElem?_cons_zero,List.getElem?_cons_succ] at k0 k1
   go_wp2_with fail
   refine (told_read (Cod.str_lt st) HQR.out HPQ.out HV6.out HQ6.out).mono ?_
   rintro e7 wz ⟨rfl,m7⟩
   rw [HST.out]
   have EPz:=Hxq (m7.at EP.out (by simp));have EQz:=Hxq (m7.at EQ.out (by simp));have EFz:=Hxq (m7.at EF.out (by simp))
   have HP:=Hxq (HP6.out.keep m7 (by simp));have HQ:=Hxq (HQ6.out.keep m7 (by simp))
   have Mz:=Hxq (M6.out.trans m7 (by simp))
   clear m7 k0 k1 EP EQ EF HP6 HQ6 HV6 M6
   have k0:=cell_at EPz.out 0;have k1:=cell_at EPz.out 1;have q0:=cell_at EQz.out 0;have q1:=cell_at EQz.out 1
   simp only [List.getElem?_toArray,List.getElem?_cons_zero,List.getElem?_cons_succ] at k0 k1 q0 q1
   go_upto_region 12 with fail
   refine tl_region (fun wS=>Mod [] wz wS) [] (by kernel_rfl) ?_
   have hHeld:Mod [] wz wz.drew:=(Mod.refl [] wz).drew
   try simp only [Act.put,Lq1,Lq2,Lq3]
   refine TlAny.take 0 (v:=?_) hHeld ?_ ?_ ?_
   rotate_left 1
   ·refine Or.inl ⟨by rfl,?_⟩
    intro wS hSw
    replace hSw:Mod [] wz wS:=hSw
    have p0:=hSw.cell q0 (by simp);have p1:=hSw.cell q1 (by simp)
    clear hSw
    go_simp
    all_goals with_reducible rfl
   ·exact fun _ _ _ h=>h
   try simp only [Act.put,Lq1,Lq2,Lq3]
   refine TlAny.take 2 (v:=?_) hHeld ?_ ?_ ?_
   rotate_left 1
   ·refine Or.inl ⟨by rfl,?_⟩
    intro wS hSw
    replace hSw:Mod [] wz wS:=hSw
    have p0:=hSw.cell k0 (by simp);have p1:=hSw.cell k1 (by simp)
    clear hSw
    go_simp
    all_goals with_reducible rfl
   ·exact fun _ _ _ h=>h
   try simp only [Act.put,Lq1,Lq2,Lq3]
   refine TlAny.one 1 ?_
   intro K hK
   go_simp
   refine (pbare_any q HMQ.out _ _ (HQ.out.keep hHeld (by simp))).mono ?_
   rintro e7 v1 ⟨rels,rus,va,vc,ua,uc,rfl,hb1,po1⟩
   have B1:=Hxq (hb1 ▸ po1.prog)
   replace hHeld:Mod [] wz v1:=hHeld.trans po1.mod (by simp)
   clear hb1 po1
   refine hK.out _ _ (fun _=>hHeld) ?_
   clear hK K
   try simp only [Act.put,Lq1,Lq2,Lq3]
   refine TlAny.one 3 ?_
   intro K hK
   go_simp
   refine (pbare_any p HMP.out _ _ (HP.out.keep (hHeld) (by simp))).mono ?_
   rintro e8 v2 ⟨rels2,rus2,va2,vc2,ua2,uc2,rfl,hb2,po2⟩
   have B1:=Hxq (B1.out.keep po2.mod (by simp))
   have B2:=Hxq (hb2 ▸ po2.prog)
   replace hHeld:Mod [] wz v2:=hHeld.trans po2.mod (by simp)
   clear hb2 po2
   refine hK.out _ _ (fun _=>hHeld) ?_
   clear hK K
   try simp only [Act.put,Lq1,Lq2,Lq3]
   refine TlAny.one 4 ?_
   intro K hK
   go_simp
   refine (sameProg_any (Sy.bareP p) HMB.out _ _ v2 (HBQ.out ▸ B1.out) B2.out).mono ?_
   rintro e9 v3 ⟨rfl,m9⟩
   replace hHeld:Mod [] wz v3:=hHeld.trans m9 (by simp)
   clear m9
   refine hK.out _ _ (fun _=>hHeld) ?_
   clear hK K
   try simp only [Act.put,Lq1,Lq2,Lq3]
   refine TlAny.take 5 (v:=?_) hHeld ?_ ?_ ?_
   rotate_left 1
   ·refine Or.inl ⟨by rfl,?_⟩
    intro wS hSw
    replace hSw:Mod [] wz wS:=hSw
    clear hSw
    go_simp
    all_goals with_reducible rfl
   ·exact fun _ _ _ h=>h
   try simp only [Act.put,Lq1,Lq2,Lq3]
   refine TlAny.fin ?_
   have f0:=cell_at (hHeld.at EFz.out (by simp)) 0
   simp only [List.getElem?_toArray,List.getElem?_cons_zero,List.getElem?_cons_succ] at f0
   have M9:=Hxq (Mz.out.trans hHeld (by simp))
   clear hHeld k0 k1 q0 q1
   go_wp2_with fail
   go_ret
   exact ⟨rfl,M9.out⟩
  ·have hl1:(65536:Int)<(st.size:Int):=by omega
   go_wp2_with fail
   go_ret
   exact ⟨rfl,M4.out⟩
theorem PrintFix_all (s:ByteArray) (hs:s.size<=140737488355328) (w:World) (hG:Glob w/\GlobV w) :
  Calls Tryz.prog 5 #[.string s] w fun e w'=>e=.returned (.bool true)/\Mod [] w w':=PrintFix_any s hs w hG.1 hG.2
theorem gRng : Tryz.prog.globalNamed "strconv.ErrRange" = some 4 := by kernel_rfl
theorem gSyn : Tryz.prog.globalNamed "strconv.ErrSyntax" = some 3 := by kernel_rfl
theorem gMrk : Tryz.prog.globalNamed "pedigree/lex.marks" = some 0 := by kernel_rfl
theorem tRng:(Tryz.prog.globals[4]?).map (·.type)=some 112:=by kernel_rfl
theorem tSyn:(Tryz.prog.globals[3]?).map (·.type)=some 112:=by kernel_rfl
theorem tMrk:(Tryz.prog.globals[0]?).map (·.type)=some 203:=by kernel_rfl
theorem starE : "*" ++ "errors.errorString" = "*errors.errorString" := by decide
theorem rowE (u : TypeId) (h : Tryz.prog.typeName? 3 u = some "*errors.errorString") : u = 239 :=
 typeName_ptr_named (nm := "errors.errorString") (by rw [starE]; kernel_rfl) (by kernel_rfl) (by decide) u (by rw [starE]; exact h)
theorem var_heapW {P:Program} {w:World} {n:String} {g:Nat} {cs:Array Value} (hg:P.globalNamed n=some g) (h:w.var? P n=some cs):∃ T fr,w.heap[g]?=some (.cells cs T fr):=by
 simp only [World.var?,hg,Option.bind_some] at h
 split at h
 ·rename_i c T fr he
  cases h
  exact ⟨_,_,he⟩
 ·cases h
theorem gTabV : Tryz.prog.globalNamed "internal/strconv.uint64pow10" = some 2 := by kernel_rfl
theorem tTabV:(Tryz.prog.globals[2]?).map (·.type)=some 230:=by kernel_rfl
theorem globV_of_laid {W:World} (h:laidMetH Tryz.prog Rows.printFixRow.laid W):GlobV W:=by
 rw [MakeChecks.laidMetH_plain _ _ _ (by kernel_rfl)] at h
 exact ⟨Lib.tabIs_of_head (zs:=Lib.pow10Tab) gTabV tTabV Tryz.underlying230 Tryz.underlying212 (by kernel_rfl) (by kernel_rfl) h.tail.tail⟩
theorem glob_of_laid {W:World} (h:laidMetH Tryz.prog Rows.printFixRow.laid W):Glob W:=by
 rw [MakeChecks.laidMetH_plain _ _ _ (by kernel_rfl)] at h
 have h3:=h.tail.tail.tail
 obtain ⟨a0,s0,hv0,-⟩:=laid_sentinel h3 gRng tRng Tryz.underlying112 rowE Tryz.underlying239 Tryz.underlying241 rfl rfl Tryz.underlying9 (by kernel_rfl) (by kernel_rfl)
 obtain ⟨a1,s1,hv1,-⟩:=laid_sentinel h3.tail gSyn tSyn Tryz.underlying112 rowE Tryz.underlying239 Tryz.underlying241 rfl rfl Tryz.underlying9 (by kernel_rfl) (by kernel_rfl)
 obtain ⟨T0,f0,hr⟩:=var_heapW gRng hv0
 obtain ⟨T1,f1,hs⟩:=var_heapW gSyn hv1
 obtain ⟨ps,⟨g2,t2,cs2,fu,p2,q2,hg2,ht2,hv2,hd2,-,-⟩,-,-⟩:=h3.tail.tail
 obtain rfl:=Option.some.inj (gMrk.symm.trans hg2)
 obtain rfl:=Option.some.inj (tMrk.symm.trans ht2)
 obtain ⟨T2,f2,hm⟩:=var_heapW gMrk hv2
 obtain ⟨xs,m,rfl,hx,hlen,hn,hel⟩:=DataW.trod_array Tryz.underlying203 hd2
 rw [show Tryz.prog.cellsOf 203=19 by kernel_rfl] at hlen
 rw [show Tryz.prog.cellsOf 9=1 by kernel_rfl] at hel
 simp only [Prod.mk.injEq,DataW.agg.injEq,Rows.laid_pedigree_lex_marks] at hx
 have hcs:cs2=(markL.map fun l=>Value.string (Lx.ofS l)).toArray:=by
  apply Array.ext'
  apply List.ext_getElem?
  intro i
  by_cases hi:i<19
  ·have he:=hel i hi
   have hlt:i<cs2.toList.length:=by omega
   have hone:(cs2.toList.drop (i * 1)).take 1=[cs2.toList[i]]:=by
    rw [Nat.mul_one,List.drop_eq_getElem_cons hlt];rfl
   rw [hone] at he
   have hxi:i<xs.length:=by omega
   rw [List.getElem?_eq_getElem hxi] at he
   obtain ⟨s,hc,hy,-⟩:=DataW.trod_string Tryz.underlying9 he
   rw [List.getElem?_eq_getElem hlt]
   have hlit:(markL.map fun l=>(DataW.lit (.string (l.map UInt8.ofNat)):DataW Unit))=xs.map (·.1):=hx.1
   have h1:(markL.map fun l=>(DataW.lit (.string (l.map UInt8.ofNat)):DataW Unit))[i]?=(xs.map (·.1))[i]?:=by rw [hlit]
   rw [List.getElem?_map,List.getElem?_map,List.getElem?_eq_getElem hxi,hy] at h1
   have hmi:i<markL.length:=by show i<19;exact hi
   rw [List.getElem?_eq_getElem hmi] at h1
   simp only [Option.map_some,Option.some.injEq,DataW.lit.injEq,Lit.string.injEq] at h1
   simp only [List.getElem?_map]
   rw [List.getElem?_eq_getElem hmi]
   have hcc:cs2.toList[i]=Value.string s:=by simpa using hc
   rw [hcc]
   simp only [Option.map_some]
   congr 2
   unfold Lx.ofS
   rw [h1]
  ·rw [List.getElem?_eq_none (by omega),List.getElem?_eq_none (by simp [markL];omega)]
 exact ⟨⟨_,_,hcs ▸ hm⟩,⟨_,_,_,_,hs⟩,⟨_,_,_,_,hr⟩⟩
theorem globs_of_laid {W:World} (h:laidMetH Tryz.prog Rows.printFixRow.laid W):Glob W/\GlobV W:=⟨glob_of_laid h,globV_of_laid h⟩
end Go.Proofs.YtohnmnfhmbmoaaaGreatDoor
namespace Go.Proofs.YtohnmnfhmbmoaaaGreatDoor.pPrintFix
open Go.ChangeShapes Go.WideShapes Go.ChangeAt Go.RowKit
open Go.ChangeMaps (open_string shut_string)
set_option linter.unusedVariables false
set_option maxRecDepth 100000
set_option maxHeartbeats 1000000
theorem own:ownKnob Tryz.prog.godebug=none:=by kernel_rfl
theorem laidOut:laidOutB Tryz.prog=true:=by kernel_rfl
theorem contract (H:Type) (enc:TypeId × Value->H) (W:World) (base:Nat) (args:Array Value) (ds gs:List (DataW H)) (before:List MemPlace)
  (hval:∀ (j:Nat) t v,Tryz.f5.params[j]?=some t->args[j]?=some v->Value.okWide Tryz.prog W .any base t v)
  (hW:DataW.Whole enc Tryz.prog Tryz.f5.params.toList Rows.printFixSpec.vars false W args.toList ds gs before)
  (hsz0:(DataW.weightsEach Tryz.prog (Tryz.f5.params.toList++Rows.printFixSpec.plain.varTypes Tryz.prog) (ds++gs)).all (·<=reachBytes)=true)
  (hL:laidMetH Tryz.prog Rows.printFixRow.laid W) :
  Calls Tryz.prog 5 args W fun e W'=>∃ v,e=.returned v/\Rows.printFixSpec.post enc Tryz.prog Tryz.f5 false true false false W args v W':=by
 have hW':=hW
 have hG:=globs_of_laid hL
 obtain ⟨p,q,hA0,hV,rfl,hfz,hnd⟩:=hW
 have hA:DataW.TrodAll enc Tryz.prog W 0 (fun _=>true) true Tryz.f5.params.toList args.toList ds p:=hA0
 rw [Tryz.params5] at hA hval hsz0
 obtain ⟨v0,vs0,d0,ds0,p0,q0,hargs,rfl,rfl,h0,r0⟩:=trodAll_cons hA
 obtain ⟨rfl,rfl,rfl⟩:=trodAll_nil r0
 obtain rfl:args=#[v0]:=by cases args;simp_all
 obtain ⟨rfl,rfl⟩:=trodVars_none hV
 obtain ⟨s0,rfl,rfl,rfl,hz0⟩:=open_string Tryz.underlying9 (hval 0 9 v0 rfl rfl) h0
 have hs0:s0.size<=140737488351232:=by
  have:=sized_string hsz0 (j:=0) (t:=9) rfl rfl
  rw [Array.length_toList] at this
  exact this
 clear hA0
 refine (PrintFix_all s0 (by omega) W hG).mono fun e W' ⟨he,hm⟩=>?_
 subst he
 have bel:Below W.heap.size W W':=hm.below (Nat.le_refl _) (by simp)
 exact ⟨_,rfl,_,_,_,[],_,[],hW',trodAll_mk1 (shut_bool Tryz.underlying4 _),(trodAll_cons_mk (shut_string Tryz.underlying9 hz0) trodAll_mk0),rfl,bel.frame _,fun h=>by cases h⟩
theorem door_met (os:Os):laidMetH Tryz.prog Rows.printFixRow.laid ((World.doorLaid Tryz.prog 67 os).forCall (fun _ _=>0) ⟨#[],#[.string ⟨#[]⟩],[]⟩).memory:=by
 rw [MakeChecks.laidMetH_plain _ _ _ (by kernel_rfl)]
 exact laidMet_of_run' 8 (by kernel_rfl) (by kernel_rfl)
theorem reads (os:Os) {H:Type} (enc:TypeId × Value->H):∃ places,DataW.whole enc Tryz.prog ((World.doorLaid Tryz.prog 67 os).forCall (fun _ _=>0) ⟨#[],#[.string ⟨#[]⟩],[]⟩).memory Tryz.f5.params.toList Rows.printFixSpec.vars false (#[.string ⟨#[]⟩]:Array Value).toList 8=some ([.lit (.string [])],[],places) :=
 ⟨[],by kernel_rfl⟩
theorem lifted (os:Os) (started:os.Started) (H:Type) (enc:TypeId × Value->H) (F:Stop.Interp) :
  ReturnsInHanded {} Tryz.checked os 5 .any ((OpenSpec.ofChange Rows.printFixSpec).preRow enc Tryz.prog Tryz.f5 Rows.printFixRow.domain false Rows.printFixRow.laid) (((OpenSpec.ofChange Rows.printFixSpec).at F).post enc Tryz.prog Tryz.f5 false true false false):=by
 obtain ⟨places,hx⟩:=reads os enc
 refine returnsInHanded_of_row (C:=Tryz.checked) (s:=OpenSpec.ofChange Rows.printFixSpec) own started (by kernel_rfl) Tryz.func5
  (witness_row_atRef (enc:=enc) (C:=Tryz.checked) false (World.doorLaid Tryz.prog 67 os) #[.string ⟨#[]⟩] rfl (by kernel_rfl) (by kernel_rfl) (by kernel_rfl)
   (OpenSpec.preRow_of_cond 8 hx (by kernel_rfl) (fun k hk=>by cases hk) (by kernel_rfl) (door_met os))) ?_
 intro W base args ds gs before hval hW _ _ hsz hL _ _
 exact contract H enc W base args ds gs before hval hW hsz hL
theorem said:Rows.PrintFixSaid :=
 OpenClaim.holds_of_cond 5 Tryz.f5 rfl rfl rfl rfl rfl rfl rfl ⟨rfl,rfl,rfl,rfl,rfl⟩ rfl rfl rfl rfl rfl (by kernel_rfl) Tryz.func5 (by kernel_rfl)
  (of_decide_eq_true (by kernel_rfl)) (by unfold Func.isWrapper;first | (rw [if_pos (by decide +kernel)];kernel_rfl) | (rw [if_neg (by decide +kernel)];exact ⟨rfl,rfl⟩))
  (fun os started H enc _ F=>by rw [OpenClaim.pre_eq_preRow];exact lifted os started H enc F)
theorem plain (f : FuncId) (fn : Func) (hf : Tryz.pinned.checked.prog.funcNamed "pedigree/pedigreelaw05.PrintFix" = some f) (hfn : Tryz.pinned.checked.prog.funcs[f]? = some fn) :
  true=Tryz.pinned.checked.prog.looks []/\∀ (j:Nat) t,fn.params[j]?=some t->Tryz.pinned.checked.prog.wantsStandIn t=false:=by
 obtain rfl : f = 5 := Option.some.inj ((show Tryz.prog.funcNamed "pedigree/pedigreelaw05.PrintFix" = some 5 by kernel_rfl).symm.trans hf) |>.symm
 obtain rfl:fn=Tryz.f5:=(Option.some.inj (Tryz.func5.symm.trans hfn)).symm
 refine ⟨by kernel_rfl,fun j t ht=>?_⟩
 rw [Tryz.params5] at ht
 have hm:t∈[9]:=by simpa using Array.mem_of_getElem? ht
 have hall:([9].all fun u=>!Tryz.prog.wantsStandIn u)=true:=by kernel_rfl
 exact (show Tryz.prog.wantsStandIn t=false by simpa using List.all_eq_true.1 hall t hm)
/-- THE STATEMENT -/
theorem proved:Rows.PrintFixCardSaid :=
 Claim7.holds_tied_plain_at .later [] _ _ _ _ said (fun _ h=>by cases h) (by kernel_rfl) (fun _ h=>by cases h) printFix_row_tie rfl ⟨rfl,rfl⟩ (by kernel_rfl) rfl plain (by kernel_rfl)
end Go.Proofs.YtohnmnfhmbmoaaaGreatDoor.pPrintFix
