/- THE TEXTS MERGED: SyGlob PfSyParts. -/
import Derived.Test.YtppigckioalhhaaGreatDoorRKT1
import Derived.Test.YtppigckioalhhaaGreatDoorRKT21
import Derived.Test.YtppigckioalhhaaGreatDoorRRows
import Derived.ProofKit
import Derived.OpenShut
import Derived.LaidMore
import Derived.Stop.LaidErr
import Derived.Stop.Joined
import Derived.Test.YtppigckioalhhaaGreatDoorRKT38
import Derived.Test.YtppigckioalhhaaGreatDoorRCards
import Derived.Test.YtppigckioalhhaaGreatDoorRTie
import Derived.ShutString
import Derived.SizedLaws
import Derived.JoinedCond
import Derived.Deep.CondSized
import Derived.Deep.DeepHandedRow
import Derived.Deep.DeepWitnessRowRef
import Derived.SevenTiedAt
namespace Go.Proofs.YtppigckioalhhaaGreatDoorR
open Go.RowKit
set_option linter.unusedVariables false
set_option linter.unusedSimpArgs false
set_option maxRecDepth 100000
theorem gRng : Tryz.prog.globalNamed "strconv.ErrRange" = some 3 := by kernel_rfl
theorem gSyn : Tryz.prog.globalNamed "strconv.ErrSyntax" = some 2 := by kernel_rfl
theorem gMrk : Tryz.prog.globalNamed "pedigree/lex.marks" = some 0 := by kernel_rfl
theorem tRng:(Tryz.prog.globals[3]?).map (·.type)=some 199:=by kernel_rfl
theorem tSyn:(Tryz.prog.globals[2]?).map (·.type)=some 199:=by kernel_rfl
theorem tMrk:(Tryz.prog.globals[0]?).map (·.type)=some 187:=by kernel_rfl
theorem starE : "*" ++ "errors.errorString" = "*errors.errorString" := by decide
theorem rowE (u : TypeId) (h : Tryz.prog.typeName? 3 u = some "*errors.errorString") : u = 234 :=
 typeName_ptr_named (nm := "errors.errorString") (by rw [starE]; kernel_rfl) (by kernel_rfl) (by decide) u (by rw [starE]; exact h)
theorem var_heap {P:Program} {w:World} {n:String} {g:Nat} {cs:Array Value} (hg:P.globalNamed n=some g) (h:w.var? P n=some cs):∃ T fr,w.heap[g]?=some (.cells cs T fr):=by
 simp only [World.var?,hg,Option.bind_some] at h
 split at h
 ·rename_i c T fr he
  cases h
  exact ⟨_,_,he⟩
 ·cases h
theorem glob_of_laid {W:World} (h:laidMetH Tryz.prog Rows.syntaxDeepRow.laid W):Glob W:=by
 rw [MakeChecks.laidMetH_plain _ _ _ (by kernel_rfl)] at h
 have h3:=h.tail.tail.tail
 obtain ⟨a0,s0,hv0,-⟩:=laid_sentinel h3 gRng tRng Tryz.underlying199 rowE Tryz.underlying234 Tryz.underlying236 rfl rfl Tryz.underlying9 (by kernel_rfl) (by kernel_rfl)
 obtain ⟨a1,s1,hv1,-⟩:=laid_sentinel h3.tail gSyn tSyn Tryz.underlying199 rowE Tryz.underlying234 Tryz.underlying236 rfl rfl Tryz.underlying9 (by kernel_rfl) (by kernel_rfl)
 obtain ⟨T0,f0,hr⟩:=var_heap gRng hv0
 obtain ⟨T1,f1,hs⟩:=var_heap gSyn hv1
 obtain ⟨ps,⟨g2,t2,cs2,fu,p2,q2,hg2,ht2,hv2,hd2,-,-⟩,-,-⟩:=h3.tail.tail
 obtain rfl:=Option.some.inj (gMrk.symm.trans hg2)
 obtain rfl:=Option.some.inj (tMrk.symm.trans ht2)
 obtain ⟨T2,f2,hm⟩:=var_heap gMrk hv2
 obtain ⟨xs,m,rfl,hx,hlen,hn,hel⟩:=DataW.trod_array Tryz.underlying187 hd2
 rw [show Tryz.prog.cellsOf 187=19 by kernel_rfl] at hlen
 rw [show Tryz.prog.cellsOf 9=1 by kernel_rfl] at hel
 simp only [Prod.mk.injEq,DataW.agg.injEq,Rows.laid_pedigree_lex_marks] at hx
 have hcs:cs2=(markL.map fun l=>Value.string (Lx.ofS l)).toArray:=by
  apply Array.ext'
  apply List.ext_getElem?
  intro i
  by_cases hi:i<19
  ·have he:=hel i hi
   have hlt:i<cs2.toList.length:=by omega
   have hone:(cs2.toList.drop (i * 1)).take 1=[cs2.toList[i]]:=by
    rw [Nat.mul_one,List.drop_eq_getElem_cons hlt];rfl
   rw [hone] at he
   have hxi:i<xs.length:=by omega
   rw [List.getElem?_eq_getElem hxi] at he
   obtain ⟨s,hc,hy,-⟩:=DataW.trod_string Tryz.underlying9 he
   rw [List.getElem?_eq_getElem hlt]
   have hlit:(markL.map fun l=>(DataW.lit (.string (l.map UInt8.ofNat)):DataW Unit))=xs.map (·.1):=hx.1
   have h1:(markL.map fun l=>(DataW.lit (.string (l.map UInt8.ofNat)):DataW Unit))[i]?=(xs.map (·.1))[i]?:=by rw [hlit]
   rw [List.getElem?_map,List.getElem?_map,List.getElem?_eq_getElem hxi,hy] at h1
   have hmi:i<markL.length:=by show i<19;exact hi
   rw [List.getElem?_eq_getElem hmi] at h1
   simp only [Option.map_some,Option.some.injEq,DataW.lit.injEq,Lit.string.injEq] at h1
   simp only [List.getElem?_map]
   rw [List.getElem?_eq_getElem hmi]
   have hcc:cs2.toList[i]=Value.string s:=by simpa using hc
   rw [hcc]
   simp only [Option.map_some]
   congr 2
   unfold Lx.ofS
   rw [h1]
  ·rw [List.getElem?_eq_none (by omega),List.getElem?_eq_none (by simp [markL];omega)]
 exact ⟨⟨_,_,hcs ▸ hm⟩,⟨_,_,_,_,hs⟩,⟨_,_,_,_,hr⟩⟩
end Go.Proofs.YtppigckioalhhaaGreatDoorR
namespace Go.Proofs.YtppigckioalhhaaGreatDoorR.pSyntaxParts
open Go.ChangeShapes Go.WideShapes Go.ChangeAt Go.RowKit
open Go.ChangeMaps (open_string shut_string)
set_option linter.unusedVariables false
set_option maxRecDepth 100000
set_option maxHeartbeats 1000000
theorem own:ownKnob Tryz.prog.godebug=none:=by kernel_rfl
theorem laidOut:laidOutB Tryz.prog=true:=by kernel_rfl
theorem contract (H:Type) (enc:TypeId × Value->H) (W:World) (base:Nat) (args:Array Value) (ds gs:List (DataW H)) (before:List MemPlace)
  (hval:∀ (j:Nat) t v,Tryz.f5.params[j]?=some t->args[j]?=some v->Value.okWide Tryz.prog W .any base t v)
  (hW:DataW.Whole enc Tryz.prog Tryz.f5.params.toList Rows.syntaxPartsSpec.vars false W args.toList ds gs before)
  (hsz0:(DataW.weightsEach Tryz.prog (Tryz.f5.params.toList++Rows.syntaxPartsSpec.plain.varTypes Tryz.prog) (ds++gs)).all (·<=reachBytes)=true)
  (hL:laidMetH Tryz.prog Rows.syntaxPartsRow.laid W) :
  Calls Tryz.prog 5 args W fun e W'=>∃ v,e=.returned v/\Rows.syntaxPartsSpec.post enc Tryz.prog Tryz.f5 false true false false W args v W':=by
 have hW':=hW
 have hG:=glob_of_laid hL
 obtain ⟨p,q,hA0,hV,rfl,hfz,hnd⟩:=hW
 have hA:DataW.TrodAll enc Tryz.prog W 0 (fun _=>true) true Tryz.f5.params.toList args.toList ds p:=hA0
 rw [Tryz.params5] at hA hval hsz0
 obtain ⟨v0,vs0,d0,ds0,p0,q0,hargs,rfl,rfl,h0,r0⟩:=trodAll_cons hA
 obtain ⟨rfl,rfl,rfl⟩:=trodAll_nil r0
 obtain rfl:args=#[v0]:=by cases args;simp_all
 obtain ⟨rfl,rfl⟩:=trodVars_none hV
 obtain ⟨s0,rfl,rfl,rfl,hz0⟩:=open_string Tryz.underlying9 (hval 0 9 v0 rfl rfl) h0
 have hs0:s0.size<=140737488351232:=by
  have:=sized_string hsz0 (j:=0) (t:=9) rfl rfl
  rw [Array.length_toList] at this
  exact this
 clear hA0
 refine (SyntaxParts_any s0 (by omega) W hG).mono fun e W' ⟨he,hm⟩=>?_
 subst he
 have bel:Below W.heap.size W W':=hm.below (Nat.le_refl _) (by simp)
 exact ⟨_,rfl,_,_,_,[],_,[],hW',trodAll_mk1 (shut_bool Tryz.underlying4 _),(trodAll_cons_mk (shut_string Tryz.underlying9 hz0) trodAll_mk0),rfl,bel.frame _,fun h=>by cases h⟩
theorem door_met (os:Os):laidMetH Tryz.prog Rows.syntaxPartsRow.laid ((World.doorLaid Tryz.prog 67 os).forCall (fun _ _=>0) ⟨#[],#[.string ⟨#[]⟩],[]⟩).memory:=by
 rw [MakeChecks.laidMetH_plain _ _ _ (by kernel_rfl)]
 exact laidMet_of_run' 8 (by kernel_rfl) (by kernel_rfl)
theorem reads (os:Os) {H:Type} (enc:TypeId × Value->H):∃ places,DataW.whole enc Tryz.prog ((World.doorLaid Tryz.prog 67 os).forCall (fun _ _=>0) ⟨#[],#[.string ⟨#[]⟩],[]⟩).memory Tryz.f5.params.toList Rows.syntaxPartsSpec.vars false (#[.string ⟨#[]⟩]:Array Value).toList 8=some ([.lit (.string [])],[],places) :=
 ⟨[],by kernel_rfl⟩
theorem lifted (os:Os) (started:os.Started) (H:Type) (enc:TypeId × Value->H) (F:Stop.Interp) :
  ReturnsInHanded {} Tryz.checked os 5 .any ((OpenSpec.ofChange Rows.syntaxPartsSpec).preRow enc Tryz.prog Tryz.f5 Rows.syntaxPartsRow.domain false Rows.syntaxPartsRow.laid) (((OpenSpec.ofChange Rows.syntaxPartsSpec).at F).post enc Tryz.prog Tryz.f5 false true false false):=by
 obtain ⟨places,hx⟩:=reads os enc
 refine returnsInHanded_of_row (C:=Tryz.checked) (s:=OpenSpec.ofChange Rows.syntaxPartsSpec) own started (by kernel_rfl) Tryz.func5
  (witness_row_atRef (enc:=enc) (C:=Tryz.checked) false (World.doorLaid Tryz.prog 67 os) #[.string ⟨#[]⟩] rfl (by kernel_rfl) (by kernel_rfl) (by kernel_rfl)
   (OpenSpec.preRow_of_cond 8 hx (by kernel_rfl) (fun k hk=>by cases hk) (by kernel_rfl) (door_met os))) ?_
 intro W base args ds gs before hval hW _ _ hsz hL _ _
 exact contract H enc W base args ds gs before hval hW hsz hL
theorem said:Rows.SyntaxPartsSaid :=
 OpenClaim.holds_of_cond 5 Tryz.f5 rfl rfl rfl rfl rfl rfl rfl ⟨rfl,rfl,rfl,rfl,rfl⟩ rfl rfl rfl rfl rfl (by kernel_rfl) Tryz.func5 (by kernel_rfl)
  (of_decide_eq_true (by kernel_rfl)) (by unfold Func.isWrapper;first | (rw [if_pos (by decide +kernel)];kernel_rfl) | (rw [if_neg (by decide +kernel)];exact ⟨rfl,rfl⟩))
  (fun os started H enc _ F=>by rw [OpenClaim.pre_eq_preRow];exact lifted os started H enc F)
theorem plain (f : FuncId) (fn : Func) (hf : Tryz.pinned.checked.prog.funcNamed "pedigree/pedigreelaw04.SyntaxParts" = some f) (hfn : Tryz.pinned.checked.prog.funcs[f]? = some fn) :
  true=Tryz.pinned.checked.prog.looks []/\∀ (j:Nat) t,fn.params[j]?=some t->Tryz.pinned.checked.prog.wantsStandIn t=false:=by
 obtain rfl : f = 5 := Option.some.inj ((show Tryz.prog.funcNamed "pedigree/pedigreelaw04.SyntaxParts" = some 5 by kernel_rfl).symm.trans hf) |>.symm
 obtain rfl:fn=Tryz.f5:=(Option.some.inj (Tryz.func5.symm.trans hfn)).symm
 refine ⟨by kernel_rfl,fun j t ht=>?_⟩
 rw [Tryz.params5] at ht
 have hm:t∈[9]:=by simpa using Array.mem_of_getElem? ht
 have hall:([9].all fun u=>!Tryz.prog.wantsStandIn u)=true:=by kernel_rfl
 exact (show Tryz.prog.wantsStandIn t=false by simpa using List.all_eq_true.1 hall t hm)
/-- THE STATEMENT -/
theorem proved:Rows.SyntaxPartsCardSaid :=
 Claim7.holds_tied_plain_at .later [] _ _ _ _ said (fun _ h=>by cases h) (by kernel_rfl) (fun _ h=>by cases h) syntaxParts_row_tie rfl ⟨rfl,rfl⟩ (by kernel_rfl) rfl plain (by kernel_rfl)
end Go.Proofs.YtppigckioalhhaaGreatDoorR.pSyntaxParts
