/- THE TEXTS MERGED: PwGlob PfPBack. -/
import Derived.Test.YtohnmnfhmbmoaaaGreatDoorKQ1
import Derived.Test.YtohnmnfhmbmoaaaGreatDoorKQ18
import Derived.Test.YtohnmnfhmbmoaaaGreatDoorKQ42
import Derived.Test.YtohnmnfhmbmoaaaGreatDoorRows
import Derived.ProofKit
import Derived.OpenShut
import Derived.LaidMore
import Derived.Stop.LaidErr
import Derived.Stop.Joined
import Derived.Test.YtohnmnfhmbmoaaaGreatDoorKQ44
import Derived.Test.YtohnmnfhmbmoaaaGreatDoorKQ43
import Derived.Test.YtohnmnfhmbmoaaaGreatDoorCards
import Derived.Test.YtohnmnfhmbmoaaaGreatDoorTie
import Derived.ShutString
import Derived.SizedLaws
import Derived.JoinedCond
import Derived.Deep.CondSized
import Derived.Deep.DeepHandedRow
import Derived.Deep.DeepWitnessRowRef
import Derived.SevenTiedAt
namespace Go.Proofs.YtohnmnfhmbmoaaaGreatDoor
open Go.RowKit
set_option linter.unusedVariables false
set_option linter.unusedSimpArgs false
set_option maxRecDepth 100000
theorem gRng : Tryz.prog.globalNamed "strconv.ErrRange" = some 4 := by kernel_rfl
theorem gSyn : Tryz.prog.globalNamed "strconv.ErrSyntax" = some 3 := by kernel_rfl
theorem gMrk : Tryz.prog.globalNamed "pedigree/lex.marks" = some 0 := by kernel_rfl
theorem tRng:(Tryz.prog.globals[4]?).map (·.type)=some 112:=by kernel_rfl
theorem tSyn:(Tryz.prog.globals[3]?).map (·.type)=some 112:=by kernel_rfl
theorem tMrk:(Tryz.prog.globals[0]?).map (·.type)=some 203:=by kernel_rfl
theorem starE : "*" ++ "errors.errorString" = "*errors.errorString" := by decide
theorem rowE (u : TypeId) (h : Tryz.prog.typeName? 3 u = some "*errors.errorString") : u = 239 :=
 typeName_ptr_named (nm := "errors.errorString") (by rw [starE]; kernel_rfl) (by kernel_rfl) (by decide) u (by rw [starE]; exact h)
theorem var_heapW {P:Program} {w:World} {n:String} {g:Nat} {cs:Array Value} (hg:P.globalNamed n=some g) (h:w.var? P n=some cs):∃ T fr,w.heap[g]?=some (.cells cs T fr):=by
 simp only [World.var?,hg,Option.bind_some] at h
 split at h
 ·rename_i c T fr he
  cases h
  exact ⟨_,_,he⟩
 ·cases h
theorem gTabV : Tryz.prog.globalNamed "internal/strconv.uint64pow10" = some 2 := by kernel_rfl
theorem tTabV:(Tryz.prog.globals[2]?).map (·.type)=some 230:=by kernel_rfl
theorem globV_of_laid {W:World} (h:laidMetH Tryz.prog Rows.printFixRow.laid W):GlobV W:=by
 rw [MakeChecks.laidMetH_plain _ _ _ (by kernel_rfl)] at h
 exact ⟨Lib.tabIs_of_head (zs:=Lib.pow10Tab) gTabV tTabV Tryz.underlying230 Tryz.underlying212 (by kernel_rfl) (by kernel_rfl) h.tail.tail⟩
theorem glob_of_laid {W:World} (h:laidMetH Tryz.prog Rows.printFixRow.laid W):Glob W:=by
 rw [MakeChecks.laidMetH_plain _ _ _ (by kernel_rfl)] at h
 have h3:=h.tail.tail.tail
 obtain ⟨a0,s0,hv0,-⟩:=laid_sentinel h3 gRng tRng Tryz.underlying112 rowE Tryz.underlying239 Tryz.underlying241 rfl rfl Tryz.underlying9 (by kernel_rfl) (by kernel_rfl)
 obtain ⟨a1,s1,hv1,-⟩:=laid_sentinel h3.tail gSyn tSyn Tryz.underlying112 rowE Tryz.underlying239 Tryz.underlying241 rfl rfl Tryz.underlying9 (by kernel_rfl) (by kernel_rfl)
 obtain ⟨T0,f0,hr⟩:=var_heapW gRng hv0
 obtain ⟨T1,f1,hs⟩:=var_heapW gSyn hv1
 obtain ⟨ps,⟨g2,t2,cs2,fu,p2,q2,hg2,ht2,hv2,hd2,-,-⟩,-,-⟩:=h3.tail.tail
 obtain rfl:=Option.some.inj (gMrk.symm.trans hg2)
 obtain rfl:=Option.some.inj (tMrk.symm.trans ht2)
 obtain ⟨T2,f2,hm⟩:=var_heapW gMrk hv2
 obtain ⟨xs,m,rfl,hx,hlen,hn,hel⟩:=DataW.trod_array Tryz.underlying203 hd2
 rw [show Tryz.prog.cellsOf 203=19 by kernel_rfl] at hlen
 rw [show Tryz.prog.cellsOf 9=1 by kernel_rfl] at hel
 simp only [Prod.mk.injEq,DataW.agg.injEq,Rows.laid_pedigree_lex_marks] at hx
 have hcs:cs2=(markL.map fun l=>Value.string (Lx.ofS l)).toArray:=by
  apply Array.ext'
  apply List.ext_getElem?
  intro i
  by_cases hi:i<19
  ·have he:=hel i hi
   have hlt:i<cs2.toList.length:=by omega
   have hone:(cs2.toList.drop (i * 1)).take 1=[cs2.toList[i]]:=by
    rw [Nat.mul_one,List.drop_eq_getElem_cons hlt];rfl
   rw [hone] at he
   have hxi:i<xs.length:=by omega
   rw [List.getElem?_eq_getElem hxi] at he
   obtain ⟨s,hc,hy,-⟩:=DataW.trod_string Tryz.underlying9 he
   rw [List.getElem?_eq_getElem hlt]
   have hlit:(markL.map fun l=>(DataW.lit (.string (l.map UInt8.ofNat)):DataW Unit))=xs.map (·.1):=hx.1
   have h1:(markL.map fun l=>(DataW.lit (.string (l.map UInt8.ofNat)):DataW Unit))[i]?=(xs.map (·.1))[i]?:=by rw [hlit]
   rw [List.getElem?_map,List.getElem?_map,List.getElem?_eq_getElem hxi,hy] at h1
   have hmi:i<markL.length:=by show i<19;exact hi
   rw [List.getElem?_eq_getElem hmi] at h1
   simp only [Option.map_some,Option.some.injEq,DataW.lit.injEq,Lit.string.injEq] at h1
   simp only [List.getElem?_map]
   rw [List.getElem?_eq_getElem hmi]
   have hcc:cs2.toList[i]=Value.string s:=by simpa using hc
   rw [hcc]
   simp only [Option.map_some]
   congr 2
   unfold Lx.ofS
   rw [h1]
  ·rw [List.getElem?_eq_none (by omega),List.getElem?_eq_none (by simp [markL];omega)]
 exact ⟨⟨_,_,hcs ▸ hm⟩,⟨_,_,_,_,hs⟩,⟨_,_,_,_,hr⟩⟩
theorem globs_of_laid {W:World} (h:laidMetH Tryz.prog Rows.printFixRow.laid W):Glob W/\GlobV W:=⟨glob_of_laid h,globV_of_laid h⟩
end Go.Proofs.YtohnmnfhmbmoaaaGreatDoor
namespace Go.Proofs.YtohnmnfhmbmoaaaGreatDoor.pPrintBackUC
open Go.ChangeShapes Go.WideShapes Go.ChangeAt Go.RowKit
open Go.ChangeMaps (open_string shut_string)
set_option linter.unusedVariables false
set_option maxRecDepth 100000
set_option maxHeartbeats 1000000
theorem own:ownKnob Tryz.prog.godebug=none:=by kernel_rfl
theorem laidOut:laidOutB Tryz.prog=true:=by kernel_rfl
theorem contract (H:Type) (enc:TypeId × Value->H) (W:World) (base:Nat) (args:Array Value) (ds gs:List (DataW H)) (before:List MemPlace)
  (hval:∀ (j:Nat) t v,Tryz.f6.params[j]?=some t->args[j]?=some v->Value.okWide Tryz.prog W .any base t v)
  (hW:DataW.Whole enc Tryz.prog Tryz.f6.params.toList Rows.printBackSpec.vars false W args.toList ds gs before)
  (hsz0:(DataW.weightsEach Tryz.prog (Tryz.f6.params.toList++Rows.printBackSpec.plain.varTypes Tryz.prog) (ds++gs)).all (·<=reachBytes)=true)
  (hL:laidMetH Tryz.prog Rows.printBackUptoRow.laid W) (hk:Rows.uptoBulkAll (ds++gs)<=1048576) :
  Calls Tryz.prog 6 args W fun e W'=>∃ v,e=.returned v/\Rows.printBackSpec.post enc Tryz.prog Tryz.f6 false true false false W args v W':=by
 have hW':=hW
 have hG:=globs_of_laid hL
 obtain ⟨p,q,hA0,hV,rfl,hfz,hnd⟩:=hW
 have hA:DataW.TrodAll enc Tryz.prog W 0 (fun _=>true) true Tryz.f6.params.toList args.toList ds p:=hA0
 rw [Tryz.params6] at hA hval hsz0
 obtain ⟨v0,vs0,d0,ds0,p0,q0,hargs,rfl,rfl,h0,r0⟩:=trodAll_cons hA
 obtain ⟨rfl,rfl,rfl⟩:=trodAll_nil r0
 obtain rfl:args=#[v0]:=by cases args;simp_all
 obtain ⟨rfl,rfl⟩:=trodVars_none hV
 have k0:=h0
 have lt0:∀ x∈p0,x.block<W.heap.size:=by obtain ⟨m,hm⟩:=k0;exact DataW.trod_lt m _ _ _ hm
 obtain ⟨P0,du0,ru0,rfl,hD0,hR0,hw0⟩:=open_prog_arg (okWide_struct Tryz.underlying25 (hval 0 25 v0 rfl rfl)) h0
 have hb0:Rows.uptoBulk d0<=1048576:=by simp only [Rows.uptoBulkAll,List.append_nil] at hk;omega
 clear hA0
 refine (PrintBack_any P0 du0 ru0 (by omega) W hD0 hR0 hG).mono fun e W' ⟨he,hm⟩=>?_
 subst he
 have bel:Below W.heap.size W W':=hm.below (Nat.le_refl _) (by simp)
 exact ⟨_,rfl,_,_,_,[],_,[],hW',trodAll_mk1 (shut_bool Tryz.underlying4 _),(trodAll_cons_mk (Below.trod laidOut (by kernel_rfl) (of_decide_eq_true (by kernel_rfl)) k0 bel lt0) trodAll_mk0),rfl,bel.frame _,fun h=>by cases h⟩
theorem door_met (os:Os):laidMetH Tryz.prog Rows.printBackUptoRow.laid ((World.doorLaid Tryz.prog 67 os).forCall (fun _ _=>0) ⟨#[],#[.agg #[.slice none 0 0,.slice none 0 0]],[]⟩).memory:=by
 rw [MakeChecks.laidMetH_plain _ _ _ (by kernel_rfl)]
 exact laidMet_of_run' 8 (by kernel_rfl) (by kernel_rfl)
theorem reads (os:Os) {H:Type} (enc:TypeId × Value->H):∃ places,DataW.whole enc Tryz.prog ((World.doorLaid Tryz.prog 67 os).forCall (fun _ _=>0) ⟨#[],#[.agg #[.slice none 0 0,.slice none 0 0]],[]⟩).memory Tryz.f6.params.toList Rows.printBackSpec.vars false (#[.agg #[.slice none 0 0,.slice none 0 0]]:Array Value).toList 8=some ([.agg [.nil,.nil]],[],places) :=
 ⟨[],by kernel_rfl⟩
theorem lifted (os:Os) (started:os.Started) (H:Type) (enc:TypeId × Value->H) (F:Stop.Interp) :
  ReturnsInHanded {} Tryz.checked os 6 .any ((Rows.OpenSpec.upto Rows.printBackSpec).preRow enc Tryz.prog Tryz.f6 Rows.printBackUptoRow.domain false Rows.printBackUptoRow.laid) (((Rows.OpenSpec.upto Rows.printBackSpec).at F).post enc Tryz.prog Tryz.f6 false true false false):=by
 obtain ⟨places,hx⟩:=reads os enc
 refine returnsInHanded_of_row (C:=Tryz.checked) (s:=Rows.OpenSpec.upto Rows.printBackSpec) own started (by kernel_rfl) Tryz.func6
  (witness_row_atRef (enc:=enc) (C:=Tryz.checked) false (World.doorLaid Tryz.prog 67 os) #[.agg #[.slice none 0 0,.slice none 0 0]] rfl (by kernel_rfl) (by kernel_rfl) (by kernel_rfl)
   (OpenSpec.preRow_of_cond 8 hx (by kernel_rfl) (fun k hk=>by cases hk;kernel_rfl) (by kernel_rfl) (door_met os))) ?_
 intro W base args ds gs before hval hW _ hc hsz hL _ _
 exact contract H enc W base args ds gs before hval hW hsz hL (of_decide_eq_true (hc _ rfl))
theorem said:Rows.PrintBackUptoSaid :=
 OpenClaim.holds_of_cond 6 Tryz.f6 rfl rfl rfl rfl rfl rfl rfl ⟨rfl,rfl,rfl,rfl,rfl⟩ rfl rfl rfl rfl rfl (by kernel_rfl) Tryz.func6 (by kernel_rfl)
  (of_decide_eq_true (by kernel_rfl)) (by unfold Func.isWrapper;first | (rw [if_pos (by decide +kernel)];kernel_rfl) | (rw [if_neg (by decide +kernel)];exact ⟨rfl,rfl⟩))
  (fun os started H enc _ F=>by rw [OpenClaim.pre_eq_preRow];exact lifted os started H enc F)
theorem plain (f : FuncId) (fn : Func) (hf : Tryz.pinned.checked.prog.funcNamed "pedigree/pedigreelaw05.PrintBack" = some f) (hfn : Tryz.pinned.checked.prog.funcs[f]? = some fn) :
  true=Tryz.pinned.checked.prog.looks []/\∀ (j:Nat) t,fn.params[j]?=some t->Tryz.pinned.checked.prog.wantsStandIn t=false:=by
 obtain rfl : f = 6 := Option.some.inj ((show Tryz.prog.funcNamed "pedigree/pedigreelaw05.PrintBack" = some 6 by kernel_rfl).symm.trans hf) |>.symm
 obtain rfl:fn=Tryz.f6:=(Option.some.inj (Tryz.func6.symm.trans hfn)).symm
 refine ⟨by kernel_rfl,fun j t ht=>?_⟩
 rw [Tryz.params6] at ht
 have hm:t∈[25]:=by simpa using Array.mem_of_getElem? ht
 have hall:([25].all fun u=>!Tryz.prog.wantsStandIn u)=true:=by kernel_rfl
 exact (show Tryz.prog.wantsStandIn t=false by simpa using List.all_eq_true.1 hall t hm)
/-- THE STATEMENT -/
theorem proved:Rows.PrintBackUptoCardSaid :=
 Claim7.holds_tied_plain_at .later [] _ _ _ _ said (fun _ h=>by cases h) (by kernel_rfl) (fun _ h=>by cases h) printBackUpto_row_tie rfl ⟨rfl,rfl⟩ (by kernel_rfl) rfl plain (by kernel_rfl)
end Go.Proofs.YtohnmnfhmbmoaaaGreatDoor.pPrintBackUC
