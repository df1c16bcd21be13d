/- THE TEXTS MERGED: PfPBr. -/
import Derived.Test.YtbfaclljbbfknaaGreatDoorKP33
import Derived.Test.YtbfaclljbbfknaaGreatDoorCards
import Derived.Test.YtbfaclljbbfknaaGreatDoorTie
import Derived.ShutString
import Derived.SizedLaws
import Derived.JoinedCond
import Derived.Deep.CondSized
import Derived.Deep.DeepHandedRow
import Derived.Deep.DeepWitnessRowRef
import Derived.SevenTiedAt
namespace Go.Proofs.YtbfaclljbbfknaaGreatDoor.pPrintBracketsUC
open Go.ChangeShapes Go.WideShapes Go.ChangeAt Go.RowKit
open Go.ChangeMaps (open_string shut_string)
set_option linter.unusedVariables false
set_option maxRecDepth 100000
set_option maxHeartbeats 1000000
theorem own:ownKnob Tryz.prog.godebug=none:=by kernel_rfl
theorem laidOut:laidOutB Tryz.prog=true:=by kernel_rfl
theorem contract (H:Type) (enc:TypeId × Value->H) (W:World) (base:Nat) (args:Array Value) (ds gs:List (DataW H)) (before:List MemPlace)
  (hval:∀ (j:Nat) t v,Tryz.f3.params[j]?=some t->args[j]?=some v->Value.okWide Tryz.prog W .any base t v)
  (hW:DataW.Whole enc Tryz.prog Tryz.f3.params.toList Rows.printBracketsSpec.vars false W args.toList ds gs before)
  (hsz0:(DataW.weightsEach Tryz.prog (Tryz.f3.params.toList++Rows.printBracketsSpec.plain.varTypes Tryz.prog) (ds++gs)).all (·<=reachBytes)=true)
  (hL:laidMetH Tryz.prog Rows.printBracketsUptoRow.laid W) (hk:Rows.uptoBulkAll (ds++gs)<=1048576) :
  Calls Tryz.prog 3 args W fun e W'=>∃ v,e=.returned v/\Rows.printBracketsSpec.post enc Tryz.prog Tryz.f3 false true false false W args v W':=by
 have hW':=hW
 have hG:=globs_of_laid hL
 obtain ⟨p,q,hA0,hV,rfl,hfz,hnd⟩:=hW
 have hA:DataW.TrodAll enc Tryz.prog W 0 (fun _=>true) true Tryz.f3.params.toList args.toList ds p:=hA0
 rw [Tryz.params3] at hA hval hsz0
 obtain ⟨v0,vs0,d0,ds0,p0,q0,hargs,rfl,rfl,h0,r0⟩:=trodAll_cons hA
 obtain ⟨rfl,rfl,rfl⟩:=trodAll_nil r0
 obtain rfl:args=#[v0]:=by cases args;simp_all
 obtain ⟨rfl,rfl⟩:=trodVars_none hV
 have k0:=h0
 have lt0:∀ x∈p0,x.block<W.heap.size:=by obtain ⟨m,hm⟩:=k0;exact DataW.trod_lt m _ _ _ hm
 obtain ⟨e0,u0,rfl,hE0,hw0⟩:=open_expr_arg (okWide_struct Tryz.underlying26 (hval 0 26 v0 rfl rfl)) h0
 have hb0:Rows.uptoBulk d0<=1048576:=by simp only [Rows.uptoBulkAll,List.append_nil] at hk;omega
 clear hA0
 refine (PrintBrackets_any e0 u0 (by omega) W hE0 hG).mono fun e W' ⟨he,hm⟩=>?_
 subst he
 have bel:Below W.heap.size W W':=hm.below (Nat.le_refl _) (by simp)
 exact ⟨_,rfl,_,_,_,[],_,[],hW',trodAll_mk1 (shut_bool Tryz.underlying4 _),(trodAll_cons_mk (Below.trod laidOut (by kernel_rfl) (of_decide_eq_true (by kernel_rfl)) k0 bel lt0) trodAll_mk0),rfl,bel.frame _,fun h=>by cases h⟩
theorem door_met (os:Os):laidMetH Tryz.prog Rows.printBracketsUptoRow.laid ((World.doorLaid Tryz.prog 67 os).forCall (fun _ _=>0) ⟨#[],#[.agg #[.int .i64 0,.string ⟨#[]⟩,.int .i64 0,.int .i64 0,.string ⟨#[]⟩,.int .i64 0,.slice none 0 0]],[]⟩).memory:=by
 rw [MakeChecks.laidMetH_plain _ _ _ (by kernel_rfl)]
 exact laidMet_of_run' 8 (by kernel_rfl) (by kernel_rfl)
theorem reads (os:Os) {H:Type} (enc:TypeId × Value->H):∃ places,DataW.whole enc Tryz.prog ((World.doorLaid Tryz.prog 67 os).forCall (fun _ _=>0) ⟨#[],#[.agg #[.int .i64 0,.string ⟨#[]⟩,.int .i64 0,.int .i64 0,.string ⟨#[]⟩,.int .i64 0,.slice none 0 0]],[]⟩).memory Tryz.f3.params.toList Rows.printBracketsSpec.vars false (#[.agg #[.int .i64 0,.string ⟨#[]⟩,.int .i64 0,.int .i64 0,.string ⟨#[]⟩,.int .i64 0,.slice none 0 0]]:Array Value).toList 8=some ([.agg [.lit (.int .i64 0),.lit (.string []),.agg [.lit (.int .i64 0),.lit (.int .i64 0),.lit (.string [])],.lit (.int .i64 0),.nil]],[],places) :=
 ⟨[],by kernel_rfl⟩
theorem lifted (os:Os) (started:os.Started) (H:Type) (enc:TypeId × Value->H) (F:Stop.Interp) :
  ReturnsInHanded {} Tryz.checked os 3 .any ((Rows.OpenSpec.upto Rows.printBracketsSpec).preRow enc Tryz.prog Tryz.f3 Rows.printBracketsUptoRow.domain false Rows.printBracketsUptoRow.laid) (((Rows.OpenSpec.upto Rows.printBracketsSpec).at F).post enc Tryz.prog Tryz.f3 false true false false):=by
 obtain ⟨places,hx⟩:=reads os enc
 refine returnsInHanded_of_row (C:=Tryz.checked) (s:=Rows.OpenSpec.upto Rows.printBracketsSpec) own started (by kernel_rfl) Tryz.func3
  (witness_row_atRef (enc:=enc) (C:=Tryz.checked) false (World.doorLaid Tryz.prog 67 os) #[.agg #[.int .i64 0,.string ⟨#[]⟩,.int .i64 0,.int .i64 0,.string ⟨#[]⟩,.int .i64 0,.slice none 0 0]] rfl (by kernel_rfl) (by kernel_rfl) (by kernel_rfl)
   (OpenSpec.preRow_of_cond 8 hx (by kernel_rfl) (fun k hk=>by cases hk;kernel_rfl) (by kernel_rfl) (door_met os))) ?_
 intro W base args ds gs before hval hW _ hc hsz hL _ _
 exact contract H enc W base args ds gs before hval hW hsz hL (of_decide_eq_true (hc _ rfl))
theorem said:Rows.PrintBracketsUptoSaid :=
 OpenClaim.holds_of_cond 3 Tryz.f3 rfl rfl rfl rfl rfl rfl rfl ⟨rfl,rfl,rfl,rfl,rfl⟩ rfl rfl rfl rfl rfl (by kernel_rfl) Tryz.func3 (by kernel_rfl)
  (of_decide_eq_true (by kernel_rfl)) (by unfold Func.isWrapper;first | (rw [if_pos (by decide +kernel)];kernel_rfl) | (rw [if_neg (by decide +kernel)];exact ⟨rfl,rfl⟩))
  (fun os started H enc _ F=>by rw [OpenClaim.pre_eq_preRow];exact lifted os started H enc F)
theorem plain (f : FuncId) (fn : Func) (hf : Tryz.pinned.checked.prog.funcNamed "pedigree/pedigreelaw05.PrintBrackets" = some f) (hfn : Tryz.pinned.checked.prog.funcs[f]? = some fn) :
  true=Tryz.pinned.checked.prog.looks []/\∀ (j:Nat) t,fn.params[j]?=some t->Tryz.pinned.checked.prog.wantsStandIn t=false:=by
 obtain rfl : f = 3 := Option.some.inj ((show Tryz.prog.funcNamed "pedigree/pedigreelaw05.PrintBrackets" = some 3 by kernel_rfl).symm.trans hf) |>.symm
 obtain rfl:fn=Tryz.f3:=(Option.some.inj (Tryz.func3.symm.trans hfn)).symm
 refine ⟨by kernel_rfl,fun j t ht=>?_⟩
 rw [Tryz.params3] at ht
 have hm:t∈[26]:=by simpa using Array.mem_of_getElem? ht
 have hall:([26].all fun u=>!Tryz.prog.wantsStandIn u)=true:=by kernel_rfl
 exact (show Tryz.prog.wantsStandIn t=false by simpa using List.all_eq_true.1 hall t hm)
/-- THE STATEMENT -/
theorem proved:Rows.PrintBracketsUptoCardSaid :=
 Claim7.holds_tied_plain_at .later [] _ _ _ _ said (fun _ h=>by cases h) (by kernel_rfl) (fun _ h=>by cases h) printBracketsUpto_row_tie rfl ⟨rfl,rfl⟩ (by kernel_rfl) rfl plain (by kernel_rfl)
end Go.Proofs.YtbfaclljbbfknaaGreatDoor.pPrintBracketsUC
