/- THE TEXTS MERGED: SyProg. -/
import Derived.Test.YtppigckioalhhaaGreatDoorRKS1
import Derived.Test.YtppigckioalhhaaGreatDoorRKS20
namespace Go.Proofs.YtppigckioalhhaaGreatDoorR
open Go.RowKit
set_option linter.unusedVariables false
set_option linter.unusedSimpArgs false
set_option maxRecDepth 100000
abbrev RelU:=Pr.Rel × Value
abbrev RulU:=Pr.Rul × Value × Value
def csR (p:RelU):Array Value:=reV p.1 p.2
def csU (p:RulU):Array Value:=ruV p.1 p.2.1 p.2.2
theorem csR_size (p:RelU):(csR p).size=4:=rfl
theorem csU_size (p:RulU):(csU p).size=5:=rfl
def RelB (F:Nat->Prop) (w:World) (p:RelU):Prop:=RowB F w 1 intC p.1.types p.2
def RulB (F:Nat->Prop) (w:World) (p:RulU):Prop:=RowB F w 5 tmV p.1.head.terms p.2.1/\BB F w p.1.body p.2.2
theorem RelB.keep {F:Nat->Prop} {S:List Nat} {w w':World} {p:RelU} (h:RelB F w p) (hm:Mod S w w') (hS:∀ s∈S,¬ F s):RelB F w' p:=RowB.keep h hm hS
theorem RelB.mono {F F':Nat->Prop} {w:World} {p:RelU} (h:RelB F w p) (hF:∀ k,F k->k<w.heap.size->F' k):RelB F' w p:=RowB.mono h hF
theorem RulB.keep {F:Nat->Prop} {S:List Nat} {w w':World} {p:RulU} (h:RulB F w p) (hm:Mod S w w') (hS:∀ s∈S,¬ F s):RulB F w' p:=⟨h.1.keep hm hS,h.2.keep hm hS⟩
theorem RulB.mono {F F':Nat->Prop} {w:World} {p:RulU} (h:RulB F w p) (hF:∀ k,F k->k<w.heap.size->F' k):RulB F' w p:=⟨h.1.mono hF,h.2.mono hF⟩
theorem csR_one {F:Nat->Prop} {w:World} {p:RelU} (h:RelB F w p):∀ u∈(csR p).toList,u.oneCell'=true:=by
 obtain ⟨r,u⟩:=p
 obtain ⟨a,c,hu⟩:=RowB.lit h
 simp only at hu
 subst hu
 intro x hx
 simp [csR,reV] at hx
 rcases hx with rfl | rfl | rfl | rfl <;> rfl
theorem csU_one {F:Nat->Prop} {w:World} {p:RulU} (h:RulB F w p):∀ u∈(csU p).toList,u.oneCell'=true:=by
 obtain ⟨r,u1,u2⟩:=p
 obtain ⟨a,c,hu⟩:=RowB.lit h.1
 obtain ⟨a2,c2,hu2⟩:=BB.lit h.2
 simp only at hu hu2
 subst hu;subst hu2
 intro x hx
 simp [csU,ruV] at hx
 rcases hx with rfl | rfl | rfl | rfl | rfl <;> rfl
/-- what of blocks the elements' own rows lie in -/
def PF (w0:World) (pb:Nat) (sr su:Value) (k:Nat):Prop:=w0.heap.size<=k/\k≠pb/\k∉fp sr/\k∉fp su
structure PI (w0:World) (b pb:Nat) (rels:List RelU) (rus:List RulU) (W:World) (va:Option Addr) (vc:Nat) (ua:Option Addr) (uc:Nat):Prop where
 box:W.heap[pb]?=some (.cells #[.slice va rels.length vc,.slice ua rus.length uc] 26 (0,0))
 rowR:W.ownsRow 0 81 4 (.slice va rels.length vc) rels.length (rowCells csR rels)
 rowU:W.ownsRow 0 55 5 (.slice ua rus.length uc) rus.length (rowCells csU rus)
 newR:∀ k∈fp (.slice va rels.length vc),w0.heap.size<=k/\k≠pb
 newU:∀ k∈fp (.slice ua rus.length uc),w0.heap.size<=k/\k≠pb
 dis:∀ k∈fp (.slice va rels.length vc),k∉fp (.slice ua rus.length uc)
 subR:∀ p∈rels,RelB (PF w0 pb (.slice va rels.length vc) (.slice ua rus.length uc)) W p
 subU:∀ p∈rus,RulB (PF w0 pb (.slice va rels.length vc) (.slice ua rus.length uc)) W p
 pbn:w0.heap.size<=pb
 bl:b<w0.heap.size
 mod:Mod [b] w0 W
section
variable {w0:World} {b pb:Nat} {rels:List RelU} {rus:List RulU} {W W':World} {va:Option Addr} {vc:Nat} {ua:Option Addr} {uc:Nat}
theorem PI.keep (h:PI w0 b pb rels rus W va vc ua uc) (hm:Mod [b] W W'):PI w0 b pb rels rus W' va vc ua uc:=by
 have h1:=h.pbn
 have h3:=h.bl
 refine ⟨hm.at h.box (by simp;omega),hm.owns h.rowR (fun k hk=>?_),hm.owns h.rowU (fun k hk=>?_),h.newR,h.newU,h.dis,fun p hp=>(h.subR p hp).keep hm (fun s hs=>?_),fun p hp=>(h.subU p hp).keep hm (fun s hs=>?_),h.pbn,h.bl,h.mod.trans hm (by simp)⟩
 ·have:=(h.newR k hk).1;simp;omega
 ·have:=(h.newU k hk).1;simp;omega
 all_goals (rw [Msq] at hs;subst hs;rintro ⟨h4,-⟩;omega)
/-- a relation more -/
theorem PI.growR {va':Option Addr} {vc':Nat} {p:RelU} {n:Nat} (h:PI w0 b pb rels rus W va vc ua uc) (hm:Mod (fp (.slice va rels.length vc)) W W') (hp:RelB (fun k=>n<=k) W p) (hpb:pb<n) (hR:∀ k∈fp (.slice va rels.length vc),k<n) (hU:∀ k∈fp (.slice ua rus.length uc),k<n)
  (hown:W'.ownsRow 0 81 4 (.slice va' (rels.length+1) vc') (rels.length+1) (rowCells csR rels++(csR p).toList))
  (hf:∀ k∈fp (.slice va' (rels.length+1) vc'),k∈fp (.slice va rels.length vc)\/W.heap.size<=k) :
  PI w0 b pb (rels++[p]) rus (W'.setCell ⟨pb,0,none⟩ (.slice va' (rels.length+1) vc')) va' vc' ua uc:=by
 have e1:(rels++[p]).length=rels.length+1:=by simp
 have hnR:=h.newR
 have hnU:=h.newU
 have hdis:=h.dis
 have hpbn:=h.pbn
 have hbx:=lt_of_block h.box
 have hUl:=fun k hk=>fp_lt h.rowU k hk
 have hsz:=h.mod.size
 have hna:pb∉fp (.slice va rels.length vc):=fun hk=>(hnR pb hk).2 rfl
 have hnR':∀ k∈fp (.slice va' (rels.length+1) vc'),w0.heap.size<=k/\k≠pb:=fun k hk=>by
  rcases hf k hk with hh | hh
  ·exact hnR k hh
  ·exact ⟨by omega,by omega⟩
 have hdis':∀ k∈fp (.slice va' (rels.length+1) vc'),k∉fp (.slice ua rus.length uc):=fun k hk hu=>by
  rcases hf k hk with hh | hh
  ·exact hdis k hh hu
  ·have:=hUl k hu;omega
 have hm2:Mod [pb] W' (W'.setCell ⟨pb,0,none⟩ (.slice va' (rels.length+1) vc')):=(Mod.refl [pb] W').setCell (p:=⟨pb,0,none⟩) (.inl (by simp)) _
 have hstep:∀ k,PF w0 pb (.slice va rels.length vc) (.slice ua rus.length uc) k->k<W.heap.size->PF w0 pb (.slice va' (rels.length+1) vc') (.slice ua rus.length uc) k:=fun k hk hk2 =>
  ⟨hk.1,hk.2.1,fun hh=>by
   rcases hf k hh with h1 | h1
   ·exact hk.2.2.1 h1
   ·omega,hk.2.2.2⟩
 have hmm:Mod (pb :: fp (.slice va rels.length vc)) W (W'.setCell ⟨pb,0,none⟩ (.slice va' (rels.length+1) vc')):=(hm.mono (fun t ht=>.inl (List.mem_cons_of_mem _ ht))).trans hm2 (by simp)
 have hkeep:∀ s∈pb :: fp (.slice va rels.length vc),¬ (PF w0 pb (.slice va rels.length vc) (.slice ua rus.length uc) s/\s<W.heap.size):=fun s hs hh=>by
  rcases List.mem_cons.1 hs with rfl | hs
  ·exact hh.1.2.1 rfl
  ·exact hh.1.2.2.1 hs
 refine ⟨?_,?_,?_,by rw [e1];exact hnR',hnU,by rw [e1];exact hdis',?_,?_,h.pbn,h.bl,?_⟩
 ·have:=setCell_at (hm.at h.box hna) 0 (.slice va' (rels.length+1) vc')
  rw [this,e1]
  simp
 ·rw [e1,rowCells_snoc]
  exact hm2.owns hown (fun k hk=>by have:=(hnR' k hk).2;simp;omega)
 ·exact hm2.owns (hm.owns h.rowU (fun k hk hk2=>hdis k hk2 hk)) (fun k hk=>by have:=(hnU k hk).2;simp;omega)
 ·intro q hq
  rw [e1]
  rcases List.mem_append.1 hq with hq | hq
  ·refine (((h.subR q hq).mono (F':=fun k=>PF w0 pb (.slice va rels.length vc) (.slice ua rus.length uc) k/\k<W.heap.size) (fun k hk hk2=>⟨hk,hk2⟩)).keep hmm hkeep).mono (fun k hk _=>hstep k hk.1 hk.2)
  ·rw [Msq] at hq
   subst hq
   refine ((hp.mono (F':=fun k=>n<=k/\k<W.heap.size) (fun k hk hk2=>⟨hk,hk2⟩)).keep hmm (fun s hs hh=>?_)).mono (fun k hk _=>⟨by omega,by omega,fun hh=>?_,fun hh=>?_⟩)
   ·rcases List.mem_cons.1 hs with rfl | hs
    ·omega
    ·have:=hR s hs;omega
   ·rcases hf k hh with h1 | h1
    ·have:=hR k h1;omega
    ·omega
   ·have:=hU k hh;omega
 ·intro q hq
  rw [e1]
  exact (((h.subU q hq).mono (F':=fun k=>PF w0 pb (.slice va rels.length vc) (.slice ua rus.length uc) k/\k<W.heap.size) (fun k hk hk2=>⟨hk,hk2⟩)).keep hmm hkeep).mono (fun k hk _=>hstep k hk.1 hk.2)
 ·refine h.mod.trans hmm (fun k hk=>?_)
  rcases List.mem_cons.1 hk with rfl | hk
  ·exact .inr hpbn
  ·exact .inr (hnR k hk).1
/-- a rule more -/
theorem PI.growU {ua':Option Addr} {uc':Nat} {p:RulU} {n:Nat} (h:PI w0 b pb rels rus W va vc ua uc) (hm:Mod (fp (.slice ua rus.length uc)) W W') (hp:RulB (fun k=>n<=k) W p) (hpb:pb<n) (hR:∀ k∈fp (.slice ua rus.length uc),k<n) (hU:∀ k∈fp (.slice va rels.length vc),k<n)
  (hown:W'.ownsRow 0 55 5 (.slice ua' (rus.length+1) uc') (rus.length+1) (rowCells csU rus++(csU p).toList))
  (hf:∀ k∈fp (.slice ua' (rus.length+1) uc'),k∈fp (.slice ua rus.length uc)\/W.heap.size<=k) :
  PI w0 b pb rels (rus++[p]) (W'.setCell ⟨pb,1,none⟩ (.slice ua' (rus.length+1) uc')) va vc ua' uc':=by
 have e1:(rus++[p]).length=rus.length+1:=by simp
 have hnR:=h.newU
 have hnU:=h.newR
 have hdis:∀ k∈fp (.slice ua rus.length uc),k∉fp (.slice va rels.length vc):=fun k hk hk2=>h.dis k hk2 hk
 have hpbn:=h.pbn
 have hbx:=lt_of_block h.box
 have hUl:=fun k hk=>fp_lt h.rowR k hk
 have hsz:=h.mod.size
 have hna:pb∉fp (.slice ua rus.length uc):=fun hk=>(hnR pb hk).2 rfl
 have hnR':∀ k∈fp (.slice ua' (rus.length+1) uc'),w0.heap.size<=k/\k≠pb:=fun k hk=>by
  rcases hf k hk with hh | hh
  ·exact hnR k hh
  ·exact ⟨by omega,by omega⟩
 have hdis':∀ k∈fp (.slice ua' (rus.length+1) uc'),k∉fp (.slice va rels.length vc):=fun k hk hu=>by
  rcases hf k hk with hh | hh
  ·exact hdis k hh hu
  ·have:=hUl k hu;omega
 have hm2:Mod [pb] W' (W'.setCell ⟨pb,1,none⟩ (.slice ua' (rus.length+1) uc')):=(Mod.refl [pb] W').setCell (p:=⟨pb,1,none⟩) (.inl (by simp)) _
 have hstep:∀ k,PF w0 pb (.slice va rels.length vc) (.slice ua rus.length uc) k->k<W.heap.size->PF w0 pb (.slice va rels.length vc) (.slice ua' (rus.length+1) uc') k:=fun k hk hk2 =>
  ⟨hk.1,hk.2.1,hk.2.2.1,fun hh=>by
   rcases hf k hh with h1 | h1
   ·exact hk.2.2.2 h1
   ·omega⟩
 have hmm:Mod (pb :: fp (.slice ua rus.length uc)) W (W'.setCell ⟨pb,1,none⟩ (.slice ua' (rus.length+1) uc')):=(hm.mono (fun t ht=>.inl (List.mem_cons_of_mem _ ht))).trans hm2 (by simp)
 have hkeep:∀ s∈pb :: fp (.slice ua rus.length uc),¬ (PF w0 pb (.slice va rels.length vc) (.slice ua rus.length uc) s/\s<W.heap.size):=fun s hs hh=>by
  rcases List.mem_cons.1 hs with rfl | hs
  ·exact hh.1.2.1 rfl
  ·exact hh.1.2.2.2 hs
 refine ⟨?_,?_,?_,hnU,by rw [e1];exact hnR',by rw [e1];exact fun k hk hk2=>hdis' k hk2 hk,?_,?_,h.pbn,h.bl,?_⟩
 ·have:=setCell_at (hm.at h.box hna) 1 (.slice ua' (rus.length+1) uc')
  rw [this,e1]
  simp
 ·exact hm2.owns (hm.owns h.rowR (fun k hk hk2=>hdis k hk2 hk)) (fun k hk=>by have:=(hnU k hk).2;simp;omega)
 ·rw [e1,rowCells_snoc]
  exact hm2.owns hown (fun k hk=>by have:=(hnR' k hk).2;simp;omega)
 ·intro q hq
  rw [e1]
  exact (((h.subR q hq).mono (F':=fun k=>PF w0 pb (.slice va rels.length vc) (.slice ua rus.length uc) k/\k<W.heap.size) (fun k hk hk2=>⟨hk,hk2⟩)).keep hmm hkeep).mono (fun k hk _=>hstep k hk.1 hk.2)
 ·intro q hq
  rw [e1]
  rcases List.mem_append.1 hq with hq | hq
  ·refine (((h.subU q hq).mono (F':=fun k=>PF w0 pb (.slice va rels.length vc) (.slice ua rus.length uc) k/\k<W.heap.size) (fun k hk hk2=>⟨hk,hk2⟩)).keep hmm hkeep).mono (fun k hk _=>hstep k hk.1 hk.2)
  ·rw [Msq] at hq
   subst hq
   refine ((hp.mono (F':=fun k=>n<=k/\k<W.heap.size) (fun k hk hk2=>⟨hk,hk2⟩)).keep hmm (fun s hs hh=>?_)).mono (fun k hk _=>⟨by omega,by omega,fun hh=>?_,fun hh=>?_⟩)
   ·rcases List.mem_cons.1 hs with rfl | hs
    ·omega
    ·have:=hR s hs;omega
   ·have:=hU k hh;omega
   ·rcases hf k hh with h1 | h1
    ·have:=hR k h1;omega
    ·omega
 ·refine h.mod.trans hmm (fun k hk=>?_)
  rcases List.mem_cons.1 hk with rfl | hk
  ·exact .inr hpbn
  ·exact .inr (hnR k hk).1
end
end Go.Proofs.YtppigckioalhhaaGreatDoorR
