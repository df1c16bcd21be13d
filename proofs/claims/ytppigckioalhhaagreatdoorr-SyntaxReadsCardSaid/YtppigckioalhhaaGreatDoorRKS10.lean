/- THE TEXTS MERGED: SyEnv SyKind RpBase. -/
import Derived.Test.YtppigckioalhhaaGreatDoorRKS1
import Derived.Test.YtppigckioalhhaaGreatDoorRKS8
import Derived.Test.YtppigckioalhhaaGreatDoorRKS9
import Derived.StillTailTactics
namespace Go.Proofs.YtppigckioalhhaaGreatDoorR.Lx
set_option linter.unusedVariables false
theorem next_ok {x y:St} {t:Tok} (hb:∀ c∈x.s,c<256) (h:next x=(y,some t)):t.num<=2147483647/\(∀ c∈t.text,c<256)/\(∀ c∈t.sym,c<256)/\t.kind<=5/\t.vk<=2/\y.s.length<x.s.length/\(∀ c∈y.s,c<256)/\x.long=false/\y.long=false:=by
 unfold next at h
 split at h
 ·simp at h
 ·split at h
  ·simp at h
  ·rename_i hl
   have hl':x.long=false:=by simpa using hl
   split at h
   ·simp at h
   ·rename_i he
    split at h
    ·simp at h
    ·rename_i wd hw
     have hbs:∀ c∈x.skip.s,c<256:=fun c hc=>hb c (List.mem_of_mem_drop hc)
     obtain ⟨h1,h2,h3,h4,h5,h6⟩:=word_len hbs he hw
     simp only [Prod.mk.injEq,Option.some.injEq] at h
     obtain ⟨rfl,rfl⟩:=h
     have hsk:x.skip.s.length<=x.s.length:=by unfold St.skip;simp
     refine ⟨h4,fun c hc=>hbs c (List.mem_of_mem_take hc),h3,h5,h6,?_,fun c hc=>hbs c (List.mem_of_mem_drop hc),hl',hl'⟩
     simp only [List.length_drop];omega
structure TokOk (t:Tok):Prop where
 num:t.num<=2147483647
 byte:∀ c∈t.text,c<256
 sym:∀ c∈t.sym,c<256
 kind:t.kind<=5
 vk:t.vk<=2
theorem all_ok:∀ (k:Nat) (x:St),(∀ c∈x.s,c<256)->(∀ t∈(allF k x).1,TokOk t)/\(allF k x).1.length<=x.s.length/\((allF k x).1≠[]->x.long=false)
 | 0,x,hb=>⟨by simp [allF],by simp [allF],by simp [allF]⟩
 | k+1,x,hb=>by
  rw [allF]
  cases hn:next x with
  | mk y o =>
   cases o with
   | none=>exact ⟨by simp,by simp,by simp⟩
   | some t =>
    obtain ⟨h1,h2,h3,h4,h5,h6,h7,h8,h9⟩:=next_ok hb hn
    obtain ⟨g1,g2,g3⟩:=all_ok k y h7
    refine ⟨fun u hu=>?_,by simp only [List.length_cons];omega,fun _=>h8⟩
    rcases List.mem_cons.1 hu with rfl | hu
    ·exact ⟨h1,h2,h3,h4,h5⟩
    ·exact g1 u hu
end Go.Proofs.YtppigckioalhhaaGreatDoorR.Lx
namespace Go.Proofs.YtppigckioalhhaaGreatDoorR.Sy
theorem env_toks (s:List Nat) (hb:∀ c∈s,c<256):(∀ t∈(envOf s).ws,Lx.TokOk t)/\(envOf s).ws.length<=65536:=by
 obtain ⟨h1,h2,h3⟩:=Lx.all_ok (s.length+1) (Lx.start s) hb
 refine ⟨h1,?_⟩
 show (Lx.allF (s.length+1) (Lx.start s)).1.length<=65536
 by_cases h:(Lx.allF (s.length+1) (Lx.start s)).1=[]
 ·rw [h];simp
 ·have:=h3 h
  simp only [Lx.start,decide_eq_false_iff_not] at this
  have h4:(Lx.start s).s.length=s.length:=rfl
  omega
end Go.Proofs.YtppigckioalhhaaGreatDoorR.Sy
namespace Go.Proofs.YtppigckioalhhaaGreatDoorR.Lx
set_option linter.unusedVariables false
/-- a name begins with a small letter, a mark does not -/
structure TokK (t:Tok):Prop where
 name:t.kind=1->small (t.text.headD 0)=true
 mark:t.kind=5->small (t.text.headD 0)=false
theorem word_k {s:List Nat} {w:Wd} (h:word s=.ok w) (hs:s≠[]):(w.kind=1->small ((s.take w.n).headD 0)=true)/\(w.kind=5->small ((s.take w.n).headD 0)=false):=by
 obtain ⟨c,r,rfl⟩:∃ c r,s=c :: r:=by
  cases s with
  | nil=>exact absurd rfl hs
  | cons c r=>exact ⟨c,r,rfl⟩
 unfold word at h
 rw [show (c :: r).headD 0=c from rfl] at h
 by_cases h0:(small c || capital c)=true
 ·rw [if_pos h0] at h
  split at h
  ·cases h
  ·cases h
   refine ⟨fun hk=>?_,fun hk=>?_⟩
   ·by_cases hc:capital c=true
    ·rw [if_pos hc] at hk;cases hk
    ·have hsm:small c=true:=by simpa [hc] using h0
     have hg:goes c=true:=by unfold goes;rw [hsm];rfl
     rw [run_cons,if_pos hg,List.take_succ_cons]
     exact hsm
   ·by_cases hc:capital c=true
    ·rw [if_pos hc] at hk;cases hk
    ·rw [if_neg hc] at hk;cases hk
 ·rw [if_neg h0] at h
  have hsm:small c=false:=by
   cases hh:small c with
   | false=>rfl
   | true=>rw [hh] at h0;exact absurd rfl h0
  have hz:∀ n,small (((c :: r).take n).headD 0)=false:=fun n=>by
   cases n with
   | zero=>rfl
   | succ n=>rw [List.take_succ_cons];exact hsm
  split at h
  ·split at h
   ·cases h
   ·cases h;exact ⟨fun hk=>(by cases hk),fun hk=>(by cases hk)⟩
  ·split at h
   ·split at h
    ·cases h
    ·cases h;exact ⟨fun hk=>(by cases hk),fun hk=>(by cases hk)⟩
   ·split at h
    ·cases h
    ·cases h;exact ⟨fun hk=>(by cases hk),fun _=>hz _⟩
theorem next_k {x y:St} {t:Tok} (h:next x=(y,some t)):TokK t:=by
 unfold next at h
 split at h
 ·simp at h
 ·split at h
  ·simp at h
  ·split at h
   ·simp at h
   ·rename_i he
    split at h
    ·simp at h
    ·rename_i wd hw
     simp only [Prod.mk.injEq,Option.some.injEq] at h
     obtain ⟨-,rfl⟩:=h
     obtain ⟨h1,h2⟩:=word_k hw he
     exact ⟨h1,h2⟩
theorem all_k:∀ (k:Nat) (x:St),∀ t∈(allF k x).1,TokK t
 | 0,x=>by simp [allF]
 | k+1,x=>by
  rw [allF]
  cases hn:next x with
  | mk y o =>
   cases o with
   | none=>simp
   | some t =>
    intro u hu
    rcases List.mem_cons.1 hu with rfl | hu
    ·exact next_k hn
    ·exact all_k k y u hu
end Go.Proofs.YtppigckioalhhaaGreatDoorR.Lx
namespace Go.Proofs.YtppigckioalhhaaGreatDoorR.Sy
set_option linter.unusedVariables false
theorem env_k (s:List Nat):∀ t∈(envOf s).ws,Lx.TokK t:=Lx.all_k _ _
/-- a mark's sign is a mark; a word's sign is a name -/
def mk (t:Lx.Tok) (s:List Nat):Bool:=decide (t.kind=5) && decide (t.text=s)
def nm (t:Lx.Tok) (s:List Nat):Bool:=decide (t.kind=1) && decide (t.text=s)
theorem mk_sign {t:Lx.Tok} (h:Lx.TokK t) {s:List Nat} (hs:Lx.small (s.headD 0)=false):mk t s=sign t s:=by
 unfold mk sign
 by_cases h1:t.text=s
 ·by_cases h5:t.kind=5
  ·simp [h1,h5]
  ·have hn:t.kind≠1:=fun e=>by have:=h.name e;rw [h1,hs] at this;cases this
   simp [h1,h5,hn]
 ·simp [h1]
theorem nm_sign {t:Lx.Tok} (h:Lx.TokK t) {s:List Nat} (hs:Lx.small (s.headD 0)=true):nm t s=sign t s:=by
 unfold nm sign
 by_cases h1:t.text=s
 ·by_cases h5:t.kind=1
  ·simp [h1,h5]
  ·have hn:t.kind≠5:=fun e=>by have:=h.mark e;rw [h1,hs] at this;cases this
   simp [h1,h5,hn]
 ·simp [h1]
end Go.Proofs.YtppigckioalhhaaGreatDoorR.Sy
namespace Go.Proofs.YtppigckioalhhaaGreatDoorR
open Go.RowKit
set_option linter.unusedVariables false
set_option linter.unusedSimpArgs false
set_option maxRecDepth 100000
/-- what a parser keeps beside its words: why no further one can be read, the place behind the text -/
structure LX where
 lc:Nat
 ll:Nat
 lk:Nat
 el:Nat
 ek:Nat
/-- a text's words, each of its kind -/
structure EnvK (v:Sy.Env):Prop where
 ok:EnvOk v
 k:∀ t∈v.ws,Lx.TokK t
theorem EnvK.tk {v:Sy.Env} (h:EnvK v) (i:Nat):Lx.TokK (v.tk i):=by
 rcases tk_mem (v:=v) i with hm | hm
 ·exact h.k _ hm
 ·rw [hm];exact ⟨fun h=>(by cases h),fun h=>(by cases h)⟩
/-- block b holds a parser that stands at word i, with fault g -/
structure RpP (w:World) (b:Nat) (ra:Option Addr) (rc:Nat) (L:LX) (v:Sy.Env) (i:Nat) (g:Sy.Flt):Prop where
 at_:w.heap[b]?=some (.cells #[.slice ra v.ws.length rc,.int .i64 (L.lc:Nat),.int .i64 (L.ll:Nat),.int .i64 (L.lk:Nat),.int .i64 (L.el:Nat),.int .i64 (L.ek:Nat),.int .i64 (i:Nat),.int .i64 (g.1:Nat),.int .i64 (g.2.1:Nat),.int .i64 (g.2.2:Nat)] 89 (0,0))
 row:TokRow w 0 (.slice ra v.ws.length rc) v.ws
 out:b∉fp (.slice ra v.ws.length rc)
 last:v.last=if L.lc=0 then (42,L.el,L.ek) else (L.lc,L.ll,L.lk)
section
variable {w w':World} {b:Nat} {ra:Option Addr} {rc:Nat} {L:LX} {v:Sy.Env} {i:Nat} {g:Sy.Flt}
theorem RpP.lt (h:RpP w b ra rc L v i g):b<w.heap.size:=lt_of_block h.at_
theorem RpP.keep {S:List Nat} (h:RpP w b ra rc L v i g) (hm:Mod S w w') (hb:b∉S) (hS:∀ k∈fp (.slice ra v.ws.length rc),k∉S):RpP w' b ra rc L v i g :=
 ⟨hm.at h.at_ hb,h.row.keep hm hS,h.out,h.last⟩
theorem RpP.past {S:List Nat} (h:RpP w b ra rc L v i g) (hm:Mod S w w') (hS:∀ t∈S,w.heap.size<=t):RpP w' b ra rc L v i g :=
 h.keep hm (fun hb=>by have:=hS b hb;have:=h.lt;omega) (fun k hk hs=>by have:=hS k hs;have:=fp_lt h.row.row k hk;omega)
theorem RpP.cells (h:RpP w b ra rc L v i g) :
  w.cell? ⟨b,0,none⟩=some (.slice ra v.ws.length rc)/\w.cell? ⟨b,1,none⟩=some (.int .i64 (L.lc:Nat))/\w.cell? ⟨b,2,none⟩=some (.int .i64 (L.ll:Nat))/\w.cell? ⟨b,3,none⟩=some (.int .i64 (L.lk:Nat)) /\
   w.cell? ⟨b,4,none⟩=some (.int .i64 (L.el:Nat))/\w.cell? ⟨b,5,none⟩=some (.int .i64 (L.ek:Nat))/\w.cell? ⟨b,6,none⟩=some (.int .i64 (i:Nat)) /\
   w.cell? ⟨b,7,none⟩=some (.int .i64 (g.1:Nat))/\w.cell? ⟨b,8,none⟩=some (.int .i64 (g.2.1:Nat))/\w.cell? ⟨b,9,none⟩=some (.int .i64 (g.2.2:Nat))/\∀ j,w.frozen? ⟨b,j,none⟩=false :=
 ⟨cell_at h.at_ 0,cell_at h.at_ 1,cell_at h.at_ 2,cell_at h.at_ 3,cell_at h.at_ 4,cell_at h.at_ 5,cell_at h.at_ 6,cell_at h.at_ 7,cell_at h.at_ 8,cell_at h.at_ 9,fun j=>free_at h.at_ j⟩
/-- the place turned -/
theorem RpP.to (h:RpP w b ra rc L v i g) (j:Nat):RpP (w.setCell ⟨b,6,none⟩ (.int .i64 (j:Nat))) b ra rc L v j g/\Mod [b] w (w.setCell ⟨b,6,none⟩ (.int .i64 (j:Nat))):=by
 have hm:Mod [b] w (w.setCell ⟨b,6,none⟩ (.int .i64 (j:Nat))):=(Mod.refl [b] w).setCell (p:=⟨b,6,none⟩) (.inl (by simp)) _
 refine ⟨⟨?_,h.row.keep hm (fun k hk hs=>h.out (by simp at hs;exact hs ▸ hk)),h.out,h.last⟩,hm⟩
 have:=setCell_at h.at_ 6 (.int .i64 (j:Nat))
 simpa using this
/-- a fault -/
theorem RpP.fail (h:RpP w b ra rc L v i g) (f:Sy.Flt):RpP (((w.setCell ⟨b,7,none⟩ (.int .i64 (f.1:Nat))).setCell ⟨b,8,none⟩ (.int .i64 (f.2.1:Nat))).setCell ⟨b,9,none⟩ (.int .i64 (f.2.2:Nat))) b ra rc L v i f /\
  Mod [b] w (((w.setCell ⟨b,7,none⟩ (.int .i64 (f.1:Nat))).setCell ⟨b,8,none⟩ (.int .i64 (f.2.1:Nat))).setCell ⟨b,9,none⟩ (.int .i64 (f.2.2:Nat))):=by
 have hm:Mod [b] w (((w.setCell ⟨b,7,none⟩ (.int .i64 (f.1:Nat))).setCell ⟨b,8,none⟩ (.int .i64 (f.2.1:Nat))).setCell ⟨b,9,none⟩ (.int .i64 (f.2.2:Nat))) :=
  (((Mod.refl [b] w).setCell (p:=⟨b,7,none⟩) (.inl (by simp)) _).setCell (p:=⟨b,8,none⟩) (.inl (by simp)) _).setCell (p:=⟨b,9,none⟩) (.inl (by simp)) _
 refine ⟨⟨?_,h.row.keep hm (fun k hk hs=>h.out (by simp at hs;exact hs ▸ hk)),h.out,h.last⟩,hm⟩
 have h1:=setCell_at h.at_ 7 (.int .i64 (f.1:Nat))
 have h2:=setCell_at h1 8 (.int .i64 (f.2.1:Nat))
 have h3:=setCell_at h2 9 (.int .i64 (f.2.2:Nat))
 simpa using h3
/-- a word's cells, where there is one -/
theorem RpP.word (h:RpP w b ra rc L v i g) (k:Nat) (hk:k<v.ws.length) :
  ∃ q,ra=some ⟨q,0,none⟩/\w.cell? ⟨q,k * 7,none⟩=some (.int .i64 ((v.tk k).kind:Nat))/\w.cell? ⟨q,k * 7+1,none⟩=some (.string (Lx.ofS (v.tk k).text))/\w.cell? ⟨q,k * 7+2,none⟩=some (.int .i64 ((v.tk k).vk:Nat)) /\
   w.cell? ⟨q,k * 7+3,none⟩=some (.int .i64 ((v.tk k).num:Nat))/\w.cell? ⟨q,k * 7+4,none⟩=some (.string (Lx.ofS (v.tk k).sym))/\w.cell? ⟨q,k * 7+5,none⟩=some (.int .i64 ((v.tk k).line:Nat))/\w.cell? ⟨q,k * 7+6,none⟩=some (.int .i64 ((v.tk k).col:Nat)):=by
 have he:v.ws[k]?=some (v.tk k):=by unfold Sy.Env.tk;rw [List.getD_eq_getElem?_getD,List.getElem?_eq_getElem hk];rfl
 obtain ⟨g,c,e,hc⟩:=h.row.at k _ he
 simp only [Value.slice.injEq] at e
 exact ⟨g,e.1,hc⟩
end
/-- all that the parser leans on lies below n -/
def RpL (b:Nat) (ra:Option Addr) (rc:Nat) (L:LX) (v:Sy.Env) (n:Nat):Prop:=b<n/\∀ k∈fp (.slice ra v.ws.length rc),k<n
section
variable {w w':World} {b:Nat} {ra:Option Addr} {rc:Nat} {L:LX} {v:Sy.Env} {i:Nat} {g:Sy.Flt}
theorem RpP.low (h:RpP w b ra rc L v i g):RpL b ra rc L v w.heap.size:=⟨h.lt,fun k hk=>fp_lt h.row.row k hk⟩
theorem RpP.new {n:Nat} {S:List Nat} (h:RpP w b ra rc L v i g) (hl:RpL b ra rc L v n) (hm:Mod S w w') (hS:∀ t∈S,n<=t):RpP w' b ra rc L v i g :=
 h.keep hm (fun hb=>by have:=hS b hb;have:=hl.1;omega) (fun k hk hs=>by have:=hS k hs;have:=hl.2 k hk;omega)
end
abbrev nf0:Sy.Flt:=(0,0,0)
set_option maxHeartbeats 2000000 in
theorem rstop_any (b:Nat) (ra:Option Addr) (rc:Nat) (L:LX) (v:Sy.Env) (i c:Nat) (w:World) (h:RpP w b ra rc L v i nf0) (hv:EnvOk v) (hi:i<=70000) :
  Calls Tryz.prog 66 #[.pointer (some ⟨b,0,none⟩),.int .i64 (c:Nat)] w fun e w'=>e=.returned (.bool false)/\RpP w' b ra rc L v i (v.give c i)/\Mod [b] w w':=by
 obtain ⟨c0,c1,c2,c3,c4,c5,c6,c7,c8,c9,fz⟩:=h.cells
 have hl:=hv.len
 have HH:=Lib.hid h
 have c7:w.cell? ⟨b,7,none⟩=some (.int .i64 0):=c7
 by_cases hlt:i<v.ws.length
 ·obtain ⟨q,rfl,t0,t1,t2,t3,t4,t5,t6⟩:=h.word i hlt
  have hiI:(i:Int)<(v.ws.length:Int):=by omega
  have hi0:(0:Int)<=(i:Int):=by omega
  have HG:Hid (v.give c i=(c,(v.tk i).line,(v.tk i).col)):=Hxq (by unfold Sy.Env.give;rw [if_pos hlt])
  rw [HG.out]
  clear h HG
  go_enter Tryz.func66,Tryz.ntmps66
  go_wp2_with fail
  go_quiet (fail)
  go_wp2_with fail
  refine wp_region_still_tail 16 (by kernel_rfl) (by kernel_rfl) ?_
  simp only [List.take_succ_cons,List.take_zero,List.drop_succ_cons,List.drop_zero]
  show wpStill Tryz.prog _ (World.drew (w.drewN nq)) (fun a'=>wpList Tryz.prog _ _ _ a' (World.drew (w.drewN nq))) _ _
  repeat still_step
  try refine wpStill_nil ?_
  go_wp2_with fail
  go_ret
  have hf:=(HH.out.past (((Mod.refl [] w).drewN nq).drew) (by simp)).fail (c,(v.tk i).line,(v.tk i).col)
  exact ⟨rfl,hf.1,(((Mod.refl [b] w).drewN nq).drew).trans hf.2 (by simp)⟩
 ·have hiI:¬ (i:Int)<(v.ws.length:Int):=by omega
  have HG:Hid (v.give c i=v.last):=Hxq (by unfold Sy.Env.give;rw [if_neg hlt])
  have hla:=h.last
  rw [HG.out]
  by_cases hlc:L.lc=0
  ·rw [if_pos hlc] at hla
   have hB:((L.lc:Int) != 0)=false:=by rw [hlc];rfl
   have hB2:((L.lc:Int) == 0)=true:=by rw [hlc];rfl
   rw [hla]
   clear h HG hla hlc
   go_enter Tryz.func66,Tryz.ntmps66
   go_wp2_with fail
   go_quiet (fail)
   go_wp2_with fail
   go_ret
   have hf:=(HH.out.past ((Mod.refl [] w).drewN nq) (by simp)).fail (42,L.el,L.ek)
   exact ⟨rfl,hf.1,((Mod.refl [b] w).drewN nq).trans hf.2 (by simp)⟩
  ·rw [if_neg hlc] at hla
   have hB:((L.lc:Int) != 0)=true:=by rw [bne_iff_ne];omega
   have hB2:((L.lc:Int) == 0)=false:=by rw [beq_eq_false_iff_ne];omega
   rw [hla]
   clear h HG hla hlc
   go_enter Tryz.func66,Tryz.ntmps66
   go_wp2_with fail
   go_quiet (fail)
   go_wp2_with fail
   go_ret
   have hf:=(HH.out.past ((Mod.refl [] w).drewN nq) (by simp)).fail (L.lc,L.ll,L.lk)
   exact ⟨rfl,hf.1,((Mod.refl [b] w).drewN nq).trans hf.2 (by simp)⟩
set_option maxHeartbeats 1000000 in
theorem rword_any (b:Nat) (ra:Option Addr) (rc:Nat) (L:LX) (v:Sy.Env) (i k:Nat) (g:Sy.Flt) (w:World) (h:RpP w b ra rc L v i g) (hv:EnvOk v) (hi:i<=70000) (hk:k<=10) :
  Calls Tryz.prog 64 #[.pointer (some ⟨b,0,none⟩),.int .i64 (k:Nat)] w fun e w'=>e=.returned (.agg (tokC (v.tk (i+k))))/\Mod [] w w':=by
 have hl:=hv.len
 have hbl:=h.lt
 have mA:=(Mod.refl [] w).alloc (Obj.cells #[Value.int IntKind.i64 0,Value.string ⟨#[]⟩,Value.int IntKind.i64 0,Value.int IntKind.i64 0,Value.string ⟨#[]⟩,Value.int IntKind.i64 0,Value.int IntKind.i64 0] 74)
 have hA:=h.past mA (by simp)
 have eA:=heap_alloc_new w (Obj.cells #[Value.int IntKind.i64 0,Value.string ⟨#[]⟩,Value.int IntKind.i64 0,Value.int IntKind.i64 0,Value.string ⟨#[]⟩,Value.int IntKind.i64 0,Value.int IntKind.i64 0] 74)
 obtain ⟨c0,c1,c2,c3,c4,c5,c6,c7,c8,c9,fz⟩:=hA.cells
 have fA:∀ j,(w.alloc (Obj.cells #[Value.int IntKind.i64 0,Value.string ⟨#[]⟩,Value.int IntKind.i64 0,Value.int IntKind.i64 0,Value.string ⟨#[]⟩,Value.int IntKind.i64 0,Value.int IntKind.i64 0] 74)).frozen? ⟨w.heap.size,j,none⟩=false:=fun j=>free_at eA j
 have x0:=cell_at eA 0
 have x1:=cell_at eA 1
 have x2:=cell_at eA 2
 have x3:=cell_at eA 3
 have x4:=cell_at eA 4
 have x5:=cell_at eA 5
 have x6:=cell_at eA 6
 simp only [List.getElem?_toArray,List.getElem?_cons_zero,List.getElem?_cons_succ] at x0 x1 x2 x3 x4 x5 x6
 have HA:=Lib.hid hA;have EA:=Lib.hid eA;have MA:=Lib.hid mA
 clear h hA eA mA
 by_cases hlt:i+k<v.ws.length
 ·obtain ⟨q,rfl,t0,t1,t2,t3,t4,t5,t6⟩:=HA.out.word (i+k) hlt
  have hiI:(i:Int)+(k:Int)<(v.ws.length:Int):=by omega
  have hi0:(0:Int)<=(i:Int)+(k:Int):=by omega
  have hN:((i:Int)+(k:Int)).toNat=i+k:=by omega
  have hW:IntKind.i64.wrap ((i:Int)+(k:Int))=(i:Int)+(k:Int):=IntWalk.i64_in _ (by omega)
  go_enter Tryz.func64,Tryz.ntmps64
  go_upto_region 1 with fail
  generalize w.alloc (Obj.cells #[Value.int IntKind.i64 0,Value.string ⟨#[]⟩,Value.int IntKind.i64 0,Value.int IntKind.i64 0,Value.string ⟨#[]⟩,Value.int IntKind.i64 0,Value.int IntKind.i64 0] 74)=wA at *
  go_quiet (fail)
  go_wp2_with fail
  refine wp_region_still_tail 12 (by kernel_rfl) (by kernel_rfl) ?_
  simp only [List.take_succ_cons,List.take_zero,List.drop_succ_cons,List.drop_zero]
  show wpStill Tryz.prog _ (World.drew (wA.drewN nq)) (fun a'=>wpList Tryz.prog _ _ _ a' (World.drew (wA.drewN nq))) _ _
  repeat still_step
  try refine wpStill_nil ?_
  clear hW
  go_wp2_with fail
  refine bodyPost_ret (results_cell_row rfl _ _ _ _ _ _ _ rfl (store_tok (drew_cells EA.out) _ _ _ _ _ _ _) Tryz.underlying74 rfl (by kernel_rfl)) rfl ⟨rfl,?_⟩
  exact mod_tok (MA.out.drewN nq).drew (.inr (Nat.le_refl _)) _ _ _ _ _ _ _
 ·have hiI:¬ (i:Int)+(k:Int)<(v.ws.length:Int):=by omega
  have HT:=Hxq (tk_none hlt)
  go_enter Tryz.func64,Tryz.ntmps64
  go_upto_region 1 with fail
  generalize w.alloc (Obj.cells #[Value.int IntKind.i64 0,Value.string ⟨#[]⟩,Value.int IntKind.i64 0,Value.int IntKind.i64 0,Value.string ⟨#[]⟩,Value.int IntKind.i64 0,Value.int IntKind.i64 0] 74)=wA at *
  go_quiet (fail)
  go_wp2_with fail
  refine bodyPost_ret (results_cell_row rfl _ _ _ _ _ _ _ rfl (store_tok (w:=wA.drewN nq) EA.out _ _ _ _ _ _ _) Tryz.underlying74 rfl (by kernel_rfl)) rfl ⟨by rw [HT.out];rfl,?_⟩
  exact mod_tok (MA.out.drewN nq) (.inr (Nat.le_refl _)) _ _ _ _ _ _ _
theorem rword0 (b:Nat) (ra:Option Addr) (rc:Nat) (L:LX) (v:Sy.Env) (i:Nat) (g:Sy.Flt) (w:World) (h:RpP w b ra rc L v i g) (hv:EnvOk v) (hi:i<=70000) :
  Calls Tryz.prog 64 #[.pointer (some ⟨b,0,none⟩),.int .i64 0] w fun e w'=>e=.returned (.agg (tokC (v.tk i)))/\Mod [] w w':=rword_any b ra rc L v i 0 g w h hv hi (by omega)
theorem rword1 (b:Nat) (ra:Option Addr) (rc:Nat) (L:LX) (v:Sy.Env) (i:Nat) (g:Sy.Flt) (w:World) (h:RpP w b ra rc L v i g) (hv:EnvOk v) (hi:i<=70000) :
  Calls Tryz.prog 64 #[.pointer (some ⟨b,0,none⟩),.int .i64 1] w fun e w'=>e=.returned (.agg (tokC (v.tk (i+1))))/\Mod [] w w':=rword_any b ra rc L v i 1 g w h hv hi (by omega)
theorem rword2 (b:Nat) (ra:Option Addr) (rc:Nat) (L:LX) (v:Sy.Env) (i:Nat) (g:Sy.Flt) (w:World) (h:RpP w b ra rc L v i g) (hv:EnvOk v) (hi:i<=70000) :
  Calls Tryz.prog 64 #[.pointer (some ⟨b,0,none⟩),.int .i64 2] w fun e w'=>e=.returned (.agg (tokC (v.tk (i+2))))/\Mod [] w w':=rword_any b ra rc L v i 2 g w h hv hi (by omega)
set_option maxHeartbeats 1000000 in
theorem ris_any (b:Nat) (ra:Option Addr) (rc:Nat) (L:LX) (v:Sy.Env) (i:Nat) (g:Sy.Flt) (l:List Nat) (s:ByteArray) (w:World) (h:RpP w b ra rc L v i g) (hv:EnvOk v) (hi:i<=70000) (hs:Lx.ofS l=s) (hl:∀ c∈l,c<256) :
  Calls Tryz.prog 33 #[.pointer (some ⟨b,0,none⟩),.string s] w fun e w'=>e=.returned (.bool (Sy.sign (v.tk i) l))/\Mod [] w w':=by
 have HP:=Hxq (rword0 b ra rc L v i g w h hv hi)
 subst hs
 have hq:=ofS_beq (hv.tbyte i) hl
 have HR:Hid (Sy.sign (v.tk i) l=(decide ((v.tk i).text=l) && (decide ((v.tk i).kind=5) || decide ((v.tk i).kind=1)))):=Lib.hid rfl
 generalize hr:Sy.sign (v.tk i) l=r at *
 clear h hl hr hv
 generalize v.tk i=t at *
 obtain ⟨kd,tx,vk,nu,sy,ln,cl⟩:=t
 dsimp only at hq HR
 by_cases h1:tx=l
 ·rw [decide_eq_true h1] at hq HR
  by_cases h5:kd=5
  ·have k5:((kd:Int) == 5)=true:=by rw [h5];rfl
   obtain rfl:r=true:=by rw [HR.out,decide_eq_true h5];rfl
   clear h1 h5 HR
   go_enter Tryz.func33,Tryz.ntmps33
   go_wp2_with fail
   refine HP.out.mono ?_
   rintro e1 w1 ⟨rfl,m1⟩
   have M1:=Hxq (m1.alloc (Obj.cells (tokC ⟨kd,tx,vk,nu,sy,ln,cl⟩) 74))
   clear m1
   unfold tokC at *
   go_wp2_with fail
   go_ret
   exact ⟨rfl,M1.out⟩
  ·have k5:((kd:Int) == 5)=false:=by rw [beq_eq_false_iff_ne];omega
   by_cases h1':kd=1
   ·have k1:((kd:Int) == 1)=true:=by rw [h1'];rfl
    obtain rfl:r=true:=by rw [HR.out,decide_eq_true h1'];simp
    clear h1 h5 h1' HR
    go_enter Tryz.func33,Tryz.ntmps33
    go_wp2_with fail
    refine HP.out.mono ?_
    rintro e1 w1 ⟨rfl,m1⟩
    have M1:=Hxq (m1.alloc (Obj.cells (tokC ⟨kd,tx,vk,nu,sy,ln,cl⟩) 74))
    clear m1
    unfold tokC at *
    go_wp2_with fail
    go_ret
    exact ⟨rfl,M1.out⟩
   ·have k1:((kd:Int) == 1)=false:=by rw [beq_eq_false_iff_ne];omega
    obtain rfl:r=false:=by rw [HR.out,decide_eq_false h1',decide_eq_false h5];rfl
    clear h1 h5 h1' HR
    go_enter Tryz.func33,Tryz.ntmps33
    go_wp2_with fail
    refine HP.out.mono ?_
    rintro e1 w1 ⟨rfl,m1⟩
    have M1:=Hxq (m1.alloc (Obj.cells (tokC ⟨kd,tx,vk,nu,sy,ln,cl⟩) 74))
    clear m1
    unfold tokC at *
    go_wp2_with fail
    go_ret
    exact ⟨rfl,M1.out⟩
 ·rw [decide_eq_false h1] at hq HR
  obtain rfl:r=false:=by rw [HR.out];rfl
  clear h1 HR
  by_cases h5:kd=5
  ·have k5:((kd:Int) == 5)=true:=by rw [h5];rfl
   clear h5
   go_enter Tryz.func33,Tryz.ntmps33
   go_wp2_with fail
   refine HP.out.mono ?_
   rintro e1 w1 ⟨rfl,m1⟩
   have M1:=Hxq (m1.alloc (Obj.cells (tokC ⟨kd,tx,vk,nu,sy,ln,cl⟩) 74))
   clear m1
   unfold tokC at *
   go_wp2_with fail
   go_ret
   exact ⟨rfl,M1.out⟩
  ·have k5:((kd:Int) == 5)=false:=by rw [beq_eq_false_iff_ne];omega
   obtain ⟨r1,hr1⟩:∃ r1,((kd:Int) == 1)=r1:=⟨_,rfl⟩
   clear h5
   cases r1
   all_goals
    go_enter Tryz.func33,Tryz.ntmps33
    go_wp2_with fail
    refine HP.out.mono ?_
    rintro e1 w1 ⟨rfl,m1⟩
    have M1:=Hxq (m1.alloc (Obj.cells (tokC ⟨kd,tx,vk,nu,sy,ln,cl⟩) 74))
    clear m1
    unfold tokC at *
    go_wp2_with fail
    go_ret
    exact ⟨rfl,M1.out⟩
/-- what take leaves -/
def TkR (b:Nat) (ra:Option Addr) (rc:Nat) (L:LX) (v:Sy.Env) (r:Sy.PR Unit) (w:World) (e:Ending) (w':World):Prop :=
 match r with
 | .ok _ j=>e=.returned (.bool true)/\RpP w' b ra rc L v j nf0/\Mod [b] w w'
 | .err g=>e=.returned (.bool false)/\(∃ j,RpP w' b ra rc L v j g)/\Mod [b] w w'
theorem rtake_any (b:Nat) (ra:Option Addr) (rc:Nat) (L:LX) (v:Sy.Env) (i:Nat) (l:List Nat) (s:ByteArray) (w:World) (h:RpP w b ra rc L v i nf0) (hv:EnvOk v) (hi:i<=70000) (hs:Lx.ofS l=s) (hl:∀ c∈l,c<256) :
  Calls Tryz.prog 36 #[.pointer (some ⟨b,0,none⟩),.string s] w (TkR b ra rc L v (Sy.must v l i) w):=by
 have HM:=Hxq (ris_any b ra rc L v i nf0 l s w h hv hi hs hl)
 have HR:Hid (Sy.must v l i=if Sy.sign (v.tk i) l=true then .ok () (i+1) else .err (v.give 40 i)):=Lib.hid rfl
 generalize Sy.sign (v.tk i) l=r at *
 generalize Sy.must v l i=q at *
 have HH:=Lib.hid h
 clear h hl hs
 cases r
 ·obtain rfl:q=.err (v.give 40 i):=HR.out
  clear HR
  go_enter Tryz.func36,Tryz.ntmps36
  go_wp2_with fail
  refine HM.out.mono ?_
  rintro e1 w1 ⟨rfl,m1⟩
  have M1:=Lib.hid m1;have H1:=Hxq (HH.out.past m1 (by simp))
  clear m1
  go_wp2_with fail
  refine (rstop_any b ra rc L v i 40 w1 H1.out hv hi).mono ?_
  rintro e2 w2 ⟨rfl,h2,m2⟩
  have M2:=Hxq ((M1.out.mono (T:=[b]) (by simp)).trans m2 (by simp));have H2:=Lib.hid h2
  clear m2 h2
  go_wp2_with fail
  go_ret
  exact ⟨rfl,⟨i,H2.out⟩,M2.out⟩
 ·obtain rfl:q=.ok () (i+1):=HR.out
  clear HR
  go_enter Tryz.func36,Tryz.ntmps36
  go_wp2_with fail
  refine HM.out.mono ?_
  rintro e1 w1 ⟨rfl,m1⟩
  have M1:=Lib.hid m1;have h1:=HH.out.past m1 (by simp)
  obtain ⟨c0,c1,c2,c3,c4,c5,c6,c7,c8,c9,fz⟩:=h1.cells
  have H1:=Lib.hid h1
  clear m1 h1
  go_wp2_with fail
  go_ret
  exact ⟨rfl,(H1.out.to (i+1)).1,(M1.out.mono (T:=[b]) (by simp)).trans (H1.out.to (i+1)).2 (by simp)⟩
theorem rRes_any (s:ByteArray) (w:World) :
  Calls Tryz.prog 106 #[.string s] w fun e w'=>e=.returned (.bool (resB s))/\w'=w:=by
 go_enter Tryz.func106,Tryz.ntmps106
 go_wp2
 all_goals (first | (exfalso;simp_all;done) | (go_ret;exact ⟨by congr 1;simp_all [resB,resU],rfl⟩))
theorem rname_any (t:Lx.Tok) (w:World) (ht:∀ c∈t.text,c<256) :
  Calls Tryz.prog 65 #[.agg (tokC t)] w fun e w'=>e=.returned (.bool (Sy.plain t))/\Mod [] w w':=by
 have hq:=resB_ofS ht
 have eA:=heap_alloc_new w (Obj.cells (tokC t) 74)
 obtain ⟨x0,x1,x2,x3,x4,x5,x6⟩:=tok_cells eA
 have MA:=Hxq ((Mod.refl [] w).alloc (Obj.cells (tokC t) 74))
 have hr:Hid (Sy.plain t=(decide (t.kind=1) && !(Sy.resW.contains t.text))):=Lib.hid rfl
 have hW:=fun w=>rRes_any (Lx.ofS t.text) w
 rw [hq] at hW
 generalize Sy.resW.contains t.text=q at *
 have HW:=Lib.hid hW
 unfold tokC at *
 clear eA ht hq hW
 by_cases h1:t.kind=1
 ·have k1:((t.kind:Int) == 1)=true:=by rw [h1];rfl
  have HR:Hid (Sy.plain t=!q):=Hxq (by rw [hr.out,decide_eq_true h1];rfl)
  clear h1 hr
  go_enter Tryz.func65,Tryz.ntmps65
  go_wp2_with fail
  refine (HW.out _).mono ?_
  rintro e1 w1 ⟨rfl,rfl⟩
  go_wp2_with fail
  go_ret
  exact ⟨by rw [HR.out];rfl,MA.out⟩
 ·have k1:((t.kind:Int) == 1)=false:=by rw [beq_eq_false_iff_ne];omega
  have HR:Hid (Sy.plain t=false):=Hxq (by rw [hr.out,decide_eq_false h1];rfl)
  clear h1 hr
  go_enter Tryz.func65,Tryz.ntmps65
  go_wp2_with fail
  go_ret
  exact ⟨by rw [HR.out];rfl,MA.out⟩
theorem rmark_any (t:Lx.Tok) (l:List Nat) (s:ByteArray) (w:World) (hs:Lx.ofS l=s) (ht:∀ c∈t.text,c<256) (hl:∀ c∈l,c<256) :
  Calls Tryz.prog 80 #[.agg (tokC t),.string s] w fun e w'=>e=.returned (.bool (Sy.mk t l))/\Mod [] w w':=by
 subst hs
 have hq:=ofS_beq ht hl
 have eA:=heap_alloc_new w (Obj.cells (tokC t) 74)
 obtain ⟨x0,x1,x2,x3,x4,x5,x6⟩:=tok_cells eA
 have MA:=Hxq ((Mod.refl [] w).alloc (Obj.cells (tokC t) 74))
 have HR:Hid (Sy.mk t l=(decide (t.kind=5) && decide (t.text=l))):=Lib.hid rfl
 generalize decide (t.text=l)=q at *
 generalize Sy.mk t l=r at *
 unfold tokC at *
 clear eA ht hl
 by_cases h1:t.kind=5
 ·have k1:((t.kind:Int) == 5)=true:=by rw [h1];rfl
  obtain rfl:r=q:=by rw [HR.out,decide_eq_true h1];rfl
  clear h1 HR
  go_enter Tryz.func80,Tryz.ntmps80
  go_wp2_with fail
  go_ret
  exact ⟨rfl,MA.out⟩
 ·have k1:((t.kind:Int) == 5)=false:=by rw [beq_eq_false_iff_ne];omega
  obtain rfl:r=false:=by rw [HR.out,decide_eq_false h1];rfl
  clear h1 HR
  go_enter Tryz.func80,Tryz.ntmps80
  go_wp2_with fail
  go_ret
  exact ⟨rfl,MA.out⟩
theorem rmark_sign {t:Lx.Tok} {l:List Nat} {s:ByteArray} (hk:Lx.TokK t) (h0:Lx.small (l.headD 0)=false) (w:World) (hs:Lx.ofS l=s) (ht:∀ c∈t.text,c<256) (hl:∀ c∈l,c<256) :
  Calls Tryz.prog 80 #[.agg (tokC t),.string s] w fun e w'=>e=.returned (.bool (Sy.sign t l))/\Mod [] w w':=by
 rw [<-Sy.mk_sign hk h0]
 exact rmark_any t l s w hs ht hl
end Go.Proofs.YtppigckioalhhaaGreatDoorR
