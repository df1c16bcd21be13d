/- THE TEXTS MERGED: RfToks LxAlone SySq SyCutQ RpBegin RpEnt. -/
import Derived.Test.YtppigckioalhhaaGreatDoorRKS1
import Derived.Test.YtppigckioalhhaaGreatDoorRKS44
import Derived.Test.YtppigckioalhhaaGreatDoorRKS9
import Derived.Test.YtppigckioalhhaaGreatDoorRKS30
import Derived.Test.YtppigckioalhhaaGreatDoorRKS28
import Derived.Test.YtppigckioalhhaaGreatDoorRKS40
import Derived.Test.YtppigckioalhhaaGreatDoorRKS27
namespace Go.Proofs.YtppigckioalhhaaGreatDoorR
open Go.RowKit
set_option linter.unusedVariables false
set_option linter.unusedSimpArgs false
set_option maxRecDepth 100000
theorem rNew_any (s:ByteArray) (hs:s.size<=140737488355328) (w:World) :
  Calls Tryz.prog 128 #[.string s] w fun e w'=>∃ b,e=.returned (.pointer (some ⟨b,0,none⟩))/\RsIs w' b s 0 (Lx.start (Cod.str s))/\w.heap.size<=b/\Mod [] w w':=by
 go_enter Tryz.func128,Tryz.ntmps128
 go_wp2
 go_ret
 refine ⟨_,rfl,⟨?_,by simp [Lx.start],by omega,by simp [Lx.start,Cod.str_len],hs,fun hl=>?_⟩,?_,((Mod.refl [] w).alloc _).alloc _⟩
 ·refine (alloc_at _ (by simp)).trans ?_
  simp [rsCells,Lx.start]
 ·simp only [Lx.start,decide_eq_false_iff_not,Cod.str_len] at hl ⊢
  omega
 ·simp
/-- what Given answers -/
def GivR (l:List Nat) (w:World) (e:Ending) (w':World):Prop :=
 ∃ v,e=.returned (.tuple #[v,.agg (faultV (Lx.given l).2)])/\TokRow w' w.heap.size v (Lx.given l).1/\Mod [] w w'
/-- the loop over all words: what it holds -/
structure GLoop (l:List Nat) (w wr:World) (b a:Nat) (va:Option Addr) (vc:Nat) (acc:List Lx.Tok) (x:Lx.St) (k gk:Nat) (s:ByteArray):Prop where
 row:TokRow wr (w.heap.size+1) (.slice va acc.length vc) acc
 sc:RsIs wr b s a x
 bv:b∉fp (.slice va acc.length vc)
 bw:w.heap.size<b
 all:Lx.given l=(acc++(Lx.allF k x).1,(Lx.allF k x).2)
 lim:x.long=false->acc.length+x.s.length<=65536
 kk:x.s.length+1<=k/\x.s.length+1<=gk
 byte:∀ c∈x.s,c<256
 flt:wr.heap[w.heap.size]?=some (.cells #[Value.int IntKind.i64 0,Value.int IntKind.i64 0,Value.int IntKind.i64 0] 31 (0,0))
 mod:Mod [] w wr
set_option maxHeartbeats 4000000 in
theorem rGiven_any (s:ByteArray) (hs:s.size<=140737488355328) (w:World) :
  Calls Tryz.prog 105 #[.string s] w (GivR (Cod.str s) w):=by
 obtain ⟨i0,hinf,hz0,hz1,hz2⟩:=info_parts Tryz.infoTok
 obtain ⟨l,hl⟩:∃ l,l=Cod.str s:=⟨_,rfl⟩
 have hlb:∀ c∈l,c<256:=by rw [hl];exact Cod.str_lt s
 rw [<-hl]
 have HL:=Lib.hid hl;have HB:=Lib.hid hlb
 clear hl hlb
 go_enter Tryz.func105,Tryz.ntmps105
 go_wp2_with fail
 refine (rNew_any s hs _).mono ?_
 rintro e w1 ⟨b,rfl,h1,hb1,hm1⟩
 rw [<-HL.out] at h1
 have hm0:=(Mod.refl [] w).alloc (Obj.cells #[Value.int IntKind.i64 0,Value.int IntKind.i64 0,Value.int IntKind.i64 0] 31)
 have hF0:=heap_alloc_new w (Obj.cells #[Value.int IntKind.i64 0,Value.int IntKind.i64 0,Value.int IntKind.i64 0] 31)
 have hm1':=hm0.trans hm1 (by simp)
 have hF1:=hm1.at hF0 (by simp)
 have hbw:w.heap.size<b:=by simp at hb1;omega
 have hT0:Hid (GLoop l w w1 b 0 none 0 [] (Lx.start l) (l.length+1) (l.length+1) s):=Lib.hid ⟨TokRow.nil _ _,h1,by simp [fp],hbw,by simp [Lx.given],fun hl=>by simp [Lx.start] at hl ⊢;omega,by simp [Lx.start],HB.out,hF1,hm1'⟩
 clear hF0 hF1 h1 hm1 hm0 hm1'
 go_wp2_with fail
 go_loopg [5,6,7] (l.length+1) (fun gk bv tv kv wr=>∃ (va:Option Addr) (vc a k:Nat) (acc:List Lx.Tok) (x:Lx.St),bv=.slice va acc.length vc/\GLoop l w wr b a va vc acc x k gk s)
 case atStart=>exact ⟨none,0,0,l.length+1,[],Lx.start l,rfl,hT0.out⟩
 case round =>
  obtain ⟨va,vc,a,k,acc,x,rfl,hT⟩:=hrel
  obtain ⟨k',rfl⟩:∃ k',k=k'+1:=⟨k - 1,by have:=hT.kk;omega⟩
  have hall:=hT.all
  rw [allF_succ] at hall
  have hF:=hT.flt
  have hnx:=rNext_any b a s x wr hT.sc
  have hbl:=hT.sc.lt
  cases hn:Lx.next x with
  | mk y o =>
   rw [hn] at hall hnx
   cases o with
   | none =>
    simp only [rest,List.append_nil] at hall
    have HT:=Lib.hid hT;have HA:=Lib.hid hall;have HX:=Lib.hid hnx;have HN:=Lib.hid hn
    have hbw2:=hT.bw
    clear hT hall hnx hn hT0
    go_wp2_with fail
    refine HX.out.mono ?_
    rintro e w2 ⟨rfl,a2,h2,hm2⟩
    rw [nextV,tokC]
    have hF2:=hm2.at hF (by simp;omega)
    have hsz2:=hm2.size
    have hb2:=h2.lt
    obtain ⟨c0,c1,c2,c3,c4,c5,c6,c7,c8⟩:=rs_cells h2
    have fz:∀ j,w2.frozen? ⟨w.heap.size,j,none⟩=false:=fun j=>by simp [World.frozen?,hF2]
    have f0:w2.cell? ⟨w.heap.size,0,none⟩=some (.int .i64 0):=by simp [World.cell?,hF2]
    have f1:w2.cell? ⟨w.heap.size,1,none⟩=some (.int .i64 0):=by simp [World.cell?,hF2]
    have f2:w2.cell? ⟨w.heap.size,2,none⟩=some (.int .i64 0):=by simp [World.cell?,hF2]
    have hne1:b≠w2.heap.size:=by omega
    have hwlt:w.heap.size<w2.heap.size:=by omega
    have hne2:w.heap.size≠w2.heap.size:=by omega
    have hne3:b≠w.heap.size:=by omega
    have H2:=Lib.hid h2;have HM2:=Lib.hid hm2;have HF2:=Lib.hid hF2
    clear h2 hm2 hF2 hF
    go_wp2_with fail
    go_region
    go_wp2_with fail
    have hMw:Mod [] w w2:=HT.out.mod.trans HM2.out (fun t ht=>.inr (by simp at ht;omega))
    refine bodyPost_ret (res_toks rfl _ _ _ _ _ _ _ rfl rfl (drew_at (((Mod.refl [] _).alloc _).at (store3 HF2.out _ _ _) (by simp))) rfl) rfl ?_
    refine ⟨_,by rw [HA.out];rfl,?_,((mod3 hMw (.inr (Nat.le_refl _)) _ _ _).alloc _).drew⟩
    rw [HA.out]
    have hMb:Mod [b,w.heap.size] wr w2:=HM2.out.mono (fun t ht=>.inl (by simp at ht;simp [ht]))
    refine (HT.out.row.keep (S:=[b,w.heap.size]) ((mod3 hMb (.inl (by simp)) _ _ _).alloc _).drew (fun k hk=>?_)).base (by omega)
    have h1:=HT.out.row.new k hk
    have h2:k≠b:=fun h=>HT.out.bv (h ▸ hk)
    simp
    exact ⟨h2,by omega⟩
   | some t =>
    obtain ⟨hd1,hd2,hd3,hd4⟩:=next_len hT.byte hn
    have hbx:=next_bytes hT.byte
    rw [hn] at hbx
    have hlim:=hT.lim hd3
    have hkk:=hT.kk
    have hbw2:=hT.bw
    simp only [rest] at hall
    have HT:=Lib.hid hT;have HA:=Lib.hid hall;have HX:=Lib.hid hnx;have HBX:=Lib.hid hbx
    clear hT hall hnx hn hT0 hbx
    go_wp2_with fail
    refine HX.out.mono ?_
    rintro e w2 ⟨rfl,a2,h2,hm2⟩
    rw [nextV]
    have hF2:=hm2.at hF (by simp;omega)
    have hsz2:=hm2.size
    have hb2:=h2.lt
    have hrow2:TokRow w2 (w.heap.size+1) (.slice va acc.length vc) acc:=HT.out.row.keep hm2 (fun k hk=>by simp;rintro rfl;exact HT.out.bv hk)
    have hMw:Mod [] w w2:=HT.out.mod.trans hm2 (fun t ht=>.inr (by simp at ht;omega))
    have hbv:=HT.out.bv
    have ha:=(Mod.refl [] w2).alloc (Obj.cells (tokC t) 74)
    have hbox:=heap_alloc_new w2 (Obj.cells (tokC t) 74)
    have h3:=h2.past ha (by simp)
    have hF3:=ha.at hF2 (by simp)
    have hrow3:=hrow2.past ha (by simp)
    have hMw3:=hMw.trans ha (by simp)
    have hbx3:w2.heap.size<(w2.alloc (Obj.cells (tokC t) 74)).heap.size:=by simp
    have hb3:=h3.lt
    clear h2 hF2 hrow2 hMw ha hm2 hF
    rw [tokC]
    go_upto_region 6 with fail
    change Code.wp _ _ _ _ (w2.alloc (Obj.cells (tokC t) 74))
    have hp2:w2.heap.size∉fp (.slice va acc.length vc):=fun h=>by have:=hrow3.new _ h;have:=fp_lt HT.out.row.row _ h;omega
    have hpb:w2.heap.size≠b:=by omega
    have hwp:w.heap.size<w2.heap.size:=by omega
    generalize w2.alloc (Obj.cells (tokC t) 74)=w3 at *
    generalize w2.heap.size=p at *
    obtain ⟨t0',t1,t2,t3,t4,t5,t6⟩:=tok_cells hbox
    have hown:=hrow3.row
    have hfn:=hrow3.new
    have hbox':=heap_alloc_new w3 (Obj.cells (tokC t) 74)
    have hsrc:=src_tok hbox'
    have H3:=Lib.hid h3;have HF3:=Lib.hid hF3;have HM3:=Lib.hid hMw3;have HBO:=Lib.hid hbox
    have hszw:=hMw3.size
    clear h3 hF3 hMw3 hrow3 hbox
    go_wp2_with (at_builtin;refine wpList_append_src _ rfl _ _ 69 69 rfl 74 i0 (.agg (tokC zeroT)) 7 72 Tryz.underlying69 hinf hz0 hz1 hz2 rfl (.slice va acc.length vc) acc.length (tokCells acc) rfl (hown.alloc _) _ 1 (tokC t).toList rfl hsrc (by unfold maxLen;omega) (by omega) ?_)
    intro v' w4 hown4 hm4 hf4 hn4
    obtain ⟨va4,vc4,rfl⟩:=owns_slice hown4
    have hma:Mod [] w3 (w3.alloc (Obj.cells (tokC t) 74)):=(Mod.refl [] w3).alloc _
    have hm4r:Mod (fp (.slice va acc.length vc)) w3 w4:=(hma.mono (by simp)).trans hm4 (fun t ht=>.inl ht)
    have hlen:acc.length+1=(acc++[t]).length:=by simp
    have hcl:tokCells acc++(tokC t).toList=tokCells (acc++[t]):=by rw [tokCells_append];simp [tokCells]
    rw [hcl,hlen] at hown4
    have hf4':∀ k∈fp (.slice va4 (acc.length+1) vc4),w.heap.size+1<=k/\(k∈fp (.slice va acc.length vc)\/w3.heap.size<=k):=fun k hk=>by
     rcases hf4 k hk with h | h
     ·exact ⟨hfn k h,.inl h⟩
     ·first | exact ⟨by omega,.inr (by omega)⟩ | (simp at h;exact ⟨by omega,.inr (by omega)⟩)
    have h4:=H3.out.keep hm4r hbv
    have hF4:=hm4r.at HF3.out (fun h=>by have:=hfn _ h;omega)
    have hm4w:Mod [] w w4:=HM3.out.trans hm4r (fun t ht=>.inr (by have:=hfn t ht;omega))
    rw [hlen] at hf4'
    have HO4:=Lib.hid hown4;have HF4':=Lib.hid hf4';have H4:=Lib.hid h4;have HF4:=Lib.hid hF4;have HM4:=Lib.hid hm4w
    clear hown4 hf4' hcl hm4 hn4 hf4 hown hsrc hbox' hma hm4r t0' t1 t2 t3 t4 t5 t6 h4 hF4 hm4w
    go_wp2_with fail
    go_roundg (x.s.length)
    case measure=>omega
    case rel =>
     refine ⟨va4,vc4,a2,k',acc++[t],y,by rw [<-hlen],⟨TokRow.mk HO4.out (fun k hk=>(HF4'.out k hk).1),H4.out,fun hk=>?_,hbw2,?_,fun _=>?_,?_,HBX.out,HF4.out,HM4.out⟩⟩
     ·rcases (HF4'.out b hk).2 with h | h
      ·exact hbv h
      ·omega
     ·rw [HA.out];simp
     ·rw [List.length_append];simp only [List.length_cons,List.length_nil];omega
     ·omega
end Go.Proofs.YtppigckioalhhaaGreatDoorR
namespace Go.Proofs.YtppigckioalhhaaGreatDoorR.Lx
set_option linter.unusedSimpArgs false
set_option linter.unusedVariables false
/-- is nothing there but blanks and remarks? -/
def bare:Bool->List Nat->Bool
 | _,[]=>true
 | r,c :: t=>if c=10 then bare false t else if c=35 then bare true t else if !r && (c != 32 && (c != 9 && c != 13)) then false else bare r t
theorem run_all (p:Nat->Bool) (s:List Nat):∀ c∈s.take (run p s),p c=true:=by
 unfold run
 induction s with
 | nil=>simp
 | cons c t ih =>
  rw [List.takeWhile_cons]
  split
  ·rename_i hc
   intro d hd
   simp only [List.length_cons,List.take_succ_cons,List.mem_cons] at hd
   rcases hd with rfl | hd
   ·exact hc
   ·exact ih d hd
  ·simp
/-- a name begins with a small letter -/
theorem word_name {s:List Nat} {w:Wd} (h:word s=.ok w) (hk:w.kind=1):small (s.headD 0)=true:=by
 unfold word at h
 split at h
 ·rename_i hc
  split at h
  ·simp at h
  ·simp at h;subst h
   simp only at hk
   rw [Bool.or_eq_true] at hc
   rcases hc with hc | hc
   ·exact hc
   ·simp at hk hc;simp [hc] at hk
 ·split at h
  ·split at h <;> simp at h
   subst h;simp at hk
  ·split at h
   ·split at h <;> simp at h
    subst h;simp at hk
   ·split at h <;> simp at h
    subst h;simp at hk
end Go.Proofs.YtppigckioalhhaaGreatDoorR.Lx
namespace Go.Proofs.YtppigckioalhhaaGreatDoorR.Sy
open Lx (Tok adv)
set_option linter.unusedVariables false
set_option linter.unusedSimpArgs false
theorem list_rev {P:List Nat->Prop} (h0:P []) (h1:∀ l c,P l->P (l++[c])) (l:List Nat):P l:=by
 have:∀ (r:List Nat),P r.reverse:=by
  intro r
  induction r with
  | nil=>exact h0
  | cons c t ih=>rw [List.reverse_cons];exact h1 _ _ ih
 have h:=this l.reverse
 rwa [List.reverse_reverse] at h
theorem eot_adv (s:List Nat):eot s=adv (1,1) s:=by
 refine list_rev (P:=fun s=>eot s=adv (1,1) s) rfl (fun l c ih=>?_) s
 rw [Lx.adv_append,<-ih]
 unfold eot
 by_cases hc:c=10
 ·subst hc
  simp [adv]
  omega
 ·simp [adv,hc]
  omega
end Go.Proofs.YtppigckioalhhaaGreatDoorR.Sy
namespace Go.Proofs.YtppigckioalhhaaGreatDoorR
open Go.RowKit
set_option linter.unusedVariables false
set_option linter.unusedSimpArgs false
set_option maxRecDepth 100000
namespace Lx
theorem next_code {x:St} (h:x.code≠42):(next x).1.code≠42:=by
 unfold next
 split
 ·exact h
 ·split
  ·show (2:Nat)≠42;omega
  ·split
   ·exact h
   ·split
    ·rename_i e he
     have:=word_bad he
     show e≠42;omega
    ·exact h
theorem allF_code:∀ (k:Nat) (x:St),x.code≠42->(allF k x).2.code≠42
 | 0,x,h=>h
 | k+1,x,h=>by
  rw [allF]
  have:=next_code h
  cases hn:next x with
  | mk y o =>
   rw [hn] at this
   cases o with
   | none=>exact this
   | some t=>exact allF_code k y this
theorem given_code (s:List Nat):(given s).2.code≠42:=allF_code _ _ (by show (0:Nat)≠42;omega)
theorem adv_snoc (p:Nat × Nat) (a:List Nat) (c:Nat):adv p (a++[c])=if c=10 then ((adv p a).1+1,1) else ((adv p a).1,(adv p a).2+1):=by
 rw [adv_append];rfl
end Lx
set_option maxHeartbeats 1000000 in
theorem rwords_any (s:ByteArray) (hs:s.size<=140737488355328) (w:World) :
  Calls Tryz.prog 62 #[.string s] w (GivR (Cod.str s) w):=by
 unfold GivR
 have mA:=(Mod.refl [] w).alloc (Obj.cells #[Value.int IntKind.i64 0,Value.int IntKind.i64 0,Value.int IntKind.i64 0] 31)
 have eA:=heap_alloc_new w (Obj.cells #[Value.int IntKind.i64 0,Value.int IntKind.i64 0,Value.int IntKind.i64 0] 31)
 have zA:(w.alloc (Obj.cells #[Value.int IntKind.i64 0,Value.int IntKind.i64 0,Value.int IntKind.i64 0] 31)).heap.size=w.heap.size+1:=by simp
 go_enter Tryz.func62,Tryz.ntmps62
 go_upto_region 1 with fail
 generalize w.alloc (Obj.cells #[Value.int IntKind.i64 0,Value.int IntKind.i64 0,Value.int IntKind.i64 0] 31)=wA at *
 have MA:=Lib.hid mA;have EA:=Lib.hid eA
 clear mA eA
 go_wp2_with fail
 refine (rGiven_any s hs wA).mono ?_
 rintro e2 w2 ⟨v,rfl,hr,hm⟩
 have E2:=Hxq (hm.at EA.out (by simp));have HR:=Lib.hid hr;have M2:=Hxq (MA.out.trans hm (by simp));have z2:=hm.size
 clear hr hm
 rw [faultV]
 obtain ⟨f0,f1,f2⟩:=cells3 E2.out
 have fz:∀ j,w2.frozen? ⟨w.heap.size,j,none⟩=false:=fun j=>free_at E2.out j
 go_wp2_with fail
 refine bodyPost_ret (res_toks rfl _ _ _ _ _ _ _ rfl rfl (store3 E2.out _ _ _) rfl) rfl ⟨v,rfl,?_,mod3 M2.out (.inr (Nat.le_refl _)) _ _ _⟩
 refine (HR.out.keep (S:=[w.heap.size]) (mod3 (Mod.refl _ w2) (.inl (by simp)) _ _ _) (fun k hk=>?_)).base (by omega)
 have h1:=HR.out.new k hk
 simp at h1 ⊢;omega
set_option maxHeartbeats 4000000 in
theorem rbehind_any (s:ByteArray) (hs:s.size<=140737488355328) (w:World) :
  Calls Tryz.prog 63 #[.string s] w fun e w'=>e=.returned (.agg #[.int .i64 ((Sy.eot (Cod.str s)).1:Nat),.int .i64 ((Sy.eot (Cod.str s)).2:Nat)])/\Mod [] w w':=by
 have hlen:=Cod.str_len s
 have HE:Hid (Sy.eot (Cod.str s)=Lx.adv (1,1) (Cod.str s)):=Hxq (Sy.eot_adv _)
 have hg:∀ (k:Nat) (hk:k<s.size),∃ c,(Cod.str s)[k]?=some c/\(s[k]'hk).toNat=c:=fun k hk=>by
  have h2:k<(Cod.str s).length:=by rw [Cod.str_len];exact hk
  have:=Lx.get_str s k hk
  rw [List.getD_eq_getElem?_getD,List.getElem?_eq_getElem h2] at this
  exact ⟨_,List.getElem?_eq_getElem h2,this.symm⟩
 have HG:=Lib.hid hg
 clear hg
 generalize Sy.eot (Cod.str s)=E at *
 generalize Cod.str s=l at *
 have mA:=((Mod.refl [] w).alloc (Obj.cells #[.int .i64 0,.int .i64 0] 29)).alloc (Obj.cells #[.int .i64 1,.int .i64 1] 29)
 have eA:=two_a w #[.int .i64 0,.int .i64 0] #[.int .i64 1,.int .i64 1] 29 29
 have eB:=two_b w #[.int .i64 0,.int .i64 0] #[.int .i64 1,.int .i64 1] 29 29
 go_enter Tryz.func63,Tryz.ntmps63
 go_upto_region 2 with fail
 generalize (w.alloc (Obj.cells _ 29)).alloc (Obj.cells _ 29)=wA at *
 have MA:=Lib.hid mA;have EA:=Lib.hid eA;have EB:=Lib.hid eB
 clear mA eA eB
 obtain ⟨pp,hpp⟩:∃ pp,w.heap.size+1=pp:=⟨_,rfl⟩
 rw [hpp] at EB
 rw [hpp]
 go_wp2_with fail
 go_loopw [4] (fun iv wr=>∃ (k:Nat),iv=.int .i64 (k:Nat)/\k<=s.size/\wr.heap[pp]?=some (.cells #[.int .i64 ((Lx.adv (1,1) (l.take k)).1:Nat),.int .i64 ((Lx.adv (1,1) (l.take k)).2:Nat)] 29 (0,0))/\wr.heap[w.heap.size]?=some (.cells #[.int .i64 0,.int .i64 0] 29 (0,0))/\Mod [] w wr) (fun iv _=>s.size - (intOf iv).toNat)
 case atStart=>exact ⟨0,rfl,Nat.zero_le _,EB.out,EA.out,MA.out⟩
 case round =>
  obtain ⟨k,rfl,hk,hb,ha,hm⟩:=hrel
  have B0:=Lib.hid hb;have A0:=Lib.hid ha;have M0:=Lib.hid hm
  clear hb ha hm
  have hal:=Lx.adv_le (1,1) (l.take k)
  have htk:(l.take k).length<=k:=by rw [List.length_take];omega
  generalize hA:Lx.adv (1,1) (l.take k)=a at *
  obtain ⟨ln,cl⟩:=a
  simp only at hal B0
  by_cases hlt:k<s.size
  ·have hkI:(k:Int)<(s.size:Int):=by omega
   have hk0:(0:Int)<=(k:Int):=by omega
   have hkl:k<l.length:=by omega
   obtain ⟨c,hc,hy0⟩:=HG.out k hlt
   have hsn:Lx.adv (1,1) (l.take (k+1))=if c=10 then (ln+1,1) else (ln,cl+1):=by
    rw [List.take_add_one,hc]
    show Lx.adv (1,1) (l.take k++[c])=_
    rw [Lx.adv_snoc,hA]
   have HSN:=Lib.hid hsn
   clear hsn hA hc
   obtain ⟨c0,c1⟩:=cells2 B0.out
   have fz:∀ j,wr.frozen? ⟨pp,j,none⟩=false:=fun j=>free_at B0.out j
   have mS:Mod [pp] wr (wr.setCell ⟨pp,1,none⟩ (.int .i64 ((cl:Int)+1))):=(Mod.refl [pp] wr).setCell (p:=⟨pp,1,none⟩) (.inl (by simp)) _
   have b1:=setCell_at B0.out 1 (.int .i64 ((cl:Int)+1))
   have B1:Hid ((wr.setCell ⟨pp,1,none⟩ (.int .i64 ((cl:Int)+1))).heap[pp]?=some (.cells #[.int .i64 (ln:Nat),.int .i64 ((cl:Int)+1)] 29 (0,0))):=Hxq (by simpa using b1)
   have A1:=Hxq (mS.at A0.out (by simp;omega));have M1:=Hxq (M0.out.trans mS (fun t ht=>by rw [Msq] at ht;exact .inr (by omega)))
   clear mS b1 B0 A0 M0
   go_upto_region 6 with fail
   generalize wr.setCell ⟨pp,1,none⟩ (.int .i64 ((cl:Int)+1))=w1 at *
   clear c0 c1 fz
   by_cases hy:c=10
   ·have hyb:(((s[k]'hlt).toNat:Int) == 10)=true:=by rw [beq_iff_eq,hy0,hy];rfl
    have HS2:Hid (Lx.adv (1,1) (l.take (k+1))=(ln+1,1)):=Hxq (by rw [HSN.out,if_pos hy])
    clear hy hy0 HSN
    obtain ⟨c0,c1⟩:=cells2 B1.out
    have fz:∀ j,w1.frozen? ⟨pp,j,none⟩=false:=fun j=>free_at B1.out j
    have mS:Mod [pp] w1 (w1.setCell ⟨pp,0,none⟩ (.int .i64 ((ln:Int)+1))):=(Mod.refl [pp] w1).setCell (p:=⟨pp,0,none⟩) (.inl (by simp)) _
    have b1:=setCell_at B1.out 0 (.int .i64 ((ln:Int)+1))
    have B2:Hid ((w1.setCell ⟨pp,0,none⟩ (.int .i64 ((ln:Int)+1))).heap[pp]?=some (.cells #[.int .i64 ((ln:Int)+1),.int .i64 ((cl:Int)+1)] 29 (0,0))):=Hxq (by simpa using b1)
    have A2:=Hxq (mS.at A1.out (by simp;omega));have M2:=Hxq (M1.out.trans mS (fun t ht=>by rw [Msq] at ht;exact .inr (by omega)))
    clear mS b1 B1 A1 M1
    go_upto_region 8 with fail
    generalize w1.setCell ⟨pp,0,none⟩ (.int .i64 ((ln:Int)+1))=w2 at *
    clear c0 c1 fz
    obtain ⟨c0,c1⟩:=cells2 B2.out
    have fz:∀ j,w2.frozen? ⟨pp,j,none⟩=false:=fun j=>free_at B2.out j
    have mS:Mod [pp] w2 (w2.setCell ⟨pp,1,none⟩ (.int .i64 1)):=(Mod.refl [pp] w2).setCell (p:=⟨pp,1,none⟩) (.inl (by simp)) _
    have b1:=setCell_at B2.out 1 (.int .i64 1)
    have B3:Hid ((w2.setCell ⟨pp,1,none⟩ (.int .i64 1)).heap[pp]?=some (.cells #[.int .i64 ((ln:Int)+1),.int .i64 1] 29 (0,0))):=Hxq (by simpa using b1)
    have A3:=Hxq (mS.at A2.out (by simp;omega));have M3:=Hxq (M2.out.trans mS (fun t ht=>by rw [Msq] at ht;exact .inr (by omega)))
    clear mS b1 B2 A2 M2
    go_wp2_with fail
    go_roundw
    case rel=>exact ⟨k+1,by go_num,by omega,by rw [HS2.out];exact B3.out,A3.out,M3.out⟩
    case measure=>simp [intOf];omega
   ·have hyb:(((s[k]'hlt).toNat:Int) == 10)=false:=by rw [beq_eq_false_iff_ne,hy0];omega
    have HS2:Hid (Lx.adv (1,1) (l.take (k+1))=(ln,cl+1)):=Hxq (by rw [HSN.out,if_neg hy])
    clear hy hy0 HSN
    go_wp2_with fail
    go_roundw
    case rel=>exact ⟨k+1,by go_num,by omega,by rw [HS2.out];exact B1.out,A1.out,M1.out⟩
    case measure=>simp [intOf];omega
  ·have hkI:¬ (k:Int)<(s.size:Int):=by omega
   have hE:E=(ln,cl):=by rw [HE.out,<-hA,List.take_of_length_le (by omega)]
   subst hE
   clear hA HE
   obtain ⟨c0,c1⟩:=cells2 B0.out
   obtain ⟨r0,r1⟩:=cells2 A0.out
   have fz:∀ j,wr.frozen? ⟨w.heap.size,j,none⟩=false:=fun j=>free_at A0.out j
   go_wp2_with fail
   have mR:=setCs_mod w.heap.size [.int .i64 (ln:Nat),.int .i64 (cl:Nat)] 0 wr
   exact bodyPost_ret (results_cell_row rfl _ _ _ _ _ _ _ rfl (setCs_row (vs:=[.int .i64 (ln:Nat),.int .i64 (cl:Nat)]) A0.out rfl) Tryz.underlying29 rfl (by kernel_rfl)) rfl ⟨rfl,M0.out.trans mR (by simp)⟩
/-- a parser of its own, at a text's first word -/
def BegR (v:Sy.Env) (w:World) (e:Ending) (w':World):Prop :=
 ∃ (b:Nat) (ra:Option Addr) (rc:Nat) (L:LX),e=.returned (.pointer (some ⟨b,0,none⟩))/\RpP w' b ra rc L v 0 nf0/\w.heap.size<=b/\(∀ k∈fp (.slice ra v.ws.length rc),w.heap.size<=k)/\L.lc≠42/\Mod [] w w'
set_option maxHeartbeats 4000000 in
theorem rbegin_any (s:ByteArray) (hs:s.size<=140737488355328) (w:World) :
  Calls Tryz.prog 32 #[.string s] w (BegR (Sy.envOf (Cod.str s)) w):=by
 have HW:=Hxq (rwords_any s hs w)
 have HBd:=Hxq (fun w=>rbehind_any s hs w)
 have h42:=Lx.given_code (Cod.str s)
 obtain ⟨l,hl⟩:∃ l,Cod.str s=l:=⟨_,rfl⟩
 rw [hl] at HW HBd h42
 rw [hl]
 clear hl
 go_enter Tryz.func32,Tryz.ntmps32
 go_wp2_with fail
 refine HW.out.mono ?_
 rintro e1 w1 ⟨tv,rfl,hr,m1⟩
 obtain ⟨va,vc,rfl⟩:=hr.lit
 have hlast:(Sy.envOf l).last=if (Lx.given l).2.code=0 then (42,(Sy.eot l).1,(Sy.eot l).2) else ((Lx.given l).2.code,(Lx.given l).2.fp.1,(Lx.given l).2.fp.2):=rfl
 have hws:(Sy.envOf l).ws=(Lx.given l).1:=rfl
 rw [faultV]
 have mF:=(Mod.refl [] w1).alloc (Obj.cells #[.int .i64 ((Lx.given l).2.code:Nat),.int .i64 ((Lx.given l).2.fp.1:Nat),.int .i64 ((Lx.given l).2.fp.2:Nat)] 31)
 have eF:=heap_alloc_new w1 (Obj.cells #[.int .i64 ((Lx.given l).2.code:Nat),.int .i64 ((Lx.given l).2.fp.1:Nat),.int .i64 ((Lx.given l).2.fp.2:Nat)] 31)
 have HR:=Hxq (hr.past mF (by simp));have M2:=Hxq (m1.trans mF (by simp));have E2:=Lib.hid eF
 have HL:=Lib.hid hlast;have HWS:=Lib.hid hws
 clear hr m1 mF eF hlast hws HW
 generalize hrc:(Lx.given l).2=r at *
 generalize Sy.eot l=E at *
 go_upto_region 2 with fail
 generalize w1.alloc (Obj.cells _ 31)=w2 at *
 have Q0:=Hxq (show w2.cell? ⟨w1.heap.size,0,none⟩=some (.int .i64 (r.code:Nat)) from cell_at E2.out 0);have Q1:=Hxq (show w2.cell? ⟨w1.heap.size,1,none⟩=some (.int .i64 (r.fp.1:Nat)) from cell_at E2.out 1);have Q2:=Hxq (show w2.cell? ⟨w1.heap.size,2,none⟩=some (.int .i64 (r.fp.2:Nat)) from cell_at E2.out 2)
 refine wp_region_held_drew (S:=(fun w':World=>Mod [] w2 w')) (by kernel_rfl) (by (try dsimp only);exact (Mod.refl [] w2).drew) (fun hHeld=>?_)
 refine Tkq 0 (v:=?_) (by assumption) ?_ ?_ ?_
 rotate_left 1
 ·refine .inl ⟨by rfl,?_⟩;intro w hSw;have c0:=hSw.cell Q0.out (by simp);have c1:=hSw.cell Q1.out (by simp);have c2:=hSw.cell Q2.out (by simp);clear hSw;go_simp
  all_goals with_reducible rfl
 ·exact fun _ _ _ h=>h
 try simp only [Act.put,Lq1,Lq2,Lq3]
 refine Tkq 1 (v:=?_) (by assumption) ?_ ?_ ?_
 rotate_left 1
 ·refine .inl ⟨by rfl,?_⟩;intro w hSw;have c0:=hSw.cell Q0.out (by simp);have c1:=hSw.cell Q1.out (by simp);have c2:=hSw.cell Q2.out (by simp);clear hSw;go_simp
  all_goals with_reducible rfl
 ·exact fun _ _ _ h=>h
 try simp only [Act.put,Lq1,Lq2,Lq3]
 refine Tkq 2 (v:=?_) (by assumption) ?_ ?_ ?_
 rotate_left 1
 ·refine .inl ⟨by rfl,?_⟩;intro w hSw;have c0:=hSw.cell Q0.out (by simp);have c1:=hSw.cell Q1.out (by simp);have c2:=hSw.cell Q2.out (by simp);clear hSw;go_simp
  all_goals with_reducible rfl
 ·exact fun _ _ _ h=>h
 try simp only [Act.put,Lq1,Lq2,Lq3]
 refine wpAnyH_ready (rs:=[3]) (by kernel_rfl) (by simp) ?_
 refine AllReadyH.cons (o:=?_) ?_ ?_ AllReadyH.nil
 rotate_left 1
 ·(simp only [Gq1,Gq2,Gq3])<;>rfl
 intro K hK
 go_simp
 refine (HBd.out _).mono ?_
 rintro e3 w3 ⟨rfl,m3⟩
 have N3:=Hxq ((Mod.refl [] w2).drew.trans m3 (by simp))
 clear m3
 refine hK.out _ _ (by (try dsimp only);exact N3.out) (fun hHeld=>?_)
 clear hK K
 try simp only [Act.put,Lq1,Lq2,Lq3]
 refine Tkq 4 (v:=?_) (by assumption) ?_ ?_ ?_
 rotate_left 1
 ·refine .inl ⟨by rfl,?_⟩;intro w hSw;have c0:=hSw.cell Q0.out (by simp);have c1:=hSw.cell Q1.out (by simp);have c2:=hSw.cell Q2.out (by simp);clear hSw;go_simp
  all_goals with_reducible rfl
 ·exact fun _ _ _ h=>h
 try simp only [Act.put,Lq1,Lq2,Lq3]
 refine wpAnyH_ready (rs:=[5]) (by kernel_rfl) (by simp) ?_
 refine AllReadyH.cons (o:=?_) ?_ ?_ AllReadyH.nil
 rotate_left 1
 ·(simp only [Gq1,Gq2,Gq3])<;>rfl
 intro K hK
 go_simp
 refine hK.out _ _ (by (try dsimp only);exact N3.out.alloc _) (fun hHeld=>?_)
 clear hK K
 try simp only [Act.put,Lq1,Lq2,Lq3]
 refine Tkq 6 (v:=?_) (by assumption) ?_ ?_ ?_
 rotate_left 1
 ·refine .inl ⟨by rfl,?_⟩;intro w hSw;have c0:=hSw.cell Q0.out (by simp);have c1:=hSw.cell Q1.out (by simp);have c2:=hSw.cell Q2.out (by simp);clear hSw;go_simp
  all_goals with_reducible rfl
 ·exact fun _ _ _ h=>h
 try simp only [Act.put,Lq1,Lq2,Lq3]
 refine wpAnyH_done (by kernel_rfl) ?_ _
 clear HBd
 go_wp2_with fail
 go_ret
 refine ⟨w3.heap.size,va,vc,⟨r.code,r.fp.1,r.fp.2,E.1,E.2⟩,rfl,⟨?_,?_,?_,HL.out⟩,?_,?_,h42,?_⟩
 ·rw [HWS.out]
  exact heap_alloc_new w3 _
 ·rw [HWS.out]
  exact (TokRow.base ((HR.out.past N3.out (by simp)).past ((Mod.refl [] w3).alloc _) (by simp)) (Nat.zero_le _))
 ·rw [HWS.out]
  intro hk
  have:=fp_lt (HR.out.past N3.out (by simp)).row w3.heap.size hk
  omega
 ·have:=M2.out.size;have:=N3.out.size;omega
 ·rw [HWS.out]
  exact HR.out.new
 ·exact (M2.out.trans N3.out (by simp)).trans ((Mod.refl [] w3).alloc _) (by simp)
set_option maxHeartbeats 4000000 in
theorem rwhole_any (b:Nat) (ra:Option Addr) (rc:Nat) (L:LX) (v:Sy.Env) (i:Nat) (w:World) (h:RpP w b ra rc L v i nf0) (hv:EnvOk v) (hi:i<=70000) (h42:L.lc≠42) :
  Calls Tryz.prog 37 #[.pointer (some ⟨b,0,none⟩),.bool true] w fun e w'=>Mod [b] w w'/\if i<v.ws.length\/v.last.1≠42 then e=.returned (.bool false)/\RpP w' b ra rc L v i (v.give 40 i) else e=.returned (.bool true)/\RpP w' b ra rc L v i nf0:=by
 obtain ⟨c0,c1,c2,c3,c4,c5,c6,c7,c8,c9,fz⟩:=h.cells
 have hla:v.last.1≠42 ↔ L.lc≠0:=by
  rw [h.last]
  split
  ·rename_i hh;simp [hh]
  ·rename_i hh;simp [hh,h42]
 have HH:=Lib.hid h
 clear h
 by_cases hlt:i<v.ws.length
 ·have hif:i<v.ws.length\/v.last.1≠42:=.inl hlt
  simp only [if_pos hif]
  have hiI:(i:Int)<(v.ws.length:Int):=by omega
  have hd:decide ((i:Int)<(v.ws.length:Int))=true:=decide_eq_true hiI
  clear hla hif
  go_enter Tryz.func37,Tryz.ntmps37
  go_wp2_with fail
  go_quiet (fail)
  clear hd
  go_wp2_with fail
  refine (rstop_any b ra rc L v i 40 _ (HH.out.past ((Mod.refl [] w).drewN nq) (by simp)) hv hi).mono ?_
  rintro e2 w2 ⟨rfl,h2,m2⟩
  have H2:=Lib.hid h2;have M2:=Hxq (((Mod.refl [b] w).drewN nq).trans m2 (by simp))
  clear h2 m2
  go_wp2_with fail
  go_ret
  exact ⟨M2.out,rfl,H2.out⟩
 ·have hiI:¬ (i:Int)<(v.ws.length:Int):=by omega
  have hd:decide ((i:Int)<(v.ws.length:Int))=false:=decide_eq_false hiI
  by_cases hlc:L.lc=0
  ·have hB:((L.lc:Int) != 0)=false:=by rw [hlc];rfl
   have hB2:((L.lc:Int) == 0)=true:=by rw [hlc];rfl
   have hif:¬ (i<v.ws.length\/v.last.1≠42):=by rw [hla];simp [hlt,hlc]
   simp only [if_neg hif]
   clear hla hlc hif
   go_enter Tryz.func37,Tryz.ntmps37
   go_wp2_with fail
   go_quiet (fail)
   clear hd
   go_wp2_with fail
   go_ret
   exact ⟨(Mod.refl [b] w).drewN nq,rfl,HH.out.past ((Mod.refl [] w).drewN nq) (by simp)⟩
  ·have hB:((L.lc:Int) != 0)=true:=by rw [bne_iff_ne];omega
   have hB2:((L.lc:Int) == 0)=false:=by rw [beq_eq_false_iff_ne];omega
   have hif:i<v.ws.length\/v.last.1≠42:=.inr (hla.2 hlc)
   simp only [if_pos hif]
   clear hla hlc hif
   go_enter Tryz.func37,Tryz.ntmps37
   go_wp2_with fail
   go_quiet (fail)
   clear hd
   go_wp2_with fail
   refine (rstop_any b ra rc L v i 40 _ (HH.out.past ((Mod.refl [] w).drewN nq) (by simp)) hv hi).mono ?_
   rintro e2 w2 ⟨rfl,h2,m2⟩
   have H2:=Lib.hid h2;have M2:=Hxq (((Mod.refl [b] w).drewN nq).trans m2 (by simp))
   clear h2 m2
   go_wp2_with fail
   go_ret
   exact ⟨M2.out,rfl,H2.out⟩
open Go.RowKit
set_option linter.unusedVariables false
set_option linter.unusedSimpArgs false
set_option maxRecDepth 100000
theorem envK (s:ByteArray):EnvK (Sy.envOf (Cod.str s)):=⟨envOk s,Sy.env_k _⟩
theorem yieldsIf_built {P:Program} {ops:Array Oper} {S:World->Prop} {o:Oper} {a:Act} (hw:Region.wanted o (yielded ops a.tmps)=true) (t:TypeId) (ho:o.op=.build t #[]) (cells:Array Value) (hc:∀ w,(Instr.build t #[]).run P w=.ok (.agg cells) w):YieldsIf P ops S o (.agg cells) a :=
 .inl ⟨hw,fun w _=>by
  unfold execOp
  simp only [ho,Sem.run_bind,List.map_toArray,List.map_nil,hc,Result.andThen_ok]
  first | rfl | simp⟩
theorem badU_cells {x:Value} (h:badU x):∃ C:Array Value,x=.agg C/\C.size=5/\C.toList.all (·.oneCell')=true:=by
 obtain ⟨s,a,n,c,a2,n2,c2,l,k,rfl⟩:=h
 exact ⟨_,rfl,rfl,rfl⟩
theorem nz_whole1 {α:Type} {v:Sy.Env} {one:Nat->Sy.PR α}:Sy.whole v one=(one 0).bind fun a i=>if i<v.ws.length\/v.last.1≠42 then .err (v.give 40 i) else .ok a i:=rfl
end Go.Proofs.YtppigckioalhhaaGreatDoorR
