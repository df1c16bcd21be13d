/- THE TEXTS MERGED: SySq SyBlankP SyBlankL TyBare SpMem. -/
import Derived.Test.YtohnmnfhmbmoaaaGreatDoorKG12
namespace Go.Proofs.YtohnmnfhmbmoaaaGreatDoor.Lx
set_option linter.unusedSimpArgs false
set_option linter.unusedVariables false
theorem skip_take:∀ (s:List Nat) (b:Bool) (k:Nat),skipN b (s.take k)=min k (skipN b s)
 | [],b,k=>by simp [skipN]
 | c :: t,b,0=>by simp [skipN]
 | c :: t,b,k+1=>by
  rw [List.take_succ_cons]
  unfold skipN
  simp only
  rw [skip_take t _ k]
  generalize (if c=35 then true else if c=10 then false else b)=b'
  by_cases h:(!b' && !blank c)=true
  ·rw [if_pos h,if_pos h];omega
  ·rw [if_neg h,if_neg h];omega
theorem word_takeN {s:List Nat} {w:Wd} (hb:∀ c∈s,c<256) (h0:s≠[]) (h:word s=.ok w) (k:Nat) (hk:w.n<=k):word (s.take k)=.ok w:=by
 obtain ⟨l1,l2,-⟩:=word_len hb h0 h
 have e1:=headD_take (s:=s) (n:=k) (by omega)
 unfold word at h ⊢
 rw [e1]
 by_cases c1:(small (s.headD 0) || capital (s.headD 0))=true
 ·rw [if_pos c1] at h ⊢
  by_cases c2:32<run goes s
  ·rw [if_pos c2] at h;simp at h
  ·rw [if_neg c2] at h
   simp only [Rw.ok.injEq] at h
   subst h
   simp only at hk
   have e2:run goes (s.take k)=run goes s:=by rw [run_take];omega
   rw [e2,if_neg c2]
 ·rw [if_neg c1] at h ⊢
  by_cases c2:digit (s.headD 0)=true
  ·rw [if_pos c2] at h ⊢
   by_cases c3:(1<run digit s/\s.headD 0=48)\/2147483647<numv (s.take (run digit s))\/run digit s<run goes s
   ·rw [if_pos c3] at h;simp at h
   ·rw [if_neg c3] at h
    simp only [Rw.ok.injEq] at h
    subst h
    simp only at hk
    have e2:run digit (s.take k)=run digit s:=by rw [run_take];omega
    have e3:run goes (s.take k)=min k (run goes s):=run_take _ _ _
    rw [e2,e3,List.take_take,show min (run digit s) k=run digit s by omega,if_neg (by omega)]
  ·rw [if_neg c2] at h ⊢
   by_cases c3:s.headD 0=34
   ·rw [if_pos c3] at h ⊢
    cases hq:quo s with
    | none=>rw [hq] at h;simp at h
    | some p =>
     obtain ⟨l,m⟩:=p
     rw [hq] at h
     simp only [Rw.ok.injEq] at h
     subst h
     simp only at hk l2
     have h1:=quo_take hb hq
     have h2:=quo_join (fun c hc=>hb c (List.mem_of_mem_take hc)) h1 ((s.drop m).take (k - m))
     rw [<-List.take_add,show m+(k - m)=k by omega] at h2
     rw [h2]
   ·rw [if_neg c3] at h ⊢
    by_cases c4:mark s=0
    ·rw [if_pos c4] at h;simp at h
    ·rw [if_neg c4] at h
     simp only [Rw.ok.injEq] at h
     subst h
     simp only at hk
     have:mark (s.take k)=mark s:=by
      match s,h0,k,hk with
      | [a],_,k,hk =>
       rw [List.take_of_length_le (by simp;simp at l1;omega)]
      | a :: b :: t,_,0,hk=>simp at l1;omega
      | a :: b :: t,_,1,hk =>
       have:mark (a :: b :: t)=1:=by omega
       have h1:two a b=false:=by
        cases ht:two a b with
        | false=>rfl
        | true=>simp [mark,ht] at this
       simp only [mark,h1] at this
       have h2:ones.contains a=true:=by
        cases ho:ones.contains a with
        | true=>rfl
        | false=>rw [ho] at this;simp at this
       simp only [List.take_succ_cons,List.take_zero,mark,h1,h2]
       rfl
      | a :: b :: t,_,k+2,hk=>simp [mark]
     rw [this,if_neg c4]
/-- s, that begins at place p, begins with the words l; what is left, and its place -/
inductive Sq:List Nat->Nat × Nat->List Tok->List Nat->Nat × Nat->Prop
 | nil (s:List Nat) (p:Nat × Nat):Sq s p [] s p
 | word {s:List Nat} {p:Nat × Nat} {u:List Nat} {w:Wd} {l:List Tok} {r:List Nat} {q:Nat × Nat} (hs:s.drop (skipN false s)=u) (h0:u≠[]) (hw:word u=.ok w)
   (h:Sq (u.drop w.n) (adv (adv p (s.take (skipN false s))) (u.take w.n)) l r q) :
   Sq s p (⟨w.kind,u.take w.n,w.vk,w.num,w.sym,(adv p (s.take (skipN false s))).1,(adv p (s.take (skipN false s))).2⟩ :: l) r q
theorem Sq.trans {a b c:List Nat} {p q o:Nat × Nat} {l m:List Tok} (h:Sq a p l b q) (k:Sq b q m c o):Sq a p (l++m) c o:=by
 induction h with
 | nil s p=>exact k
 | word hs h0 hw h ih=>exact .word hs h0 hw (ih k)
theorem Sq.split {c:List Nat} {o:Nat × Nat} (m:List Tok):∀ {l:List Tok} {a:List Nat} {p:Nat × Nat},Sq a p (l++m) c o->∃ b q,Sq a p l b q/\Sq b q m c o
 | [],a,p,h=>⟨a,p,.nil a p,h⟩
 | t :: l,a,p,h=>by
  rw [List.cons_append] at h
  generalize hx:t :: (l++m)=x at h
  cases h with
  | nil=>cases hx
  | word hs h0 hw h =>
   simp only [List.cons.injEq] at hx
   obtain ⟨rfl,hx⟩:=hx
   subst hx
   obtain ⟨b,q,h1,h2⟩:=Sq.split m h
   exact ⟨b,q,.word hs h0 hw h1,h2⟩
theorem Sq.len {s r:List Nat} {p q:Nat × Nat} {l:List Tok} (h:Sq s p l r q) (hb:∀ c∈s,c<256):l.length+r.length<=s.length:=by
 induction h with
 | nil s p=>simp
 | @word s p u w l r q hs h0 hw h ih =>
  have hu:∀ c∈u,c<256:=fun c hc=>hb c (by rw [<-hs] at hc;exact List.mem_of_mem_drop hc)
  obtain ⟨l1,l2,-⟩:=word_len hu h0 hw
  have:=ih (fun c hc=>hu c (List.mem_of_mem_drop hc))
  have hul:u.length<=s.length:=by rw [<-hs,List.length_drop];omega
  rw [List.length_drop] at this
  rw [List.length_cons]
  omega
/-- cut off behind the words -/
theorem Sq.take {s r:List Nat} {p q:Nat × Nat} {l:List Tok} (h:Sq s p l r q):∀ (hb:∀ c∈s,c<256) (j:Nat),Sq (s.take (s.length - r.length+j)) p l (r.take j) q:=by
 induction h with
 | nil s p =>
  intro hb j
  rw [show s.length - s.length+j=j by omega]
  exact .nil _ _
 | @word s p u w l r q hs h0 hw h ih =>
  intro hb j
  have hu:∀ c∈u,c<256:=fun c hc=>hb c (by rw [<-hs] at hc;exact List.mem_of_mem_drop hc)
  obtain ⟨l1,l2,-⟩:=word_len hu h0 hw
  have hd:∀ c∈u.drop w.n,c<256:=fun c hc=>hu c (List.mem_of_mem_drop hc)
  have ih:=ih hd j
  have hlen:=h.len hd
  rw [List.length_drop] at hlen
  have hul:u.length=s.length - skipN false s:=by rw [<-hs,List.length_drop]
  have hsk:=skipN_le false s
  have hul0:0<u.length:=List.length_pos_iff.2 h0
  generalize hJ:s.length - r.length+j=J
  have hJ2:skipN false s+w.n<=J:=by omega
  have hsk2:skipN false (s.take J)=skipN false s:=by rw [skip_take];omega
  have e1:(s.take J).drop (skipN false (s.take J))=u.take (J - skipN false s):=by rw [hsk2,List.drop_take,hs]
  have e2:(s.take J).take (skipN false (s.take J))=s.take (skipN false s):=by rw [hsk2,List.take_take,show min (skipN false s) J=skipN false s by omega]
  have e3:(u.take (J - skipN false s)).take w.n=u.take w.n:=by rw [List.take_take,show min w.n (J - skipN false s)=w.n by omega]
  have e4:(u.take (J - skipN false s)).drop w.n=(u.drop w.n).take ((u.drop w.n).length - r.length+j):=by
   rw [List.drop_take,List.length_drop]
   congr 1
   omega
  have:=Sq.word (s:=s.take J) (p:=p) (l:=l) (r:=r.take j) (q:=q) e1 (by
   intro h5
   have:=congrArg List.length h5
   rw [List.length_take,List.length_nil] at this
   omega) (word_takeN hu h0 hw _ (by omega)) (by rw [e2,e3,e4];exact ih)
  rw [e2,e3] at this
  exact this
/-- at another place the words are the same but for their places -/
theorem Sq.place {s r:List Nat} {p q:Nat × Nat} {l:List Tok} (h:Sq s p l r q):∀ p',∃ l' q',Sq s p' l' r q'/\l'.map (fun t=>(t.kind,t.text,t.vk,t.num,t.sym))=l.map (fun t=>(t.kind,t.text,t.vk,t.num,t.sym)):=by
 induction h with
 | nil s p=>exact fun p'=>⟨[],p',.nil _ _,rfl⟩
 | word hs h0 hw h ih =>
  intro p'
  obtain ⟨l',q',h1,h2⟩:=ih (adv (adv p' _) _)
  exact ⟨_,q',.word hs h0 hw h1,by simp [h2]⟩
/-- the blanks -/
def bks:List (List Nat):=[[32],[10],[9,32],[32,32,13,10],[32,35,32,110,111,116,32,97,32,119,111,114,100,46,10],[10,10]]
/-- words with blanks ahead of each -/
inductive BT:List Tok->List Nat->Prop
 | nil:BT [] []
 | snoc {l:List Tok} {s:List Nat} {b:List Nat} {t:Tok} (h:BT l s) (hb:b∈bks):BT (l++[t]) (s++(b++t.text))
end Go.Proofs.YtohnmnfhmbmoaaaGreatDoor.Lx
namespace Go.Proofs.YtohnmnfhmbmoaaaGreatDoor.Sy
set_option linter.unusedVariables false
open Pr (Term Atom Ex Li Rul Rel Prog)
set_option linter.unusedSimpArgs false
theorem liMs_bare:∀ (d:Nat) (l:List Li),liDs l<d->liMs (l.map bareL)=liMs l
 | 0,l,h=>absurd h (by omega)
 | d+1,[],h=>rfl
 | d+1,.mk k a op le re fn av of body ln cl :: r,h=>by
  simp only [liDs,liD] at h
  rw [List.map_cons,bareL_eq]
  simp only [liMs,liM,List.length_map]
  rw [liMs_bare d body (by omega),liMs_bare (d+1) r (by omega)]
theorem liMs_bareL (l:List Li):liMs (l.map bareL)=liMs l:=liMs_bare (liDs l+1) l (Nat.lt_succ_self _)
theorem bareP_M {p:Prog} (h:PgM p):PgM (bareP p):=by
 refine ⟨by simpa [bareP] using h.rels,by simpa [bareP] using h.rules,fun r hr=>?_,fun r hr=>?_,fun r hr=>?_,fun r hr=>?_⟩
 all_goals
  simp only [bareP,List.mem_map] at hr
  obtain ⟨q,hq,rfl⟩:=hr
 ·exact h.types q hq
 ·exact h.terms q hq
 ·simpa [bareU] using h.body q hq
 ·simpa [bareU,liMs_bareL] using h.deep q hq
end Go.Proofs.YtohnmnfhmbmoaaaGreatDoor.Sy
namespace Go.Proofs.YtohnmnfhmbmoaaaGreatDoor
open Go.RowKit
set_option linter.unusedVariables false
set_option linter.unusedSimpArgs false
set_option maxRecDepth 100000
/-- what Bare leaves -/
def RBare (p:Pr.Prog) (w:World) (e:Ending) (w':World):Prop:=∃ (a1:Option Addr) (c1:Nat) (a2:Option Addr) (c2:Nat),e=.returned (.agg #[.slice a1 p.rels.length c1,.slice a2 p.rules.length c2])/\PgB (fun k=>w.heap.size<=k) w' (Sy.bareP p) (.agg #[.slice a1 p.rels.length c1,.slice a2 p.rules.length c2])/\Mod [] w w'
theorem map_set_same {α β:Type} {f:α->β} {l:List α} {i:Nat} (h:i<l.length) {x:α} (hx:f x=f l[i]):(l.set i x).map f=l.map f:=by
 rw [List.map_set,hx,<-List.getElem_map f (h:=by simpa using h),List.set_getElem_self]
theorem bareU_idem (x:Pr.Rul):Sy.bareU (Sy.bareU x)=Sy.bareU x:=by
 simp only [Sy.bareU,List.map_map]
 congr 1
 apply List.map_congr_left
 intro y _
 exact bareL_idem y
theorem potKeep {w0 W W':World} {rels:List RelU} {rus:List RulU} {va:Option Addr} {vc:Nat} {ua:Option Addr} {uc:Nat} (h:POT w0 W rels rus va vc ua uc) (hm:Mod [] W W'):POT w0 W' rels rus va vc ua uc:=h.keep hm
section
variable {w0 W:World} {rels:List RelU} {rus:List RulU} {va:Option Addr} {vc:Nat} {ua:Option Addr} {uc:Nat}
theorem POT.relAt (h:POT w0 W rels rus va vc ua uc) (i:Nat) (hi:i<rels.length):∃ g,va=some ⟨g,0,none⟩/\CellsAt W g (i * 4) (csR rels[i])/\(∀ j,W.frozen? ⟨g,j,none⟩=false)/\w0.heap.size<=g/\g<W.heap.size:=by
 obtain ⟨b,off,hb,hc⟩:=(RowB.of_owns (F:=fun _=>True) csR_size h.rowR (fun _ _=>trivial)).at i hi
 obtain ⟨rfl,hT⟩:=TyAt.owns h.rowR hb
 subst hb
 refine ⟨b,rfl,by rw [Nat.zero_add] at hc;exact hc,fun j=>?_,h.newR b (by simp [fp]),hT.lt⟩
 obtain ⟨C,hC⟩:=hT
 exact free_at hC j
theorem POT.rulAt (h:POT w0 W rels rus va vc ua uc) (i:Nat) (hi:i<rus.length):∃ g,ua=some ⟨g,0,none⟩/\CellsAt W g (i * 5) (csU rus[i])/\(∀ j,W.frozen? ⟨g,j,none⟩=false)/\w0.heap.size<=g/\g<W.heap.size:=by
 obtain ⟨b,off,hb,hc⟩:=(RowB.of_owns (F:=fun _=>True) csU_size h.rowU (fun _ _=>trivial)).at i hi
 obtain ⟨rfl,hT⟩:=TyAt.owns h.rowU hb
 subst hb
 refine ⟨b,rfl,by rw [Nat.zero_add] at hc;exact hc,fun j=>?_,h.newU b (by simp [fp]),hT.lt⟩
 obtain ⟨C,hC⟩:=hT
 exact free_at hC j
end
set_option maxHeartbeats 8000000 in
theorem rbare_any {F:Nat->Prop} (p:Pr.Prog) (hM:PgM p) (u:Value) (w:World) (h:PgB F w p u) :
  Calls Tryz.prog 13 #[u] w (RBare p w):=by
 obtain ⟨a1,c1,b1,d1,rfl⟩:=h.lit
 have HMM:=Lib.hid hM
 have H1:=Lib.hid h
 have hrl:=hM.rels
 have hul:=hM.rules
 clear h hM
 have mA:=((Mod.refl [] w).alloc (Obj.cells #[.slice a1 p.rels.length c1,.slice b1 p.rules.length d1] 25)).alloc (Obj.cells #[.slice none 0 0,.slice none 0 0] 25)
 have eA:=two_a w #[.slice a1 p.rels.length c1,.slice b1 p.rules.length d1] #[.slice none 0 0,.slice none 0 0] 25 25
 have eB:=two_b w #[.slice a1 p.rels.length c1,.slice b1 p.rules.length d1] #[.slice none 0 0,.slice none 0 0] 25 25
 go_enter Tryz.func13,Tryz.ntmps13
 go_upto_region 1 with fail
 generalize (w.alloc (Obj.cells _ 25)).alloc (Obj.cells _ 25)=w0 at *
 have M0:=Lib.hid mA;have E0:=Lib.hid eA;have E1:=Lib.hid eB
 clear mA eA eB
 have x0:=cell_at E0.out 0;have x1:=cell_at E0.out 1
 simp only [List.getElem?_toArray,List.getElem?_cons_zero,List.getElem?_cons_succ] at x0 x1
 go_wp2_with fail
 refine (copyProg_T p HMM.out _ w0 (H1.out.keep M0.out (by simp))).mono ?_
 rintro e1 w1 ⟨rels,rus,va,vc,ua,uc,rfl,hrp,po⟩
 have hl1:rels.length=p.rels.length:=by rw [<-show rels.map (·.1)=p.rels from congrArg Pr.Prog.rels hrp,List.length_map]
 have hl2:rus.length=p.rules.length:=by rw [<-show rus.map (·.1)=p.rules from congrArg Pr.Prog.rules hrp,List.length_map]
 have HRP:=Lib.hid hrp
 have hrl2:rels.length<=134217728:=by omega
 have hul2:rus.length<=134217728:=by omega
 have HL1:=Lib.hid hl1;have HL2:=Lib.hid hl2
 clear hl1 hl2 hrl hul
 have mB:=(Mod.refl [] w1).alloc (Obj.cells #[.slice va rels.length vc,.slice ua rus.length uc] 25)
 have bB:=heap_alloc_new w1 (Obj.cells #[.slice va rels.length vc,.slice ua rus.length uc] 25)
 have P1:=Hxq (potKeep po mB)
 have R1:=Hxq (po.mod.at E1.out (by simp))
 have R2:=Hxq (mB.at R1.out (by simp))
 have hpr:∀ k∈fp (.slice va rels.length vc),k<w1.heap.size:=fun k hk=>fp_lt po.rowR k hk
 have hpu:∀ k∈fp (.slice ua rus.length uc),k<w1.heap.size:=fun k hk=>fp_lt po.rowU k hk
 have HPR:=Lib.hid hpr;have HPU:=Lib.hid hpu
 have hw01:=po.mod.size
 clear x0 x1 hrp po hpr hpu
 go_upto_region 2 with fail
 generalize w1.alloc (Obj.cells _ 25)=wb at *
 have BX:=Lib.hid bB
 clear mB bB
 generalize hpx:w1.heap.size=px at *
 have hb1:=lt_of_block E1.out
 go_wp2_with fail
 go_loopw [4] (fun iv wr=>∃ (i:Nat) (ls:List RelU),iv=.int .i64 (i:Nat)/\i<=rels.length/\ls.length=rels.length/\ls.map (fun x=>Sy.bareR x.1)=rels.map (fun x=>Sy.bareR x.1)/\(∀ j (h:j<ls.length),j<i->Sy.bareR ls[j].1=ls[j].1)/\POT w0 wr ls rus va vc ua uc/\wr.heap[px]?=some (.cells #[.slice va rels.length vc,.slice ua rus.length uc] 25 (0,0))/\wr.heap[w.heap.size+1]?=some (.cells #[.slice none 0 0,.slice none 0 0] 25 (0,0))) (fun iv _=>rels.length - (intOf iv).toNat)
 case atStart=>exact ⟨0,rels,rfl,Nat.zero_le _,rfl,rfl,fun j _ h=>absurd h (by omega),P1.out,BX.out,R2.out⟩
 case round =>
  obtain ⟨i,ls,rfl,hi,hlen,hmap,hfix,hpo,hbx,hrs⟩:=hrel
  have y0:=cell_at hbx 0;have y1:=cell_at hbx 1
  simp only [List.getElem?_toArray,List.getElem?_cons_zero,List.getElem?_cons_succ] at y0 y1
  by_cases hlt:i<rels.length
  ·have hjI:(i:Int)<(rels.length:Int):=by omega
   have hj0:(0:Int)<=(i:Int):=by omega
   have hil:i<ls.length:=by omega
   obtain ⟨g,rfl,hc,fG,hgn,hgl⟩:=hpo.relAt i hil
   have hgx:g≠px:=by have:=HPR.out g (by simp [fp]);omega
   have hsub:=hpo.subR _ (List.getElem_mem hil)
   generalize hz:ls[i]=z at hc hsub
   obtain ⟨⟨nm,tys,ln,cl⟩,t1⟩:=z
   have c2:=hc 2 (.int .i64 ln) rfl;have c3:=hc 3 (.int .i64 cl) rfl
   have P2:=hpo.putR i hil (⟨nm,tys,0,cl⟩,t1) 2 (by omega) (.int .i64 0) (by rw [hz];rfl) hsub
   have m1:Mod [g] wr (wr.setCell ⟨g,i * 4+2,none⟩ (.int .i64 0)):=(Mod.refl [g] wr).setCell (p:=⟨g,i * 4+2,none⟩) (.inl (by simp)) _
   have hil2:i<(ls.set i ((⟨nm,tys,0,cl⟩,t1):RelU)).length:=by simpa using hil
   have P3:=P2.putR i hil2 (⟨nm,tys,0,0⟩,t1) 3 (by omega) (.int .i64 0) (by rw [List.getElem_set_self];rfl) (by
    rw [List.length_set]
    exact RelT.keep (p:=((⟨nm,tys,0,0⟩,t1):RelU)) hsub m1 (fun s hs hh=>by rw [Msq] at hs;subst hs;exact hh.2.1 (by simp [fp])))
   rw [List.set_set] at P3
   have m2:Mod [g] (wr.setCell ⟨g,i * 4+2,none⟩ (.int .i64 0)) ((wr.setCell ⟨g,i * 4+2,none⟩ (.int .i64 0)).setCell ⟨g,i * 4+3,none⟩ (.int .i64 0)):=(Mod.refl [g] _).setCell (p:=⟨g,i * 4+3,none⟩) (.inl (by simp)) _
   have m12:=m1.trans m2 (by simp)
   have PZ:=Lib.hid P3;have BZ:=Hxq (m12.at hbx (by simp;omega));have RZ:=Hxq (m12.at hrs (by simp;omega))
   have hzz:=Lib.hid hz;have HMQ:=Lib.hid hmap;have HFX:=Lib.hid hfix
   clear P2 P3 m1 m2 m12 hsub hc hz hmap hfix hpo hbx hrs
   go_upto_region 4 with fail
   have hw9:(wr.setCell ⟨g,i * 4+2,none⟩ (.int .i64 0)).setCell ⟨g,i * 4+2+1,none⟩ (.int .i64 0)=(wr.setCell ⟨g,i * 4+2,none⟩ (.int .i64 0)).setCell ⟨g,i * 4+3,none⟩ (.int .i64 0):=rfl
   rw [hw9]
   generalize (wr.setCell ⟨g,i * 4+2,none⟩ (.int .i64 0)).setCell ⟨g,i * 4+3,none⟩ (.int .i64 0)=w8 at *
   clear hw9 y0 y1 c2 c3 fG
   go_wp2_with fail
   go_roundw
   case rel =>
    refine ⟨i+1,ls.set i (⟨nm,tys,0,0⟩,t1),by go_num,by omega,by simpa using hlen,?_,fun j hj hji=>?_,PZ.out,BZ.out,RZ.out⟩
    ·rw [<-HMQ.out]
     exact map_set_same hil (by rw [hzz.out];rfl)
    ·rw [List.length_set] at hj
     rw [List.getElem_set]
     by_cases e:i=j
     ·rw [if_pos e];rfl
     ·rw [if_neg e];exact HFX.out j hj (by omega)
   case measure=>simp [intOf];omega
  ·obtain rfl:i=rels.length:=by omega
   have hjI:¬ (rels.length:Int)<(rels.length:Int):=by omega
   have hls:ls.map (·.1)=(Sy.bareP p).rels:=by
    have e:ls.map (·.1)=ls.map (fun x=>Sy.bareR x.1):=by
     apply List.map_congr_left
     intro x hx
     obtain ⟨j,hj,rfl⟩:=List.mem_iff_getElem.1 hx
     exact (hfix j hj (by omega)).symm
    rw [e,hmap]
    show _=p.rels.map Sy.bareR
    rw [<-show rels.map (·.1)=p.rels from congrArg Pr.Prog.rels HRP.out,List.map_map]
    rfl
   have HLS:=Lib.hid hls
   have HLSL:Hid (ls.length=rels.length):=Lib.hid hlen
   have PO1:=Lib.hid hpo;have BX1:=Lib.hid hbx;have RS1:=Lib.hid hrs
   clear hls hpo hbx hrs hmap hfix hlen
   go_wp2_with fail
   clear y0 y1
   have hbig:∀ j (h:j<rus.length),(rus[j].1.body.length<=134217728/\liMs rus[j].1.body<=134217728):=fun j h=>by
    have e:rus[j].1∈p.rules:=by
     rw [<-show rus.map (·.1)=p.rules from congrArg Pr.Prog.rules HRP.out]
     exact List.mem_map.2 ⟨_,List.getElem_mem h,rfl⟩
    exact ⟨HMM.out.body _ e,HMM.out.deep _ e⟩
   have HBG:=Lib.hid hbig
   clear hbig
   go_loopw [5] (fun iv wr=>∃ (i:Nat) (us:List RulU),iv=.int .i64 (i:Nat)/\i<=rus.length/\us.length=rus.length/\us.map (fun x=>Sy.bareU x.1)=rus.map (fun x=>Sy.bareU x.1)/\(∀ j (h:j<us.length),j<i->Sy.bareU us[j].1=us[j].1)/\POT w0 wr ls us va vc ua uc/\wr.heap[px]?=some (.cells #[.slice va rels.length vc,.slice ua rus.length uc] 25 (0,0))/\wr.heap[w.heap.size+1]?=some (.cells #[.slice none 0 0,.slice none 0 0] 25 (0,0))) (fun iv _=>rus.length - (intOf iv).toNat)
   case atStart=>exact ⟨0,rus,rfl,Nat.zero_le _,rfl,rfl,fun j _ h=>absurd h (by omega),PO1.out,BX1.out,RS1.out⟩
   case round =>
    obtain ⟨i,us,rfl,hi2,hlen,hmap,hfix,hpo,hbx,hrs⟩:=hrel
    have y0:=cell_at hbx 0;have y1:=cell_at hbx 1
    simp only [List.getElem?_toArray,List.getElem?_cons_zero,List.getElem?_cons_succ] at y0 y1
    by_cases hlt:i<rus.length
    ·have hjI:(i:Int)<(rus.length:Int):=by omega
     have hj0:(0:Int)<=(i:Int):=by omega
     have hil:i<us.length:=by omega
     obtain ⟨g,rfl,hc,fG,hgn,hgl⟩:=hpo.rulAt i hil
     have hgx:g≠px:=by have:=HPU.out g (by simp [fp]);omega
     have hsub:=hpo.subU _ (List.getElem_mem hil)
     have hbi:us[i].1.body.length<=134217728/\liMs us[i].1.body<=134217728:=by
      have e:=congrArg (fun l=>l[i]?) hmap
      simp only [List.getElem?_map,List.getElem?_eq_getElem hil,List.getElem?_eq_getElem hlt,Option.map_some,Option.some.injEq,Sy.bareU,Pr.Rul.mk.injEq] at e
      have e2:=congrArg List.length e.2.1
      have e3:=congrArg liMs e.2.1
      simp only [List.length_map] at e2
      rw [Sy.liMs_bareL,Sy.liMs_bareL] at e3
      obtain ⟨q1,q2⟩:=HBG.out i hlt
      omega
     generalize hz:us[i]=z at hc hsub hbi
     obtain ⟨⟨hd,body,ln,cl⟩,t1,b2⟩:=z
     have c3:=hc 3 (.int .i64 ln) rfl;have c4:=hc 4 (.int .i64 cl) rfl
     have P2:=hpo.putU i hil (⟨hd,body,0,cl⟩,t1,b2) 3 (by omega) (.int .i64 0) (by rw [hz];rfl) hsub
     have m1:Mod [g] wr (wr.setCell ⟨g,i * 5+3,none⟩ (.int .i64 0)):=(Mod.refl [g] wr).setCell (p:=⟨g,i * 5+3,none⟩) (.inl (by simp)) _
     have hil2:i<(us.set i ((⟨hd,body,0,cl⟩,t1,b2):RulU)).length:=by simpa using hil
     have P3:=P2.putU i hil2 (⟨hd,body,0,0⟩,t1,b2) 4 (by omega) (.int .i64 0) (by rw [List.getElem_set_self];rfl) (by
      rw [List.length_set]
      exact RulT.keep (p:=((⟨hd,body,0,0⟩,t1,b2):RulU)) hsub m1 (fun s hs hh=>by rw [Msq] at hs;subst hs;exact hh.2.2 (by simp [fp])))
     rw [List.set_set] at P3
     have m2:Mod [g] (wr.setCell ⟨g,i * 5+3,none⟩ (.int .i64 0)) ((wr.setCell ⟨g,i * 5+3,none⟩ (.int .i64 0)).setCell ⟨g,i * 5+4,none⟩ (.int .i64 0)):=(Mod.refl [g] _).setCell (p:=⟨g,i * 5+4,none⟩) (.inl (by simp)) _
     have m12:=m1.trans m2 (by simp)
     have PZ:=Lib.hid P3;have BZ:=Hxq (m12.at hbx (by simp;omega));have RZ:=Hxq (m12.at hrs (by simp;omega))
     have hzz:=Lib.hid hz;have HMQ:=Lib.hid hmap;have HFX:=Lib.hid hfix
     clear P2 P3 m1 m2 m12 hsub hc hz hmap hfix hpo hbx hrs
     go_upto_region 10 with fail
     have hw9:(wr.setCell ⟨g,i * 5+3,none⟩ (.int .i64 0)).setCell ⟨g,i * 5+3+1,none⟩ (.int .i64 0)=(wr.setCell ⟨g,i * 5+3,none⟩ (.int .i64 0)).setCell ⟨g,i * 5+4,none⟩ (.int .i64 0):=rfl
     rw [hw9]
     generalize (wr.setCell ⟨g,i * 5+3,none⟩ (.int .i64 0)).setCell ⟨g,i * 5+4,none⟩ (.int .i64 0)=w8 at *
     clear hw9 y0 y1 c3 c4 fG
     have y1:=cell_at BZ.out 1
     simp only [List.getElem?_toArray,List.getElem?_cons_zero,List.getElem?_cons_succ] at y1
     have hil3:i<(us.set i ((⟨hd,body,0,0⟩,t1,b2):RulU)).length:=by simpa using hil
     obtain ⟨g',hg',hc8,-,-,-⟩:=PZ.out.rulAt i hil3
     simp only [Option.some.injEq,Addr.mk.injEq,and_true] at hg'
     subst hg'
     have hs8:=PZ.out.subU _ (List.getElem_mem hil3)
     rw [List.getElem_set_self] at hc8 hs8
     obtain ⟨ba2,bc2,hb2⟩:=hs8.2.lit
     dsimp only at hb2
     subst hb2
     have c2:=hc8 2 (.slice ba2 body.length bc2) rfl
     have HSB:=Lib.hid hs8.2
     clear hc8 hs8
     go_wp2_with fail
     refine (src_all _ body (Nat.lt_succ_self _) hbi.1 hbi.2 w0.heap.size _ _ w8 (fun k hk=>hk.1) HSB.out).mono ?_
     rintro e5 w9 ⟨rfl,hz9,hb9⟩
     obtain ⟨us2,hl9,hP9,po9⟩:=PZ.out.zd hz9 (Nat.le_refl _)
     have PY:=Lib.hid po9
     have hw0x:w0.heap.size<=px:=by omega
     have BY:=Hxq (hz9.ne (by decide) BZ.out);have RY:=Hxq (hz9.ne (by decide) RZ.out)
     have hi9:i<us2.length:=by rw [hl9];exact hil3
     have HP9:=Lib.hid hP9;have HB9:=Lib.hid hb9
     clear po9 hz9 hb9 hP9 c2 y1 HSB BZ RZ PZ
     go_wp2_with fail
     go_roundw
     case rel =>
      have hset:∀ j (h:j<us2.length),Pu ((us.set i ((⟨hd,body,0,0⟩,t1,.slice ba2 body.length bc2):RulU))[j]'(by rw [<-hl9];exact h)) us2[j]:=fun j h=>HP9.out j (by rw [<-hl9];exact h) h
      refine ⟨i+1,us2,by go_num,by omega,by rw [hl9];simpa using hlen,?_,fun j hj hji=>?_,PY.out,BY.out,RY.out⟩
      ·rw [<-HMQ.out,map_ext hl9 (fun j a b=>(HP9.out j a b).bare)]
       exact map_set_same hil (by rw [hzz.out];rfl)
      ·have hPj:=hset j hj
       by_cases e:i=j
       ·subst e
        rw [List.getElem_set_self] at hPj
        have hsy:=PY.out.subU _ (List.getElem_mem hj)
        generalize us2[i]=y at hPj hsy
        obtain ⟨⟨hd2,body2,ln2,cl2⟩,t2,b3⟩:=y
        obtain ⟨e1,e2,e3,e4,e5,e6⟩:=hPj
        dsimp only at e1 e2 e3 e4 e5 e6 hsy
        simp only [Prod.mk.injEq] at e1
        obtain ⟨rfl,rfl⟩:=e1
        subst e2;subst e3;subst e4
        have hbb:=hsy.2.uniq HB9.out (by
         rw [List.map_map]
         have q:body2.map Sy.bareL=body.map Sy.bareL:=map_ext e5 (fun i a b=>(e6 i a b).bare)
         dsimp only
         rw [q]
         apply List.map_congr_left
         intro x _
         exact (bareL_idem x).symm)
        dsimp only at hbb
        subst hbb
        exact bareU_idem ⟨hd2,body,0,0⟩
       ·rw [List.getElem_set_ne e] at hPj
        have hju:j<us.length:=by rw [hl9,List.length_set] at hj;exact hj
        have hf:=HFX.out j hju (by omega)
        generalize us[j]=x at hPj hf
        generalize us2[j]=y at hPj
        obtain ⟨⟨hd1,body1,ln1,cl1⟩,t1',b1'⟩:=x
        obtain ⟨⟨hd2,body2,ln2,cl2⟩,t2,b3⟩:=y
        obtain ⟨e1,e2,e3,e4,e5,e6⟩:=hPj
        dsimp only at e1 e2 e3 e4 e5 e6 hf
        subst e2;subst e3;subst e4
        simp only [Sy.bareU,Pr.Rul.mk.injEq,true_and] at hf
        have hbb:body2=body1:=List.ext_getElem e5 (fun i g1 g2=>(e6 i g2 g1).fix (by
         have q:=congrArg (fun l=>l[i]?) hf.1
         simp only [List.getElem?_map,List.getElem?_eq_getElem g2,Option.map_some,Option.some.injEq] at q
         exact q))
        subst hbb
        simp only [Sy.bareU,Pr.Rul.mk.injEq,true_and]
        exact hf
     case measure=>simp [intOf];omega
    ·obtain rfl:i=rus.length:=by omega
     have hjI:¬ (rus.length:Int)<(rus.length:Int):=by omega
     have hus:us.map (·.1)=(Sy.bareP p).rules:=by
      have e:us.map (·.1)=us.map (fun x=>Sy.bareU x.1):=by
       apply List.map_congr_left
       intro x hx
       obtain ⟨j,hj,rfl⟩:=List.mem_iff_getElem.1 hx
       exact (hfix j hj (by omega)).symm
      rw [e,hmap]
      show _=p.rules.map Sy.bareU
      rw [<-show rus.map (·.1)=p.rules from congrArg Pr.Prog.rules HRP.out,List.map_map]
      rfl
     have z0:=cell_at hrs 0;have z1:=cell_at hrs 1
     simp only [List.getElem?_toArray,List.getElem?_cons_zero,List.getElem?_cons_succ] at z0 z1
     have fA:∀ j,wr.frozen? ⟨w.heap.size+1,j,none⟩=false:=fun j=>free_at hrs j
     have HUS:=Lib.hid hus
     have PO2:=Lib.hid hpo;have RS2:=Lib.hid hrs;have BX2:=Lib.hid hbx
     clear hus hpo hrs hbx hmap hfix
     go_wp2_with fail
     have mR:=setCs_mod (w.heap.size+1) [.slice va rels.length vc,.slice ua rus.length uc] 0 wr
     refine bodyPost_ret (results_cell_row rfl _ _ _ _ _ _ _ rfl (setCs_row (vs:=[.slice va rels.length vc,.slice ua rus.length uc]) RS2.out rfl) Tryz.underlying25 rfl (by kernel_rfl)) rfl ⟨va,vc,ua,uc,?_,?_,?_⟩
     ·rw [<-HL1.out,<-HL2.out]
     ·have hp:=PO2.out.prog
      rw [HLS.out,HUS.out,hlen,HLSL.out,HL1.out,HL2.out] at hp
      have hz:=M0.out.size
      exact (hp.keep mR (fun s hs hh=>by rw [Msq] at hs;omega)).mono (fun k hk _=>by omega)
     ·exact (M0.out.trans (S:=[]) PO2.out.mod (by simp)).trans mR (fun s hs=>.inr (by rw [Msq] at hs;omega))
open Go.RowKit
set_option linter.unusedVariables false
set_option linter.unusedSimpArgs false
set_option maxRecDepth 100000
def goneS:ByteArray:={ data:=#[103,111,110,101] }
def goneX:Pr.Ex:=.mk 77 ⟨#[]⟩ ⟨0,0,[]⟩ 0 []
def zeroX:Pr.Ex:=.mk 0 ⟨#[]⟩ ⟨0,0,[]⟩ 0 []
def goneL:Pr.Li:=.mk 77 ⟨⟨#[]⟩,[]⟩ 0 zeroX zeroX 0 ⟨#[]⟩ zeroX [] 0 0
def goneU:LU:=⟨.slice none 0 0,.slice none 0 0,.slice none 0 0,.slice none 0 0,.slice none 0 0⟩
def goneT:Pr.Term:=⟨77,⟨#[]⟩,⟨0,0,[]⟩⟩
def goneR:Pr.Rel:=⟨goneS,[],0,0⟩
def goneRu:Pr.Rul:=⟨⟨goneS,[]⟩,[],0,0⟩
/-- what a thing of a type becomes -/
def goneOf (T:TypeId):Array Value :=
 if T=38 then exV goneX (.slice none 0 0) else if T=88 then tmV goneT else if T=49 then liV goneL goneU
 else if T=70 then reV goneR (.slice none 0 0) else if T=63 then ruV goneRu (.slice none 0 0) (.slice none 0 0) else if T=3 then intC 77 else #[]
theorem goneOf_X:goneOf 38=exV goneX (.slice none 0 0):=by simp [goneOf]
theorem goneOf_T:goneOf 88=tmV goneT:=by simp [goneOf]
theorem goneOf_L:goneOf 49=liV goneL goneU:=by simp [goneOf]
theorem goneOf_R:goneOf 70=reV goneR (.slice none 0 0):=by simp [goneOf]
theorem goneOf_U:goneOf 63=ruV goneRu (.slice none 0 0) (.slice none 0 0):=by simp [goneOf]
theorem goneOf_I:goneOf 3=intC 77:=by simp [goneOf]
def SpC (G C C':Array Value):Prop:=∀ i,(∀ j,j<G.size->C'[i * G.size+j]?=C[i * G.size+j]?)\/(∀ j,j<G.size->C'[i * G.size+j]?=G[j]?)
structure Sp (F:Nat->Prop) (w w':World):Prop where
 os:w'.os=w.os
 tape:w'.tape=w.tape
 output:w'.output=w.output
 size:w.heap.size<=w'.heap.size
 other:∀ (k:Nat),k<w.heap.size->¬ F k->w'.heap[k]?=w.heap[k]?
 row:∀ (k:Nat) (C:Array Value) (T:TypeId),w.heap[k]?=some (Obj.cells C T (0,0))->∃ C':Array Value,w'.heap[k]?=some (Obj.cells C' T (0,0))/\SpC (goneOf T) C C'
section
variable {F:Nat->Prop} {w w1 w2:World}
theorem Sp.of_mod (h:Mod [] w w1):Sp F w w1 :=
 ⟨h.os,h.tape,h.output,h.size,fun k hk _=>h.block k hk (by simp),fun k C T hC=>⟨C,(h.block k (lt_of_block hC) (by simp)).trans hC,fun _=>.inl (fun _ _=>rfl)⟩⟩
theorem Sp.refl (F:Nat->Prop) (w:World):Sp F w w:=.of_mod (Mod.refl [] w)
theorem Sp.trans (h:Sp F w w1) (h2:Sp F w1 w2):Sp F w w2:=by
 refine ⟨h2.os.trans h.os,h2.tape.trans h.tape,h2.output.trans h.output,Nat.le_trans h.size h2.size,fun k hk hF=>(h2.other k (by have:=h.size;omega) hF).trans (h.other k hk hF),fun k C T hC=>?_⟩
 obtain ⟨C1,e1,f1⟩:=h.row k C T hC
 obtain ⟨C2,e2,f2⟩:=h2.row k C1 T e1
 refine ⟨C2,e2,fun i=>?_⟩
 rcases f2 i with g2 | g2
 ·rcases f1 i with g1 | g1
  ·exact .inl (fun j hj=>(g2 j hj).trans (g1 j hj))
  ·exact .inr (fun j hj=>(g2 j hj).trans (g1 j hj))
 ·exact .inr g2
theorem Sp.mod (h:Sp F w w1) (S:List Nat) (hS:∀ k,F k->k<w.heap.size->k∈S):Mod S w w1 :=
 ⟨h.os,h.tape,h.output,h.size,fun k hk hn=>h.other k hk (fun hF=>hn (hS k hF hk))⟩
theorem Sp.at (h:Sp F w w1) {k:Nat} {o:Obj} (hk:w.heap[k]?=some o) (hF:¬ F k):w1.heap[k]?=some o:=(h.other k (lt_of_block hk) hF).trans hk
theorem Sp.ty (h:Sp F w w1) {k:Nat} {T:TypeId} (ht:TyAt w k T):TyAt w1 k T:=by
 obtain ⟨C,hC⟩:=ht
 obtain ⟨C',h1,-⟩:=h.row k C T hC
 exact ⟨C',h1⟩
/-- a thing's cells: as they were, or gone -/
theorem Sp.cells {g i:Nat} {T:TypeId} {cs:Array Value} (h:Sp F w w1) (ht:TyAt w g T) (hn:cs.size=(goneOf T).size) (hc:CellsAt w g (i * cs.size) cs):CellsAt w1 g (i * cs.size) cs\/CellsAt w1 g (i * cs.size) (goneOf T):=by
 obtain ⟨C,hC⟩:=ht
 obtain ⟨C',h1,h2⟩:=h.row g C T hC
 rw [hn] at hc ⊢
 rcases h2 i with h2 | h2
 ·refine .inl (fun j v hj=>?_)
  have hjs:j<(goneOf T).size:=by rw [<-hn];exact (Array.getElem?_eq_some_iff.1 hj).1
  have:=hc j v hj
  rw [cell_at hC] at this
  rw [cell_at h1,h2 j hjs,this]
 ·refine .inr (fun j v hj=>?_)
  rw [cell_at h1,h2 j (Array.getElem?_eq_some_iff.1 hj).1,hj]
/-- a thing is written over -/
theorem Sp.set {g i:Nat} {T:TypeId} {cs:Array Value} (hF:F g) (ht:TyAt w g T) (hn:cs.size=(goneOf T).size) (hc:CellsAt w g (i * cs.size) cs) (hp:0<cs.size):Sp F w (setCs w g (i * cs.size) (goneOf T).toList):=by
 have hm:=setCs_mod g (goneOf T).toList (i * cs.size) w
 refine ⟨hm.os,hm.tape,hm.output,hm.size,fun k hk hk'=>hm.block k hk (fun e=>by rw [Msq] at e;subst e;exact hk' hF),fun k C U hC=>?_⟩
 by_cases e:k=g
 ·subst e
  obtain ⟨C0,h0⟩:=ht
  obtain ⟨rfl,rfl⟩:C0=C/\T=U:=by rw [h0] at hC;simp only [Option.some.injEq,Obj.cells.injEq,and_true] at hC;exact hC
  have hlast:=hc (cs.size - 1) cs[cs.size - 1] (Array.getElem?_eq_getElem (by omega))
  rw [cell_at h0] at hlast
  have hlt:=(Array.getElem?_eq_some_iff.1 hlast).1
  have hl:(goneOf T).toList.length=cs.size:=by rw [Array.length_toList,hn]
  have hset:=setCs_heap (goneOf T).toList (i * cs.size) C0.toList w (by simpa using h0)
  refine ⟨_,hset,fun i'=>?_⟩
  rw [<-hn]
  have hgl:i * cs.size+(goneOf T).toList.length<=C0.toList.length:=by rw [hl,Array.length_toList];omega
  by_cases hi:i'=i
  ·subst hi
   refine .inr (fun j hj=>?_)
   rw [List.getElem?_toArray,putL_get _ _ _ _ hgl,if_neg (by omega),if_pos (by omega),show i' * cs.size+j - i' * cs.size=j by omega,Array.getElem?_toList]
  ·refine .inl (fun j hj=>?_)
   rw [List.getElem?_toArray,putL_get _ _ _ _ hgl,Array.getElem?_toList]
   rcases Nat.lt_or_gt_of_ne hi with hlt | hgt
   ·have:(i'+1) * cs.size<=i * cs.size:=Nat.mul_le_mul_right _ hlt
    rw [Nat.add_mul,Nat.one_mul] at this
    rw [if_pos (by omega)]
   ·have:(i+1) * cs.size<=i' * cs.size:=Nat.mul_le_mul_right _ hgt
    rw [Nat.add_mul,Nat.one_mul] at this
    rw [if_neg (by omega),if_neg (by omega)]
 ·exact ⟨C,(hm.block k (lt_of_block hC) (by simpa using e)).trans hC,fun _=>.inl (fun _ _=>rfl)⟩
end
def SpR (F:Nat->Prop) (w:World) (e:Ending) (w':World):Prop:=e=.returned (.tuple #[])/\Sp F w w'
end Go.Proofs.YtohnmnfhmbmoaaaGreatDoor
