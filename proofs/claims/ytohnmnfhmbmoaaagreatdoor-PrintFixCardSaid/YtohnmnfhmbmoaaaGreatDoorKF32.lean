/- THE TEXTS MERGED: LxAlone SySq RtLex. -/
import Derived.Test.YtohnmnfhmbmoaaaGreatDoorKF1
import Derived.Test.YtohnmnfhmbmoaaaGreatDoorKF31
import Derived.Test.YtohnmnfhmbmoaaaGreatDoorKF20
import Derived.Test.YtohnmnfhmbmoaaaGreatDoorKF5
namespace Go.Proofs.YtohnmnfhmbmoaaaGreatDoor.Lx
set_option linter.unusedSimpArgs false
set_option linter.unusedVariables false
theorem skip_stop:∀ (s:List Nat) (b:Bool),skipN false (s.drop (skipN b s))=0
 | [],b=>by simp [skipN]
 | c :: t,b=>by
  have ih:=skip_stop t (if c=35 then true else if c=10 then false else b)
  have e:skipN b (c :: t)=if !(if c=35 then true else if c=10 then false else b) && !blank c then 0 else skipN (if c=35 then true else if c=10 then false else b) t+1:=rfl
  by_cases h:(!(if c=35 then true else if c=10 then false else b) && !blank c)=true
  ·rw [e,if_pos h,List.drop_zero]
   simp only [Bool.and_eq_true,Bool.not_eq_true'] at h
   have h35:c≠35:=fun h0=>by rw [if_pos h0] at h;simp at h
   exact skip_none h.2 h35
  ·rw [e,if_neg h,List.drop_succ_cons]
   exact ih
theorem skip_done' (s:List Nat):skipN false (s.drop (skipN false s))=0:=skip_stop s false
theorem run_take (p:Nat->Bool) (s:List Nat) (k:Nat):run p (s.take k)=min k (run p s):=by
 induction s generalizing k with
 | nil=>simp [run_nil]
 | cons c t ih =>
  cases k with
  | zero=>simp [run_nil]
  | succ k =>
   rw [List.take_succ_cons,run_cons,run_cons,ih]
   split <;> omega
theorem esc_take {s:List Nat} {b j:Nat} (h:esc s=some (b,j)) (q:Nat) (hq:j<=q):esc (s.take q)=some (b,j):=by
 match s with
 | []=>simp [esc] at h
 | [c] =>
  unfold esc at h
  simp only at h
  by_cases h1:c=34\/c=92
  ·rw [if_pos h1] at h
   simp only [Option.some.injEq,Prod.mk.injEq] at h
   obtain ⟨rfl,rfl⟩:=h
   rw [List.take_of_length_le (by simpa using hq)]
   unfold esc;simp only;rw [if_pos h1]
  ·rw [if_neg h1] at h
   by_cases h2:c=110
   ·rw [if_pos h2] at h
    simp only [Option.some.injEq,Prod.mk.injEq] at h
    obtain ⟨rfl,rfl⟩:=h
    rw [List.take_of_length_le (by simpa using hq)]
    unfold esc;simp only;rw [if_neg h1,if_pos h2]
   ·rw [if_neg h2] at h
    by_cases h3:c=120 <;> simp [h3] at h
 | c :: x :: t =>
  unfold esc at h
  simp only at h
  by_cases h1:c=34\/c=92
  ·rw [if_pos h1] at h
   simp only [Option.some.injEq,Prod.mk.injEq] at h
   obtain ⟨rfl,rfl⟩:=h
   obtain ⟨q',rfl⟩:∃ q',q=q'+1:=⟨q - 1,by omega⟩
   rw [List.take_succ_cons]
   unfold esc;simp only;rw [if_pos h1]
  ·rw [if_neg h1] at h
   by_cases h2:c=110
   ·rw [if_pos h2] at h
    simp only [Option.some.injEq,Prod.mk.injEq] at h
    obtain ⟨rfl,rfl⟩:=h
    obtain ⟨q',rfl⟩:∃ q',q=q'+1:=⟨q - 1,by omega⟩
    rw [List.take_succ_cons]
    unfold esc;simp only;rw [if_neg h1,if_pos h2]
   ·rw [if_neg h2] at h
    by_cases h3:c=120
    ·rw [if_pos h3] at h
     cases t with
     | nil=>simp at h
     | cons y u =>
      have hj:j=3:=by
       simp only at h
       cases hx:hexv x with
       | none=>rw [hx] at h;simp at h
       | some u1 =>
        cases hy:hexv y with
        | none=>rw [hx,hy] at h;simp at h
        | some u2=>rw [hx,hy] at h;simp at h;omega
      subst hj
      obtain ⟨q',rfl⟩:∃ q',q=q'+3:=⟨q - 3,by omega⟩
      simp only [List.take_succ_cons]
      unfold esc
      simp only
      rw [if_neg h1,if_neg h2,if_pos h3]
      exact h
    ·simp [h3] at h
theorem quoF_take:∀ (k:Nat) (s acc:List Nat) (n:Nat) (l:List Nat) (m:Nat),(∀ c∈s,c<256)->(∀ c∈acc,c<256)->quoF k s acc n=some (l,m)->∀ k',m - n<=k'->quoF k' (s.take (m - n)) acc n=some (l,m)
 | 0,_,_,_,_,_,_,_,h=>by simp [quoF] at h
 | k+1,[],_,_,_,_,_,_,h=>by simp [quoF] at h
 | k+1,c :: r,acc,n,l,m,hs,ha,h=>fun k' hk=>by
  have hr:∀ c∈r,c<256:=fun x hx=>hs x (by simp [hx])
  have hl:=quoF_len (k+1) (c :: r) acc n l m hs ha h
  obtain ⟨q,hq⟩:∃ q,m - n=q+1:=⟨m - n - 1,by omega⟩
  obtain ⟨k'',rfl⟩:∃ k'',k'=k''+1:=⟨k' - 1,by omega⟩
  rw [hq,List.take_succ_cons]
  unfold quoF at h ⊢
  by_cases h1:c=34
  ·rw [if_pos h1] at h ⊢;exact h
  ·rw [if_neg h1] at h ⊢
   by_cases h2:c=10
   ·rw [if_pos h2] at h;simp at h
   ·rw [if_neg h2] at h ⊢
    by_cases h3:c=92
    ·rw [if_pos h3] at h ⊢
     cases he:esc r with
     | none=>rw [he] at h;simp at h
     | some p =>
      obtain ⟨b,j⟩:=p
      rw [he] at h
      simp only at h
      obtain ⟨e1,e2,e3⟩:=esc_len hr he
      have ha':∀ c∈acc++[b],c<256:=fun x hx=>by
       rcases List.mem_append.1 hx with hx | hx
       ·exact ha x hx
       ·simp at hx;omega
      have hl2:=quoF_len k (r.drop j) (acc++[b]) (n+1+j) l m (fun c hc=>hr c (List.mem_of_mem_drop hc)) ha' h
      rw [esc_take he q (by omega)]
      simp only
      have:=quoF_take k (r.drop j) (acc++[b]) (n+1+j) l m (fun c hc=>hr c (List.mem_of_mem_drop hc)) ha' h k'' (by omega)
      rw [List.drop_take,show q - j=m - (n+1+j) by omega]
      exact this
    ·rw [if_neg h3] at h ⊢
     have ha':∀ x∈acc++[c],x<256:=fun x hx=>by
      rcases List.mem_append.1 hx with hx | hx
      ·exact ha x hx
      ·simp at hx;have:=hs c (by simp);omega
     have:=quoF_take k r (acc++[c]) (n+1) l m hr ha' h k'' (by omega)
     rw [show q=m - (n+1) by omega]
     exact this
theorem quo_take {s l:List Nat} {m:Nat} (hs:∀ c∈s,c<256) (h:quo s=some (l,m)):quo (s.take m)=some (l,m):=by
 cases s with
 | nil=>simp [quo,quoF] at h
 | cons c r =>
  obtain ⟨l1,l2,-⟩:=quo_len hs h
  unfold quo at h ⊢
  obtain ⟨q,rfl⟩:∃ q,m=q+1:=⟨m - 1,by omega⟩
  have:=quoF_take _ _ _ _ l (q+1) (fun c hc=>hs c (List.mem_of_mem_drop hc)) (by simp) h (q+1) (by omega)
  simp only [List.take_succ_cons,List.drop_succ_cons,List.drop_zero,List.length_cons,List.length_take,Nat.add_sub_cancel] at this ⊢
  have hle:min q r.length=q:=by simp at l2;omega
  rw [hle]
  exact this
theorem mark_take (s:List Nat):mark (s.take (mark s))=mark s:=by
 match s with
 | []=>rfl
 | [a] =>
  by_cases h:ones.contains a=true
  ·have e:mark [a]=1:=by simp only [mark];rw [if_pos h]
   rw [e];exact e
  ·have e:mark [a]=0:=by simp only [mark];rw [if_neg h]
   rw [e];rfl
 | a :: b :: t =>
  by_cases h1:two a b=true
  ·have e:∀ u,mark (a :: b :: u)=2:=fun u=>by simp only [mark];rw [if_pos h1]
   rw [e];exact e []
  ·by_cases h:ones.contains a=true
   ·have e:mark (a :: b :: t)=1:=by simp only [mark];rw [if_neg h1,if_pos h]
    rw [e]
    show mark [a]=1
    simp only [mark];rw [if_pos h]
   ·have e:mark (a :: b :: t)=0:=by simp only [mark];rw [if_neg h1,if_neg h]
    rw [e];rfl
theorem headD_take {s:List Nat} {n:Nat} (h:1<=n):(s.take n).headD 0=s.headD 0:=by
 cases s with
 | nil=>simp
 | cons c t =>
  obtain ⟨q,rfl⟩:∃ q,n=q+1:=⟨n - 1,by omega⟩
  rfl
/-- a word by itself is that word -/
theorem word_take {s:List Nat} {w:Wd} (hb:∀ c∈s,c<256) (h0:s≠[]) (h:word s=.ok w):word (s.take w.n)=.ok w:=by
 obtain ⟨l1,l2,-⟩:=word_len hb h0 h
 have e1:=headD_take (s:=s) l1
 unfold word at h ⊢
 rw [e1]
 by_cases c1:(small (s.headD 0) || capital (s.headD 0))=true
 ·rw [if_pos c1] at h ⊢
  by_cases c2:32<run goes s
  ·rw [if_pos c2] at h;simp at h
  ·rw [if_neg c2] at h
   simp only [Rw.ok.injEq] at h
   subst h
   simp only
   have e2:run goes (s.take (run goes s))=run goes s:=by rw [run_take];omega
   rw [e2,if_neg c2]
 ·rw [if_neg c1] at h ⊢
  by_cases c2:digit (s.headD 0)=true
  ·rw [if_pos c2] at h ⊢
   by_cases c3:(1<run digit s/\s.headD 0=48)\/2147483647<numv (s.take (run digit s))\/run digit s<run goes s
   ·rw [if_pos c3] at h;simp at h
   ·rw [if_neg c3] at h
    simp only [Rw.ok.injEq] at h
    subst h
    simp only
    have e2:run digit (s.take (run digit s))=run digit s:=by rw [run_take];omega
    have e3:run goes (s.take (run digit s))=min (run digit s) (run goes s):=run_take _ _ _
    rw [e2,e3,List.take_take,Nat.min_self,if_neg (by omega)]
  ·rw [if_neg c2] at h ⊢
   by_cases c3:s.headD 0=34
   ·rw [if_pos c3] at h ⊢
    cases hq:quo s with
    | none=>rw [hq] at h;simp at h
    | some p =>
     obtain ⟨l,m⟩:=p
     rw [hq] at h
     simp only [Rw.ok.injEq] at h
     subst h
     simp only
     rw [quo_take hb hq]
   ·rw [if_neg c3] at h ⊢
    by_cases c4:mark s=0
    ·rw [if_pos c4] at h;simp at h
    ·rw [if_neg c4] at h
     simp only [Rw.ok.injEq] at h
     subst h
     simp only
     rw [mark_take,if_neg c4]
/-- is nothing there but blanks and remarks? -/
def bare:Bool->List Nat->Bool
 | _,[]=>true
 | r,c :: t=>if c=10 then bare false t else if c=35 then bare true t else if !r && (c != 32 && (c != 9 && c != 13)) then false else bare r t
theorem skip_take:∀ (s:List Nat) (b:Bool) (k:Nat),skipN b (s.take k)=min k (skipN b s)
 | [],b,k=>by simp [skipN]
 | c :: t,b,0=>by simp [skipN]
 | c :: t,b,k+1=>by
  rw [List.take_succ_cons]
  unfold skipN
  simp only
  rw [skip_take t _ k]
  generalize (if c=35 then true else if c=10 then false else b)=b'
  by_cases h:(!b' && !blank c)=true
  ·rw [if_pos h,if_pos h];omega
  ·rw [if_neg h,if_neg h];omega
theorem word_takeN {s:List Nat} {w:Wd} (hb:∀ c∈s,c<256) (h0:s≠[]) (h:word s=.ok w) (k:Nat) (hk:w.n<=k):word (s.take k)=.ok w:=by
 obtain ⟨l1,l2,-⟩:=word_len hb h0 h
 have e1:=headD_take (s:=s) (n:=k) (by omega)
 unfold word at h ⊢
 rw [e1]
 by_cases c1:(small (s.headD 0) || capital (s.headD 0))=true
 ·rw [if_pos c1] at h ⊢
  by_cases c2:32<run goes s
  ·rw [if_pos c2] at h;simp at h
  ·rw [if_neg c2] at h
   simp only [Rw.ok.injEq] at h
   subst h
   simp only at hk
   have e2:run goes (s.take k)=run goes s:=by rw [run_take];omega
   rw [e2,if_neg c2]
 ·rw [if_neg c1] at h ⊢
  by_cases c2:digit (s.headD 0)=true
  ·rw [if_pos c2] at h ⊢
   by_cases c3:(1<run digit s/\s.headD 0=48)\/2147483647<numv (s.take (run digit s))\/run digit s<run goes s
   ·rw [if_pos c3] at h;simp at h
   ·rw [if_neg c3] at h
    simp only [Rw.ok.injEq] at h
    subst h
    simp only at hk
    have e2:run digit (s.take k)=run digit s:=by rw [run_take];omega
    have e3:run goes (s.take k)=min k (run goes s):=run_take _ _ _
    rw [e2,e3,List.take_take,show min (run digit s) k=run digit s by omega,if_neg (by omega)]
  ·rw [if_neg c2] at h ⊢
   by_cases c3:s.headD 0=34
   ·rw [if_pos c3] at h ⊢
    cases hq:quo s with
    | none=>rw [hq] at h;simp at h
    | some p =>
     obtain ⟨l,m⟩:=p
     rw [hq] at h
     simp only [Rw.ok.injEq] at h
     subst h
     simp only at hk l2
     have h1:=quo_take hb hq
     have h2:=quo_join (fun c hc=>hb c (List.mem_of_mem_take hc)) h1 ((s.drop m).take (k - m))
     rw [<-List.take_add,show m+(k - m)=k by omega] at h2
     rw [h2]
   ·rw [if_neg c3] at h ⊢
    by_cases c4:mark s=0
    ·rw [if_pos c4] at h;simp at h
    ·rw [if_neg c4] at h
     simp only [Rw.ok.injEq] at h
     subst h
     simp only at hk
     have:mark (s.take k)=mark s:=by
      match s,h0,k,hk with
      | [a],_,k,hk =>
       rw [List.take_of_length_le (by simp;simp at l1;omega)]
      | a :: b :: t,_,0,hk=>simp at l1;omega
      | a :: b :: t,_,1,hk =>
       have:mark (a :: b :: t)=1:=by omega
       have h1:two a b=false:=by
        cases ht:two a b with
        | false=>rfl
        | true=>simp [mark,ht] at this
       simp only [mark,h1] at this
       have h2:ones.contains a=true:=by
        cases ho:ones.contains a with
        | true=>rfl
        | false=>rw [ho] at this;simp at this
       simp only [List.take_succ_cons,List.take_zero,mark,h1,h2]
       rfl
      | a :: b :: t,_,k+2,hk=>simp [mark]
     rw [this,if_neg c4]
/-- s, that begins at place p, begins with the words l; what is left, and its place -/
inductive Sq:List Nat->Nat × Nat->List Tok->List Nat->Nat × Nat->Prop
 | nil (s:List Nat) (p:Nat × Nat):Sq s p [] s p
 | word {s:List Nat} {p:Nat × Nat} {u:List Nat} {w:Wd} {l:List Tok} {r:List Nat} {q:Nat × Nat} (hs:s.drop (skipN false s)=u) (h0:u≠[]) (hw:word u=.ok w)
   (h:Sq (u.drop w.n) (adv (adv p (s.take (skipN false s))) (u.take w.n)) l r q) :
   Sq s p (⟨w.kind,u.take w.n,w.vk,w.num,w.sym,(adv p (s.take (skipN false s))).1,(adv p (s.take (skipN false s))).2⟩ :: l) r q
theorem Sq.trans {a b c:List Nat} {p q o:Nat × Nat} {l m:List Tok} (h:Sq a p l b q) (k:Sq b q m c o):Sq a p (l++m) c o:=by
 induction h with
 | nil s p=>exact k
 | word hs h0 hw h ih=>exact .word hs h0 hw (ih k)
theorem Sq.split {c:List Nat} {o:Nat × Nat} (m:List Tok):∀ {l:List Tok} {a:List Nat} {p:Nat × Nat},Sq a p (l++m) c o->∃ b q,Sq a p l b q/\Sq b q m c o
 | [],a,p,h=>⟨a,p,.nil a p,h⟩
 | t :: l,a,p,h=>by
  rw [List.cons_append] at h
  generalize hx:t :: (l++m)=x at h
  cases h with
  | nil=>cases hx
  | word hs h0 hw h =>
   simp only [List.cons.injEq] at hx
   obtain ⟨rfl,hx⟩:=hx
   subst hx
   obtain ⟨b,q,h1,h2⟩:=Sq.split m h
   exact ⟨b,q,.word hs h0 hw h1,h2⟩
/-- nothing but blanks and remarks -/
def Bl (s:List Nat):Prop:=s.drop (skipN false s)=[]
theorem all_of_sq {s r:List Nat} {p q:Nat × Nat} {l:List Tok} (h:Sq s p l r q):∀ (x:St) (k:Nat),x.s=s->x.pos=p->x.code=0->x.long=false->l.length<k->Bl r->∃ y,allF k x=(l,y)/\y.code=0:=by
 induction h with
 | nil s p =>
  intro x k hx hp hc hl hk hb
  obtain ⟨k,rfl⟩:∃ m,k=m+1:=⟨k - 1,by omega⟩
  have hn:next x=(x.skip,none):=by
   unfold next
   rw [if_neg (by omega),hl]
   have:x.skip.s=[]:=by unfold St.skip;rw [hx];exact hb
   rw [if_pos this]
   rfl
  exact ⟨x.skip,by rw [allF,hn],hc⟩
 | @word s p u w l r q hs h0 hw h ih =>
  intro x k hx hp hc hl hk hb
  obtain ⟨k,rfl⟩:∃ m,k=m+1:=⟨k - 1,by rw [List.length_cons] at hk;omega⟩
  have e1:x.skip.s=u:=by unfold St.skip;rw [hx];exact hs
  have e2:x.skip.pos=adv p (s.take (skipN false s)):=by unfold St.skip;rw [hx,hp]
  have hn:next x=({ x.skip with s:=u.drop w.n,pos:=adv x.skip.pos (u.take w.n),fin:=adv x.skip.pos (u.take w.n) },some ⟨w.kind,u.take w.n,w.vk,w.num,w.sym,x.skip.pos.1,x.skip.pos.2⟩):=by
   unfold next
   rw [if_neg (by omega),hl,e1,if_neg h0,hw]
   rfl
  obtain ⟨y,h1,h2⟩:=ih { x.skip with s:=u.drop w.n,pos:=adv x.skip.pos (u.take w.n),fin:=adv x.skip.pos (u.take w.n) } k rfl (by rw [e2]) hc hl (by simpa using hk) hb
  refine ⟨y,?_,h2⟩
  rw [allF,hn]
  simp only
  rw [h1,e2]
theorem Sq.len {s r:List Nat} {p q:Nat × Nat} {l:List Tok} (h:Sq s p l r q) (hb:∀ c∈s,c<256):l.length+r.length<=s.length:=by
 induction h with
 | nil s p=>simp
 | @word s p u w l r q hs h0 hw h ih =>
  have hu:∀ c∈u,c<256:=fun c hc=>hb c (by rw [<-hs] at hc;exact List.mem_of_mem_drop hc)
  obtain ⟨l1,l2,-⟩:=word_len hu h0 hw
  have:=ih (fun c hc=>hu c (List.mem_of_mem_drop hc))
  have hul:u.length<=s.length:=by rw [<-hs,List.length_drop];omega
  rw [List.length_drop] at this
  rw [List.length_cons]
  omega
theorem given_of_sq {s r:List Nat} {q:Nat × Nat} {l:List Tok} (h:Sq s (1,1) l r q) (hb:∀ c∈s,c<256) (hr:Bl r) (hl:s.length<=65536):(given s).1=l/\(given s).2.code=0:=by
 have:=h.len hb
 obtain ⟨y,h1,h2⟩:=all_of_sq h (start s) (s.length+1) rfl rfl rfl (by simp [start];omega) (by omega) hr
 unfold given
 rw [h1]
 exact ⟨rfl,h2⟩
/-- cut off behind the words -/
theorem Sq.take {s r:List Nat} {p q:Nat × Nat} {l:List Tok} (h:Sq s p l r q):∀ (hb:∀ c∈s,c<256) (j:Nat),Sq (s.take (s.length - r.length+j)) p l (r.take j) q:=by
 induction h with
 | nil s p =>
  intro hb j
  rw [show s.length - s.length+j=j by omega]
  exact .nil _ _
 | @word s p u w l r q hs h0 hw h ih =>
  intro hb j
  have hu:∀ c∈u,c<256:=fun c hc=>hb c (by rw [<-hs] at hc;exact List.mem_of_mem_drop hc)
  obtain ⟨l1,l2,-⟩:=word_len hu h0 hw
  have hd:∀ c∈u.drop w.n,c<256:=fun c hc=>hu c (List.mem_of_mem_drop hc)
  have ih:=ih hd j
  have hlen:=h.len hd
  rw [List.length_drop] at hlen
  have hul:u.length=s.length - skipN false s:=by rw [<-hs,List.length_drop]
  have hsk:=skipN_le false s
  have hul0:0<u.length:=List.length_pos_iff.2 h0
  generalize hJ:s.length - r.length+j=J
  have hJ2:skipN false s+w.n<=J:=by omega
  have hsk2:skipN false (s.take J)=skipN false s:=by rw [skip_take];omega
  have e1:(s.take J).drop (skipN false (s.take J))=u.take (J - skipN false s):=by rw [hsk2,List.drop_take,hs]
  have e2:(s.take J).take (skipN false (s.take J))=s.take (skipN false s):=by rw [hsk2,List.take_take,show min (skipN false s) J=skipN false s by omega]
  have e3:(u.take (J - skipN false s)).take w.n=u.take w.n:=by rw [List.take_take,show min w.n (J - skipN false s)=w.n by omega]
  have e4:(u.take (J - skipN false s)).drop w.n=(u.drop w.n).take ((u.drop w.n).length - r.length+j):=by
   rw [List.drop_take,List.length_drop]
   congr 1
   omega
  have:=Sq.word (s:=s.take J) (p:=p) (l:=l) (r:=r.take j) (q:=q) e1 (by
   intro h5
   have:=congrArg List.length h5
   rw [List.length_take,List.length_nil] at this
   omega) (word_takeN hu h0 hw _ (by omega)) (by rw [e2,e3,e4];exact ih)
  rw [e2,e3] at this
  exact this
/-- at another place the words are the same but for their places -/
theorem Sq.place {s r:List Nat} {p q:Nat × Nat} {l:List Tok} (h:Sq s p l r q):∀ p',∃ l' q',Sq s p' l' r q'/\l'.map (fun t=>(t.kind,t.text,t.vk,t.num,t.sym))=l.map (fun t=>(t.kind,t.text,t.vk,t.num,t.sym)):=by
 induction h with
 | nil s p=>exact fun p'=>⟨[],p',.nil _ _,rfl⟩
 | word hs h0 hw h ih =>
  intro p'
  obtain ⟨l',q',h1,h2⟩:=ih (adv (adv p' _) _)
  exact ⟨_,q',.word hs h0 hw h1,by simp [h2]⟩
theorem run_all (p:Nat->Bool) (s:List Nat):∀ c∈s.take (run p s),p c=true:=by
 unfold run
 induction s with
 | nil=>simp
 | cons c t ih =>
  rw [List.takeWhile_cons]
  split
  ·rename_i hc
   intro d hd
   simp only [List.length_cons,List.take_succ_cons,List.mem_cons] at hd
   rcases hd with rfl | hd
   ·exact hc
   ·exact ih d hd
  ·simp
/-- a name begins with a small letter -/
theorem word_name {s:List Nat} {w:Wd} (h:word s=.ok w) (hk:w.kind=1):small (s.headD 0)=true:=by
 unfold word at h
 split at h
 ·rename_i hc
  split at h
  ·simp at h
  ·simp at h;subst h
   simp only at hk
   rw [Bool.or_eq_true] at hc
   rcases hc with hc | hc
   ·exact hc
   ·simp at hk hc;simp [hc] at hk
 ·split at h
  ·split at h <;> simp at h
   subst h;simp at hk
  ·split at h
   ·split at h <;> simp at h
    subst h;simp at hk
   ·split at h <;> simp at h
    subst h;simp at hk
end Go.Proofs.YtohnmnfhmbmoaaaGreatDoor.Lx
namespace Go.Proofs.YtohnmnfhmbmoaaaGreatDoor.Rt
open Lx (Tok Sq small capital digit goes run two ones word skipN adv hexv esc quoF quo numv)
open Sy (sh Sh)
set_option linter.unusedVariables false
set_option linter.unusedSimpArgs false
/-- words without places -/
def tM (s:List Nat):Tok:=⟨5,s,0,0,[],0,0⟩
def tN (s:List Nat):Tok:=⟨1,s,0,0,[],0,0⟩
def tV (s:List Nat):Tok:=⟨2,s,0,0,[],0,0⟩
def tD (s:List Nat) (u:Nat):Tok:=⟨3,s,1,u,[],0,0⟩
def tQ (l:List Nat):Tok:=⟨4,Va.quoted l,2,0,l,0,0⟩
/-- text a is the words ts, if what follows begins with a byte that P lets by (0: nothing follows) -/
def Tx (P:Nat->Bool) (a:List Nat) (ts:List Tok):Prop:=∀ r p,P (r.headD 0)=true->∃ toks q,Sq (a++r) p toks r q/\toks.map sh=ts.map sh
def any (_:Nat):Bool:=true
def brk (c:Nat):Bool:=!goes c
theorem Tx.mono {P Q:Nat->Bool} {a:List Nat} {ts:List Tok} (h:Tx P a ts) (hq:∀ c,Q c=true->P c=true):Tx Q a ts:=fun r p hr=>h r p (hq _ hr)
theorem Tx.toBrk {a:List Nat} {ts:List Tok} (h:Tx any a ts):Tx brk a ts:=h.mono (fun _ _=>rfl)
theorem Tx.app {P Q:Nat->Bool} {a c:List Nat} {ts us:List Tok} (h:Tx P a ts) (k:Tx Q c us) (hc:c≠[]) (hp:P (c.headD 0)=true):Tx Q (a++c) (ts++us):=by
 intro r p hr
 have hd:(c++r).headD 0=c.headD 0:=by cases c with
  | nil=>exact absurd rfl hc
  | cons x y=>rfl
 obtain ⟨t1,q1,h1,e1⟩:=h (c++r) p (by rw [hd];exact hp)
 obtain ⟨t2,q2,h2,e2⟩:=k r q1 hr
 exact ⟨t1++t2,q2,by rw [List.append_assoc];exact h1.trans h2,by rw [List.map_append,List.map_append,e1,e2]⟩
theorem skip_one {c:Nat} (hc:Lx.blank c=true) (s:List Nat):skipN false (c :: s)=skipN false s+1:=by
 have h35:c≠35:=by rintro rfl;simp [Lx.blank] at hc
 conv=>lhs;unfold skipN
 simp only
 rw [if_neg h35]
 have:(if c=10 then false else false)=false:=by split <;> rfl
 rw [this]
 simp [hc]
theorem Tx.bl {P:Nat->Bool} {c:Nat} {a:List Nat} {ts:List Tok} (h:Tx P a ts) (hc:Lx.blank c=true) (hne:ts≠[]):Tx P (c :: a) ts:=by
 intro r p hr
 obtain ⟨toks,q,h1,h2⟩:=h r (adv p [c]) hr
 generalize hg:a++r=g at h1
 cases h1 with
 | nil s p =>
  cases ts with
  | nil=>exact absurd rfl hne
  | cons x y=>simp at h2
 | @word s p' u w l r' q' hs h0 hw hrest =>
  subst hg
  have hsk:=skip_one hc (a++r)
  have e1:adv p ((c :: (a++r)).take (skipN false (c :: (a++r))))=adv (adv p [c]) ((a++r).take (skipN false (a++r))):=by
   rw [hsk,List.take_succ_cons,show c :: (a++r).take (skipN false (a++r))=[c]++(a++r).take (skipN false (a++r)) from rfl,Lx.adv_append]
  refine ⟨_,q,.word (s:=c :: a++r) (p:=p) (u:=u) (w:=w) (l:=l) (r:=r) (q:=q) ?_ h0 hw ?_,?_⟩
  ·show (c :: (a++r)).drop _=u
   rw [show c :: a++r=c :: (a++r) from rfl,hsk,List.drop_succ_cons];exact hs
  ·show Sq _ (adv (adv p ((c :: (a++r)).take (skipN false (c :: (a++r))))) _) l r q
   rw [e1];exact hrest
  ·rw [<-h2];rfl
/-- one word -/
theorem tx_one {P:Nat->Bool} {a:List Nat} {k vk num:Nat} {sym:List Nat} (ha:a≠[]) (hs:Lx.blank (a.headD 0)=false/\a.headD 0≠35) (hw:∀ r,P (r.headD 0)=true->word (a++r)=.ok ⟨k,a.length,vk,num,sym⟩):Tx P a [⟨k,a,vk,num,sym,0,0⟩]:=by
 intro r p hr
 have hsk:skipN false (a++r)=0:=by
  cases a with
  | nil=>exact absurd rfl ha
  | cons c t =>
   show skipN false (c :: (t++r))=0
   have h1:Lx.blank c=false:=hs.1
   have h2:c≠35:=hs.2
   unfold skipN
   simp only
   rw [if_neg h2]
   have:(if c=10 then false else false)=false:=by split <;> rfl
   rw [this]
   simp [h1]
 have hu:(a++r).drop (skipN false (a++r))=a++r:=by rw [hsk];rfl
 have hd:(a++r).drop a.length=r:=by simp
 have htk:(a++r).take a.length=a:=by simp
 have:=Sq.word (s:=a++r) (p:=p) (u:=a++r) (w:=⟨k,a.length,vk,num,sym⟩) (l:=[]) (r:=r) (q:=adv (adv p ((a++r).take (skipN false (a++r)))) ((a++r).take a.length)) hu (by simp [ha]) (hw r hr) (by
  show Sq ((a++r).drop a.length) _ [] r _
  rw [hd]
  exact .nil _ _)
 refine ⟨_,_,this,?_⟩
 simp only [List.map_cons,List.map_nil,List.cons.injEq,and_true]
 show (⟨k,(a++r).take a.length,vk,num,sym⟩:Sh)=⟨k,a,vk,num,sym⟩
 rw [htk]
theorem run_app {p:Nat->Bool} {a r:List Nat} (h1:run p a=a.length) (h2:p (r.headD 0)=false\/r=[]):run p (a++r)=a.length:=by
 induction a with
 | nil =>
  cases r with
  | nil=>rfl
  | cons c t =>
   rcases h2 with h | h
   ·show run p (c :: t)=0
    rw [Lx.run_cons,if_neg (by simpa using h)]
   ·cases h
 | cons c t ih =>
  rw [Lx.run_cons] at h1
  split at h1
  ·rename_i hc
   show run p (c :: (t++r))=_
   rw [Lx.run_cons,if_pos hc,ih (by simpa using h1)];rfl
  ·simp at h1
theorem brk_goes {r:List Nat} (h:brk (r.headD 0)=true):goes (r.headD 0)=false\/r=[]:=by
 unfold brk at h
 exact .inl (by simpa using h)
theorem name_parts {p:Nat->Bool} {l:List Nat} (h:Va.wordB p l=true):l≠[]/\l.length<=32/\p (l.headD 0)=true/\run goes l=l.length:=by
 unfold Va.wordB at h
 simp only [Bool.and_eq_true,decide_eq_true_eq] at h
 exact ⟨h.1,h.2.1,h.2.2.1,h.2.2.2⟩
theorem head_app {a r:List Nat} (h:a≠[]):(a++r).headD 0=a.headD 0:=by
 cases a with
 | nil=>exact absurd rfl h
 | cons c t=>rfl
theorem letter_head {c:Nat} (h:(small c || capital c)=true):Lx.blank c=false/\c≠35:=by
 unfold small capital at h
 simp only [Bool.or_eq_true,Bool.and_eq_true,decide_eq_true_eq] at h
 refine ⟨?_,by omega⟩
 unfold Lx.blank
 simp
 omega
theorem small_cap {c:Nat} (h:small c=true):capital c=false:=by
 unfold small at h
 unfold capital
 simp at h ⊢
 omega
theorem tx_small {l:List Nat} (h:Va.wordB small l=true):Tx brk l [tN l]:=by
 obtain ⟨h0,h1,h2,h3⟩:=name_parts h
 refine tx_one h0 (letter_head (by rw [h2];rfl)) (fun r hr=>?_)
 unfold word
 rw [head_app h0,if_pos (by rw [h2];rfl),run_app h3 (brk_goes hr),if_neg (by omega),small_cap h2]
 rfl
theorem tx_name {l:List Nat} (h:Va.name l=true):Tx brk l [tN l]:=by
 unfold Va.name at h
 simp only [Bool.and_eq_true] at h
 exact tx_small h.2
theorem tx_var {l:List Nat} (h:Va.variable_ l=true):Tx brk l [tV l]:=by
 obtain ⟨h0,h1,h2,h3⟩:=name_parts (p:=capital) h
 refine tx_one h0 (letter_head (by rw [h2];simp)) (fun r hr=>?_)
 unfold word
 rw [head_app h0,if_pos (by rw [h2];simp),run_app h3 (brk_goes hr),if_neg (by omega),h2]
 rfl
/-- digits -/
def dig (u:Nat):List Nat:=(Lib.decDigits u).map UInt8.toNat
theorem numv_dec:∀ (l:List UInt8) (acc n:Nat),Lib.decFrom acc l=some n->(l.map UInt8.toNat).foldl (fun a c=>10 * a+(c - 48)) acc=n/\∀ b∈l,digit b.toNat=true
 | [],acc,n,h=>by
  simp [Lib.decFrom] at h
  exact ⟨by simpa using h,by simp⟩
 | b :: r,acc,n,h=>by
  unfold Lib.decFrom at h
  split at h
  ·rename_i d hd
   unfold Lib.digitVal at hd
   split at hd
   ·rename_i hb
    simp at hd
    have:=numv_dec r (acc * 10+d) n h
    refine ⟨?_,fun x hx=>?_⟩
    ·rw [List.map_cons,List.foldl_cons,<-this.1,<-hd]
     congr 1
     omega
    ·rcases List.mem_cons.1 hx with rfl | hx
     ·unfold digit;simp;omega
     ·exact this.2 x hx
   ·cases hd
  ·cases h
theorem dig_num (u:Nat):numv (dig u)=u/\∀ c∈dig u,digit c=true:=by
 have:=numv_dec _ 0 u (Va.decDigits_val u)
 refine ⟨this.1,fun c hc=>?_⟩
 obtain ⟨b,hb,rfl⟩:=List.mem_map.1 hc
 exact this.2 b hb
theorem dec_head:∀ (n u:Nat),u<n->u≠0->∃ c r,Lib.decDigits u=c :: r/\c.toNat≠48
 | 0,u,h,_=>by omega
 | n+1,u,h,h0=>by
  rw [Lib.decDigits]
  split
  ·rename_i hu
   refine ⟨_,[],rfl,?_⟩
   have:(UInt8.ofNat (48+u)).toNat=48+u:=by
    rw [UInt8.toNat_ofNat'];omega
   rw [this];omega
  ·obtain ⟨c,r,h1,h2⟩:=dec_head n (u / 10) (by omega) (by omega)
   rw [h1]
   exact ⟨c,r++[UInt8.ofNat (48+u % 10)],rfl,h2⟩
theorem run_allp {p:Nat->Bool}:∀ (l:List Nat),(∀ c∈l,p c=true)->run p l=l.length
 | [],_=>rfl
 | c :: t,h=>by rw [Lx.run_cons,if_pos (h c (by simp)),run_allp t (fun x hx=>h x (by simp [hx]))];rfl
theorem dig_ne (u:Nat):dig u≠[]:=by
 obtain ⟨c,r,h,-⟩:=Va.decDigits_head u
 unfold dig
 rw [h];simp
theorem digit_props {c:Nat} (h:digit c=true):small c=false/\capital c=false/\Lx.blank c=false/\c≠35/\goes c=true:=by
 unfold digit at h
 simp only [Bool.and_eq_true,decide_eq_true_eq] at h
 refine ⟨by unfold small;simp;omega,by unfold capital;simp;omega,by unfold Lx.blank;simp;omega,by omega,by unfold goes digit;simp [h]⟩
theorem headD_mem {l:List Nat} (h:l≠[]):l.headD 0∈l:=by
 cases l with
 | nil=>exact absurd rfl h
 | cons c t=>simp
theorem tx_dig {u:Nat} (h:u<=2147483647):Tx brk (dig u) [tD (dig u) u]:=by
 have hn:=dig_num u
 have h0:=dig_ne u
 obtain ⟨d1,d2,d3,d4,d5⟩:=digit_props (hn.2 _ (headD_mem h0))
 refine tx_one h0 ⟨d3,d4⟩ (fun r hr=>?_)
 have hg:=brk_goes hr
 have hr1:run digit (dig u++r)=(dig u).length:=run_app (run_allp _ hn.2) (by
  rcases hg with h | h
  ·refine .inl ?_
   generalize r.headD 0=c at *
   unfold goes at h
   simp at h
   exact h.2.2.1
  ·exact .inr h)
 have hr2:run goes (dig u++r)=(dig u).length:=run_app (run_allp _ (fun c hc=>(digit_props (hn.2 c hc)).2.2.2.2)) hg
 unfold word
 rw [head_app h0,if_neg (by rw [d1,d2];decide),if_pos (hn.2 _ (headD_mem h0)),hr1,hr2,List.take_left' rfl,hn.1,if_neg]
 intro hh
 rcases hh with hh | hh | hh
 ·by_cases hu:u=0
  ·subst hu
   have:dig 0=[48]:=by unfold dig;rw [Lib.decDigits_one (by omega)];rfl
   rw [this] at hh;simp at hh
  ·obtain ⟨c,t,h1,h2⟩:=dec_head (u+1) u (by omega) hu
   have:(dig u).headD 0=c.toNat:=by unfold dig;rw [h1];rfl
   rw [this] at hh
   exact h2 hh.2
 ·omega
 ·omega
theorem quoF_q:∀ (l:List Nat) (k:Nat) (acc r:List Nat) (n:Nat),(∀ c∈l,c<256)->(l.flatMap Va.qb).length+r.length<k->(acc++l).length<=64->quoF k (l.flatMap Va.qb++34 :: r) acc n=some (acc++l,n+(l.flatMap Va.qb).length+1)
 | [],0,acc,r,n,_,h,_=>by omega
 | [],k+1,acc,r,n,_,_,h64=>by
  simp at h64
  simp [quoF]
  omega
 | c :: t,0,acc,r,n,_,h,_=>by omega
 | c :: t,k+1,acc,r,n,hb,hk,h64=>by
  have hc:=hb c (by simp)
  have ht:=fun x hx=>hb x (List.mem_cons_of_mem c hx)
  have ih:=fun k' (h':(t.flatMap Va.qb).length+r.length<k') m=>quoF_q t k' (acc++[c]) r m ht h' (by simpa using h64)
  have e:acc++c :: t=acc++[c]++t:=by simp
  rw [e]
  rw [List.flatMap_cons,List.length_append] at hk
  rw [List.flatMap_cons,List.append_assoc,List.length_append]
  by_cases h1:c=34\/c=92
  ·have hq:Va.qb c=[92,c]:=by unfold Va.qb;rw [if_pos h1]
   rw [hq] at hk ⊢
   simp only [List.cons_append,List.nil_append,List.length_cons,List.length_nil] at hk ⊢
   rw [quoF,if_neg (by decide),if_neg (by decide),if_pos rfl]
   have he:esc (c :: (t.flatMap Va.qb++34 :: r))=some (c,1):=by unfold esc;simp only;rw [if_pos h1]
   rw [he]
   simp only
   rw [List.drop_one,List.tail_cons,ih k (by omega)]
   congr 2;omega
  ·by_cases h2:c=10
   ·have hq:Va.qb c=[92,110]:=by unfold Va.qb;rw [if_neg h1,if_pos h2]
    rw [hq] at hk ⊢
    simp only [List.cons_append,List.nil_append,List.length_cons,List.length_nil] at hk ⊢
    rw [quoF,if_neg (by decide),if_neg (by decide),if_pos rfl]
    have he:esc (110 :: (t.flatMap Va.qb++34 :: r))=some (10,1):=rfl
    rw [he]
    simp only
    subst h2
    rw [List.drop_one,List.tail_cons,ih k (by omega)]
    congr 2;omega
   ·by_cases h3:c<32\/126<c
    ·have hq:Va.qb c=[92,120,Va.hexd (c / 16),Va.hexd (c % 16)]:=by unfold Va.qb;rw [if_neg h1,if_neg h2,if_pos h3]
     rw [hq] at hk ⊢
     simp only [List.cons_append,List.nil_append,List.length_cons,List.length_nil] at hk ⊢
     rw [quoF,if_neg (by decide),if_neg (by decide),if_pos rfl]
     have he:esc (120 :: Va.hexd (c / 16) :: Va.hexd (c % 16) :: (t.flatMap Va.qb++34 :: r))=some (c,3):=by
      have:esc (120 :: Va.hexd (c / 16) :: Va.hexd (c % 16) :: (t.flatMap Va.qb++34 :: r))=match hexv (Va.hexd (c / 16)),hexv (Va.hexd (c % 16)) with
       | some x,some y=>some (16 * x+y,3)
       | _,_=>none:=rfl
      rw [this,Va.hexd_hexv (show c / 16<16 by omega),Va.hexd_hexv (show c % 16<16 by omega)]
      simp only
      congr 2;omega
     rw [he]
     simp only
     rw [show (120 :: Va.hexd (c / 16) :: Va.hexd (c % 16) :: (t.flatMap Va.qb++34 :: r)).drop 3=t.flatMap Va.qb++34 :: r from rfl,ih k (by omega)]
     congr 2;omega
    ·have hq:Va.qb c=[c]:=by unfold Va.qb;rw [if_neg h1,if_neg h2,if_neg h3]
     rw [hq] at hk ⊢
     simp only [List.cons_append,List.nil_append,List.length_cons,List.length_nil] at hk ⊢
     have h34:c≠34:=fun h=>h1 (.inl h)
     have h92:c≠92:=fun h=>h1 (.inr h)
     rw [quoF,if_neg h34,if_neg h2,if_neg h92,ih k (by omega)]
     congr 2;omega
theorem tx_quo {l:List Nat} (hb:∀ c∈l,c<256) (h64:l.length<=64):Tx any (Va.quoted l) [tQ l]:=by
 refine tx_one (by unfold Va.quoted;simp) ⟨rfl,by unfold Va.quoted;simp⟩ (fun r _=>?_)
 have hq:quo (Va.quoted l++r)=some (l,(Va.quoted l).length):=by
  unfold quo Va.quoted
  simp only [List.cons_append,List.drop_one,List.tail_cons,List.append_assoc,List.nil_append]
  rw [quoF_q l _ [] r 1 hb (by simp;omega) (by simpa using h64)]
  simp;omega
 unfold word
 rw [show (Va.quoted l++r).headD 0=34 from rfl,if_neg (by decide),if_neg (by decide),if_pos rfl,hq]
/-- marks -/
theorem tx_mark {c:Nat} (P:Nat->Bool) (h1:ones.contains c=true) (hp:∀ d,P d=true->two c d=false) (hc:small c=false/\capital c=false/\digit c=false/\c≠34/\Lx.blank c=false/\c≠35):Tx P [c] [tM [c]]:=by
 refine tx_one (by simp) ⟨hc.2.2.2.2.1,hc.2.2.2.2.2⟩ (fun r hr=>?_)
 have hm:Lx.mark ([c]++r)=1:=by
  cases r with
  | nil=>show Lx.mark [c]=1;unfold Lx.mark;simp only;rw [if_pos h1]
  | cons d t =>
   show Lx.mark (c :: d :: t)=1
   unfold Lx.mark
   simp only
   rw [if_neg (by rw [hp d hr];decide),if_pos h1]
 unfold word
 rw [show ([c]++r).headD 0=c from rfl,if_neg (by rw [hc.1,hc.2.1];decide),if_neg (by rw [hc.2.2.1];decide),if_neg hc.2.2.2.1,hm,if_neg (by decide)]
 rfl
theorem tx_two {a b:Nat} (h:two a b=true) (hc:small a=false/\capital a=false/\digit a=false/\a≠34/\Lx.blank a=false/\a≠35):Tx any [a,b] [tM [a,b]]:=by
 refine tx_one (by simp) ⟨hc.2.2.2.2.1,hc.2.2.2.2.2⟩ (fun r _=>?_)
 have hm:Lx.mark ([a,b]++r)=2:=by
  show Lx.mark (a :: b :: r)=2
  unfold Lx.mark
  simp only
  rw [if_pos h]
 unfold word
 rw [show ([a,b]++r).headD 0=a from rfl,if_neg (by rw [hc.1,hc.2.1];decide),if_neg (by rw [hc.2.2.1];decide),if_neg hc.2.2.2.1,hm,if_neg (by decide)]
 rfl
end Go.Proofs.YtohnmnfhmbmoaaaGreatDoor.Rt
