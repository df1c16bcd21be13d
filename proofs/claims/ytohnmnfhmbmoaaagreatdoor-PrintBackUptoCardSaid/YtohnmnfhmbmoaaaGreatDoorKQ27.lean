/- THE TEXTS MERGED: LxJoin LxAlone SySq SyBlankP SyDeepQ SyBlankL. -/
import Derived.Test.YtohnmnfhmbmoaaaGreatDoorKQ1
import Derived.Test.YtohnmnfhmbmoaaaGreatDoorKQ20
import Derived.Test.YtohnmnfhmbmoaaaGreatDoorKQ8
import Derived.Test.YtohnmnfhmbmoaaaGreatDoorKQ26
namespace Go.Proofs.YtohnmnfhmbmoaaaGreatDoor.Lx
set_option linter.unusedSimpArgs false
set_option linter.unusedVariables false
theorem esc_join {s:List Nat} {b j:Nat} (h:esc s=some (b,j)) (t:List Nat):esc (s++t)=some (b,j):=by
 match s with
 | []=>simp [esc] at h
 | [c] =>
  unfold esc at h ⊢
  simp only [List.cons_append,List.nil_append] at h ⊢
  by_cases h1:c=34\/c=92
  ·rw [if_pos h1] at h ⊢;exact h
  ·rw [if_neg h1] at h ⊢
   by_cases h2:c=110
   ·rw [if_pos h2] at h ⊢;exact h
   ·rw [if_neg h2] at h
    by_cases h3:c=120 <;> simp [h3] at h
 | [c,x] =>
  unfold esc at h ⊢
  simp only [List.cons_append,List.nil_append] at h ⊢
  by_cases h1:c=34\/c=92
  ·rw [if_pos h1] at h ⊢;exact h
  ·rw [if_neg h1] at h ⊢
   by_cases h2:c=110
   ·rw [if_pos h2] at h ⊢;exact h
   ·rw [if_neg h2] at h
    by_cases h3:c=120 <;> simp [h3] at h
 | c :: x :: y :: u=>simpa [esc] using h
theorem quoF_join:∀ (k:Nat) (s acc:List Nat) (n:Nat) (l:List Nat) (m:Nat),(∀ c∈s,c<256)->quoF k s acc n=some (l,m)->∀ (t:List Nat) (j:Nat),quoF (k+j) (s++t) acc n=some (l,m)
 | 0,_,_,_,_,_,_,h=>by simp [quoF] at h
 | k+1,[],_,_,_,_,_,h=>by simp [quoF] at h
 | k+1,c :: r,acc,n,l,m,hs,h=>fun t j=>by
  have hr:∀ c∈r,c<256:=fun x hx=>hs x (by simp [hx])
  rw [show k+1+j=(k+j)+1 by omega,List.cons_append]
  unfold quoF at h ⊢
  by_cases h1:c=34
  ·rw [if_pos h1] at h ⊢;exact h
  ·rw [if_neg h1] at h ⊢
   by_cases h2:c=10
   ·rw [if_pos h2] at h;simp at h
   ·rw [if_neg h2] at h ⊢
    by_cases h3:c=92
    ·rw [if_pos h3] at h ⊢
     cases he:esc r with
     | none=>rw [he] at h;simp at h
     | some p =>
      obtain ⟨b,m'⟩:=p
      rw [he] at h
      rw [esc_join he t]
      obtain ⟨e1,e2,-⟩:=esc_len hr he
      simp only at h ⊢
      rw [List.drop_append_of_le_length e2]
      exact quoF_join k _ _ _ l m (fun c hc=>hr c (List.mem_of_mem_drop hc)) h t j
    ·rw [if_neg h3] at h ⊢
     exact quoF_join k _ _ _ l m hr h t j
theorem quo_join {s l:List Nat} {m:Nat} (hs:∀ c∈s,c<256) (h:quo s=some (l,m)) (t:List Nat):quo (s++t)=some (l,m):=by
 cases s with
 | nil=>simp [quo,quoF] at h
 | cons c r =>
  unfold quo at h ⊢
  have:=quoF_join _ _ _ _ l m (fun c hc=>hs c (List.mem_of_mem_drop hc)) h t t.length
  rw [show (c :: r).length+t.length=(c :: r++t).length by simp;omega] at this
  exact this
theorem skip_stop:∀ (s:List Nat) (b:Bool),skipN false (s.drop (skipN b s))=0
 | [],b=>by simp [skipN]
 | c :: t,b=>by
  have ih:=skip_stop t (if c=35 then true else if c=10 then false else b)
  have e:skipN b (c :: t)=if !(if c=35 then true else if c=10 then false else b) && !blank c then 0 else skipN (if c=35 then true else if c=10 then false else b) t+1:=rfl
  by_cases h:(!(if c=35 then true else if c=10 then false else b) && !blank c)=true
  ·rw [e,if_pos h,List.drop_zero]
   simp only [Bool.and_eq_true,Bool.not_eq_true'] at h
   have h35:c≠35:=fun h0=>by rw [if_pos h0] at h;simp at h
   exact skip_none h.2 h35
  ·rw [e,if_neg h,List.drop_succ_cons]
   exact ih
theorem skip_done' (s:List Nat):skipN false (s.drop (skipN false s))=0:=skip_stop s false
theorem run_take (p:Nat->Bool) (s:List Nat) (k:Nat):run p (s.take k)=min k (run p s):=by
 induction s generalizing k with
 | nil=>simp [run_nil]
 | cons c t ih =>
  cases k with
  | zero=>simp [run_nil]
  | succ k =>
   rw [List.take_succ_cons,run_cons,run_cons,ih]
   split <;> omega
theorem esc_take {s:List Nat} {b j:Nat} (h:esc s=some (b,j)) (q:Nat) (hq:j<=q):esc (s.take q)=some (b,j):=by
 match s with
 | []=>simp [esc] at h
 | [c] =>
  unfold esc at h
  simp only at h
  by_cases h1:c=34\/c=92
  ·rw [if_pos h1] at h
   simp only [Option.some.injEq,Prod.mk.injEq] at h
   obtain ⟨rfl,rfl⟩:=h
   rw [List.take_of_length_le (by simpa using hq)]
   unfold esc;simp only;rw [if_pos h1]
  ·rw [if_neg h1] at h
   by_cases h2:c=110
   ·rw [if_pos h2] at h
    simp only [Option.some.injEq,Prod.mk.injEq] at h
    obtain ⟨rfl,rfl⟩:=h
    rw [List.take_of_length_le (by simpa using hq)]
    unfold esc;simp only;rw [if_neg h1,if_pos h2]
   ·rw [if_neg h2] at h
    by_cases h3:c=120 <;> simp [h3] at h
 | c :: x :: t =>
  unfold esc at h
  simp only at h
  by_cases h1:c=34\/c=92
  ·rw [if_pos h1] at h
   simp only [Option.some.injEq,Prod.mk.injEq] at h
   obtain ⟨rfl,rfl⟩:=h
   obtain ⟨q',rfl⟩:∃ q',q=q'+1:=⟨q - 1,by omega⟩
   rw [List.take_succ_cons]
   unfold esc;simp only;rw [if_pos h1]
  ·rw [if_neg h1] at h
   by_cases h2:c=110
   ·rw [if_pos h2] at h
    simp only [Option.some.injEq,Prod.mk.injEq] at h
    obtain ⟨rfl,rfl⟩:=h
    obtain ⟨q',rfl⟩:∃ q',q=q'+1:=⟨q - 1,by omega⟩
    rw [List.take_succ_cons]
    unfold esc;simp only;rw [if_neg h1,if_pos h2]
   ·rw [if_neg h2] at h
    by_cases h3:c=120
    ·rw [if_pos h3] at h
     cases t with
     | nil=>simp at h
     | cons y u =>
      have hj:j=3:=by
       simp only at h
       cases hx:hexv x with
       | none=>rw [hx] at h;simp at h
       | some u1 =>
        cases hy:hexv y with
        | none=>rw [hx,hy] at h;simp at h
        | some u2=>rw [hx,hy] at h;simp at h;omega
      subst hj
      obtain ⟨q',rfl⟩:∃ q',q=q'+3:=⟨q - 3,by omega⟩
      simp only [List.take_succ_cons]
      unfold esc
      simp only
      rw [if_neg h1,if_neg h2,if_pos h3]
      exact h
    ·simp [h3] at h
theorem quoF_take:∀ (k:Nat) (s acc:List Nat) (n:Nat) (l:List Nat) (m:Nat),(∀ c∈s,c<256)->(∀ c∈acc,c<256)->quoF k s acc n=some (l,m)->∀ k',m - n<=k'->quoF k' (s.take (m - n)) acc n=some (l,m)
 | 0,_,_,_,_,_,_,_,h=>by simp [quoF] at h
 | k+1,[],_,_,_,_,_,_,h=>by simp [quoF] at h
 | k+1,c :: r,acc,n,l,m,hs,ha,h=>fun k' hk=>by
  have hr:∀ c∈r,c<256:=fun x hx=>hs x (by simp [hx])
  have hl:=quoF_len (k+1) (c :: r) acc n l m hs ha h
  obtain ⟨q,hq⟩:∃ q,m - n=q+1:=⟨m - n - 1,by omega⟩
  obtain ⟨k'',rfl⟩:∃ k'',k'=k''+1:=⟨k' - 1,by omega⟩
  rw [hq,List.take_succ_cons]
  unfold quoF at h ⊢
  by_cases h1:c=34
  ·rw [if_pos h1] at h ⊢;exact h
  ·rw [if_neg h1] at h ⊢
   by_cases h2:c=10
   ·rw [if_pos h2] at h;simp at h
   ·rw [if_neg h2] at h ⊢
    by_cases h3:c=92
    ·rw [if_pos h3] at h ⊢
     cases he:esc r with
     | none=>rw [he] at h;simp at h
     | some p =>
      obtain ⟨b,j⟩:=p
      rw [he] at h
      simp only at h
      obtain ⟨e1,e2,e3⟩:=esc_len hr he
      have ha':∀ c∈acc++[b],c<256:=fun x hx=>by
       rcases List.mem_append.1 hx with hx | hx
       ·exact ha x hx
       ·simp at hx;omega
      have hl2:=quoF_len k (r.drop j) (acc++[b]) (n+1+j) l m (fun c hc=>hr c (List.mem_of_mem_drop hc)) ha' h
      rw [esc_take he q (by omega)]
      simp only
      have:=quoF_take k (r.drop j) (acc++[b]) (n+1+j) l m (fun c hc=>hr c (List.mem_of_mem_drop hc)) ha' h k'' (by omega)
      rw [List.drop_take,show q - j=m - (n+1+j) by omega]
      exact this
    ·rw [if_neg h3] at h ⊢
     have ha':∀ x∈acc++[c],x<256:=fun x hx=>by
      rcases List.mem_append.1 hx with hx | hx
      ·exact ha x hx
      ·simp at hx;have:=hs c (by simp);omega
     have:=quoF_take k r (acc++[c]) (n+1) l m hr ha' h k'' (by omega)
     rw [show q=m - (n+1) by omega]
     exact this
theorem quo_take {s l:List Nat} {m:Nat} (hs:∀ c∈s,c<256) (h:quo s=some (l,m)):quo (s.take m)=some (l,m):=by
 cases s with
 | nil=>simp [quo,quoF] at h
 | cons c r =>
  obtain ⟨l1,l2,-⟩:=quo_len hs h
  unfold quo at h ⊢
  obtain ⟨q,rfl⟩:∃ q,m=q+1:=⟨m - 1,by omega⟩
  have:=quoF_take _ _ _ _ l (q+1) (fun c hc=>hs c (List.mem_of_mem_drop hc)) (by simp) h (q+1) (by omega)
  simp only [List.take_succ_cons,List.drop_succ_cons,List.drop_zero,List.length_cons,List.length_take,Nat.add_sub_cancel] at this ⊢
  have hle:min q r.length=q:=by simp at l2;omega
  rw [hle]
  exact this
theorem mark_take (s:List Nat):mark (s.take (mark s))=mark s:=by
 match s with
 | []=>rfl
 | [a] =>
  by_cases h:ones.contains a=true
  ·have e:mark [a]=1:=by simp only [mark];rw [if_pos h]
   rw [e];exact e
  ·have e:mark [a]=0:=by simp only [mark];rw [if_neg h]
   rw [e];rfl
 | a :: b :: t =>
  by_cases h1:two a b=true
  ·have e:∀ u,mark (a :: b :: u)=2:=fun u=>by simp only [mark];rw [if_pos h1]
   rw [e];exact e []
  ·by_cases h:ones.contains a=true
   ·have e:mark (a :: b :: t)=1:=by simp only [mark];rw [if_neg h1,if_pos h]
    rw [e]
    show mark [a]=1
    simp only [mark];rw [if_pos h]
   ·have e:mark (a :: b :: t)=0:=by simp only [mark];rw [if_neg h1,if_neg h]
    rw [e];rfl
theorem headD_take {s:List Nat} {n:Nat} (h:1<=n):(s.take n).headD 0=s.headD 0:=by
 cases s with
 | nil=>simp
 | cons c t =>
  obtain ⟨q,rfl⟩:∃ q,n=q+1:=⟨n - 1,by omega⟩
  rfl
/-- a word by itself is that word -/
theorem word_take {s:List Nat} {w:Wd} (hb:∀ c∈s,c<256) (h0:s≠[]) (h:word s=.ok w):word (s.take w.n)=.ok w:=by
 obtain ⟨l1,l2,-⟩:=word_len hb h0 h
 have e1:=headD_take (s:=s) l1
 unfold word at h ⊢
 rw [e1]
 by_cases c1:(small (s.headD 0) || capital (s.headD 0))=true
 ·rw [if_pos c1] at h ⊢
  by_cases c2:32<run goes s
  ·rw [if_pos c2] at h;simp at h
  ·rw [if_neg c2] at h
   simp only [Rw.ok.injEq] at h
   subst h
   simp only
   have e2:run goes (s.take (run goes s))=run goes s:=by rw [run_take];omega
   rw [e2,if_neg c2]
 ·rw [if_neg c1] at h ⊢
  by_cases c2:digit (s.headD 0)=true
  ·rw [if_pos c2] at h ⊢
   by_cases c3:(1<run digit s/\s.headD 0=48)\/2147483647<numv (s.take (run digit s))\/run digit s<run goes s
   ·rw [if_pos c3] at h;simp at h
   ·rw [if_neg c3] at h
    simp only [Rw.ok.injEq] at h
    subst h
    simp only
    have e2:run digit (s.take (run digit s))=run digit s:=by rw [run_take];omega
    have e3:run goes (s.take (run digit s))=min (run digit s) (run goes s):=run_take _ _ _
    rw [e2,e3,List.take_take,Nat.min_self,if_neg (by omega)]
  ·rw [if_neg c2] at h ⊢
   by_cases c3:s.headD 0=34
   ·rw [if_pos c3] at h ⊢
    cases hq:quo s with
    | none=>rw [hq] at h;simp at h
    | some p =>
     obtain ⟨l,m⟩:=p
     rw [hq] at h
     simp only [Rw.ok.injEq] at h
     subst h
     simp only
     rw [quo_take hb hq]
   ·rw [if_neg c3] at h ⊢
    by_cases c4:mark s=0
    ·rw [if_pos c4] at h;simp at h
    ·rw [if_neg c4] at h
     simp only [Rw.ok.injEq] at h
     subst h
     simp only
     rw [mark_take,if_neg c4]
/-- a word of a text by itself -/
theorem alone {s:List Nat} {w:Wd} (hb:∀ c∈s,c<256) (h0:s≠[]) (hsk:skipN false s=0) (hl:s.length<=65536) (h:word s=.ok w) :
  tokens (s.take w.n)=[⟨w.kind,s.take w.n,w.vk,w.num,w.sym,1,1⟩]/\fault (s.take w.n)=(0,0,0):=by
 obtain ⟨l1,l2,-⟩:=word_len hb h0 h
 have hw:=word_take hb h0 h
 have hlen:(s.take w.n).length=w.n:=by rw [List.length_take];omega
 generalize hu:s.take w.n=u at *
 have hu0:u≠[]:=by rintro rfl;simp at hlen;omega
 have hsu:skipN false u=0:=by
  cases s with
  | nil=>simp at h0
  | cons c t =>
   obtain ⟨q,hq⟩:∃ q,w.n=q+1:=⟨w.n - 1,by omega⟩
   rw [hq,List.take_succ_cons] at hu
   subst hu
   unfold skipN at hsk ⊢
   simp only at hsk ⊢
   by_cases hh:(!(if c=35 then true else if c=10 then false else false) && !blank c)=true
   ·rw [if_pos hh]
   ·rw [if_neg hh] at hsk;simp at hsk
 have hks:(start u).skip=start u:=by
  unfold St.skip
  rw [show (start u).s=u from rfl,hsu]
  rfl
 have n1:next (start u)=({ start u with s:=[],pos:=adv (1,1) u,fin:=adv (1,1) u },some ⟨w.kind,u,w.vk,w.num,w.sym,1,1⟩):=by
  unfold next
  have c1:(start u).long=false:=by simp [start];omega
  rw [if_neg (by simp [start]),c1]
  simp only [Bool.false_eq_true,if_false]
  rw [hks,show (start u).s=u from rfl,if_neg hu0,hw]
  simp only
  rw [<-hlen,List.drop_length,List.take_length]
  rfl
 have n2:∀ x:St,x.s=[]->x.code=0->x.long=false->next x=(x,none):=by
  intro x hx hc hl
  have hk:x.skip=x:=by
   unfold St.skip
   rw [hx]
   simp only [skipN,List.drop_nil,List.take_nil,adv]
   cases x;simp at hx;subst hx;rfl
  unfold next
  rw [if_neg (by omega),hl]
  simp only [Bool.false_eq_true,if_false]
  rw [hk,if_pos hx]
 have hg:given u=([⟨w.kind,u,w.vk,w.num,w.sym,1,1⟩],{ start u with s:=[],pos:=adv (1,1) u,fin:=adv (1,1) u }):=by
  unfold given
  obtain ⟨q,hq⟩:∃ q,u.length=q+1:=⟨u.length - 1,by omega⟩
  rw [hq,allF,n1]
  simp only
  rw [allF,n2 _ rfl rfl (by simp [start];omega)]
 unfold tokens fault
 rw [hg]
 exact ⟨rfl,rfl⟩
/-- is nothing there but blanks and remarks? -/
def bare:Bool->List Nat->Bool
 | _,[]=>true
 | r,c :: t=>if c=10 then bare false t else if c=35 then bare true t else if !r && (c != 32 && (c != 9 && c != 13)) then false else bare r t
theorem skip_take:∀ (s:List Nat) (b:Bool) (k:Nat),skipN b (s.take k)=min k (skipN b s)
 | [],b,k=>by simp [skipN]
 | c :: t,b,0=>by simp [skipN]
 | c :: t,b,k+1=>by
  rw [List.take_succ_cons]
  unfold skipN
  simp only
  rw [skip_take t _ k]
  generalize (if c=35 then true else if c=10 then false else b)=b'
  by_cases h:(!b' && !blank c)=true
  ·rw [if_pos h,if_pos h];omega
  ·rw [if_neg h,if_neg h];omega
theorem word_takeN {s:List Nat} {w:Wd} (hb:∀ c∈s,c<256) (h0:s≠[]) (h:word s=.ok w) (k:Nat) (hk:w.n<=k):word (s.take k)=.ok w:=by
 obtain ⟨l1,l2,-⟩:=word_len hb h0 h
 have e1:=headD_take (s:=s) (n:=k) (by omega)
 unfold word at h ⊢
 rw [e1]
 by_cases c1:(small (s.headD 0) || capital (s.headD 0))=true
 ·rw [if_pos c1] at h ⊢
  by_cases c2:32<run goes s
  ·rw [if_pos c2] at h;simp at h
  ·rw [if_neg c2] at h
   simp only [Rw.ok.injEq] at h
   subst h
   simp only at hk
   have e2:run goes (s.take k)=run goes s:=by rw [run_take];omega
   rw [e2,if_neg c2]
 ·rw [if_neg c1] at h ⊢
  by_cases c2:digit (s.headD 0)=true
  ·rw [if_pos c2] at h ⊢
   by_cases c3:(1<run digit s/\s.headD 0=48)\/2147483647<numv (s.take (run digit s))\/run digit s<run goes s
   ·rw [if_pos c3] at h;simp at h
   ·rw [if_neg c3] at h
    simp only [Rw.ok.injEq] at h
    subst h
    simp only at hk
    have e2:run digit (s.take k)=run digit s:=by rw [run_take];omega
    have e3:run goes (s.take k)=min k (run goes s):=run_take _ _ _
    rw [e2,e3,List.take_take,show min (run digit s) k=run digit s by omega,if_neg (by omega)]
  ·rw [if_neg c2] at h ⊢
   by_cases c3:s.headD 0=34
   ·rw [if_pos c3] at h ⊢
    cases hq:quo s with
    | none=>rw [hq] at h;simp at h
    | some p =>
     obtain ⟨l,m⟩:=p
     rw [hq] at h
     simp only [Rw.ok.injEq] at h
     subst h
     simp only at hk l2
     have h1:=quo_take hb hq
     have h2:=quo_join (fun c hc=>hb c (List.mem_of_mem_take hc)) h1 ((s.drop m).take (k - m))
     rw [<-List.take_add,show m+(k - m)=k by omega] at h2
     rw [h2]
   ·rw [if_neg c3] at h ⊢
    by_cases c4:mark s=0
    ·rw [if_pos c4] at h;simp at h
    ·rw [if_neg c4] at h
     simp only [Rw.ok.injEq] at h
     subst h
     simp only at hk
     have:mark (s.take k)=mark s:=by
      match s,h0,k,hk with
      | [a],_,k,hk =>
       rw [List.take_of_length_le (by simp;simp at l1;omega)]
      | a :: b :: t,_,0,hk=>simp at l1;omega
      | a :: b :: t,_,1,hk =>
       have:mark (a :: b :: t)=1:=by omega
       have h1:two a b=false:=by
        cases ht:two a b with
        | false=>rfl
        | true=>simp [mark,ht] at this
       simp only [mark,h1] at this
       have h2:ones.contains a=true:=by
        cases ho:ones.contains a with
        | true=>rfl
        | false=>rw [ho] at this;simp at this
       simp only [List.take_succ_cons,List.take_zero,mark,h1,h2]
       rfl
      | a :: b :: t,_,k+2,hk=>simp [mark]
     rw [this,if_neg c4]
/-- s, that begins at place p, begins with the words l; what is left, and its place -/
inductive Sq:List Nat->Nat × Nat->List Tok->List Nat->Nat × Nat->Prop
 | nil (s:List Nat) (p:Nat × Nat):Sq s p [] s p
 | word {s:List Nat} {p:Nat × Nat} {u:List Nat} {w:Wd} {l:List Tok} {r:List Nat} {q:Nat × Nat} (hs:s.drop (skipN false s)=u) (h0:u≠[]) (hw:word u=.ok w)
   (h:Sq (u.drop w.n) (adv (adv p (s.take (skipN false s))) (u.take w.n)) l r q) :
   Sq s p (⟨w.kind,u.take w.n,w.vk,w.num,w.sym,(adv p (s.take (skipN false s))).1,(adv p (s.take (skipN false s))).2⟩ :: l) r q
theorem Sq.trans {a b c:List Nat} {p q o:Nat × Nat} {l m:List Tok} (h:Sq a p l b q) (k:Sq b q m c o):Sq a p (l++m) c o:=by
 induction h with
 | nil s p=>exact k
 | word hs h0 hw h ih=>exact .word hs h0 hw (ih k)
theorem Sq.split {c:List Nat} {o:Nat × Nat} (m:List Tok):∀ {l:List Tok} {a:List Nat} {p:Nat × Nat},Sq a p (l++m) c o->∃ b q,Sq a p l b q/\Sq b q m c o
 | [],a,p,h=>⟨a,p,.nil a p,h⟩
 | t :: l,a,p,h=>by
  rw [List.cons_append] at h
  generalize hx:t :: (l++m)=x at h
  cases h with
  | nil=>cases hx
  | word hs h0 hw h =>
   simp only [List.cons.injEq] at hx
   obtain ⟨rfl,hx⟩:=hx
   subst hx
   obtain ⟨b,q,h1,h2⟩:=Sq.split m h
   exact ⟨b,q,.word hs h0 hw h1,h2⟩
/-- nothing but blanks and remarks -/
def Bl (s:List Nat):Prop:=s.drop (skipN false s)=[]
theorem all_of_sq {s r:List Nat} {p q:Nat × Nat} {l:List Tok} (h:Sq s p l r q):∀ (x:St) (k:Nat),x.s=s->x.pos=p->x.code=0->x.long=false->l.length<k->Bl r->∃ y,allF k x=(l,y)/\y.code=0:=by
 induction h with
 | nil s p =>
  intro x k hx hp hc hl hk hb
  obtain ⟨k,rfl⟩:∃ m,k=m+1:=⟨k - 1,by omega⟩
  have hn:next x=(x.skip,none):=by
   unfold next
   rw [if_neg (by omega),hl]
   have:x.skip.s=[]:=by unfold St.skip;rw [hx];exact hb
   rw [if_pos this]
   rfl
  exact ⟨x.skip,by rw [allF,hn],hc⟩
 | @word s p u w l r q hs h0 hw h ih =>
  intro x k hx hp hc hl hk hb
  obtain ⟨k,rfl⟩:∃ m,k=m+1:=⟨k - 1,by rw [List.length_cons] at hk;omega⟩
  have e1:x.skip.s=u:=by unfold St.skip;rw [hx];exact hs
  have e2:x.skip.pos=adv p (s.take (skipN false s)):=by unfold St.skip;rw [hx,hp]
  have hn:next x=({ x.skip with s:=u.drop w.n,pos:=adv x.skip.pos (u.take w.n),fin:=adv x.skip.pos (u.take w.n) },some ⟨w.kind,u.take w.n,w.vk,w.num,w.sym,x.skip.pos.1,x.skip.pos.2⟩):=by
   unfold next
   rw [if_neg (by omega),hl,e1,if_neg h0,hw]
   rfl
  obtain ⟨y,h1,h2⟩:=ih { x.skip with s:=u.drop w.n,pos:=adv x.skip.pos (u.take w.n),fin:=adv x.skip.pos (u.take w.n) } k rfl (by rw [e2]) hc hl (by simpa using hk) hb
  refine ⟨y,?_,h2⟩
  rw [allF,hn]
  simp only
  rw [h1,e2]
theorem Sq.len {s r:List Nat} {p q:Nat × Nat} {l:List Tok} (h:Sq s p l r q) (hb:∀ c∈s,c<256):l.length+r.length<=s.length:=by
 induction h with
 | nil s p=>simp
 | @word s p u w l r q hs h0 hw h ih =>
  have hu:∀ c∈u,c<256:=fun c hc=>hb c (by rw [<-hs] at hc;exact List.mem_of_mem_drop hc)
  obtain ⟨l1,l2,-⟩:=word_len hu h0 hw
  have:=ih (fun c hc=>hu c (List.mem_of_mem_drop hc))
  have hul:u.length<=s.length:=by rw [<-hs,List.length_drop];omega
  rw [List.length_drop] at this
  rw [List.length_cons]
  omega
theorem given_of_sq {s r:List Nat} {q:Nat × Nat} {l:List Tok} (h:Sq s (1,1) l r q) (hb:∀ c∈s,c<256) (hr:Bl r) (hl:s.length<=65536):(given s).1=l/\(given s).2.code=0:=by
 have:=h.len hb
 obtain ⟨y,h1,h2⟩:=all_of_sq h (start s) (s.length+1) rfl rfl rfl (by simp [start];omega) (by omega) hr
 unfold given
 rw [h1]
 exact ⟨rfl,h2⟩
/-- cut off behind the words -/
theorem Sq.take {s r:List Nat} {p q:Nat × Nat} {l:List Tok} (h:Sq s p l r q):∀ (hb:∀ c∈s,c<256) (j:Nat),Sq (s.take (s.length - r.length+j)) p l (r.take j) q:=by
 induction h with
 | nil s p =>
  intro hb j
  rw [show s.length - s.length+j=j by omega]
  exact .nil _ _
 | @word s p u w l r q hs h0 hw h ih =>
  intro hb j
  have hu:∀ c∈u,c<256:=fun c hc=>hb c (by rw [<-hs] at hc;exact List.mem_of_mem_drop hc)
  obtain ⟨l1,l2,-⟩:=word_len hu h0 hw
  have hd:∀ c∈u.drop w.n,c<256:=fun c hc=>hu c (List.mem_of_mem_drop hc)
  have ih:=ih hd j
  have hlen:=h.len hd
  rw [List.length_drop] at hlen
  have hul:u.length=s.length - skipN false s:=by rw [<-hs,List.length_drop]
  have hsk:=skipN_le false s
  have hul0:0<u.length:=List.length_pos_iff.2 h0
  generalize hJ:s.length - r.length+j=J
  have hJ2:skipN false s+w.n<=J:=by omega
  have hsk2:skipN false (s.take J)=skipN false s:=by rw [skip_take];omega
  have e1:(s.take J).drop (skipN false (s.take J))=u.take (J - skipN false s):=by rw [hsk2,List.drop_take,hs]
  have e2:(s.take J).take (skipN false (s.take J))=s.take (skipN false s):=by rw [hsk2,List.take_take,show min (skipN false s) J=skipN false s by omega]
  have e3:(u.take (J - skipN false s)).take w.n=u.take w.n:=by rw [List.take_take,show min w.n (J - skipN false s)=w.n by omega]
  have e4:(u.take (J - skipN false s)).drop w.n=(u.drop w.n).take ((u.drop w.n).length - r.length+j):=by
   rw [List.drop_take,List.length_drop]
   congr 1
   omega
  have:=Sq.word (s:=s.take J) (p:=p) (l:=l) (r:=r.take j) (q:=q) e1 (by
   intro h5
   have:=congrArg List.length h5
   rw [List.length_take,List.length_nil] at this
   omega) (word_takeN hu h0 hw _ (by omega)) (by rw [e2,e3,e4];exact ih)
  rw [e2,e3] at this
  exact this
/-- at another place the words are the same but for their places -/
theorem Sq.place {s r:List Nat} {p q:Nat × Nat} {l:List Tok} (h:Sq s p l r q):∀ p',∃ l' q',Sq s p' l' r q'/\l'.map (fun t=>(t.kind,t.text,t.vk,t.num,t.sym))=l.map (fun t=>(t.kind,t.text,t.vk,t.num,t.sym)):=by
 induction h with
 | nil s p=>exact fun p'=>⟨[],p',.nil _ _,rfl⟩
 | word hs h0 hw h ih =>
  intro p'
  obtain ⟨l',q',h1,h2⟩:=ih (adv (adv p' _) _)
  exact ⟨_,q',.word hs h0 hw h1,by simp [h2]⟩
theorem run_all (p:Nat->Bool) (s:List Nat):∀ c∈s.take (run p s),p c=true:=by
 unfold run
 induction s with
 | nil=>simp
 | cons c t ih =>
  rw [List.takeWhile_cons]
  split
  ·rename_i hc
   intro d hd
   simp only [List.length_cons,List.take_succ_cons,List.mem_cons] at hd
   rcases hd with rfl | hd
   ·exact hc
   ·exact ih d hd
  ·simp
/-- a name begins with a small letter -/
theorem word_name {s:List Nat} {w:Wd} (h:word s=.ok w) (hk:w.kind=1):small (s.headD 0)=true:=by
 unfold word at h
 split at h
 ·rename_i hc
  split at h
  ·simp at h
  ·simp at h;subst h
   simp only at hk
   rw [Bool.or_eq_true] at hc
   rcases hc with hc | hc
   ·exact hc
   ·simp at hk hc;simp [hc] at hk
 ·split at h
  ·split at h <;> simp at h
   subst h;simp at hk
  ·split at h
   ·split at h <;> simp at h
    subst h;simp at hk
   ·split at h <;> simp at h
    subst h;simp at hk
/-- a word of some text -/
structure Wt (t:Tok):Prop where
 word:∃ w,Lx.word t.text=.ok w/\w.n=t.text.length/\w.kind=t.kind/\w.vk=t.vk/\w.num=t.num/\w.sym=t.sym
 ne:t.text≠[]
 byte:∀ c∈t.text,c<256
 head:∀ r,skipN false (t.text++r)=0
theorem skip0 {c:Nat} {t:List Nat} (h:skipN false (c :: t)=0):c≠35/\blank c=false:=by
 unfold skipN at h
 simp only at h
 by_cases hc:c=35
 ·subst hc;simp at h
 ·rw [if_neg hc] at h
  refine ⟨hc,?_⟩
  by_cases h10:c=10
  ·subst h10;simp [blank] at h
  ·rw [if_neg h10] at h
   cases hb:blank c with
   | false=>rfl
   | true=>rw [hb] at h;simp at h
theorem Sq.words {s r:List Nat} {p q:Nat × Nat} {l:List Tok} (h:Sq s p l r q):∀ (hb:∀ c∈s,c<256),∀ t∈l,Wt t:=by
 induction h with
 | nil=>intro _ t ht;simp at ht
 | @word s p u w l r q hs h0 hw h ih =>
  intro hb t ht
  have hu:∀ c∈u,c<256:=fun c hc=>hb c (by rw [<-hs] at hc;exact List.mem_of_mem_drop hc)
  obtain ⟨l1,l2,-⟩:=word_len hu h0 hw
  rcases List.mem_cons.1 ht with rfl | ht
  ·have hlen:(u.take w.n).length=w.n:=by rw [List.length_take];omega
   refine ⟨⟨w,word_take hu h0 hw,hlen.symm,rfl,rfl,rfl,rfl⟩,?_,fun c hc=>hu c (List.mem_of_mem_take hc),fun r=>?_⟩
   ·intro e
    simp only at e
    rw [e] at hlen
    simp at hlen
    omega
   ·simp only
    have hz:skipN false u=0:=by rw [<-hs];exact skip_done' s
    cases u with
    | nil=>exact absurd rfl h0
    | cons c t =>
     obtain ⟨n,hn⟩:∃ n,w.n=n+1:=⟨w.n - 1,by omega⟩
     rw [hn,List.take_succ_cons,List.cons_append]
     obtain ⟨h1,h2⟩:=skip0 hz
     exact skip_none h2 h1
  ·exact ih (fun c hc=>hu c (List.mem_of_mem_drop hc)) t ht
/-- the blanks -/
def bks:List (List Nat):=[[32],[10],[9,32],[32,32,13,10],[32,35,32,110,111,116,32,97,32,119,111,114,100,46,10],[10,10]]
/-- words with blanks ahead of each -/
inductive BT:List Tok->List Nat->Prop
 | nil:BT [] []
 | snoc {l:List Tok} {s:List Nat} {b:List Nat} {t:Tok} (h:BT l s) (hb:b∈bks):BT (l++[t]) (s++(b++t.text))
end Go.Proofs.YtohnmnfhmbmoaaaGreatDoor.Lx
namespace Go.Proofs.YtohnmnfhmbmoaaaGreatDoor.Sy
set_option linter.unusedVariables false
open Lx (Tok goes)
open Pr (Ex Li)
set_option linter.unusedSimpArgs false
theorem at_all {v:Env} {ts:List Sh} (h:v.ws.map sh=ts):At v 0 ts:=by
 subst h
 intro j hj
 rw [List.length_map] at hj
 rw [List.getElem_map,Nat.zero_add]
 unfold Env.tk
 rw [List.getD_eq_getElem?_getD,List.getElem?_eq_getElem hj]
 rfl
section
variable {s:List Nat} {l:List Sh} {d:Nat}
end
open Pr (Term Atom Ex Li Rul Rel Prog)
set_option linter.unusedVariables false
set_option linter.unusedSimpArgs false
theorem liMs_bare:∀ (d:Nat) (l:List Li),liDs l<d->liMs (l.map bareL)=liMs l
 | 0,l,h=>absurd h (by omega)
 | d+1,[],h=>rfl
 | d+1,.mk k a op le re fn av of body ln cl :: r,h=>by
  simp only [liDs,liD] at h
  rw [List.map_cons,bareL_eq]
  simp only [liMs,liM,List.length_map]
  rw [liMs_bare d body (by omega),liMs_bare (d+1) r (by omega)]
theorem liMs_bareL (l:List Li):liMs (l.map bareL)=liMs l:=liMs_bare (liDs l+1) l (Nat.lt_succ_self _)
theorem bareP_M {p:Prog} (h:PgM p):PgM (bareP p):=by
 refine ⟨by simpa [bareP] using h.rels,by simpa [bareP] using h.rules,fun r hr=>?_,fun r hr=>?_,fun r hr=>?_,fun r hr=>?_⟩
 all_goals
  simp only [bareP,List.mem_map] at hr
  obtain ⟨q,hq,rfl⟩:=hr
 ·exact h.types q hq
 ·exact h.terms q hq
 ·simpa [bareU] using h.body q hq
 ·simpa [bareU,liMs_bareL] using h.deep q hq
end Go.Proofs.YtohnmnfhmbmoaaaGreatDoor.Sy
