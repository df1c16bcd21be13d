/- THE TEXTS MERGED: SoLent SoMrg Tail SoMg SoSrt. -/
import Derived.Test.YtcalbbfkgdfidaaDoorKV6
import Derived.Deep.RegionHeld
namespace Go.Proofs.YtcalbbfkgdfidaaDoor
open Go.RowKit Go.Sort Go.Lib
set_option linter.unusedVariables false
set_option linter.unusedSimpArgs false
set_option maxRecDepth 100000
/-- a slice of tagged facts as it lies -/
def GRow (w:World) (v:Value) (T:Nat->Tgd) (n:Nat):Prop :=
 (∃ a c,v=.slice a 0 c/\n=0)\/(∃ b off cap,v=.slice (some ⟨b,off,none⟩) n cap/\∀ i,i<n->w.cell? ⟨b,off+i * 3,none⟩=some (.string (T i).rel)/\w.cell? ⟨b,off+i * 3+1,none⟩=some (T i).u/\w.cell? ⟨b,off+i * 3+2,none⟩=some (.int .i64 (T i).tag))
theorem GRow.lit {w:World} {v:Value} {T:Nat->Tgd} {n:Nat} (h:GRow w v T n):∃ a c,v=.slice a n c:=by
 rcases h with ⟨a,c,rfl,rfl⟩ | ⟨b,off,cap,rfl,-⟩
 ·exact ⟨_,_,rfl⟩
 ·exact ⟨_,_,rfl⟩
theorem GRow.past {S:List Nat} {w w':World} {v:Value} {T:Nat->Tgd} {n:Nat} (h:GRow w v T n) (hm:Mod S w w') (hS:∀ s∈S,w.heap.size<=s):GRow w' v T n:=by
 have key:∀ (a:Addr) u,w.cell? a=some u->w'.cell? a=some u:=fun a u hu=>hm.cell hu (fun hs=>by
  have:=hS _ hs
  simp [World.cell?,Array.getElem?_eq_none this] at hu)
 rcases h with h | ⟨b,off,cap,rfl,h⟩
 ·exact .inl h
 ·exact .inr ⟨b,off,cap,rfl,fun i hi=>⟨key _ _ (h i hi).1,key _ _ (h i hi).2.1,key _ _ (h i hi).2.2⟩⟩
theorem GRow.at {w:World} {a:Option Addr} {c:Nat} {T:Nat->Tgd} {n:Nat} (h:GRow w (.slice a n c) T n) (i:Nat) (hi:i<n) :
  ∃ b off,a=some ⟨b,off,none⟩/\w.cell? ⟨b,off+i * 3,none⟩=some (.string (T i).rel)/\w.cell? ⟨b,off+i * 3+1,none⟩=some (T i).u/\w.cell? ⟨b,off+i * 3+2,none⟩=some (.int .i64 (T i).tag):=by
 rcases h with ⟨a,c,-,h0⟩ | ⟨b,off,cap,hh,h⟩
 ·omega
 ·simp only [Value.slice.injEq] at hh
  exact ⟨b,off,hh.1,h i hi⟩
theorem range_len (n:Nat):(List.range' 0 n).length=n:=by simp
theorem range_getD (n p:Nat) (hp:p<n):(List.range' 0 n).getD p 0=p:=by simp [hp]
theorem range_snocG (n:Nat):List.range' 0 (n+1)=List.range' 0 n++[n]:=by rw [List.range'_1_concat];simp
theorem encG_get (T:Nat->Tgd) (n j:Nat) (hj:j<n * 3):(flL (encG T) 3 (List.range' 0 n))[j]?=(encG T (j / 3))[j % 3]?:=by
 have hj2:j / 3<n:=by omega
 rw [flL_get _ _ _ _ (by rw [range_len];exact hj),get_flatK _ _ _ j (by rw [List.size_toArray,range_len];exact hj)]
 have e1:(List.range' 0 n).toArray[j / 3]! =j / 3:=by simp [hj2]
 rw [e1]
 have h3:j % 3=0\/j % 3=1\/j % 3=2:=by omega
 rcases h3 with hm | hm | hm <;> rw [hm] <;> rfl
theorem GRow.cells {w:World} {b off c:Nat} {T:Nat->Tgd} {n:Nat} (h:∀ i,i<n->w.cell? ⟨b,off+i * 3,none⟩=some (.string (T i).rel)/\w.cell? ⟨b,off+i * 3+1,none⟩=some (T i).u/\w.cell? ⟨b,off+i * 3+2,none⟩=some (.int .i64 (T i).tag)) (j:Nat) (u:Value)
  (hu:(flL (encG T) 3 (List.range' 0 n))[j]?=some u):w.cell? ((⟨b,off,none⟩:Addr).add j)=some u:=by
 have hj:j<n * 3:=by have:=(List.getElem?_eq_some_iff.1 hu).1;rwa [flL_len,range_len] at this
 rw [encG_get _ _ _ hj] at hu
 obtain ⟨h1,h2,h3⟩:=h (j / 3) (by omega)
 rw [addr_add]
 have hm3:j % 3=0\/j % 3=1\/j % 3=2:=by omega
 rcases hm3 with hm | hm | hm
 ·rw [hm] at hu;rw [show off+j=off+j / 3 * 3 by omega,h1];exact hu
 ·rw [hm] at hu;rw [show off+j=off+j / 3 * 3+1 by omega,h2];exact hu
 ·rw [hm] at hu;rw [show off+j=off+j / 3 * 3+2 by omega,h3];exact hu
/-- copy into the head of a row of tagged facts of the call's own that is no shorter -/
theorem wpList_copy_tg {ops:Array Oper} {rest:List Oper} {o:Oper} {a:Act} {Q:Exit->Act->World->Prop} (w:World) (hgd:o.guard=none) (d s:Operand)
  (ho:o.op=.call { callee:=.builtin .copy,args:=#[d,s],argTypes:=#[22,22] })
  (g dLen dCap:Nat) (sp:Option Addr) (n sCap:Nat) (T:Nat->Tgd) (hU:∀ i,∃ a n c,(T i).u=.slice a n c) (hd:a.eval d=.slice (some ⟨g,0,none⟩) dLen dCap) (hs:a.eval s=.slice sp n sCap)
  (cur:List Value) (hg:w.heap[g]?=some (.cells cur.toArray 28 (0,0))) (hle:n<=dLen) (hcl:cur.length=dLen * 3) (hr:GRow w (.slice sp n sCap) T n)
  (h:∀ w',Hid (w'.heap[g]?=some (.cells (flL (encG T) 3 (List.range' 0 n)++cur.drop (n * 3)).toArray 28 (0,0)))->Mod [g] w w'->wpList Tryd.prog ops Q rest (a.put o.dst (goInt n)) w') :
  wpList Tryd.prog ops Q (o :: rest) a w:=by
 have hu:=Tryd.underlying22
 have hsz:(Tryd.prog.info? 28).map (·.size)=some 3:=by kernel_rfl
 have hmin:Nat.min n dLen=n:=Nat.min_eq_left hle
 refine wpList_plain hgd fun K hK=>?_
 by_cases h0:n=0
 ·have hrun:=run_copy_nonek (P:=Tryd.prog) w 22 22 o.type 28 3 (some ⟨g,0,none⟩) sp dLen dCap n sCap hu hsz (by rw [hmin];exact h0)
  unfold Oper.wp
  simp [execOp,ho,resolve,invoke,builtin,hd,hs,hrun,Result.andThen]
  have:=h w (Hxq (by subst h0;simpa [flL,flatK] using hg)) (Mod.refl _ _)
  rw [h0] at this
  exact hK _ _ this
 ·obtain ⟨b,off,rfl,-⟩:=hr.at 0 (by omega)
  have hv:∀ i,i<n->w.cell? ⟨b,off+i * 3,none⟩=some (.string (T i).rel)/\w.cell? ⟨b,off+i * 3+1,none⟩=some (T i).u/\w.cell? ⟨b,off+i * 3+2,none⟩=some (.int .i64 (T i).tag):=by
   intro i hi
   obtain ⟨b',off',e,hv⟩:=hr.at i hi
   simp only [Option.some.injEq,Addr.mk.injEq,and_true] at e
   obtain ⟨rfl,rfl⟩:=e
   exact hv
  have hfl:(flL (encG T) 3 (List.range' 0 n)).length=n * 3:=by rw [flL_len,range_len]
  have hrun:=run_copy_rowk (P:=Tryd.prog) w 22 22 o.type 28 3 g 0 dLen dCap ⟨b,off,none⟩ n sCap cur.toArray 28 (flL (encG T) 3 (List.range' 0 n)) hu hsz hg (by rw [hfl,hmin]) (GRow.cells (c:=0) hv) (by rw [hfl];simp only [List.size_toArray];omega) (flL_one (encG_enc T hU) _)
  rw [hmin] at hrun
  unfold Oper.wp
  simp [execOp,ho,resolve,invoke,builtin,hd,hs,hrun,Result.andThen]
  refine hK _ _ (h _ ?_ ?_)
  ·refine Lib.hid ?_
   have:=setRow_heap w g cur.toArray (flL (encG T) 3 (List.range' 0 n)++cur.drop (n * 3)).toArray 28 _ hg
   simpa [hfl] using this
  ·exact ⟨rfl,rfl,rfl,by simp [World.setRow],fun k hk hn=>setRow_other w g k _ (by simpa using hn)⟩
/-- a row's front, out of a block's cells -/
theorem Row.front {enc:Nat->List Value} {k:Nat} {W:World} {g:Nat} {l:List Nat} {R:List Value} {e:TypeId} (h:W.heap[g]?=some (.cells (flL enc k l++R).toArray e (0,0))):Row enc k W g l:=by
 intro j hj
 rw [size_flatK,List.size_toArray] at hj
 have h1:=flL_get enc k l j hj
 have h2:(flL enc k l++R).toArray[j]?=some ((flatK enc k l.toArray)[j]!):=by
  rw [List.getElem?_toArray,List.getElem?_append_left (by rw [flL_len];exact hj)];exact h1
 rw [Nat.zero_add]
 exact ⟨by simp [World.cell?,h,h2],by simp [World.frozen?,h]⟩
/-- one thing put behind a row's front -/
theorem Row.ext {enc:Nat->List Value} {k:Nat} {W:World} {g:Nat} {l:List Nat} (h:Row enc k W g l) (E:Enc enc k) (x o:Nat) (ho:o=l.length * k) (hw:∀ c,c<k->Wr W g (o+c)):Row enc k (W.setCells g o (enc x)) g (l++[x]):=by
 subst ho
 intro j hj
 rw [size_flatK,List.size_toArray,List.length_append,List.length_singleton,Nat.add_mul,Nat.one_mul] at hj
 rw [World.frozen?_setCells,Nat.zero_add]
 have hjs:j<(l++[x]).toArray.size * k:=by rw [List.size_toArray,List.length_append,List.length_singleton,Nat.add_mul,Nat.one_mul];exact hj
 by_cases h2:j<l.length * k
 ·have h1:=h j (by rw [size_flatK,List.size_toArray];exact h2)
  rw [Nat.zero_add,get_flatK _ _ _ j (by rw [List.size_toArray];exact h2)] at h1
  have hjk:j / k<l.length:=Nat.div_lt_of_lt_mul (by rw [Nat.mul_comm];exact h2)
  have e:(l++[x]).toArray[j / k]! =l.toArray[j / k]!:=by simp [List.getElem?_append_left hjk]
  rw [World.cell?_setCells_out g _ _ W _ (fun _ _=>.inl h2),get_flatK _ _ _ j hjs,e]
  exact h1
 ·obtain ⟨c,rfl⟩:∃ c,j=l.length * k+c:=⟨j - l.length * k,by omega⟩
  have hc:c<(enc x).length:=by rw [E.len];omega
  have hk:c<k:=by rwa [E.len] at hc
  have e1:(l.length * k+c) / k=l.length:=Nat.div_eq_of_lt_le (by omega) (by rw [Nat.add_mul];omega)
  have e2:(l.length * k+c) % k=c:=by rw [Nat.mul_comm,Nat.mul_add_mod];exact Nat.mod_eq_of_lt hk
  rw [World.cell?_setCells_in g (enc x) _ W (fun j hj=>(hw j (by rwa [E.len] at hj)).1) c hc,get_flatK _ _ _ _ hjs,e1,e2]
  refine ⟨?_,(hw c hk).2⟩
  have e3:(l++[x]).toArray[l.length]! =x:=by simp
  rw [e3,getElem!_pos (enc x) c hc];rfl
theorem Wr.of {W:World} {g j:Nat} {cs:Array Value} {e:TypeId} (h:W.heap[g]?=some (.cells cs e (0,0))) (hj:j<cs.size):Wr W g j:=⟨by simp [World.cell?,h,hj],by simp [World.frozen?,h]⟩
theorem Wr.cells {W:World} {g j:Nat} (h:Wr W g j) (o:Nat):∀ (vs:List Value) (o:Nat) (W:World),Wr W g j->Wr (W.setCells g o vs) g j
 | [],_,_,h=>h
 | v :: r,o,W,h=>Wr.cells h o r (o+1) _ (Wr.set h _ _)
theorem Wr.past {S:List Nat} {W W':World} {g j:Nat} (h:Wr W g j) (hm:Mod S W W') (hg:g∉S):Wr W' g j:=by
 have hl:g<W.heap.size:=by
  rcases Nat.lt_or_ge g W.heap.size with h1 | h1
  ·exact h1
  ·have:=h.1;simp [World.cell?,Array.getElem?_eq_none h1] at this
 have hb:=hm.block g hl hg
 exact ⟨by have:=h.1;unfold World.cell? at this ⊢;simp only at this ⊢;rw [hb];exact this,by have:=h.2;unfold World.frozen? at this ⊢;simp only at this ⊢;rw [hb];exact this⟩
end Go.Proofs.YtcalbbfkgdfidaaDoor
namespace Go.Proofs.YtcalbbfkgdfidaaDoor.So
set_option linter.unusedVariables false
set_option linter.unusedSimpArgs false
variable {f:Nat->Nat->Int}
def mrg (f:Nat->Nat->Int):List Nat->List Nat->List Nat
 | [],b=>b
 | x :: a,[]=>x :: a
 | x :: a,y :: b=>if f x y<0 then x :: mrg f a (y :: b) else if f x y=0 then x :: mrg f a b else y :: mrg f (x :: a) b
termination_by a b=>a.length+b.length
theorem mrg_nil (b:List Nat):mrg f [] b=b:=by rw [mrg]
theorem mrg_nil' (a:List Nat):mrg f a []=a:=by cases a <;> rw [mrg]
theorem mrg_lt {x y:Nat} {a b:List Nat} (h:f x y<0):mrg f (x :: a) (y :: b)=x :: mrg f a (y :: b):=by rw [mrg,if_pos h]
theorem mrg_eq {x y:Nat} {a b:List Nat} (h:f x y=0):mrg f (x :: a) (y :: b)=x :: mrg f a b:=by rw [mrg,if_neg (by omega),if_pos h]
theorem mrg_gt {x y:Nat} {a b:List Nat} (h:0<f x y):mrg f (x :: a) (y :: b)=y :: mrg f (x :: a) b:=by rw [mrg,if_neg (by omega),if_neg (by omega)]
theorem mrg_len:∀ (n:Nat) (a b:List Nat),a.length+b.length<=n->(mrg f a b).length<=a.length+b.length
 | 0,a,b,h=>by
  have h1:a=[]:=List.length_eq_zero_iff.1 (by omega)
  subst h1;rw [mrg_nil];simp
 | n+1,a,b,h=>by
  cases a with
  | nil=>rw [mrg_nil];simp
  | cons x a =>
   cases b with
   | nil=>rw [mrg_nil'];simp
   | cons y b =>
    simp only [List.length_cons] at h
    rcases Int.lt_trichotomy (f x y) 0 with h1 | h1 | h1
    ·rw [mrg_lt h1];have:=mrg_len n a (y :: b) (by simp;omega);simp at this ⊢;omega
    ·rw [mrg_eq h1];have:=mrg_len n a b (by omega);simp at this ⊢;omega
    ·rw [mrg_gt h1];have:=mrg_len n (x :: a) b (by simp;omega);simp at this ⊢;omega
theorem mrg_mem:∀ (n:Nat) (a b:List Nat),a.length+b.length<=n->∀ z∈mrg f a b,z∈a\/z∈b
 | 0,a,b,h=>by
  have h1:a=[]:=List.length_eq_zero_iff.1 (by omega)
  subst h1;rw [mrg_nil];intro z hz;exact .inr hz
 | n+1,a,b,h=>by
  cases a with
  | nil=>rw [mrg_nil];intro z hz;exact .inr hz
  | cons x a =>
   cases b with
   | nil=>rw [mrg_nil'];intro z hz;exact .inl hz
   | cons y b =>
    simp only [List.length_cons] at h
    intro z hz
    rcases Int.lt_trichotomy (f x y) 0 with h1 | h1 | h1
    ·rw [mrg_lt h1] at hz
     rcases List.mem_cons.1 hz with rfl | hz
     ·exact .inl (by simp)
     ·rcases mrg_mem n a (y :: b) (by simp;omega) z hz with h | h
      ·exact .inl (List.mem_cons_of_mem _ h)
      ·exact .inr h
    ·rw [mrg_eq h1] at hz
     rcases List.mem_cons.1 hz with rfl | hz
     ·exact .inl (by simp)
     ·rcases mrg_mem n a b (by omega) z hz with h | h
      ·exact .inl (List.mem_cons_of_mem _ h)
      ·exact .inr (List.mem_cons_of_mem _ h)
    ·rw [mrg_gt h1] at hz
     rcases List.mem_cons.1 hz with rfl | hz
     ·exact .inr (by simp)
     ·rcases mrg_mem n (x :: a) b (by simp;omega) z hz with h | h
      ·exact .inl h
      ·exact .inr (List.mem_cons_of_mem _ h)
theorem mrg_pw (ho:Ord f):∀ (n:Nat) (a b:List Nat),a.length+b.length<=n->a.Pairwise (fun x y=>f x y<0)->b.Pairwise (fun x y=>f x y<0) ->
  (mrg f a b).Pairwise (fun x y=>f x y<0)/\(∀ z∈a,z∈mrg f a b)/\(∀ z∈b,z∈mrg f a b\/∃ r∈a,f r z=0)
 | 0,a,b,h,ha,hb=>by
  have h1:a=[]:=List.length_eq_zero_iff.1 (by omega)
  have h2:b=[]:=List.length_eq_zero_iff.1 (by omega)
  subst h1 h2;rw [mrg_nil];simp
 | n+1,a,b,h,ha,hb=>by
  cases a with
  | nil=>rw [mrg_nil];exact ⟨hb,by simp,fun z hz=>.inl hz⟩
  | cons x a =>
   cases b with
   | nil=>rw [mrg_nil'];exact ⟨ha,fun z hz=>hz,by simp⟩
   | cons y b =>
    simp only [List.length_cons] at h
    obtain ⟨a1,a2⟩:=List.pairwise_cons.1 ha
    obtain ⟨b1,b2⟩:=List.pairwise_cons.1 hb
    rcases Int.lt_trichotomy (f x y) 0 with h1 | h1 | h1
    ·obtain ⟨p1,p2,p3⟩:=mrg_pw ho n a (y :: b) (by simp;omega) a2 hb
     rw [mrg_lt h1]
     refine ⟨List.pairwise_cons.2 ⟨fun z hz=>?_,p1⟩,fun z hz=>?_,fun z hz=>?_⟩
     ·rcases mrg_mem n a (y :: b) (by simp;omega) z hz with h | h
      ·exact a1 z h
      ·rcases List.mem_cons.1 h with rfl | h
       ·exact h1
       ·exact ho.lel (by omega) (b1 z h)
     ·rcases List.mem_cons.1 hz with rfl | hz
      ·simp
      ·exact List.mem_cons_of_mem _ (p2 z hz)
     ·rcases p3 z hz with h | ⟨r,hr,h⟩
      ·exact .inl (List.mem_cons_of_mem _ h)
      ·exact .inr ⟨r,List.mem_cons_of_mem _ hr,h⟩
    ·obtain ⟨p1,p2,p3⟩:=mrg_pw ho n a b (by omega) a2 b2
     rw [mrg_eq h1]
     refine ⟨List.pairwise_cons.2 ⟨fun z hz=>?_,p1⟩,fun z hz=>?_,fun z hz=>?_⟩
     ·rcases mrg_mem n a b (by omega) z hz with h | h
      ·exact a1 z h
      ·exact ho.lel (by omega) (b1 z h)
     ·rcases List.mem_cons.1 hz with rfl | hz
      ·simp
      ·exact List.mem_cons_of_mem _ (p2 z hz)
     ·rcases List.mem_cons.1 hz with rfl | hz
      ·exact .inr ⟨x,by simp,h1⟩
      ·rcases p3 z hz with h | ⟨r,hr,h⟩
       ·exact .inl (List.mem_cons_of_mem _ h)
       ·exact .inr ⟨r,List.mem_cons_of_mem _ hr,h⟩
    ·have h2:=(ho.anti y x).2 h1
     obtain ⟨p1,p2,p3⟩:=mrg_pw ho n (x :: a) b (by simp;omega) ha b2
     rw [mrg_gt h1]
     refine ⟨List.pairwise_cons.2 ⟨fun z hz=>?_,p1⟩,fun z hz=>List.mem_cons_of_mem _ (p2 z hz),fun z hz=>?_⟩
     ·rcases mrg_mem n (x :: a) b (by simp;omega) z hz with h | h
      ·rcases List.mem_cons.1 h with rfl | h
       ·exact h2
       ·exact ho.lel (by omega) (a1 z h)
      ·exact b1 z h
     ·rcases List.mem_cons.1 hz with rfl | hz
      ·exact .inl (by simp)
      ·rcases p3 z hz with h | h
       ·exact .inl (List.mem_cons_of_mem _ h)
       ·exact .inr h
/-- what the sorted list of a part of the row is -/
structure Srt (f:Nat->Nat->Int) (lo n:Nat) (K:List Nat):Prop where
 lt:∀ x∈K,lo<=x/\x<lo+n
 pw:K.Pairwise (fun x y=>f x y<0)
 rep:∀ j,lo<=j->j<lo+n->∃ r∈K,f r j=0/\r<=j
 len:K.length<=n
theorem Srt.small (ho:Ord f) (lo n:Nat) (h:n<2):Srt f lo n (List.range' lo n) where
 lt:=fun x hx=>by rw [List.mem_range'_1] at hx;omega
 pw:=by
  have:n=0\/n=1:=by omega
  rcases this with rfl | rfl <;> simp
 rep:=fun j h1 h2=>⟨j,by rw [List.mem_range'_1];omega,ho.refl j,Nat.le_refl _⟩
 len:=by simp
theorem Srt.merge (ho:Ord f) {lo n m:Nat} {a b:List Nat} (ha:Srt f lo n a) (hb:Srt f (lo+n) m b):Srt f lo (n+m) (mrg f a b):=by
 obtain ⟨p1,p2,p3⟩:=mrg_pw ho _ a b (Nat.le_refl _) ha.pw hb.pw
 refine ⟨fun x hx=>?_,p1,fun j h1 h2=>?_,?_⟩
 ·rcases mrg_mem _ a b (Nat.le_refl _) x hx with h | h
  ·have:=ha.lt x h;omega
  ·have:=hb.lt x h;omega
 ·rcases Nat.lt_or_ge j (lo+n) with h | h
  ·obtain ⟨r,hr,e,hl⟩:=ha.rep j h1 h
   exact ⟨r,p2 r hr,e,hl⟩
  ·obtain ⟨r,hr,e,hl⟩:=hb.rep j h (by omega)
   rcases p3 r hr with h3 | ⟨q,hq,e2⟩
   ·exact ⟨r,h3,e,hl⟩
   ·exact ⟨q,p2 q hq,ho.zz e2 e,by have:=ha.lt q hq;have:=hb.lt r hr;omega⟩
 ·have:=mrg_len (f:=f) _ a b (Nat.le_refl _);have:=ha.len;have:=hb.len;omega
theorem Srt.kinds {n:Nat} {K:List Nat} (h:Srt f 0 n K):Kinds f n K:=⟨fun x hx=>by have:=h.lt x hx;omega,h.pw,fun j hj=>h.rep j (by omega) (by omega)⟩
end Go.Proofs.YtcalbbfkgdfidaaDoor.So
namespace Go.Proofs.YtcalbbfkgdfidaaDoor
open Go.RowKit
set_option linter.unusedVariables false
section
variable {P:Program} {ops:Array Oper} {Q:Exit->Act->World->Prop} {md:Region.Mode} {S:World->Prop} {T:List Nat}
/-- whatever order is picked; S holds behind each operation that is not of T -/
def TlAny (P:Program) (md:Region.Mode) (ops:Array Oper) (Q:Exit->Act->World->Prop) (S:World->Prop) (T:List Nat):Nat->Array Bool->Act->World->Prop
 | 0,done,a,w=>Region.ready md ops done=[]/\Q .normal a w
 | f+1,done,a,w=>(Region.ready md ops done=[]->Q .normal a w) /\
   ∀ i,i∈Region.ready md ops done->wpOp P ops Q i (fun b v=>(T.contains i=false->S v)/\TlAny P md ops Q S T f (done.setIfInBounds i true) b v) a w
theorem TlAny.any:∀ (f:Nat) (done:Array Bool) (a:Act) (w:World),TlAny P md ops Q S T f done a w->wpAny P md ops Q f done a w
 | 0,_,_,_,h=>h
 | f+1,_,_,_,h=>⟨h.1,fun i hi=>wpOp_mono (fun b v hb=>TlAny.any f _ b v hb.2) (h.2 i hi)⟩
/-- each operation of T that has not come up waits for number i -/
def tlWaits (md:Region.Mode) (ops:Array Oper) (T:List Nat) (done:Array Bool) (i:Nat):Bool :=
 T.all fun j=>done.getD j true || match ops[j]? with
  | some o=>o.after.any (fun e=>Region.binds md e && e.on == i)
  | none=>true
theorem TlAny.first {i:Nat} {oi:Oper} {v:Value} (hi:ops[i]?=some oi) (hs:Region.noSelect ops=true) (hit:T.contains i=false) (hQ:∀ c a w,Q (.panic c) (a.put oi.dst v) w->Q (.panic c) a w) :
  ∀ (f:Nat) (done:Array Bool) (a:Act) (w:World),
   (∀ j oj,ops[j]?=some oj->j≠i->done.getD j true=false->(∀ e∈oj.after,Region.binds md e=true->e.on≠i)->oi.apart ops oj=true/\T.contains j=false) ->
   i∈Region.ready md ops done->YieldsIf P ops S oi v a->S w->TlAny P md ops Q S T f (done.setIfInBounds i true) (a.put oi.dst v) w->TlAny P md ops Q S T (f+1) done a w:=by
 have hsel:=Region.noSelect_spec hs
 intro f
 induction f with
 | zero =>
  intro done a w _ hr hy hS H
  refine ⟨fun h0=>(by rw [h0] at hr;cases hr),fun j hj=>?_⟩
  rcases Nat.decEq j i with hne | rfl
  ·exact absurd (ready_mono hj hne) (by rw [H.1];exact List.not_mem_nil)
  ·exact hy.wpOp hi hS ⟨fun _=>hS,H⟩
 | succ f ih =>
  intro done a w hfree hr hy hS H
  refine ⟨fun h0=>(by rw [h0] at hr;cases hr),fun j hj=>?_⟩
  rcases Nat.decEq j i with hne | rfl
  ·obtain ⟨hjun,oj,hoj,hall⟩:=mem_ready.1 hj
   have hnot:∀ e∈oj.after,Region.binds md e=true->e.on≠i:=fun e he hb heq=>by
    have h1:=hall e he hb
    have h0:=(mem_ready.1 hr).1
    rw [heq] at h1
    rcases Nat.lt_or_ge i done.size with hlt | hge
    ·simp [hlt] at h0 h1;rw [h0] at h1;cases h1
    ·simp [Array.getElem?_eq_none hge] at h1
   obtain ⟨hap,hjt⟩:=hfree j oj hoj hne hjun hnot
   have h2:=wpOp_putIf hoj hap (fun cs b=>hsel i oi cs b hi) (fun cs b=>hsel j oj cs b hoj) hQ hy (H.2 j (ready_mono hj hne))
   refine wpOp_mono (fun b u h3=>⟨fun _=>h3.2.1 hjt,ih (done.setIfInBounds j true) b u ?_ (ready_mono hr (Ne.symm hne)) h3.1 (h3.2.1 hjt) ?_⟩) h2
   ·intro k ok hk hki hun hno
    refine hfree k ok hk hki ?_ hno
    rcases Nat.decEq j k with hjk | rfl
    ·rw [getD_set_ne true hjk] at hun;exact hun
    ·exact hjun
   ·rw [Array.setIfInBounds_comm _ _ hne]
    exact h3.2.2
  ·exact hy.wpOp hi hS ⟨fun _=>hS,H⟩
theorem TlAny.take (i:Nat) {oi:Oper} {v:Value} {f:Nat} {done:Array Bool} {a:Act} {w:World} (hS:S w) (hy:YieldsIf P ops S oi v a) (hQ:∀ c a w,Q (.panic c) (a.put oi.dst v) w->Q (.panic c) a w)
  (h:TlAny P md ops Q S T f (done.setIfInBounds i true) (a.put oi.dst v) w)
  (hi:ops[i]?=some oi:=by (simp only [List.getElem?_toArray,List.getElem?_cons_succ,List.getElem?_cons_zero]) <;> rfl)
  (hs:Region.noSelect ops=true:=by kernel_rfl) (hf:Region.free md ops done i=true:=by kernel_rfl) (hr:(Region.ready md ops done).contains i=true:=by kernel_rfl)
  (ht:tlWaits md ops T done i=true:=by kernel_rfl) (hit:T.contains i=false:=by kernel_rfl):TlAny P md ops Q S T (f+1) done a w:=by
 refine TlAny.first hi hs hit hQ f done a w (fun j oj hj hne hun hno=>⟨Region.free_spec hi hf j oj hj hne hun hno,?_⟩) (by simpa using hr) hy hS h
 cases hc:T.contains j with
 | false=>rfl
 | true =>
  have hm:=List.all_eq_true.1 ht j (by simpa using hc)
  simp only [hun,hj,Bool.false_or,Array.any_eq_true] at hm
  obtain ⟨k,hk,hb⟩:=hm
  simp only [Bool.and_eq_true,beq_iff_eq] at hb
  exact absurd hb.2 (hno _ (Array.getElem_mem hk) hb.1)
/-- one operation comes up next -/
theorem TlAny.one (i:Nat) {o:Oper} {f:Nat} {done:Array Bool} {a:Act} {w:World}
  (h:∀ K:Act->World->Prop,Shut (∀ a w,(T.contains i=false->S w)->TlAny P md ops Q S T f (done.setIfInBounds i true) a w->K a w)->if Region.wanted o (yielded ops a.tmps)=true then Oper.wp P o a w K Q else K (a.put o.dst undef) w)
  (hi:ops[i]?=some o:=by (simp only [List.getElem?_toArray,List.getElem?_cons_succ,List.getElem?_cons_zero]) <;> rfl)
  (hr:Region.ready md ops done=[i]:=by kernel_rfl):TlAny P md ops Q S T (f+1) done a w:=by
 refine ⟨fun h0=>absurd (hr ▸ h0) (by simp),fun j hj=>?_⟩
 rw [hr,Msq] at hj
 subst hj
 exact wpOp_step hi (fun K hK=>h K (fun a w h1 h2=>hK a w ⟨h1,h2⟩))
/-- one of two operations comes up next -/
theorem TlAny.two (i k:Nat) {o o2:Oper} {f:Nat} {done:Array Bool} {a:Act} {w:World}
  (h:∀ K:Act->World->Prop,Shut (∀ a w,(T.contains i=false->S w)->TlAny P md ops Q S T f (done.setIfInBounds i true) a w->K a w)->if Region.wanted o (yielded ops a.tmps)=true then Oper.wp P o a w K Q else K (a.put o.dst undef) w)
  (h2:∀ K:Act->World->Prop,Shut (∀ a w,(T.contains k=false->S w)->TlAny P md ops Q S T f (done.setIfInBounds k true) a w->K a w)->if Region.wanted o2 (yielded ops a.tmps)=true then Oper.wp P o2 a w K Q else K (a.put o2.dst undef) w)
  (hi:ops[i]?=some o:=by (simp only [List.getElem?_toArray,List.getElem?_cons_succ,List.getElem?_cons_zero]) <;> rfl)
  (hk:ops[k]?=some o2:=by (simp only [List.getElem?_toArray,List.getElem?_cons_succ,List.getElem?_cons_zero]) <;> rfl)
  (hr:Region.ready md ops done=[i,k]:=by kernel_rfl):TlAny P md ops Q S T (f+1) done a w:=by
 refine ⟨fun h0=>absurd (hr ▸ h0) (by simp),fun j hj=>?_⟩
 rw [hr,List.mem_cons,Msq] at hj
 rcases hj with rfl | rfl
 ·exact wpOp_step hi (fun K hK=>h K (fun a w h1 h2=>hK a w ⟨h1,h2⟩))
 ·exact wpOp_step hk (fun K hK=>h2 K (fun a w h1 h2=>hK a w ⟨h1,h2⟩))
theorem TlAny.fin {f:Nat} {done:Array Bool} {a:Act} {w:World} (h:Q .normal a w) (hr:Region.ready md ops done=[]:=by kernel_rfl):TlAny P md ops Q S T f done a w:=by
 cases f with
 | zero=>exact ⟨hr,h⟩
 | succ f=>exact ⟨fun _=>h,by rw [hr];simp⟩
/-- the beginning -/
theorem tl_region (S:World->Prop) (T:List Nat) {id:Nat} {a:Act} {w:World} (hm:P.follows .mixedOrders=true) (h:TlAny P .any ops Q S T ops.size (Array.replicate ops.size false) a w.drew):(Code.region id ops true).wp P Q a w :=
 wp_region_any hm (TlAny.any _ _ _ _ h)
end
open Go.RowKit Go.Sort Go.Lib
set_option linter.unusedVariables false
set_option linter.unusedSimpArgs false
set_option maxRecDepth 100000
def encF (T:Nat->Tgd) (i:Nat):List Value:=[.string (T i).rel,(T i).u]
theorem encF_enc (T:Nat->Tgd) (hU:∀ i,∃ a n c,(T i).u=.slice a n c):Enc (encF T) 2:=⟨fun _=>rfl,fun x v hv=>by
 obtain ⟨a,n,c,hu⟩:=hU x
 simp only [encF,hu,List.mem_cons,List.not_mem_nil,or_false] at hv
 rcases hv with rfl | rfl <;> rfl⟩
/-- a slice of facts, told by their numbers -/
def FRow (T:Nat->Tgd) (w:World) (v:Value) (l:List Nat):Prop :=
 (∃ a c,v=.slice a 0 c/\l=[]) \/
 (∃ b off cap,v=.slice (some ⟨b,off,none⟩) l.length cap/\l.length<=cap/\∀ i (h:i<l.length),w.cell? ⟨b,off+i * 2,none⟩=some (.string (T l[i]).rel)/\w.cell? ⟨b,off+i * 2+1,none⟩=some (T l[i]).u)
section
variable {T:Nat->Tgd} {w w':World} {v:Value} {l:List Nat} {ad:Option Addr} {c:Nat}
theorem FRow.lit (h:FRow T w v l):∃ a c,v=.slice a l.length c:=by
 rcases h with ⟨a,c,rfl,rfl⟩ | ⟨b,off,cap,rfl,-⟩
 ·exact ⟨_,_,rfl⟩
 ·exact ⟨_,_,rfl⟩
theorem FRow.keep (h:FRow T w v l) (hm:Mod [] w w'):FRow T w' v l:=by
 rcases h with h | ⟨b,off,cap,rfl,hc,h⟩
 ·exact .inl h
 ·exact .inr ⟨b,off,cap,rfl,hc,fun i hi=>⟨hm.cell (h i hi).1 (by simp),hm.cell (h i hi).2 (by simp)⟩⟩
theorem FRow.at (h:FRow T w (.slice ad l.length c) l) (i:Nat) (hi:i<l.length):∃ b off,ad=some ⟨b,off,none⟩/\w.cell? ⟨b,off+i * 2,none⟩=some (.string (T l[i]).rel)/\w.cell? ⟨b,off+i * 2+1,none⟩=some (T l[i]).u:=by
 rcases h with ⟨a,c,-,rfl⟩ | ⟨b,off,cap,hh,-,h⟩
 ·simp at hi
 ·simp only [Value.slice.injEq] at hh
  exact ⟨b,off,hh.1,h i hi⟩
theorem encF_get (T:Nat->Tgd) (l:List Nat) (j:Nat) (hj:j<l.length * 2):(flL (encF T) 2 l)[j]?=(encF T (l[j / 2]'(by omega)))[j % 2]?:=by
 have hj2:j / 2<l.length:=by omega
 rw [flL_get _ _ _ _ hj,get_flatK _ _ _ j (by rw [List.size_toArray];exact hj)]
 have e1:l.toArray[j / 2]! =l[j / 2]:=by simp [hj2]
 rw [e1]
 rcases Nat.mod_two_eq_zero_or_one j with hm | hm <;> rw [hm] <;> rfl
theorem FRow.src (hU:∀ i,∃ a n c,(T i).u=.slice a n c) (h:FRow T w v l):Src Tryd.prog 2 32 v l.length (flL (encF T) 2 l) w:=by
 rcases h with ⟨a,c,rfl,rfl⟩ | ⟨b,off,cap,rfl,-,h⟩
 ·cases a with
  | none=>rw [show flL (encF T) 2 []=[] by simp [flL,flatK]];exact Src.ofNil (size:=2) w Tryd.underlying32 c
  | some a=>rw [show flL (encF T) 2 []=[] by simp [flL,flatK]];exact Src.ofSlice w Tryd.underlying32 a 0 c [] (by simp) (by simp) (by simp)
 ·refine Src.ofSlice w Tryd.underlying32 _ _ cap _ (flL_len _ _ _) (fun j u hu=>?_) (flL_one (encF_enc T hU) _)
  have hj:j<l.length * 2:=by have:=(List.getElem?_eq_some_iff.1 hu).1;rwa [flL_len] at this
  rw [encF_get _ _ _ hj] at hu
  obtain ⟨h1,h2⟩:=h (j / 2) (by omega)
  rw [addr_add]
  rcases Nat.mod_two_eq_zero_or_one j with hm | hm
  ·rw [hm] at hu;rw [show off+j=off+j / 2 * 2 by omega,h1];exact hu
  ·rw [hm] at hu;rw [show off+j=off+j / 2 * 2+1 by omega,h2];exact hu
theorem FRow.own {n:Nat} (h:w.ownsRow 0 26 2 v n (flL (encF T) 2 l)) (hn:l.length=n):FRow T w v l:=by
 rcases h.2 with ⟨rfl,h0⟩ | ⟨g,cap,cur,rfl,hb0,hb,hc,hm,hs,ht⟩
 ·exact .inl ⟨_,_,rfl,List.length_eq_zero_iff.1 (by omega)⟩
 ·have hg:∀ j u,(flL (encF T) 2 l)[j]?=some u->w.cell? ⟨g,j,none⟩=some u:=fun j u hu=>by
   have:=h.cells (g:=g) rfl j _ hu
   rwa [addr_add,Nat.zero_add] at this
  refine .inr ⟨g,0,cap,by rw [hn],by rw [hn];exact hc,fun i hi=>?_⟩
  have e0:=encF_get T l (i * 2) (by omega)
  have e1:=encF_get T l (i * 2+1) (by omega)
  have d0:i * 2 / 2=i:=by omega
  have d1:(i * 2+1) / 2=i:=by omega
  simp only [d0,d1,Nat.mul_mod_left,show (i * 2+1) % 2=1 by omega] at e0 e1
  rw [Nat.zero_add]
  exact ⟨hg _ _ e0,hg _ _ e1⟩
end
theorem Tryd.infoFact:(Tryd.prog.info? 26).map (fun i=>(i.zero,i.size,i.bytes))=some (some (.agg #[.string ⟨#[]⟩,.slice none 0 0]),2,40):=by kernel_rfl
theorem src_fact {w:World} {r:ByteArray} {a:Option Addr} {n c:Nat}:Src Tryd.prog 2 32 (.slice (some ⟨w.heap.size,0,none⟩) 1 1) 1 [.string r,.slice a n c] (w.alloc (Obj.cells #[.string r,.slice a n c] 26)):=by
 refine Src.ofSlice _ Tryd.underlying32 ⟨w.heap.size,0,none⟩ 1 1 _ rfl (fun j u hu=>?_) (fun u hu=>by simp at hu;rcases hu with rfl | rfl <;> rfl)
 rw [addr_add,Nat.zero_add]
 unfold World.cell?
 simp only [heap_alloc_new]
 rw [<-Array.getElem?_toList];exact hu
/-- the list that grows, and where the two lists stand -/
structure MgI (T:Nat->Tgd) (a b:List Nat) (w W:World) (i k:Nat) (v:Value) (M:List Nat):Prop where
 eq:M++So.mrg (cmpG T) (a.drop i) (b.drop k)=So.mrg (cmpG T) a b
 ia:i<=a.length
 kb:k<=b.length
 len:M.length<=i+k
 own:W.ownsRow 0 26 2 v M.length (flL (encF T) 2 M)
 new:∀ x∈fp v,w.heap.size<=x
 mod:Mod [] w W
theorem MgI.mod1 {T:Nat->Tgd} {a b:List Nat} {w W W':World} {i k:Nat} {v:Value} {M:List Nat} (h:MgI T a b w W i k v M) (hm:Mod [] W W'):MgI T a b w W' i k v M :=
 ⟨h.eq,h.ia,h.kb,h.len,hm.owns h.own (by simp),h.new,h.mod.trans hm (by simp)⟩
theorem MgI.push {T:Nat->Tgd} (hU:∀ i,∃ a n c,(T i).u=.slice a n c) {a b:List Nat} {w W W':World} {i k i' k':Nat} {v v':Value} {M:List Nat} {x:Nat} (h:MgI T a b w W i k v M) (hm:Mod (fp v) W W')
  (hown:W'.ownsRow 0 26 2 v' (M.length+1) (flL (encF T) 2 M++encF T x)) (hf:∀ q∈fp v',q∈fp v\/W.heap.size<=q)
  (he:So.mrg (cmpG T) (a.drop i) (b.drop k)=x :: So.mrg (cmpG T) (a.drop i') (b.drop k')) (hi:i'<=a.length) (hk:k'<=b.length) (hlt:i+k+1<=i'+k'):MgI T a b w W' i' k' v' (M++[x]):=by
 have hs:=h.mod.size
 refine ⟨?_,hi,hk,?_,?_,fun q hq=>?_,h.mod.trans hm (fun t ht=>.inr (h.new t ht))⟩
 ·rw [<-h.eq,he];simp
 ·have:=h.len;simp;omega
 ·rw [flL_app (encF_enc T hU),List.length_append,List.length_singleton];exact hown
 ·rcases hf q hq with h1 | h1
  ·exact h.new q h1
  ·omega
theorem FRow.at' {T:Nat->Tgd} {w:World} {ad:Option Addr} {c:Nat} {l:List Nat} {n:Nat} (h:FRow T w (.slice ad l.length c) l) (hn:l.length=n) (i:Nat) (hi:i<l.length):∃ b off,ad=some ⟨b,off,none⟩/\w.cell? ⟨b,off+i * 2,none⟩=some (.string (T l[i]).rel)/\w.cell? ⟨b,off+i * 2+1,none⟩=some (T l[i]).u:=h.at i hi
set_option maxHeartbeats 8000000 in
theorem merged_any (T:Nat->Tgd) (hU:∀ i,∃ a n c,(T i).u=.slice a n c) (a b:List Nat) (va vb:Value) (w:World) (hT:∀ i,FOk w (T i)) (ha:FRow T w va a) (hb:FRow T w vb b) (hl:(a.length+b.length) * 40<=140737488355328) :
  Calls Tryd.prog 26 #[va,vb] w fun e w'=>∃ v,e=.returned v/\FRow T w' v (So.mrg (cmpG T) a b)/\Mod [] w w':=by
 obtain ⟨i0,hinf,hz0,hz1,hz2⟩:=info_parts Tryd.infoFact
 obtain ⟨aa,ac,rfl⟩:=ha.lit
 obtain ⟨ba,bc,rfl⟩:=hb.lit
 obtain ⟨la,hla⟩:∃ la,a.length=la:=⟨_,rfl⟩
 obtain ⟨lb,hlb⟩:∃ lb,b.length=lb:=⟨_,rfl⟩
 have HU:=Lib.hid hU;have HT:=Lib.hid hT;have RA:=Lib.hid ha;have RB:=Lib.hid hb
 rw [hla,hlb] at hl
 have HLA:=Lib.hid hla;have HLB:=Lib.hid hlb
 rw [hla,hlb]
 clear ha hb hT hU hla hlb
 go_enter Tryd.func26,Tryd.ntmps26
 go_wp2_with fail
 go_loopw [5,6,7,8] (fun ov iv kv _ wr=>∃ (i k:Nat) (M:List Nat) (oa:Option Addr) (oc:Nat),ov=.slice oa M.length oc/\iv=.int .i64 (i:Nat)/\kv=.int .i64 (k:Nat)/\MgI T a b w wr i k (.slice oa M.length oc) M) (fun _ iv kv _ _=>(la - (intOf iv).toNat)+(lb - (intOf kv).toNat))
 case atStart=>exact ⟨0,0,[],none,0,rfl,rfl,rfl,⟨by simp,by omega,by omega,by simp,by rw [show flL (encF T) 2 []=[] by simp [flL,flatK]];exact World.ownsRow_nil _ _ _ _,by simp [fp],Mod.refl _ _⟩⟩
 case round =>
  obtain ⟨i,k,M,oa,oc,rfl,rfl,rfl,hI⟩:=hrel
  have hia:i<=la:=by have:=hI.ia;have:=HLA.out;omega
  have hkb:k<=lb:=by have:=hI.kb;have:=HLB.out;omega
  have II:=Lib.hid hI
  clear hI
  by_cases h1:i<la
  ·have h1I:(i:Int)<(la:Int):=by omega
   have h1e:((i:Int) == (la:Int))=false:=by rw [beq_eq_false_iff_ne];omega
   have h1l:i<a.length:=by rw [HLA.out];exact h1
   obtain ⟨x,hx⟩:∃ x,a[i]=x:=⟨_,rfl⟩
   have hda:a.drop i=x :: a.drop (i+1):=by rw [<-hx];exact List.drop_eq_getElem_cons h1l
   obtain ⟨ga,oa',hga,ca0,ca1⟩:=(RA.out.keep II.out.mod).at' HLA.out i h1l
   rw [hx] at ca0 ca1
   subst hga
   have HDA:=Lib.hid hda
   clear hx hda
   by_cases h2:k<lb
   ·have h2I:(k:Int)<(lb:Int):=by omega
    have h2l:k<b.length:=by rw [HLB.out];exact h2
    obtain ⟨y,hy⟩:∃ y,b[k]=y:=⟨_,rfl⟩
    have hdb:b.drop k=y :: b.drop (k+1):=by rw [<-hy];exact List.drop_eq_getElem_cons h2l
    obtain ⟨gb,ob',hgb,cb0,cb1⟩:=(RB.out.keep II.out.mod).at' HLB.out k h2l
    rw [hy] at cb0 cb1
    subst hgb
    have HDB:=Lib.hid hdb
    clear hy hdb h2l h1l
    have hkx:=HT.out x;have hky:=HT.out y
    have HCL0:Hid (∀ p:Past wr,Calls Tryd.prog 24 #[.agg #[.string (T x).rel,(T x).u],.agg #[.string (T y).rel,(T y).u]] p.w fun e W''=>e=.returned (.int .i64 (cmpG T x y))/\Mod [] p.w W''):=Hxq (fun p=>by
     have m:=II.out.mod.trans p.m (by simp)
     exact rCompareFacts_any _ _ _ _ _ _ hkx.vl hky.vl hkx.rs hky.rs hkx.len hky.len _ (hkx.row.past m (by simp)) (hky.row.past m (by simp)))
    obtain ⟨r,hr⟩:∃ r,cmpG T x y=r:=⟨_,rfl⟩
    have hrr:r=-1\/r=0\/r=1:=by rw [<-hr];exact fcmp_rng _ _
    have HR:=Lib.hid hr
    obtain ⟨xa,xn,xc,hxu⟩:=HU.out x
    obtain ⟨ya,yn,yc,hyu⟩:=HU.out y
    rw [hxu] at ca1;rw [hyu] at cb1
    rw [hr,hxu,hyu] at HCL0
    have HXU:=Lib.hid hxu;have HYU:=Lib.hid hyu
    have ea0:=past_cell ca0;have ea1:=past_cell ca1;have eb0:=past_cell cb0;have eb1:=past_cell cb1
    clear hkx hky hr hxu hyu
    have HCL:=HCL0
    clear HCL0
    rcases hrr with rfl | rfl | rfl
    ·go_wp2_with fail
     have inh:=past_one wr
     refine region_past (by kernel_rfl) (by kernel_rfl) ?_
     repeat (quiet_step (exact past_call (HCL.out _)))
     refine wpQuiet_nil ?_
     intro wz hw'
     obtain ⟨⟨wq,mq⟩,hw''⟩:=hw'
     subst hw''
     clear inh
     replace II:=Hxq (II.out.mod1 mq)
     have ca0:=mq.cell ca0 (by simp);have ca1:=mq.cell ca1 (by simp);have cb0:=mq.cell cb0 (by simp);have cb1:=mq.cell cb1 (by simp)
     clear HCL ea0 ea1 eb0 eb1 mq
     have hen:encF T x=[.string (T x).rel,.slice xa xn xc]:=by unfold encF;rw [HXU.out]
     have HEN:=Lib.hid hen
     clear hen
     have heq:So.mrg (cmpG T) (a.drop i) (b.drop k)=x :: So.mrg (cmpG T) (a.drop (i+1)) (b.drop k):=by rw [HDA.out,HDB.out];exact So.mrg_lt (by rw [HR.out];omega)
     have EQ:=Lib.hid heq
     clear heq
     have mA:=(Mod.refl [] wz).alloc (Obj.cells #[.string (T x).rel,.slice xa xn xc] 26)
     have I2:=Hxq (II.out.mod1 mA)
     have SX:Hid (Src Tryd.prog 2 32 (.slice (some ⟨wz.heap.size,0,none⟩) 1 1) 1 [.string (T x).rel,.slice xa xn xc] (wz.alloc (Obj.cells #[.string (T x).rel,.slice xa xn xc] 26))):=Lib.hid src_fact
     have hml:M.length+1<=3518437208883:=by have:=II.out.len;have:=II.out.ia;have:=II.out.kb;omega
     have OW:=Lib.hid I2.out.own
     clear mA
     go_wp2_with (at_builtin;refine wpList_append_src _ rfl _ _ 32 32 rfl 26 i0 (.agg #[.string ⟨#[]⟩,.slice none 0 0]) 2 40 Tryd.underlying32 hinf hz0 hz1 hz2 rfl (.slice oa M.length oc) M.length (flL (encF T) 2 M) rfl OW.out _ 1 [.string (T x).rel,.slice xa xn xc] rfl SX.out (by unfold maxLen;omega) (by omega) ?_)
     intro v2 w2 hown2 hm2 hf2 hn2
     obtain ⟨a2,c2,rfl⟩:=owns_slice hown2
     have OW2:=Lib.hid hown2;have M2:=Lib.hid hm2;have F2:=Lib.hid hf2
     clear hown2 hm2 hf2 hn2 OW SX II
     go_wp2_with fail
     go_roundw
     case rel=>exact ⟨(i+1),k,M++[x],a2,c2,by simp,by go_num,by go_num,by rw [show (M++[x]).length=M.length+1 by simp];exact I2.out.push HU.out M2.out (by rw [HEN.out];exact OW2.out) (by have:=F2.out;simpa using this) EQ.out (by rw [HLA.out];omega) (by rw [HLB.out];omega) (by omega)⟩
     case measure=>simp [intOf];omega
    ·go_wp2_with fail
     have inh:=past_one wr
     refine region_past (by kernel_rfl) (by kernel_rfl) ?_
     repeat (quiet_step (exact past_call (HCL.out _)))
     refine wpQuiet_nil ?_
     intro wz hw'
     obtain ⟨⟨wq,mq⟩,hw''⟩:=hw'
     subst hw''
     clear inh
     replace II:=Hxq (II.out.mod1 mq)
     have ca0:=mq.cell ca0 (by simp);have ca1:=mq.cell ca1 (by simp);have cb0:=mq.cell cb0 (by simp);have cb1:=mq.cell cb1 (by simp)
     clear HCL ea0 ea1 eb0 eb1 mq
     have hen:encF T x=[.string (T x).rel,.slice xa xn xc]:=by unfold encF;rw [HXU.out]
     have HEN:=Lib.hid hen
     clear hen
     have heq:So.mrg (cmpG T) (a.drop i) (b.drop k)=x :: So.mrg (cmpG T) (a.drop (i+1)) (b.drop (k+1)):=by rw [HDA.out,HDB.out];exact So.mrg_eq HR.out
     have EQ:=Lib.hid heq
     clear heq
     have mA:=(Mod.refl [] wz).alloc (Obj.cells #[.string (T x).rel,.slice xa xn xc] 26)
     have I2:=Hxq (II.out.mod1 mA)
     have SX:Hid (Src Tryd.prog 2 32 (.slice (some ⟨wz.heap.size,0,none⟩) 1 1) 1 [.string (T x).rel,.slice xa xn xc] (wz.alloc (Obj.cells #[.string (T x).rel,.slice xa xn xc] 26))):=Lib.hid src_fact
     have hml:M.length+1<=3518437208883:=by have:=II.out.len;have:=II.out.ia;have:=II.out.kb;omega
     have OW:=Lib.hid I2.out.own
     clear mA
     go_wp2_with (at_builtin;refine wpList_append_src _ rfl _ _ 32 32 rfl 26 i0 (.agg #[.string ⟨#[]⟩,.slice none 0 0]) 2 40 Tryd.underlying32 hinf hz0 hz1 hz2 rfl (.slice oa M.length oc) M.length (flL (encF T) 2 M) rfl OW.out _ 1 [.string (T x).rel,.slice xa xn xc] rfl SX.out (by unfold maxLen;omega) (by omega) ?_)
     intro v2 w2 hown2 hm2 hf2 hn2
     obtain ⟨a2,c2,rfl⟩:=owns_slice hown2
     have OW2:=Lib.hid hown2;have M2:=Lib.hid hm2;have F2:=Lib.hid hf2
     clear hown2 hm2 hf2 hn2 OW SX II
     go_wp2_with fail
     go_roundw
     case rel=>exact ⟨(i+1),(k+1),M++[x],a2,c2,by simp,by go_num,by go_num,by rw [show (M++[x]).length=M.length+1 by simp];exact I2.out.push HU.out M2.out (by rw [HEN.out];exact OW2.out) (by have:=F2.out;simpa using this) EQ.out (by rw [HLA.out];omega) (by rw [HLB.out];omega) (by omega)⟩
     case measure=>simp [intOf];omega
    ·go_wp2_with fail
     have inh:=past_one wr
     refine region_past (by kernel_rfl) (by kernel_rfl) ?_
     repeat (quiet_step (exact past_call (HCL.out _)))
     refine wpQuiet_nil ?_
     intro wz hw'
     obtain ⟨⟨wq,mq⟩,hw''⟩:=hw'
     subst hw''
     clear inh
     replace II:=Hxq (II.out.mod1 mq)
     have ca0:=mq.cell ca0 (by simp);have ca1:=mq.cell ca1 (by simp);have cb0:=mq.cell cb0 (by simp);have cb1:=mq.cell cb1 (by simp)
     clear HCL ea0 ea1 eb0 eb1 mq
     have hen:encF T y=[.string (T y).rel,.slice ya yn yc]:=by unfold encF;rw [HYU.out]
     have HEN:=Lib.hid hen
     clear hen
     have heq:So.mrg (cmpG T) (a.drop i) (b.drop k)=y :: So.mrg (cmpG T) (a.drop i) (b.drop (k+1)):=by rw [HDA.out,HDB.out];exact So.mrg_gt (by rw [HR.out];omega)
     have EQ:=Lib.hid heq
     clear heq
     have mA:=(Mod.refl [] wz).alloc (Obj.cells #[.string (T y).rel,.slice ya yn yc] 26)
     have I2:=Hxq (II.out.mod1 mA)
     have SX:Hid (Src Tryd.prog 2 32 (.slice (some ⟨wz.heap.size,0,none⟩) 1 1) 1 [.string (T y).rel,.slice ya yn yc] (wz.alloc (Obj.cells #[.string (T y).rel,.slice ya yn yc] 26))):=Lib.hid src_fact
     have hml:M.length+1<=3518437208883:=by have:=II.out.len;have:=II.out.ia;have:=II.out.kb;omega
     have OW:=Lib.hid I2.out.own
     clear mA
     go_wp2_with (at_builtin;refine wpList_append_src _ rfl _ _ 32 32 rfl 26 i0 (.agg #[.string ⟨#[]⟩,.slice none 0 0]) 2 40 Tryd.underlying32 hinf hz0 hz1 hz2 rfl (.slice oa M.length oc) M.length (flL (encF T) 2 M) rfl OW.out _ 1 [.string (T y).rel,.slice ya yn yc] rfl SX.out (by unfold maxLen;omega) (by omega) ?_)
     intro v2 w2 hown2 hm2 hf2 hn2
     obtain ⟨a2,c2,rfl⟩:=owns_slice hown2
     have OW2:=Lib.hid hown2;have M2:=Lib.hid hm2;have F2:=Lib.hid hf2
     clear hown2 hm2 hf2 hn2 OW SX II
     go_wp2_with fail
     go_roundw
     case rel=>exact ⟨i,(k+1),M++[y],a2,c2,by simp,by go_num,by go_num,by rw [show (M++[y]).length=M.length+1 by simp];exact I2.out.push HU.out M2.out (by rw [HEN.out];exact OW2.out) (by have:=F2.out;simpa using this) EQ.out (by rw [HLA.out];omega) (by rw [HLB.out];omega) (by omega)⟩
     case measure=>simp [intOf];omega
   ·have h2I:¬ (k:Int)<(lb:Int):=by omega
    have hdb:b.drop k=[]:=List.drop_of_length_le (by rw [HLB.out];omega)
    have HDB:=Lib.hid hdb
    obtain ⟨ua,un,uc,hu⟩:=HU.out x
    rw [hu] at ca1
    have hen:encF T x=[.string (T x).rel,.slice ua un uc]:=by unfold encF;rw [hu]
    have HEN:=Lib.hid hen
    clear hu hen hdb h1l
    have heq:So.mrg (cmpG T) (a.drop i) (b.drop k)=x :: So.mrg (cmpG T) (a.drop (i+1)) (b.drop k):=by rw [HDA.out,HDB.out,So.mrg_nil',So.mrg_nil']
    have EQ:=Lib.hid heq
    clear heq
    have mA:=(Mod.refl [] wr).alloc (Obj.cells #[.string (T x).rel,.slice ua un uc] 26)
    have I2:=Hxq (II.out.mod1 mA)
    have SX:Hid (Src Tryd.prog 2 32 (.slice (some ⟨wr.heap.size,0,none⟩) 1 1) 1 [.string (T x).rel,.slice ua un uc] (wr.alloc (Obj.cells #[.string (T x).rel,.slice ua un uc] 26))):=Lib.hid src_fact
    have hml:M.length+1<=3518437208883:=by have:=II.out.len;have:=II.out.ia;have:=II.out.kb;omega
    have OW:=Lib.hid I2.out.own
    clear mA
    go_wp2_with (at_builtin;refine wpList_append_src _ rfl _ _ 32 32 rfl 26 i0 (.agg #[.string ⟨#[]⟩,.slice none 0 0]) 2 40 Tryd.underlying32 hinf hz0 hz1 hz2 rfl (.slice oa M.length oc) M.length (flL (encF T) 2 M) rfl OW.out _ 1 [.string (T x).rel,.slice ua un uc] rfl SX.out (by unfold maxLen;omega) (by omega) ?_)
    intro v2 w2 hown2 hm2 hf2 hn2
    obtain ⟨a2,c2,rfl⟩:=owns_slice hown2
    have OW2:=Lib.hid hown2;have M2:=Lib.hid hm2;have F2:=Lib.hid hf2
    clear hown2 hm2 hf2 hn2 OW SX II
    go_wp2_with fail
    go_roundw
    case rel=>exact ⟨(i+1),k,M++[x],a2,c2,by simp,by go_num,by go_num,by rw [show (M++[x]).length=M.length+1 by simp];exact I2.out.push HU.out M2.out (by rw [HEN.out];exact OW2.out) (by have:=F2.out;simpa using this) EQ.out (by rw [HLA.out];omega) (by rw [HLB.out];omega) (by omega)⟩
    case measure=>simp [intOf];omega
  ·have h1I:¬ (i:Int)<(la:Int):=by omega
   obtain rfl:i=la:=by omega
   have h1e:((i:Int) == (i:Int))=true:=by rw [beq_iff_eq]
   have hda:a.drop i=[]:=List.drop_of_length_le (by rw [HLA.out];exact Nat.le_refl _)
   have HDA:=Lib.hid hda
   clear hda
   by_cases h2:k<lb
   ·have h2I:(k:Int)<(lb:Int):=by omega
    have h2l:k<b.length:=by rw [HLB.out];exact h2
    obtain ⟨x,hy⟩:∃ y,b[k]=y:=⟨_,rfl⟩
    have hdb:b.drop k=x :: b.drop (k+1):=by rw [<-hy];exact List.drop_eq_getElem_cons h2l
    obtain ⟨gb,ob',hgb,cb0,cb1⟩:=(RB.out.keep II.out.mod).at' HLB.out k h2l
    rw [hy] at cb0 cb1
    subst hgb
    have HDB:=Lib.hid hdb
    obtain ⟨ua,un,uc,hu⟩:=HU.out x
    rw [hu] at cb1
    have hen:encF T x=[.string (T x).rel,.slice ua un uc]:=by unfold encF;rw [hu]
    have HEN:=Lib.hid hen
    clear hu hen hy hdb h2l
    have heq:So.mrg (cmpG T) (a.drop i) (b.drop k)=x :: So.mrg (cmpG T) (a.drop i) (b.drop (k+1)):=by rw [HDA.out,HDB.out,So.mrg_nil,So.mrg_nil]
    have EQ:=Lib.hid heq
    clear heq
    have mA:=(Mod.refl [] wr).alloc (Obj.cells #[.string (T x).rel,.slice ua un uc] 26)
    have I2:=Hxq (II.out.mod1 mA)
    have SX:Hid (Src Tryd.prog 2 32 (.slice (some ⟨wr.heap.size,0,none⟩) 1 1) 1 [.string (T x).rel,.slice ua un uc] (wr.alloc (Obj.cells #[.string (T x).rel,.slice ua un uc] 26))):=Lib.hid src_fact
    have hml:M.length+1<=3518437208883:=by have:=II.out.len;have:=II.out.ia;have:=II.out.kb;omega
    have OW:=Lib.hid I2.out.own
    clear mA
    go_wp2_with (at_builtin;refine wpList_append_src _ rfl _ _ 32 32 rfl 26 i0 (.agg #[.string ⟨#[]⟩,.slice none 0 0]) 2 40 Tryd.underlying32 hinf hz0 hz1 hz2 rfl (.slice oa M.length oc) M.length (flL (encF T) 2 M) rfl OW.out _ 1 [.string (T x).rel,.slice ua un uc] rfl SX.out (by unfold maxLen;omega) (by omega) ?_)
    intro v2 w2 hown2 hm2 hf2 hn2
    obtain ⟨a2,c2,rfl⟩:=owns_slice hown2
    have OW2:=Lib.hid hown2;have M2:=Lib.hid hm2;have F2:=Lib.hid hf2
    clear hown2 hm2 hf2 hn2 OW SX II
    go_wp2_with fail
    go_roundw
    case rel=>exact ⟨i,(k+1),M++[x],a2,c2,by simp,by go_num,by go_num,by rw [show (M++[x]).length=M.length+1 by simp];exact I2.out.push HU.out M2.out (by rw [HEN.out];exact OW2.out) (by have:=F2.out;simpa using this) EQ.out (by rw [HLA.out];omega) (by rw [HLB.out];omega) (by omega)⟩
    case measure=>simp [intOf];omega
   ·have h2I:¬ (k:Int)<(lb:Int):=by omega
    have hdb:b.drop k=[]:=List.drop_of_length_le (by rw [HLB.out];omega)
    have hfin:M=So.mrg (cmpG T) a b:=by
     have:=II.out.eq
     rw [HDA.out,hdb,So.mrg_nil,List.append_nil] at this
     exact this
    have HF:Hid (FRow T wr (.slice oa M.length oc) (So.mrg (cmpG T) a b)):=Hxq (by rw [<-hfin];exact FRow.own II.out.own rfl)
    generalize M.length=ml at *
    clear hdb hfin
    go_wp2_with fail
    go_ret
    exact ⟨_,rfl,HF.out,II.out.mod⟩
open Go.RowKit Go.Sort Go.Lib
set_option linter.unusedVariables false
set_option linter.unusedSimpArgs false
set_option maxRecDepth 100000
def SrtC (T:Nat->Tgd) (n:Nat):Prop:=∀ (lo m:Nat) (v:Value) (w:World),m<=n->(∀ i,FOk w (T i))->FRow T w v (List.range' lo m)->m * 40<=140737488355328 ->
 Calls Tryd.prog 9 #[v] w fun e w'=>∃ v' K,e=.returned v'/\FRow T w' v' K/\So.Srt (cmpG T) lo m K/\Mod [] w w'
theorem FRow.left {T:Nat->Tgd} {w:World} {b off cap lo m h:Nat} (hr:FRow T w (.slice (some ⟨b,off,none⟩) m cap) (List.range' lo m)) (hm:0<m) (hh:h<=m):m<=cap/\FRow T w (.slice (some ⟨b,off,none⟩) h cap) (List.range' lo h)/\FRow T w (.slice (some ⟨b,off+h * 2,none⟩) (m - h) (cap - h)) (List.range' (lo+h) (m - h)):=by
 rcases hr with ⟨a,c,h0,h1⟩ | ⟨b',off',cap',h0,hc,h1⟩
 ·have:=congrArg List.length h1
  simp at this;omega
 ·simp only [Value.slice.injEq,Option.some.injEq,Addr.mk.injEq,and_true] at h0
  obtain ⟨⟨rfl,rfl⟩,-,rfl⟩:=h0
  rw [List.length_range'] at hc
  refine ⟨by omega,.inr ⟨b,off,cap,by rw [List.length_range'],by rw [List.length_range'];omega,fun i hi=>?_⟩,.inr ⟨b,off+h * 2,cap - h,by rw [List.length_range'],by rw [List.length_range'];omega,fun i hi=>?_⟩⟩
  ·rw [List.length_range'] at hi
   have:=h1 i (by rw [List.length_range'];omega)
   simp only [List.getElem_range'] at this ⊢
   exact this
  ·rw [List.length_range'] at hi
   have:=h1 (h+i) (by rw [List.length_range'];omega)
   simp only [List.getElem_range'] at this ⊢
   rw [show off+h * 2+i * 2=off+(h+i) * 2 by omega,show lo+h+1 * i=lo+1 * (h+i) by omega]
   exact this
set_option maxHeartbeats 8000000 in
theorem srt_any (T:Nat->Tgd) (hU:∀ i,∃ a n c,(T i).u=.slice a n c):∀ n,SrtC T n
 | n,lo,m,v,w,hmn,hT,hR,hl=>by
  obtain ⟨i0,hinf,hz0,hz1,hz2⟩:=info_parts Tryd.infoFact
  by_cases hm2:m<2
  ·have hmI:(m:Int)<2:=by omega
   obtain ⟨va,vc,rfl⟩:=hR.lit
   have SX:=Hxq (hR.src hU)
   rw [List.length_range'] at SX ⊢
   clear hT hR
   go_enter Tryd.func9,Tryd.ntmps9
   go_wp2_with (at_builtin;refine wpList_append_src _ rfl _ _ 32 32 rfl 26 i0 (.agg #[.string ⟨#[]⟩,.slice none 0 0]) 2 40 Tryd.underlying32 hinf hz0 hz1 hz2 rfl (.slice none 0 0) 0 [] rfl (World.ownsRow_nil _ _ _ _) _ m (flL (encF T) 2 (List.range' lo m)) rfl SX.out (by unfold maxLen;omega) (by omega) ?_)
   intro v2 w2 hown2 hm2' hf2 hn2
   try rw [List.nil_append] at hown2
   try rw [Nat.zero_add] at hown2
   have HR:Hid (FRow T w2 v2 (List.range' lo m)):=Hxq (FRow.own hown2 (by simp))
   obtain ⟨a2,c2,rfl⟩:=owns_slice hown2
   have M2:Hid (Mod [] w w2):=Lib.hid hm2'
   have HS:=Hxq (So.Srt.small (cmpG_ord T) lo m hm2)
   clear hown2 hm2' hf2 hn2 SX
   go_wp2_with fail
   go_ret
   exact ⟨_,_,rfl,HR.out,HS.out,M2.out⟩
  ·have hmI:¬ (m:Int)<2:=by omega
   obtain ⟨va,vc,rfl⟩:=hR.lit
   rw [List.length_range'] at hR ⊢
   obtain ⟨b,off,hva,-,-⟩:=FRow.at (l:=List.range' lo m) (by rw [List.length_range'];exact hR) 0 (by rw [List.length_range'];omega)
   subst hva
   obtain ⟨h,hh⟩:∃ h,h=m / 2:=⟨_,rfl⟩
   have hhI:(m:Int) / 2=(h:Nat):=by omega
   have hhI2:(m:Int).tdiv 2=(h:Nat):=by rw [Int.tdiv_eq_ediv_of_nonneg (by omega)];exact hhI
   have hhm:h<=m:=by omega
   obtain ⟨hmc,hL,hRr⟩:=hR.left (by omega) hhm
   have hhc:h<=vc:=by omega
   have hvh:¬ vc=h:=by omega
   have HA:=Hxq (fun (x:World) (hx:Mod [] w x)=>srt_any T hU h lo h _ x (Nat.le_refl _) (fun i=>(hT i).past hx (by simp)) (hL.keep hx) (by omega))
   have HB:=Hxq (fun (x:World) (hx:Mod [] w x)=>srt_any T hU (m - h) (lo+h) (m - h) _ x (Nat.le_refl _) (fun i=>(hT i).past hx (by simp)) (hRr.keep hx) (by omega))
   have HT:=Lib.hid hT;have HU:=Lib.hid hU
   have HH:=Lib.hid hh
   clear hT hR hL hRr hh hU
   go_enter Tryd.func9,Tryd.ntmps9
   go_upto_region 6 with fail
   refine tl_region (fun wS=>Mod [] w wS) [] (by kernel_rfl) ?_
   have hHeld:Mod [] w w.drew:=(Mod.refl [] w).drew
   try simp only [Act.put,Lq1,Lq2,Lq3]
   generalize w.drew=wd at *
   refine TlAny.take 0 (v:=?_) hHeld ?_ ?_ ?_
   rotate_left 1
   ·refine Or.inl ⟨by rfl,?_⟩
    intro wS hSw
    replace hSw:Mod [] w wS:=hSw
    clear hSw
    go_simp
    all_goals with_reducible rfl
   ·exact fun _ _ _ h=>h
   try simp only [Act.put,Lq1,Lq2,Lq3]
   refine TlAny.take 1 (v:=?_) hHeld ?_ ?_ ?_
   rotate_left 1
   ·refine Or.inl ⟨by rfl,?_⟩
    intro wS hSw
    replace hSw:Mod [] w wS:=hSw
    clear hSw
    go_simp
    all_goals with_reducible rfl
   ·exact fun _ _ _ h=>h
   try simp only [Act.put,Lq1,Lq2,Lq3]
   refine TlAny.take 2 (v:=?_) hHeld ?_ ?_ ?_
   rotate_left 1
   ·refine Or.inl ⟨by rfl,?_⟩
    intro wS hSw
    replace hSw:Mod [] w wS:=hSw
    clear hSw
    go_simp
    all_goals with_reducible rfl
   ·exact fun _ _ _ h=>h
   try simp only [Act.put,Lq1,Lq2,Lq3]
   refine TlAny.take 4 (v:=?_) hHeld ?_ ?_ ?_
   rotate_left 1
   ·refine Or.inl ⟨by rfl,?_⟩
    intro wS hSw
    replace hSw:Mod [] w wS:=hSw
    clear hSw
    go_simp
    all_goals with_reducible rfl
   ·exact fun _ _ _ h=>h
   try simp only [Act.put,Lq1,Lq2,Lq3]
   refine TlAny.take 5 (v:=?_) hHeld ?_ ?_ ?_
   rotate_left 1
   ·refine Or.inl ⟨by rfl,?_⟩
    intro wS hSw
    replace hSw:Mod [] w wS:=hSw
    clear hSw
    go_simp
    all_goals with_reducible rfl
   ·exact fun _ _ _ h=>h
   try simp only [Act.put,Lq1,Lq2,Lq3]
   refine TlAny.take 6 (v:=?_) hHeld ?_ ?_ ?_
   rotate_left 1
   ·refine Or.inl ⟨by rfl,?_⟩
    intro wS hSw
    replace hSw:Mod [] w wS:=hSw
    clear hSw
    go_simp
    all_goals with_reducible rfl
   ·exact fun _ _ _ h=>h
   try simp only [Act.put,Lq1,Lq2,Lq3]
   refine TlAny.one 3 ?_
   intro K hK
   go_simp
   refine (HA.out wd hHeld).mono ?_
   rintro e3 w1 ⟨v3,K3,rfl,r3,s3,m3⟩
   refine hK.out _ _ (fun _=>hHeld.trans m3 (by simp)) ?_
   clear hK K
   try simp only [Act.put,Lq1,Lq2,Lq3]
   replace hHeld:Mod [] w w1:=hHeld.trans m3 (by simp)
   clear m3
   refine TlAny.one 7 ?_
   intro K hK
   go_simp
   refine (HB.out w1 hHeld).mono ?_
   rintro e7 w2 ⟨v7,K7,rfl,r7,s7,m7⟩
   refine hK.out _ _ (fun _=>hHeld.trans m7 (by simp)) ?_
   clear hK K
   try simp only [Act.put,Lq1,Lq2,Lq3]
   replace hHeld:Mod [] w w2:=hHeld.trans m7 (by simp)
   replace r3:=r3.keep m7
   clear m7
   refine TlAny.one 8 ?_
   intro K hK
   go_simp
   refine (merged_any T HU.out K3 K7 _ _ w2 (fun i=>(HT.out i).past hHeld (by simp)) r3 r7 (by have:=s3.len;have:=s7.len;omega)).mono ?_
   rintro e8 w8 ⟨v8,rfl,r8,m8⟩
   refine hK.out _ _ (fun _=>hHeld.trans m8 (by simp)) ?_
   clear hK K
   try simp only [Act.put,Lq1,Lq2,Lq3]
   replace hHeld:Mod [] w w8:=hHeld.trans m8 (by simp)
   clear m8
   refine TlAny.take 9 (v:=?_) hHeld ?_ ?_ ?_
   rotate_left 1
   ·refine Or.inl ⟨by rfl,?_⟩
    intro wS hSw
    replace hSw:Mod [] w wS:=hSw
    clear hSw
    go_simp
    all_goals with_reducible rfl
   ·exact fun _ _ _ h=>h
   try simp only [Act.put,Lq1,Lq2,Lq3]
   refine TlAny.fin ?_
   have HM:=Lib.hid hHeld;have HR:=Lib.hid r8
   have HS:Hid (So.Srt (cmpG T) lo m (So.mrg (cmpG T) K3 K7)):=Hxq (by have:=So.Srt.merge (cmpG_ord T) s3 s7;rwa [show h+(m - h)=m by omega] at this)
   obtain ⟨a8,c8,rfl⟩:=r8.lit
   generalize (So.mrg (cmpG T) K3 K7).length=n8 at *
   clear hHeld r3 r7 s3 s7 r8
   go_wp2_with fail
   go_ret
   first | exact ⟨_,_,rfl,HR.out,HS.out,HM.out⟩ | exact ⟨_,rfl,_,HR.out,HS.out,HM.out⟩
termination_by n lo m=>m
decreasing_by all_goals omega
end Go.Proofs.YtcalbbfkgdfidaaDoor
