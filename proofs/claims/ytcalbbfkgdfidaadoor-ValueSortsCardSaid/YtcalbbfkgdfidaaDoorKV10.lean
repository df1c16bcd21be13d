/- THE TEXTS MERGED: SoLaw SoOpen2 PfSorts. -/
import Derived.Test.YtcalbbfkgdfidaaDoorKV9
import Derived.SizedLaws
import Derived.Test.YtcalbbfkgdfidaaDoorCards
import Derived.Test.YtcalbbfkgdfidaaDoorTie
import Derived.ShutString
import Derived.JoinedCond
import Derived.Deep.CondSized
import Derived.Deep.DeepHandedRow
import Derived.Deep.DeepWitnessRowRef
import Derived.SevenTiedAt
namespace Go.Proofs.YtcalbbfkgdfidaaDoor
open Go.RowKit Go.Sort Go.Lib
set_option linter.unusedVariables false
set_option linter.unusedSimpArgs false
set_option maxRecDepth 100000
/-- append to a slice that is full, of a row that others see too: a row of the call's own -/
theorem wpList_append_full {P:Program} {w:World} {ops:Array Oper} {rest:List Oper} {o:Oper} {a:Act} {Q:Exit->Act->World->Prop} (hgd:o.guard=none) (s x:Operand) (t tx:TypeId)
  (ho:o.op=.call { callee:=.builtin .append,args:=#[s,x],argTypes:=#[t,tx] })
  (e:TypeId) (i:TypeInfo) (z:Value) (size bytes:Nat) (ht:P.underlying t=some (.slice e)) (hi:P.info? e=some i) (hz:i.zero=some z)
  (hsize:i.size=size) (hby:i.bytes=bytes) (hzs:z.cells.size=size)
  (g n:Nat) (xs:List Value) (hs:a.eval s=.slice (some ⟨g,0,none⟩) n n) (hxl:xs.length=n * size) (hold:∀ j u,xs[j]?=some u->w.cell? ((⟨g,0,none⟩:Addr).add j)=some u)
  (vx:Value) (m:Nat) (news:List Value) (hx:a.eval x=vx) (hsrc:Src P size tx vx m news w) (hm:0<m)
  (h63:n+m<=maxLen) (hbytes:(n+m) * bytes<=140737488355328)
  (h:∀ v' w',w'.ownsRow 0 e size v' (n+m) (xs++news)->Mod [] w w'->(∀ k∈fp v',w.heap.size<=k)->wpList P ops Q rest (a.put o.dst v') w'):wpList P ops Q (o :: rest) a w :=
 wpList_plain hgd fun K hK=>by
  subst hsize
  subst hby
  have hl:=hsrc.newsLen
  have hlen:(xs++news).length=(n+m) * i.size:=by rw [List.length_append,hxl,hl,Nat.add_mul]
  have hge:=grownCap_ge w (n+m) n e
  have hcm:grownCap w (n+m) n e<=maxLen:=grownCap_le_maxLen w (n+m) n e h63
  have hown:(w.drew.alloc (.cells ((xs++news).toArray++Builtin.zeroCells z.cells (grownCap w (n+m) n e - (n+m))) e)).ownsRow 0 e i.size
    (.slice (some ⟨w.heap.size,0,none⟩) (n+m) (grownCap w (n+m) n e)) (n+m) (xs++news):=by
   refine ⟨hlen,.inr ⟨w.heap.size,_,_,rfl,Nat.zero_le _,heap_alloc_new w.drew _,hge,hcm,?_,?_⟩⟩
   ·simp only [Array.size_append,List.size_toArray,size_zeroCells,hzs,hlen,<-Nat.add_mul]
    congr 1
    omega
   ·simp only [Array.toList_append]
    rw [<-hlen]
    exact List.take_left
  have hr:=run_append_grow_src (P:=P) w t tx o.type e i z ht hi hz (some ⟨g,0,none⟩) n n xs (run_firstCells_some w.drew i.size n ⟨g,0,none⟩ n n xs hxl (by simpa using hold)) vx m news hsrc (by omega) (by simp only [maxLen] at h63;omega) (growslice_fits (by omega) hbytes)
  unfold Oper.wp execOp
  simp only [ho,resolve,invoke,builtin,Sem.run_bind,Sem.run_pure,Result.andThen_ok,List.map_toArray,List.map_cons,List.map_nil,hs,hx,hr]
  exact hK _ _ (h _ _ hown (((Mod.refl [] w).drew).alloc _) (by simp [fp]))
/-- a row's cells, that may be written over -/
def OwF (w:World) (q:Nat) (F:List Value):Prop:=∀ j (h:j<F.length),w.cell? ⟨q,j,none⟩=some F[j]/\w.frozen? ⟨q,j,none⟩=false/\F[j].oneCell'=true
theorem OwF.keep {S:List Nat} {w w':World} {q:Nat} {F:List Value} (h:OwF w q F) (hm:Mod S w w') (hq:q∉S):OwF w' q F:=fun j hj=>by
 obtain ⟨h1,h2,h3⟩:=h j hj
 have hw:Wr w q j:=⟨by rw [h1];rfl,h2⟩
 exact ⟨hm.cell h1 hq,(hw.past hm hq).2,h3⟩
theorem OwF.set {w:World} {q:Nat} {F:List Value} (h:OwF w q F) (i:Nat) (v:Value) (hv:v.oneCell'=true):OwF (w.setCell ⟨q,i,none⟩ v) q (F.set i v):=fun j hj=>by
 rw [List.length_set] at hj
 obtain ⟨h1,h2,h3⟩:=h j hj
 rw [World.frozen?_setCell,List.getElem_set]
 by_cases e:i=j
 ·subst e
  rw [if_pos rfl]
  exact ⟨World.cell?_setCell_same _ _ _ h1,h2,hv⟩
 ·rw [if_neg e]
  exact ⟨by rw [World.cell?_setCell_other _ _ _ _ (by first | (simp;done) | (simp;omega))];exact h1,h2,h3⟩
theorem OwF.of {T:Nat->Tgd} (hU:∀ i,∃ a n c,(T i).u=.slice a n c) {w:World} {q:Nat} {K:List Nat} (h:Row (encG T) 3 w q K):OwF w q (flL (encG T) 3 K):=fun j hj=>by
 have hj2:j<K.length * 3:=by rwa [flL_len] at hj
 have h1:=h j (by rw [size_flatK,List.size_toArray];exact hj2)
 have h2:=flL_get (encG T) 3 K j hj2
 rw [List.getElem?_eq_getElem hj] at h2
 rw [Nat.zero_add] at h1
 exact ⟨by rw [Option.some.inj h2];exact h1.1,h1.2,flL_one (encG_enc T hU) K _ (List.getElem_mem hj)⟩
theorem FRow.ofRow {T:Nat->Tgd} (hU:∀ i,∃ a n c,(T i).u=.slice a n c) {w:World} {g:Nat} {l:List Nat} {c n:Nat} (h:Row (encF T) 2 w g l) (hn:l.length=n) (hc:n<=c):FRow T w (.slice (some ⟨g,0,none⟩) n c) l:=by
 refine .inr ⟨g,0,c,by rw [hn],by rw [hn];exact hc,fun i hi=>?_⟩
 have hg:l.getD i 0=l[i]:=by rw [List.getD_eq_getElem?_getD,List.getElem?_eq_getElem hi];rfl
 have h0:=(h.cell (encF_enc T hU) i hi 0 _ (by rw [hg];rfl)).1
 have h1:=(h.cell (encF_enc T hU) i hi 1 _ (by rw [hg];rfl)).1
 rw [Nat.zero_add]
 rw [Nat.add_zero] at h0
 exact ⟨h0,h1⟩
/-- the list that was answered, added to -/
def MoR (w9:World) (q nk:Nat) (wr:World) (i:Nat) (mv:Value):Prop :=
 (i=0/\mv=.slice (some ⟨q,0,none⟩) nk nk)\/(0<i/\∃ xs,wr.ownsRow 0 28 3 mv (nk+i) xs/\∀ x∈fp mv,w9.heap.size<=x)
theorem MoR.lit {w9 wr:World} {q nk i:Nat} {mv:Value} (h:MoR w9 q nk wr i mv):∃ a c,mv=.slice a (nk+i) c:=by
 rcases h with ⟨rfl,rfl⟩ | ⟨-,xs,h,-⟩
 ·exact ⟨_,_,rfl⟩
 ·exact owns_slice h
def eight:List Value:=[.string ⟨#[]⟩,.slice none 0 0,.int .i64 (-8)]
theorem src_eight {w:World}:Src Tryd.prog 3 22 (.slice (some ⟨w.heap.size,0,none⟩) 1 1) 1 eight (w.alloc (Obj.cells #[.string ⟨#[]⟩,.slice none 0 0,.int .i64 (-8)] 28)):=by
 refine Src.ofSlice _ Tryd.underlying22 ⟨w.heap.size,0,none⟩ 1 1 _ rfl (fun j u hu=>?_) (fun u hu=>by simp [eight] at hu;rcases hu with rfl | rfl | rfl <;> rfl)
 rw [addr_add,Nat.zero_add]
 unfold World.cell?
 simp only [heap_alloc_new]
 rw [<-Array.getElem?_toList];exact hu
set_option maxHeartbeats 8000000 in
theorem ValueSorts_any (T:Nat->Tgd) (n:Nat) (hn:n * 48<=140737488351232) (hTn:T n=⟨⟨#[]⟩,.slice none 0 0,[],-7⟩) (hU:∀ i,∃ a n c,(T i).u=.slice a n c) (v:Value) (w:World) (h:GRow w v T n) (hT:∀ i,FOk w (T i)) (hg:GlobV w) :
  Calls Tryd.prog 3 #[v] w fun e w'=>e=.returned (.bool true)/\Mod [] w w':=by
 obtain ⟨a,c,rfl⟩:=h.lit
 obtain ⟨i0,hinf,hz0,hz1,hz2⟩:=info_parts Tryd.infoTg
 have HTN:=Lib.hid hTn;have HU:=Lib.hid hU;have H:=Lib.hid h;have HG:=Lib.hid hg;have HT:=Lib.hid hT
 have HA:=Hxq (awake_any w hg)
 have ecast:Hid (((n:Int)+1)=((n+1:Nat):Int)):=Hxq (by omega)
 clear h hg hT hTn hU
 go_enter Tryd.func3,Tryd.ntmps3
 go_wp2_with fail
 refine Calls.mono HA.out ?_
 rintro e1 w1 ⟨rfl,m1⟩
 have H1:=Hxq (H.out.past m1 (by simp));have M1:=Lib.hid m1
 clear m1 HA
 go_wp2_with (at_make;refine wpList_make_full _ rfl _ _ 22 rfl 0 28 i0 (.agg #[.string ⟨#[]⟩,.slice none 0 0,.int .i64 0]) 3 Tryd.underlying22 hinf hz0 hz1 .i64 .i64 _ _ (n+1) rfl rfl (by omega) (by omega) (by rw [hz2];omega) (by unfold maxLen;omega) (Nat.zero_le _) ?_)
 intro w2 hown hg1
 obtain ⟨cur,hat,hcs⟩:∃ cur:List Value,w2.heap[w1.heap.size]?=some (.cells cur.toArray 28 (0,0))/\cur.length=(n+1) * 3:=by
  rcases hown.2 with ⟨hv,_⟩ | ⟨g',cap',cur,hv,_,hat,_,_,hcs,htk⟩
  ·cases hv
  ·cases hv
   exact ⟨cur.toList,by simpa using hat,by simpa using hcs⟩
 have hm2:=(Mod.refl [] w1).grown hg1 (by simp)
 have HAT:=Lib.hid hat;have HCS:=Lib.hid hcs;have M2:=Hxq (M1.out.trans hm2 (by simp));have H2:=Hxq (H1.out.past hm2 (by simp));have S12:=Lib.hid hm2.size;have M12:=Lib.hid hm2
 have hwg:w.heap.size<=w1.heap.size:=M1.out.size
 have hg2:w1.heap.size<w2.heap.size:=lt_of_block hat
 obtain ⟨g,hgd⟩:∃ g,w1.heap.size=g:=⟨_,rfl⟩
 rw [hgd] at HAT hwg hg2
 clear hown hg1 hat hcs hm2
 try rw [hgd]
 go_wp2_with (with_reducible refine wpList_copy_tg _ rfl _ _ rfl g (n+1) (n+1) a n c T HU.out rfl rfl cur HAT.out (by omega) HCS.out H2.out ?_)
 intro w3 hat3 hm3
 have S23:=hm3.size
 have hR3:Row (encG T) 3 w3 g (List.range' 0 n):=Row.front hat3.out
 have hwr:∀ c,c<3->Wr w3 g (n * 3+c):=fun c hc=>Wr.of hat3.out (by rw [List.size_toArray,List.length_append,List.length_drop,flL_len,range_len,HCS.out];omega)
 have hen:encG T n=[.string ⟨#[]⟩,.slice none 0 0,.int .i64 (-7)]:=by unfold encG;rw [HTN.out]
 have N:=Row.ext hR3 (encG_enc T HU.out) n (n * 3) (by rw [range_len]) hwr
 rw [hen,<-range_snocG] at N
 have wp0:=hwr 0 (by omega);have wp1:=hwr 1 (by omega);have wp2:=hwr 2 (by omega)
 rw [Nat.add_zero] at wp0
 obtain ⟨x0,c0⟩:=Option.isSome_iff_exists.1 wp0.1
 obtain ⟨x1,c1⟩:=Option.isSome_iff_exists.1 wp1.1
 obtain ⟨x2,c2⟩:=Option.isSome_iff_exists.1 wp2.1
 have hfz:∀ j,w3.frozen? ⟨g,j,none⟩=false:=fun j=>by simp [World.frozen?,hat3.out]
 have hm3':Mod [] w w3:=M2.out.trans hm3 (fun t ht=>.inr (by rw [Msq] at ht;omega))
 have N2:Row (encG T) 3 (((w3.setCell ⟨g,n * 3,none⟩ (.string ⟨#[]⟩)).setCell ⟨g,n * 3+1,none⟩ (.slice none 0 0)).setCell ⟨g,n * 3+2,none⟩ (.int .i64 (-7))) g (List.range' 0 (n+1)):=N
 have hmS:Mod [g] w1 (((w3.setCell ⟨g,n * 3,none⟩ (.string ⟨#[]⟩)).setCell ⟨g,n * 3+1,none⟩ (.slice none 0 0)).setCell ⟨g,n * 3+2,none⟩ (.int .i64 (-7))) :=
  ((((M12.out.mono (T:=[g]) (by simp)).trans hm3 (fun t ht=>.inl ht)).setCell (.inl (by simp)) _).setCell (.inl (by simp)) _).setCell (.inl (by simp)) _
 have N4:=Lib.hid N2;have M4:=Lib.hid hmS;have HEN:=Lib.hid hen
 have hnn:n<n+1:=by omega
 have hnI:(n:Int)<(n:Int)+1:=by omega
 clear hR3 hwr N wp0 wp1 wp2 hm3 hm3' hat3 N2 hmS hen HAT HCS M12
 have M4b:Hid (Mod [] w1 (((w3.setCell ⟨g,n * 3,none⟩ (.string ⟨#[]⟩)).setCell ⟨g,n * 3+1,none⟩ (.slice none 0 0)).setCell ⟨g,n * 3+2,none⟩ (.int .i64 (-7)))):=Hxq ((Mod.refl [] w1).trans M4.out (fun t ht=>.inr (by rw [Msq] at ht;omega)))
 have hin:n<=n+1:=by omega
 have S34:w2.heap.size<=(((w3.setCell ⟨g,n * 3,none⟩ (.string ⟨#[]⟩)).setCell ⟨g,n * 3+1,none⟩ (.slice none 0 0)).setCell ⟨g,n * 3+2,none⟩ (.int .i64 (-7))).heap.size:=by simpa using S23
 go_wp2_with fail
 clear c0 c1 c2 hfz
 generalize World.setCell _ _ _=w4 at *
 have HSD:=Hxq (sortedTg_any (encG_enc T HU.out) n g (n+1) w4 (fun w' hm' q hq=>cmpG_cmp T w1 w' q (fun i=>(HT.out i).past M1.out (by simp)) (M4b.out.trans hm' (by simp)) (by have:=M4b.out.size;omega)) (Row.pre (R:=[n]) (by rw [<-range_snocG];exact N4.out)) (by omega))
 have hg4:g<w4.heap.size:=by have:=S34;omega
 refine Calls.mono HSD.out ?_
 rintro e5 w5 ⟨q,C,rfl,hCh,hCl,hRK,hq1,hq2,m5⟩
 have R5:=Hxq (N4.out.past m5 hg4);have H5:=Hxq (H1.out.past (M4b.out.trans m5 (by simp)) (by simp));have M5:=Hxq (M1.out.trans (M4b.out.trans m5 (by simp)) (by simp));have RK:=Lib.hid hRK
 have G5:=Hxq (Nat.lt_of_lt_of_le hg4 m5.size);have GQ:=Lib.hid hq2
 have hgq:g≠q:=by omega
 have HGQ:=Lib.hid hgq
 have T5:Hid (∀ i,FOk w5 (T i)):=Hxq (fun i=>(HT.out i).past M5.out (by simp))
 have hQW:w.heap.size<=q:=by have:=M4b.out.size;omega
 have HQW:=Lib.hid hQW
 have ord:=cmpG_ord T
 have hK:So.Kinds (cmpG T) n (So.cpt (cmpG T) C):=So.Kinds.of ord (by have:=hCh.1;rw [hCl,<-List.range_eq_range'] at this;exact this) (hCh.2 ord)
 obtain ⟨K,hKe⟩:∃ K,K=So.cpt (cmpG T) C:=⟨_,rfl⟩
 rw [<-hKe] at hK RK ⊢
 obtain ⟨nk,hnk⟩:∃ nk,nk=K.length:=⟨_,rfl⟩
 rw [<-hnk]
 have hnki:nk<=n:=by have h1:=hK.count ord;have h2:=List.length_filter_le (So.fstB (cmpG T)) (List.range n);rw [List.length_range] at h2;omega
 have ORD:=Lib.hid ord;have HK:=Lib.hid hK;have HNK:=Lib.hid hnk
 have HWG:=Lib.hid hwg
 clear HSD m5 hRK hq1 hq2 N4 H1 M4b hg4 hCh hCl hKe hnk ord hK hgq hQW H2 M2 S12 S23 S34 M4 hwg hg2 hgd HG
 have c7:=(R5.out.cell (encG_enc T HU.out) n (by rw [range_len];omega) 2 (.int .i64 (-7)) (by rw [range_getD _ _ (by omega),HEN.out];rfl)).1
 have hnn2:n<n+1:=by omega
 go_wp2_with fail
 clear c7
 go_loopw [6,7] (fun sv kv wr=>∃ (k:Nat),sv=.bool true/\kv=.int .i64 (k:Nat)/\k<=n/\Mod [] w5 wr) (fun _ kv _=>n - (intOf kv).toNat)
 case atStart=>exact ⟨0,rfl,rfl,by omega,Mod.refl _ _⟩
 case round =>
  obtain ⟨k,rfl,rfl,hk,hm⟩:=hrel
  have HM:=Lib.hid hm
  clear hm
  by_cases hlt:k<n
  ·have hltI:(k:Int)<(n:Int):=by omega
   have hk1:k<n+1:=by omega
   have hk1I:(k:Int)<(n:Int)+1:=by omega
   obtain ⟨b,off,hab,c0,c1,c2⟩:=(H5.out.past HM.out (by simp)).at k hlt
   subst hab
   have hE:=encG_enc T HU.out
   have hRw:=R5.out.past HM.out G5.out
   have hgk:=range_getD (n+1) k hk1
   obtain ⟨ua,un,uc,hu⟩:=HU.out k
   have hev:encG T k=[.string (T k).rel,.slice ua un uc,.int .i64 (T k).tag]:=by unfold encG;rw [hu]
   have d0:=(hRw.cell hE k (by rw [range_len];omega) 0 _ (by rw [hgk,hev];rfl)).1
   have d1:=(hRw.cell hE k (by rw [range_len];omega) 1 _ (by rw [hgk,hev];rfl)).1
   have d2:=(hRw.cell hE k (by rw [range_len];omega) 2 _ (by rw [hgk,hev];rfl)).1
   rw [Nat.add_zero] at d0
   rw [hu] at c1
   have hok:=(T5.out k)
   have HCL:Hid (∀ p:Past wr,Calls Tryd.prog 8 #[.agg #[.string (T k).rel,.slice ua un uc],.agg #[.string (T k).rel,.slice ua un uc]] p.w fun e W''=>e=.returned (.bool true)/\Mod [] p.w W''):=Hxq (fun p=>by
    have hrw:=hok.row.past (HM.out.trans p.m (by simp)) (by simp)
    rw [hu] at hrw
    have:=SameFact_any (T k).rel (T k).rel (.slice ua un uc) (.slice ua un uc) (T k).ts (T k).ts (fun x hx=>(hok.vl x hx).1) (fun x hx=>(hok.vl x hx).1) hok.len hok.len p.w hrw hrw
    simpa using this)
   obtain ⟨rr,hrr⟩:∃ rr,(T k).rel=rr:=⟨_,rfl⟩
   obtain ⟨tt,htt⟩:∃ tt,(T k).tag=tt:=⟨_,rfl⟩
   rw [hrr] at c0 d0 HCL;rw [htt] at c2 d2
   have ec0:=past_cell c0;have ec1:=past_cell c1;have ec2:=past_cell c2;have ed0:=past_cell d0;have ed1:=past_cell d1;have ed2:=past_cell d2
   clear hE hRw hgk hu hev hok hrr htt
   go_wp2_with fail
   have inh:=past_one wr
   refine region_past (by kernel_rfl) (by kernel_rfl) ?_
   repeat (quiet_step (exact past_call (HCL.out _)))
   refine wpQuiet_nil ?_
   intro wz hw'
   obtain ⟨⟨wq,mq⟩,hw''⟩:=hw'
   subst hw''
   clear inh
   clear HCL c0 c1 c2 d0 d1 d2
   go_wp2_with fail
   go_roundw
   case rel=>exact ⟨k+1,by simp,by go_num,by omega,HM.out.trans mq (by simp)⟩
   case measure=>simp [intOf];omega
  ·have hltI:¬ (k:Int)<(n:Int):=by omega
   go_wp2_with fail
   clear hltI hlt hk
   go_loopw [8,9] (fun kv _ wr=>∃ (k:Nat),kv=.int .i64 ((k+1:Nat):Int)/\Mod [] w5 wr) (fun kv _ _=>nk+1 - (intOf kv).toNat)
   case atStart=>exact ⟨0,rfl,HM.out⟩
   case round =>
    clear HM
    obtain ⟨k',rfl,hm⟩:=hrel
    have HM:=Lib.hid hm
    obtain ⟨kk,hkk⟩:∃ kk,k'+1=kk:=⟨_,rfl⟩
    rw [hkk]
    have HKK:=Lib.hid hkk
    clear hm hkk
    by_cases hlt:kk<nk
    ·have hltI:(kk:Int)<(nk:Int):=by omega
     have hpI:(kk:Int) - 1=(k':Nat):=by have:=HKK.out;omega
     have wp1:IntKind.i64.wrap (k':Int)=(k':Int):=by rw [IntKind.wrap_i64];have:=HKK.out;omega
     have hk1:k'<nk:=by have:=HKK.out;omega
     have hk1I:(k':Int)<(nk:Int):=by omega
     have hl1:kk<K.length:=by rw [<-HNK.out];exact hlt
     have hl0:k'<K.length:=by rw [<-HNK.out];exact hk1
     obtain ⟨x,hx⟩:∃ x,K[k']=x:=⟨_,rfl⟩
     obtain ⟨y,hy⟩:∃ y,K[kk]=y:=⟨_,rfl⟩
     have hgx:K.getD k' 0=x:=by rw [<-hx];simp [List.getD_eq_getElem?_getD,hl0]
     have hgy:K.getD kk 0=y:=by rw [<-hy];simp [List.getD_eq_getElem?_getD,hl1]
     have hpw:=List.pairwise_iff_getElem.1 HK.out.pw k' kk hl0 hl1 (by have:=HKK.out;omega)
     rw [hx,hy] at hpw
     obtain ⟨ua,un,uc,hu⟩:=HU.out x
     obtain ⟨va,vn,vc,hv⟩:=HU.out y
     have hex:encG T x=[.string (T x).rel,.slice ua un uc,.int .i64 (T x).tag]:=by unfold encG;rw [hu]
     have hey:encG T y=[.string (T y).rel,.slice va vn vc,.int .i64 (T y).tag]:=by unfold encG;rw [hv]
     have hE:=encG_enc T HU.out
     have hRw:=RK.out.past HM.out GQ.out
     have c0:=(hRw.cell hE k' hl0 0 _ (by rw [hgx,hex];rfl)).1
     have c1:=(hRw.cell hE k' hl0 1 _ (by rw [hgx,hex];rfl)).1
     have c2:=(hRw.cell hE k' hl0 2 _ (by rw [hgx,hex];rfl)).1
     have d0:=(hRw.cell hE kk hl1 0 _ (by rw [hgy,hey];rfl)).1
     have d1:=(hRw.cell hE kk hl1 1 _ (by rw [hgy,hey];rfl)).1
     have d2:=(hRw.cell hE kk hl1 2 _ (by rw [hgy,hey];rfl)).1
     rw [Nat.add_zero] at c0 d0
     have HCL:Hid (∀ p:Past wr,Calls Tryd.prog 7 #[.agg #[.string (T x).rel,.slice ua un uc,.int .i64 (T x).tag],.agg #[.string (T y).rel,.slice va vn vc,.int .i64 (T y).tag]] p.w fun e W''=>e=.returned (.int .i64 (fcmp (T x) (T y)))/\Mod [] p.w W''):=Hxq (fun p=>by
      have m:=HM.out.trans p.m (by simp)
      have:=byFact_any (T x) (T y) p.w ((T5.out x).past m (by simp)) ((T5.out y).past m (by simp))
      rwa [hu,hv] at this)
     obtain ⟨r,hr⟩:∃ r,fcmp (T x) (T y)=r:=⟨_,rfl⟩
     have hneg:r<0:=by rw [<-hr];exact hpw
     rw [hr] at HCL
     have hn0:¬ 0<=r:=by omega
     have ec0:=past_cell c0;have ec1:=past_cell c1;have ec2:=past_cell c2;have ed0:=past_cell d0;have ed1:=past_cell d1;have ed2:=past_cell d2
     clear hx hy hgx hgy hpw hu hv hex hey hE hRw hr hl0 hl1
     go_wp2_with fail
     have inh:=past_one wr
     refine region_past (by kernel_rfl) (by kernel_rfl) ?_
     repeat (quiet_step (exact past_call (HCL.out _)))
     refine wpQuiet_nil ?_
     intro wz hw'
     obtain ⟨⟨wq,mq⟩,hw''⟩:=hw'
     subst hw''
     clear inh
     clear HCL c0 c1 c2 d0 d1 d2
     go_wp2_with fail
     go_roundw
     case rel=>exact ⟨kk,by go_num,HM.out.trans mq (by simp)⟩
     case measure=>simp [intOf];omega
    ·have hltI:¬ (kk:Int)<(nk:Int):=by omega
     go_wp2_with fail
     clear hltI hlt HKK
     go_loopw [10,11,12,13] (fun jv _ _ _ wr=>∃ (j:Nat),jv=.int .i64 (j:Nat)/\j<=nk/\Mod [] w5 wr) (fun jv _ _ _ _=>nk - (intOf jv).toNat)
     case atStart=>exact ⟨0,rfl,by omega,HM.out⟩
     case round =>
      clear HM
      obtain ⟨j,rfl,hj,hm⟩:=hrel
      have HM:=Lib.hid hm
      clear hm
      by_cases hlt:j<nk
      ·have hltI:(j:Int)<(nk:Int):=by omega
       have hl1:j<K.length:=by rw [<-HNK.out];exact hlt
       obtain ⟨y,hy⟩:∃ y,K[j]=y:=⟨_,rfl⟩
       have hgy:K.getD j 0=y:=by rw [<-hy];simp [List.getD_eq_getElem?_getD,hl1]
       have hyn:y<n:=HK.out.lt y (by rw [<-hy];exact List.getElem_mem hl1)
       have HFST:Hid (∀ i,cmpG T i y=0->y<=i):=Hxq (HK.out.first ORD.out (by rw [<-hy];exact List.getElem_mem hl1))
       have HGY:=Lib.hid hgy;have HL1:=Lib.hid hl1
       clear hy hgy hl1
       go_wp2_with fail
       go_loopw [11,12,13] (fun fv kv _ wr=>∃ (k:Nat) (fi:Int),fv=.int .i64 fi/\kv=.int .i64 (k:Nat)/\k<=n/\(fi=-1/\(∀ i,i<k->cmpG T i y≠0)\/fi=(y:Nat))/\Mod [] w5 wr) (fun _ kv _ _=>n - (intOf kv).toNat)
       case atStart=>exact ⟨0,-1,rfl,rfl,by omega,.inl ⟨rfl,fun i hi=>by omega⟩,HM.out⟩
       case round =>
        clear HM
        obtain ⟨k,fi,rfl,rfl,hk,hfi,hm⟩:=hrel
        have HM:=Lib.hid hm
        clear hm
        rcases hfi with ⟨rfl,hno⟩ | rfl
        ·have HNO:=Lib.hid hno
         clear hno
         by_cases hkn:k<n
         ·have hkI:(k:Int)<(n:Int):=by omega
          obtain ⟨b,off,hab,c0,c1,c2⟩:=(H5.out.past HM.out (by simp)).at k hkn
          subst hab
          obtain ⟨ua,un,uc,hu⟩:=HU.out k
          obtain ⟨va,vn,vc,hv⟩:=HU.out y
          have hey:encG T y=[.string (T y).rel,.slice va vn vc,.int .i64 (T y).tag]:=by unfold encG;rw [hv]
          have hE:=encG_enc T HU.out
          have hRw:=RK.out.past HM.out GQ.out
          have d0:=(hRw.cell hE j HL1.out 0 _ (by rw [HGY.out,hey];rfl)).1
          have d1:=(hRw.cell hE j HL1.out 1 _ (by rw [HGY.out,hey];rfl)).1
          have d2:=(hRw.cell hE j HL1.out 2 _ (by rw [HGY.out,hey];rfl)).1
          rw [Nat.add_zero] at d0
          rw [hu] at c1
          have HCL:Hid (∀ p:Past wr,Calls Tryd.prog 7 #[.agg #[.string (T k).rel,.slice ua un uc,.int .i64 (T k).tag],.agg #[.string (T y).rel,.slice va vn vc,.int .i64 (T y).tag]] p.w fun e W''=>e=.returned (.int .i64 (cmpG T k y))/\Mod [] p.w W''):=Hxq (fun p=>by
           have m:=HM.out.trans p.m (by simp)
           have:=byFact_any (T k) (T y) p.w ((T5.out k).past m (by simp)) ((T5.out y).past m (by simp))
           rwa [hu,hv] at this)
          obtain ⟨r,hr⟩:∃ r,cmpG T k y=r:=⟨_,rfl⟩
          rw [hr] at HCL
          have HR:=Lib.hid hr
          have ec0:=past_cell c0;have ec1:=past_cell c1;have ec2:=past_cell c2;have ed0:=past_cell d0;have ed1:=past_cell d1;have ed2:=past_cell d2
          clear hu hv hey hE hRw hr
          by_cases hr0:r=0
          ·have hke:k=y:=by
            have h1:=HFST.out k (by rw [HR.out];exact hr0)
            rcases Nat.lt_or_ge y k with h2 | h2
            ·exact absurd (ORD.out.refl y) (HNO.out y h2)
            ·omega
           have hrb:(r == 0)=true:=by rw [beq_iff_eq];exact hr0
           have HKE:=Lib.hid hke;have HR0:=Lib.hid hr0
           clear hke hr0
           go_wp2_with fail
           have inh:=past_one wr
           refine region_past (by kernel_rfl) (by kernel_rfl) ?_
           repeat (quiet_step (exact past_call (HCL.out _)))
           refine wpQuiet_nil ?_
           intro wz hw'
           obtain ⟨⟨wq,mq⟩,hw''⟩:=hw'
           subst hw''
           clear inh
           clear HCL c0 c1 c2 d0 d1 d2 ec0 ec1 ec2 ed0 ed1 ed2
           go_wp2_with fail
           go_roundw
           case rel=>exact ⟨k+1,_,rfl,by go_num,by omega,.inr (by rw [HKE.out]),HM.out.trans mq (by simp)⟩
           case measure=>simp [intOf];omega
          ·have hrb:(r == 0)=false:=by rw [beq_eq_false_iff_ne];exact hr0
           have HR0:=Lib.hid hr0
           clear hr0
           go_wp2_with fail
           have inh:=past_one wr
           refine region_past (by kernel_rfl) (by kernel_rfl) ?_
           repeat (quiet_step (exact past_call (HCL.out _)))
           refine wpQuiet_nil ?_
           intro wz hw'
           obtain ⟨⟨wq,mq⟩,hw''⟩:=hw'
           subst hw''
           clear inh
           clear HCL c0 c1 c2 d0 d1 d2 ec0 ec1 ec2 ed0 ed1 ed2
           go_wp2_with fail
           go_roundw
           case rel =>
            refine ⟨k+1,-1,rfl,by go_num,by omega,.inl ⟨rfl,fun i hi=>?_⟩,HM.out.trans mq (by simp)⟩
            rcases Nat.lt_or_ge i k with h | h
            ·exact HNO.out i h
            ·obtain rfl:i=k:=by omega
             rw [HR.out];exact HR0.out
           case measure=>simp [intOf];omega
         ·exfalso
          exact HNO.out y (by omega) (ORD.out.refl y)
        ·have hy0:¬ (y:Int)<0:=by omega
         obtain ⟨b,off,hab,-,-,c2⟩:=(H5.out.past HM.out (by simp)).at y hyn
         subst hab
         obtain ⟨va,vn,vc,hv⟩:=HU.out y
         have hey:encG T y=[.string (T y).rel,.slice va vn vc,.int .i64 (T y).tag]:=by unfold encG;rw [hv]
         have d2:=((RK.out.past HM.out GQ.out).cell (encG_enc T HU.out) j HL1.out 2 _ (by rw [HGY.out,hey];rfl)).1
         obtain ⟨tt,htt⟩:∃ tt,(T y).tag=tt:=⟨_,rfl⟩
         rw [htt] at c2 d2
         have hynI:(y:Int)<(n:Int):=by omega
         clear hv hey htt
         by_cases hkn:k<n
         ·have hkI:(k:Int)<(n:Int):=by omega
          go_wp2_with fail
          go_quiet (fail)
          go_wp2_with fail
          go_roundw
          case rel=>exact ⟨j+1,by go_num,by omega,HM.out.drewN _⟩
          case measure=>simp [intOf];omega
         ·have hkI:¬ (k:Int)<(n:Int):=by omega
          go_wp2_with fail
          go_quiet (fail)
          go_wp2_with fail
          go_roundw
          case rel=>exact ⟨j+1,by go_num,by omega,HM.out.drewN _⟩
          case measure=>simp [intOf];omega
      ·have hltI:¬ (j:Int)<(nk:Int):=by omega
       obtain ⟨iF,hinfF,hzF0,hzF1,hzF2⟩:=info_parts Tryd.infoFact
       go_wp2_with (at_make;refine wpList_make_full _ rfl _ _ 32 rfl 0 26 iF (.agg #[.string ⟨#[]⟩,.slice none 0 0]) 2 Tryd.underlying32 hinfF hzF0 hzF1 .i64 .i64 _ _ n rfl rfl (by omega) (by omega) (by rw [hzF2];omega) (by unfold maxLen;omega) (Nat.zero_le _) ?_)
       intro w6 hown hg1
       obtain ⟨gf,hgf⟩:∃ gf,wr.heap.size=gf:=⟨_,rfl⟩
       obtain ⟨cur,hat,hcs⟩:∃ cur:List Value,w6.heap[gf]?=some (.cells cur.toArray 26 (0,0))/\cur.length=n * 2:=by
        rcases hown.2 with ⟨hv,_⟩ | ⟨g',cap',cur,hv,_,hat,_,_,hcs,htk⟩
        ·cases hv
        ·cases hv
         exact ⟨cur.toList,by rw [<-hgf];simpa using hat,by simpa using hcs⟩
       have hm6:=(Mod.refl [] wr).grown hg1 (by simp)
       have M6:=Hxq (HM.out.trans hm6 (by simp))
       have HWR:Hid (∀ j,j<n * 2->Wr w6 gf j):=Hxq (fun j hj=>Wr.of hat (by rw [List.size_toArray,hcs];exact hj))
       have hgf5:w5.heap.size<=gf:=by rw [<-hgf];exact HM.out.size
       have hgf6:gf<w6.heap.size:=lt_of_block hat
       have GF6:=Lib.hid hgf6;have GF5:=Lib.hid hgf5
       clear hown hg1 hm6 hat hcs hgf6 hgf5 HM hltI hlt hj
       try rw [hgf]
       clear hgf
       go_wp2_with fail
       go_loopw [15] (fun jv wr=>∃ (j:Nat),jv=.int .i64 (j:Nat)/\j<=n/\Row (encF T) 2 wr gf (List.range' 0 j)/\(∀ j,j<n * 2->Wr wr gf j)/\w6.heap.size<=wr.heap.size/\Mod [] w5 wr) (fun jv _=>n - (intOf jv).toNat)
       case atStart=>exact ⟨0,rfl,by omega,fun j hj=>by rw [size_flatK] at hj;simp at hj,HWR.out,Nat.le_refl _,M6.out⟩
       case round =>
        clear HWR M6
        obtain ⟨j,rfl,hj,hrow,hwr,hsz,hm⟩:=hrel
        have HM:=Lib.hid hm;have HROW:=Lib.hid hrow;have HWR:=Lib.hid hwr;have HSZ:=Lib.hid hsz
        clear hm hrow hwr hsz
        by_cases hlt:j<n
        ·have hltI:(j:Int)<(n:Int):=by omega
         obtain ⟨b,off,hab,c0,c1,-⟩:=(H5.out.past HM.out (by simp)).at j hlt
         subst hab
         obtain ⟨ua,un,uc,hu⟩:=HU.out j
         rw [hu] at c1
         have hen:encF T j=[.string (T j).rel,.slice ua un uc]:=by unfold encF;rw [hu]
         have NX:=Row.ext HROW.out (encF_enc T HU.out) j (j * 2) (by rw [range_len]) (fun c hc=>HWR.out _ (by omega))
         have WX:∀ i,i<n * 2->Wr (wr.setCells gf (j * 2) (encF T j)) gf i:=fun i hi=>Wr.cells (HWR.out i hi) 0 _ _ _ (HWR.out i hi)
         have MX:Mod [] w5 (wr.setCells gf (j * 2) (encF T j)):=HM.out.trans (mod_setCells gf (encF T j) _ _) (fun t ht=>.inr (by rw [Msq] at ht;rw [ht];exact GF5.out))
         have SX:w6.heap.size<=(wr.setCells gf (j * 2) (encF T j)).heap.size:=by have:=(mod_setCells gf (encF T j) (j * 2) wr).size;have:=HSZ.out;omega
         rw [hen,<-range_snocG] at NX
         rw [hen] at WX MX SX
         have NX2:Hid (Row (encF T) 2 ((wr.setCell ⟨gf,j * 2,none⟩ (.string (T j).rel)).setCell ⟨gf,j * 2+1,none⟩ (.slice ua un uc)) gf (List.range' 0 (j+1))/\(∀ i,i<n * 2->Wr ((wr.setCell ⟨gf,j * 2,none⟩ (.string (T j).rel)).setCell ⟨gf,j * 2+1,none⟩ (.slice ua un uc)) gf i)/\w6.heap.size<=((wr.setCell ⟨gf,j * 2,none⟩ (.string (T j).rel)).setCell ⟨gf,j * 2+1,none⟩ (.slice ua un uc)).heap.size/\Mod [] w5 ((wr.setCell ⟨gf,j * 2,none⟩ (.string (T j).rel)).setCell ⟨gf,j * 2+1,none⟩ (.slice ua un uc))):=Lib.hid ⟨NX,WX,SX,MX⟩
         have q0:=HWR.out (j * 2) (by omega);have q1:=HWR.out (j * 2+1) (by omega)
         obtain ⟨x0,e0⟩:=Option.isSome_iff_exists.1 q0.1
         obtain ⟨x1,e1⟩:=Option.isSome_iff_exists.1 q1.1
         have f0:=q0.2;have f1:=q1.2
         obtain ⟨rr,hrr⟩:∃ rr,(T j).rel=rr:=⟨_,rfl⟩
         rw [hrr] at c0 NX2
         clear hu hen NX WX MX SX q0 q1 hrr
         go_wp2_with fail
         go_roundw
         case rel=>exact ⟨j+1,by go_num,by omega,NX2.out⟩
         case measure=>simp [intOf];omega
        ·obtain rfl:n=j:=by omega
         have hltI:¬ (n:Int)<(n:Int):=by omega
         have HSR:=Hxq (srt_any T HU.out n 0 n _ wr (Nat.le_refl _) (fun i=>(T5.out i).past HM.out (by simp)) (FRow.ofRow HU.out HROW.out (range_len n) (Nat.le_refl n)) (by omega))
         clear HROW HWR HSZ
         go_wp2_with fail
         refine Calls.mono HSR.out ?_
         rintro e7 w7 ⟨v7,K7,rfl,r7,s7,m7⟩
         have hk7:K7.length=nk:=by rw [HNK.out];exact So.Kinds.len ORD.out s7.kinds HK.out
         obtain ⟨a7,c7,rfl⟩:=r7.lit
         rw [hk7]
         have M7:=Hxq (HM.out.trans m7 (by simp))
         clear HSR r7 s7 m7 hk7 HM K7 hltI
         go_wp2_with fail
         go_loopw [17] (fun iv wr=>∃ (i:Nat) (F:List Value),iv=.int .i64 (i:Nat)/\i<=nk/\F.length=nk * 3/\OwF wr q F/\Mod [q] w7 wr) (fun iv _=>nk - (intOf iv).toNat)
         case atStart=>exact ⟨0,flL (encG T) 3 K,rfl,by omega,by rw [flL_len,HNK.out],(OwF.of HU.out RK.out).keep M7.out (by simp),Mod.refl _ _⟩
         case round =>
          obtain ⟨i,F,rfl,hi,hFl,hF,hm⟩:=hrel
          have HM:=Lib.hid hm;have HF:=Lib.hid hF;have HFL:=Lib.hid hFl
          clear hm hF hFl
          by_cases hlt:i<nk
          ·have hltI:(i:Int)<(nk:Int):=by omega
           obtain ⟨e0,f0,-⟩:=HF.out (i * 3+2) (by rw [HFL.out];omega)
           have NX:Hid (OwF (wr.setCell ⟨q,i * 3+2,none⟩ (.int .i64 (-9))) q (F.set (i * 3+2) (.int .i64 (-9)))/\Mod [q] w7 (wr.setCell ⟨q,i * 3+2,none⟩ (.int .i64 (-9)))):=Lib.hid ⟨HF.out.set _ _ rfl,HM.out.setCell (.inl (by simp)) _⟩
           obtain ⟨z0,hz⟩:∃ z0,F[i * 3+2]'(by rw [HFL.out];omega)=z0:=⟨_,rfl⟩
           rw [hz] at e0
           clear hz
           go_wp2_with fail
           go_roundw
           case rel=>exact ⟨i+1,_,by go_num,by omega,by rw [List.length_set];exact HFL.out,NX.out⟩
           case measure=>simp [intOf];omega
          ·have hltI:¬ (i:Int)<(nk:Int):=by omega
           go_wp2_with fail
           clear hltI hlt hi
           obtain ⟨w9,hw9⟩:∃ w9,w9=wr:=⟨_,rfl⟩
           obtain ⟨F9,hF9⟩:∃ F9,F9=F:=⟨_,rfl⟩
           have H9:Hid (OwF w9 q F9):=Hxq (by rw [hw9,hF9];exact HF.out)
           have HF9L:Hid (F9.length=nk * 3):=Hxq (by rw [hF9];exact HFL.out)
           have M9:Hid (Mod [q] w7 w9):=Hxq (by rw [hw9];exact HM.out)
           have Q9:Hid (q<w9.heap.size):=Hxq (by have:=M9.out.size;have:=M7.out.size;have:=GQ.out;omega)
           rw [<-hw9]
           clear hF9 HF HFL HM
           go_loopw [18,19] (fun mv iv wr=>∃ (i:Nat),iv=.int .i64 (i:Nat)/\i<=24/\MoR w9 q nk wr i mv/\Mod [] w9 wr) (fun _ iv _=>24 - (intOf iv).toNat)
           case atStart=>exact ⟨0,rfl,by omega,.inl ⟨rfl,rfl⟩,Mod.refl _ _⟩
           case round =>
            clear hw9
            obtain ⟨i,rfl,hi,hmo,hm⟩:=hrel
            have HM:=Lib.hid hm
            clear hm
            by_cases hlt:i<24
            ·have hltI:(i:Int)<24:=by omega
             have mA:=HM.out.alloc (Obj.cells #[.string ⟨#[]⟩,.slice none 0 0,.int .i64 (-8)] 28)
             have MA:=Lib.hid mA
             rcases hmo with ⟨rfl,rfl⟩ | ⟨hi0,xs,hown,hnew⟩
             ·have OLD:Hid (∀ j u,F9[j]?=some u->(wr.alloc (Obj.cells #[.string ⟨#[]⟩,.slice none 0 0,.int .i64 (-8)] 28)).cell? ((⟨q,0,none⟩:Addr).add j)=some u):=Hxq (fun j u hu=>by
               obtain ⟨hj,rfl⟩:=List.getElem?_eq_some_iff.1 hu
               rw [addr_add,Nat.zero_add]
               exact ((H9.out.keep mA (by simp)) j hj).1)
              clear mA
              go_wp2_with (at_builtin;refine wpList_append_full rfl _ _ 22 22 rfl 28 i0 (.agg #[.string ⟨#[]⟩,.slice none 0 0,.int .i64 0]) 3 48 Tryd.underlying22 hinf hz0 hz1 hz2 rfl q nk F9 rfl HF9L.out OLD.out _ 1 eight rfl src_eight (by omega) (by unfold maxLen;omega) (by omega) ?_)
              intro v8 w8 hown8 hm8 hf8
              obtain ⟨a8,c8,rfl⟩:=owns_slice hown8
              have HO:Hid (MoR w9 q nk w8 1 (.slice a8 (nk+1) c8)/\Mod [] w9 w8):=Lib.hid ⟨.inr ⟨by omega,_,hown8,fun x hx=>by have:=hf8 x hx;have:=MA.out.size;simp at this;omega⟩,MA.out.trans hm8 (by simp)⟩
              clear hown8 hm8 hf8 OLD MA
              go_wp2_with fail
              go_roundw
              case rel=>exact ⟨1,rfl,by omega,HO.out⟩
              case measure=>simp [intOf]
             ·obtain ⟨ma,mc,rfl⟩:=owns_slice hown
              have OW:=Hxq (((Mod.refl [] wr).alloc (Obj.cells #[.string ⟨#[]⟩,.slice none 0 0,.int .i64 (-8)] 28)).owns hown (by simp))
              have HNEW:=Lib.hid hnew
              clear hown hnew mA
              go_wp2_with (at_builtin;refine wpList_append_src _ rfl _ _ 22 22 rfl 28 i0 (.agg #[.string ⟨#[]⟩,.slice none 0 0,.int .i64 0]) 3 48 Tryd.underlying22 hinf hz0 hz1 hz2 rfl (.slice ma (nk+i) mc) (nk+i) xs rfl OW.out _ 1 eight rfl src_eight (by unfold maxLen;omega) (by omega) ?_)
              intro v8 w8 hown8 hm8 hf8 hn8
              obtain ⟨a8,c8,rfl⟩:=owns_slice hown8
              have HO:Hid (MoR w9 q nk w8 (i+1) (.slice a8 (nk+i+1) c8)/\Mod [] w9 w8):=Lib.hid ⟨.inr ⟨by omega,_,hown8,fun x hx=>by
               rcases hf8 x hx with h1 | h1
               ·exact HNEW.out x h1
               ·have:=MA.out.size;simp at this h1;omega⟩,MA.out.trans hm8 (fun t ht=>.inr (HNEW.out t ht))⟩
              clear hown8 hm8 hf8 hn8 OW MA HNEW
              go_wp2_with fail
              go_roundw
              case rel=>exact ⟨i+1,by go_num,by omega,HO.out⟩
              case measure=>simp [intOf];omega
            ·obtain rfl:i=24:=by omega
             obtain ⟨ma,mc,rfl⟩:=hmo.lit
             have M10:Hid (Mod [q] w5 wr):=Hxq ((((M7.out.mono (T:=[q]) (by simp)).trans M9.out (fun t ht=>.inl ht)).trans HM.out (by simp)))
             clear hmo HM hlt
             have M11:Hid (∀ x:World,Mod [q] w5 x->Mod [q] w x):=Hxq (fun x hx=>(M5.out.mono (T:=[q]) (by simp)).trans hx (fun t ht=>.inl ht))
             go_wp2_with fail
             go_loopw [6,20] (fun sv kv wr=>∃ (k:Nat),sv=.bool true/\kv=.int .i64 (k:Nat)/\k<=n/\Mod [q] w5 wr) (fun _ kv _=>n - (intOf kv).toNat)
             case atStart=>exact ⟨0,rfl,rfl,by omega,M10.out⟩
             case round =>
              clear M10
              obtain ⟨k,rfl,rfl,hk,hm⟩:=hrel
              have HM:=Lib.hid hm
              clear hm
              have hRw:=R5.out.keep HM.out (by have:=HGQ.out;simp;exact this) G5.out
              by_cases hlt:k<n
              ·have hltI:(k:Int)<(n:Int):=by omega
               have hk1:k<n+1:=by omega
               have hk1I:(k:Int)<(n:Int)+1:=by omega
               obtain ⟨b,off,hab,-,-,c2⟩:=(H.out.past (M11.out _ HM.out) (by have:=HQW.out;simp;exact this)).at k hlt
               subst hab
               have d2:=(hRw.cell (encG_enc T HU.out) k (by rw [range_len];omega) 2 (.int .i64 (T k).tag) (by rw [range_getD _ _ hk1];rfl)).1
               obtain ⟨tt,htt⟩:∃ tt,(T k).tag=tt:=⟨_,rfl⟩
               rw [htt] at c2 d2
               clear hRw htt
               go_wp2_with fail
               go_quiet (fail)
               go_wp2_with fail
               go_roundw
               case rel=>exact ⟨k+1,by simp,by go_num,by omega,HM.out.drewN _⟩
               case measure=>simp [intOf];omega
              ·have hltI:¬ (k:Int)<(n:Int):=by omega
               have d2:=(hRw.cell (encG_enc T HU.out) n (by rw [range_len];omega) 2 (.int .i64 (-7)) (by rw [range_getD _ _ (by omega),HEN.out];rfl)).1
               have M12:=Hxq (M11.out _ HM.out)
               clear hRw
               go_wp2_with fail
               go_ret
               exact ⟨by simp,(Mod.refl [] w).trans M12.out (fun t ht=>.inr (by rw [Msq] at ht;rw [ht];exact HQW.out))⟩
open Go.ChangeShapes Go.WideShapes Go.ChangeAt Go.RowKit
theorem globT_of_laid {W:World} (h:laidMetH Tryd.prog Rows.valueSortsRow.laid W):GlobV W:=by
  rw [MakeChecks.laidMetH_plain _ _ _ (by kernel_rfl)] at h
  have h2:=h.tail.tail
  have h3:=h2.tail
  obtain ⟨a0,s0,hv0,-⟩:=laid_sentinel h3 gRngV tRngV Tryd.underlying68 rowEV Tryd.underlying129 Tryd.underlying131 rfl rfl Tryd.underlying9 (by kernel_rfl) (by kernel_rfl)
  obtain ⟨a1,s1,hv1,-⟩:=laid_sentinel h3.tail gSynW tSynV Tryd.underlying68 rowEV Tryd.underlying129 Tryd.underlying131 rfl rfl Tryd.underlying9 (by kernel_rfl) (by kernel_rfl)
  exact ⟨Lib.tabIs_of_head (zs:=Lib.pow10Tab) gTabV tTabV Tryd.underlying134 Tryd.underlying77 (by kernel_rfl) (by kernel_rfl) h2,⟨_,_,hv1⟩,⟨_,_,hv0⟩⟩
theorem Tryd.underVal:∃ fs f0 f1 f2,Tryd.prog.underlying 44=some (.struct fs)/\fs=#[f0,f1,f2]/\f0.offset=0/\f1.offset=1/\f2.offset=2/\f0.type=3/\f1.type=3/\f2.type=9 :=
  ⟨_,_,_,_,Tryd.underlying44,rfl,rfl,rfl,rfl,rfl,rfl,rfl⟩
/-- one value, out of its reading -/
theorem open_val_cells {H:Type} {enc:TypeId × Value->H} {W:World} {fuel:Nat} {cs:List Value} {x:DataW H × List MemPlace}
    (h:DataW.trod enc Tryd.prog W 0 (fun _=>true) true fuel 44 cs=some x) :
    ∃ v:Va.Val,cs=(valV v).toList/\v.Ok/\x.1=.agg [.lit (.int .i64 v.k),.lit (.int .i64 v.n),.lit (.string ((v.s).map UInt8.ofNat))]/\v.s.length<=9223372036854775807:=by
  obtain ⟨fs,f0,f1,f2,hu,rfl,o0,o1,o2,t0,t1,t2⟩:=Tryd.underVal
  obtain ⟨ys,n,-,hx,hlen,hyl,hf⟩:=DataW.trod_struct hu h
  rw [show Tryd.prog.cellsOf 44=3 by kernel_rfl] at hlen
  match cs,hlen,ys,hyl with
  | [c0,c1,c2],_,[y0,y1,y2],_ =>
    have h0:=hf 0 f0 rfl
    have h1:=hf 1 f1 rfl
    have h2:=hf 2 f2 rfl
    rw [o0,t0,show Tryd.prog.cellsOf 3=1 by kernel_rfl] at h0
    rw [o1,t1,show Tryd.prog.cellsOf 3=1 by kernel_rfl] at h1
    rw [o2,t2,show Tryd.prog.cellsOf 9=1 by kernel_rfl] at h2
    simp at h0 h1 h2
    obtain ⟨k,e0,e0',w0⟩:=DataW.trod_int Tryd.underlying3 h0
    obtain ⟨m,e1,e1',w1⟩:=DataW.trod_int Tryd.underlying3 h1
    obtain ⟨s,e2,e2',w2⟩:=DataW.trod_string Tryd.underlying9 h2
    have r1:-9223372036854775808<=m/\m<=9223372036854775807:=by
      simp [Lit.wf,IntKind.min,IntKind.max,IntKind.signed,IntKind.bits] at w1
      omega
    simp at e0 e1 e2
    subst e0 e1 e2
    refine ⟨⟨k,m,Cod.str s⟩,?_,⟨Cod.str_lt s,r1.1,r1.2⟩,?_,by rw [Cod.str_len];exact w2⟩
    · simp [valV,Lx.ofS_str]
    · rw [hx]
      simp only [str_map]
      simp [e0',e1',e2']
/-- a slice of values, out of its reading -/
theorem open_row_cells {H:Type} {enc:TypeId × Value->H} {W:World} {fuel:Nat} {cs:List Value} {x:DataW H × List MemPlace}
    (h:DataW.trod enc Tryd.prog W 0 (fun _=>true) true fuel 24 cs=some x) :
    ∃ (u:Value) (ts:List Va.Val),cs=[u]/\VRow W u ts/\(∀ v∈ts,v.Ok/\v.s.length<=9223372036854775807)/\(ts.length=0\/∃ els sp,x.1=.slice els sp/\els.length=ts.length):=by
  rcases Go.Deep.open_slice Tryd.underlying24 h with ⟨hcs,hx⟩ | ⟨a,len,c,m,n,D,Pl,hcs,hb,hl,hm,hmm,hx,hi⟩
  · exact ⟨_,[],hcs,.inl ⟨_,_,rfl,rfl⟩,by simp,.inl rfl⟩
  · simp only [if_true] at hmm
    subst hmm
    have hC:Tryd.prog.cellsOf 44=3:=by kernel_rfl
    rw [hC] at hi
    obtain ⟨ts,hxl,hxp⟩:=exists_list (fun i (v:Va.Val)=>(W.cell? (a.add (i * 3))=some (.int .i64 v.k)/\W.cell? ((a.add (i * 3)).add 1)=some (.int .i64 v.n)/\W.cell? ((a.add (i * 3)).add 2)=some (.string (Lx.ofS v.s)))/\v.Ok/\v.s.length<=9223372036854775807) len (fun i hil=>by
      obtain ⟨cs',hc,ht⟩:=hi i (by omega)
      obtain ⟨v,rfl,hok,-,hln⟩:=open_val_cells ht
      obtain ⟨-,-,hat⟩:=World.cells?_some hc
      have h0:=hat 0 (by omega)
      have h1:=hat 1 (by omega)
      have h2:=hat 2 (by omega)
      exact ⟨v,⟨by simpa [Addr.add,valV] using h0,by simpa [valV] using h1,by simpa [valV] using h2⟩,hok,hln⟩)
    subst hx
    subst hcs
    refine ⟨_,ts,rfl,?_,fun v hv=>?_,.inr ⟨_,_,rfl,by simp [hxl]⟩⟩
    · rcases Nat.eq_zero_or_pos len with h0 | h0
      · subst h0
        exact .inl ⟨_,_,rfl,List.eq_nil_of_length_eq_zero hxl⟩
      · obtain ⟨b,off,spot⟩:=a
        have hspot:spot=none:=by
          have:=(hxp 0 (by omega)).1.1
          simp [Addr.add] at this
          simpa using World.cell?_spot this
        subst hspot
        refine .inr ⟨b,off,_,by rw [hxl],fun i hi=>?_⟩
        obtain ⟨⟨h0,h1,h2⟩,-⟩:=hxp i hi
        rw [add_plain] at h0
        rw [add_plain,add_plain] at h1 h2
        exact ⟨h0,h1,h2⟩
    · obtain ⟨i,hi,rfl⟩:=List.mem_iff_getElem.1 hv
      exact (hxp i hi).2
theorem Tryd.underFact:∃ fs f0 f1,Tryd.prog.underlying 26=some (.struct fs)/\fs=#[f0,f1]/\f0.offset=0/\f1.offset=1/\f0.type=9/\f1.type=24 :=
  ⟨_,_,_,Tryd.underlying26,rfl,rfl,rfl,rfl,rfl⟩
/-- a fact, out of its reading -/
theorem open_fact_cells {H:Type} {enc:TypeId × Value->H} {W:World} {fuel:Nat} {cs:List Value} {x:DataW H × List MemPlace}
    (h:DataW.trod enc Tryd.prog W 0 (fun _=>true) true fuel 26 cs=some x) :
    ∃ (r:ByteArray) (u:Value) (ts:List Va.Val),cs=[.string r,u]/\VRow W u ts/\(∀ v∈ts,v.Ok/\v.s.length<=9223372036854775807)/\r.size<=maxLen /\
      ∃ d1,x.1=.agg [.lit (.string r.data.toList),d1]/\(ts.length=0\/∃ els sp,d1=.slice els sp/\els.length=ts.length):=by
  obtain ⟨fs,f0,f1,hu,rfl,o0,o1,t0,t1⟩:=Tryd.underFact
  obtain ⟨ys,n,-,hx,hlen,hyl,hf⟩:=DataW.trod_struct hu h
  rw [show Tryd.prog.cellsOf 26=2 by kernel_rfl] at hlen
  match cs,hlen,ys,hyl with
  | [c0,c1],_,[y0,y1],_ =>
    have h0:=hf 0 f0 rfl
    have h1:=hf 1 f1 rfl
    rw [o0,t0,show Tryd.prog.cellsOf 9=1 by kernel_rfl] at h0
    rw [o1,t1,show Tryd.prog.cellsOf 24=1 by kernel_rfl] at h1
    simp at h0 h1
    obtain ⟨r,e0,e0',w0⟩:=DataW.trod_string Tryd.underlying9 h0
    obtain ⟨u,ts,e1,hr,hok,hd⟩:=open_row_cells h1
    simp at e0 e1
    subst e0 e1
    refine ⟨r,c1,ts,rfl,hr,hok,w0,y1.1,?_,hd⟩
    rw [hx]
    simp [e0']
theorem fact_sized' {H:Type} {d:DataW H} (hw:∀ m∈d.weights Tryd.prog 26,m<=reachBytes) {bytes:List UInt8} {d1:DataW H} {n:Nat} (hdd:d=.agg [.lit (.string bytes),d1]) (h1:n=0\/∃ els sp,d1=.slice els sp/\els.length=n):bytes.length<=140737488351232/\n<=4398046511000:=by
  obtain ⟨fs,f0,f1,hu,rfl,o0,o1,t0,t1⟩:=Tryd.underFact
  subst hdd
  simp only [DataW.weights,hu,List.map_cons,List.map_nil,DataW.weightsEach,t0,t1] at hw
  have hb32:Tryd.prog.bytesOf 44=32:=by kernel_rfl
  refine ⟨by have:=hw bytes.length (by simp);simpa [reachBytes] using this,?_⟩
  rcases h1 with rfl | ⟨els,sp,rfl,rfl⟩
  · omega
  · have:=hw ((els.length+sp.length) * 32) (by simp [DataW.weights,Tryd.underlying24,hb32])
    simp only [reachBytes] at this
    omega
theorem Tryd.underTagged:∃ fs f0 f1,Tryd.prog.underlying 28=some (.struct fs)/\fs=#[f0,f1]/\(f0.offset=0/\f1.offset=2)/\f0.type=26/\f1.type=3 :=
  ⟨_,_,_,Tryd.underlying28,rfl,⟨rfl,rfl⟩,rfl,rfl⟩
/-- a tagged fact as it is read -/
def TgIn (W:World) (t:Tgd):Prop:=VRow W t.u t.ts/\(∀ v∈t.ts,v.Ok/\v.s.length<=9223372036854775807)/\t.rel.size<=140737488351232/\t.ts.length<=4398046511000
theorem open_tagged {H:Type} {enc:TypeId × Value->H} {W:World} {fuel:Nat} {cs:List Value} {x:DataW H × List MemPlace}
    (h:DataW.trod enc Tryd.prog W 0 (fun _=>true) true fuel 28 cs=some x) (hw:∀ m∈x.1.weights Tryd.prog 28,m<=reachBytes):∃ t:Tgd,cs=[.string t.rel,t.u,.int .i64 t.tag]/\TgIn W t:=by
  obtain ⟨fs,f0,f1,hu,rfl,⟨o0,o1⟩,t0,t1⟩:=Tryd.underTagged
  obtain ⟨ys,n,-,hx,hlen,hyl,hf⟩:=DataW.trod_struct hu h
  rw [show Tryd.prog.cellsOf 28=3 by kernel_rfl] at hlen
  match cs,hlen,ys,hyl with
  | [c0,c1,c2],_,[y0,y1],_ =>
    have h0:=hf 0 f0 rfl
    have h1:=hf 1 f1 rfl
    rw [o0,t0,show Tryd.prog.cellsOf 26=2 by kernel_rfl] at h0
    rw [o1,t1,show Tryd.prog.cellsOf 3=1 by kernel_rfl] at h1
    simp at h0 h1
    obtain ⟨r,u,ts,e0,hr,hok,hmx,d1,hd,hd1⟩:=open_fact_cells h0
    obtain ⟨m,e1,e1',w1⟩:=DataW.trod_int Tryd.underlying3 h1
    simp at e0 e1
    obtain ⟨e0,e0b⟩:=e0
    subst e0 e0b e1
    refine ⟨⟨r,c1,ts,m⟩,rfl,hr,hok,?_⟩
    have hx1:x.1=.agg [y0.1,y1.1]:=by rw [hx];rfl
    rw [hx1] at hw
    simp only [DataW.weights,hu,List.map_cons,List.map_nil,DataW.weightsEach,t0,t1,List.append_nil] at hw
    have hwF:∀ m∈y0.1.weights Tryd.prog 26,m<=reachBytes:=fun m hm=>hw m (List.mem_append.2 (.inl hm))
    have:=fact_sized' hwF hd hd1
    simpa using this
theorem weightsAll_mem' {H:Type} {P:Program} {e:TypeId} {d:DataW H}:∀ {l:List (DataW H)},d∈l->∀ m∈d.weights P e,m∈DataW.weightsAll P e l
  | _ :: _,hd,m,hm=>by
    rw [DataW.weightsAll]
    rcases List.mem_cons.1 hd with rfl | hd
    · exact List.mem_append.2 (.inl hm)
    · exact List.mem_append.2 (.inr (weightsAll_mem' hd m hm))
/-- a list of tagged facts as it lies -/
def TGs (w:World) (v:Value) (xs:List Tgd):Prop :=
  ((∃ a c,v=.slice a 0 c/\xs=[]) \/
   ∃ b off cap,v=.slice (some ⟨b,off,none⟩) xs.length cap/\∀ i (h:i<xs.length),w.cell? ⟨b,off+i * 3,none⟩=some (.string xs[i].rel)/\w.cell? ⟨b,off+i * 3+1,none⟩=some xs[i].u/\w.cell? ⟨b,off+i * 3+2,none⟩=some (.int .i64 xs[i].tag))/\∀ t∈xs,TgIn w t
theorem open_taggeds' {H:Type} {enc:TypeId × Value->H} {W:World} {a:Option Addr} {len cap:Nat} {d:DataW H} {p:List MemPlace}
    (h:DataW.Trod enc Tryd.prog W 0 (fun _=>true) true 22 (.slice a len cap) d p) (hw:∀ m∈d.weights Tryd.prog 22,m<=reachBytes) :
    ∃ xs:List Tgd,xs.length=len/\TGs W (.slice a len cap) xs/\(len=0\/∃ els sp,d=.slice els sp/\els.length=len):=by
  obtain ⟨fuel,hf⟩:=h
  rcases Go.Deep.open_slice Tryd.underlying22 hf with ⟨hcs,hx⟩ | ⟨x,l,c,m,n,D,Pl,hcs,hb,hl,hm,hmm,hx,hi⟩
  · simp [Value.cells] at hcs
    obtain ⟨rfl,rfl,rfl⟩:=hcs
    exact ⟨[],rfl,⟨.inl ⟨_,_,rfl,rfl⟩,by simp⟩,.inl rfl⟩
  · simp [Value.cells] at hcs
    obtain ⟨rfl,rfl,rfl⟩:=hcs
    simp only [if_true] at hmm
    subst hmm
    have hC:Tryd.prog.cellsOf 28=3:=by kernel_rfl
    rw [hC] at hi
    simp only [Prod.mk.injEq] at hx
    have hwe:∀ i,i<len->∀ m∈(D i).weights Tryd.prog 28,m<=reachBytes:=fun i hil m hm=>by
      refine hw m ?_
      rw [hx.1]
      simp only [DataW.weights,Tryd.underlying22,List.mem_cons,List.mem_append]
      exact .inr (.inl (weightsAll_mem' (List.mem_map.2 ⟨i,List.mem_range.2 hil,rfl⟩) m hm))
    obtain ⟨xs,hxl,hxp⟩:=exists_list (fun i (r:Tgd)=>(W.cell? (x.add (i * 3))=some (.string r.rel)/\W.cell? ((x.add (i * 3)).add 1)=some r.u/\W.cell? ((x.add (i * 3)).add 2)=some (.int .i64 r.tag))/\TgIn W r) len (fun i hil=>by
      obtain ⟨cs',hc,ht⟩:=hi i (by omega)
      obtain ⟨r,rfl,hin⟩:=open_tagged ht (hwe i hil)
      obtain ⟨-,-,hat⟩:=World.cells?_some hc
      have h0:=hat 0 (by omega)
      have h1:=hat 1 (by omega)
      have h2:=hat 2 (by omega)
      exact ⟨r,⟨by simpa [Addr.add] using h0,by simpa using h1,by simpa using h2⟩,hin⟩)
    refine ⟨xs,hxl,⟨?_,fun t ht=>?_⟩,.inr ⟨_,_,hx.1,by simp⟩⟩
    · rcases Nat.eq_zero_or_pos len with h0 | h0
      · subst h0
        exact .inl ⟨_,_,rfl,List.eq_nil_of_length_eq_zero hxl⟩
      · obtain ⟨b,off,spot⟩:=x
        have hspot:spot=none:=by
          have:=(hxp 0 (by omega)).1.1
          simp [Addr.add] at this
          simpa using World.cell?_spot this
        subst hspot
        refine .inr ⟨b,off,_,by rw [hxl],fun i hi=>?_⟩
        obtain ⟨⟨h0,h1,h2⟩,-⟩:=hxp i hi
        rw [add_plain] at h0
        rw [add_plain,add_plain] at h1 h2
        exact ⟨h0,h1,h2⟩
    · obtain ⟨i,hi,rfl⟩:=List.mem_iff_getElem.1 ht
      exact (hxp i hi).2
theorem ValueSorts_card (o:Option Addr) (cap:Nat) (xs:List Tgd) (hl:xs.length * 48<=140737488351232) (W:World) (h:TGs W (.slice o xs.length cap) xs) (hG:GlobV W) :
    Calls Tryd.prog 3 #[.slice o xs.length cap] W fun e w'=>e=.returned (.bool true)/\Mod [] W w':=by
  obtain ⟨h,hin⟩:=h
  have hP:∀ (Q:Tgd->Prop),(∀ t,TgIn W t->Q t)->(∀ g,Q ⟨⟨#[]⟩,.slice none 0 0,[],g⟩)->∀ i,Q (if h:i<xs.length then xs[i] else if i=xs.length then ⟨⟨#[]⟩,.slice none 0 0,[],-7⟩ else ⟨⟨#[]⟩,.slice none 0 0,[],0⟩):=fun Q h1 h2 i=>by
    by_cases hi:i<xs.length
    · rw [dif_pos hi];exact h1 _ (hin _ (List.getElem_mem hi))
    · rw [dif_neg hi]
      split
      · exact h2 _
      · exact h2 _
  refine ValueSorts_any (fun i=>if h:i<xs.length then xs[i] else if i=xs.length then ⟨⟨#[]⟩,.slice none 0 0,[],-7⟩ else ⟨⟨#[]⟩,.slice none 0 0,[],0⟩) xs.length hl (by simp) (hP (fun t=>∃ a n c,t.u=.slice a n c) (fun t ht=>?_) (fun g=>⟨_,_,_,rfl⟩)) _ W ?_ (hP (FOk W) (fun t ht=>?_) (fun g=>?_)) hG
  · obtain ⟨a,c,e⟩:=ht.1.lit
    exact ⟨a,_,c,e⟩
  · rcases h with ⟨a,c,h,h0⟩ | ⟨b,off,c,h,hc⟩
    · subst h0;exact .inl ⟨_,_,rfl,rfl⟩
    · refine .inr ⟨b,off,c,h,fun i hi=>?_⟩
      simp only [dif_pos hi]
      exact hc i hi
  · exact ⟨ht.1,fun x hx=>⟨(ht.2.1 x hx).1.byte,(ht.2.1 x hx).2⟩,by have:=ht.2.2.1;omega,by have:=ht.2.2.2;omega⟩
  · exact ⟨.inl ⟨_,_,rfl,rfl⟩,by simp,by show (0:Nat)<=_;omega,by simp⟩
end Go.Proofs.YtcalbbfkgdfidaaDoor
namespace Go.Proofs.YtcalbbfkgdfidaaDoor.pValueSorts
open Go.ChangeShapes Go.WideShapes Go.ChangeAt Go.RowKit
open Go.ChangeMaps (open_string shut_string)
set_option linter.unusedVariables false
set_option maxRecDepth 100000
set_option maxHeartbeats 1000000
theorem own:ownKnob Tryd.prog.godebug=none:=by kernel_rfl
theorem laidOut:laidOutB Tryd.prog=true:=by kernel_rfl
theorem contract (H:Type) (enc:TypeId × Value->H) (W:World) (base:Nat) (args:Array Value) (ds gs:List (DataW H)) (before:List MemPlace)
  (hval:∀ (j:Nat) t v,Tryd.f3.params[j]?=some t->args[j]?=some v->Value.okWide Tryd.prog W .any base t v)
  (hW:DataW.Whole enc Tryd.prog Tryd.f3.params.toList Rows.valueSortsSpec.vars false W args.toList ds gs before)
  (hsz0:(DataW.weightsEach Tryd.prog (Tryd.f3.params.toList++Rows.valueSortsSpec.plain.varTypes Tryd.prog) (ds++gs)).all (·<=reachBytes)=true)
  (hL:laidMetH Tryd.prog Rows.valueSortsRow.laid W) :
  Calls Tryd.prog 3 args W fun e W'=>∃ v,e=.returned v/\Rows.valueSortsSpec.post enc Tryd.prog Tryd.f3 false true false false W args v W':=by
 have hW':=hW
 have hG:=globT_of_laid hL
 obtain ⟨p,q,hA0,hV,rfl,hfz,hnd⟩:=hW
 have hA:DataW.TrodAll enc Tryd.prog W 0 (fun _=>true) true Tryd.f3.params.toList args.toList ds p:=hA0
 rw [Tryd.params3] at hA hval hsz0
 obtain ⟨v0,vs0,d0,ds0,p0,q0,hargs,rfl,rfl,h0,r0⟩:=trodAll_cons hA
 obtain ⟨rfl,rfl,rfl⟩:=trodAll_nil r0
 obtain rfl:args=#[v0]:=by cases args;simp_all
 obtain ⟨rfl,rfl⟩:=trodVars_none hV
 have k0:=h0
 have lt0:∀ x∈p0,x.block<W.heap.size:=by obtain ⟨m,hm⟩:=k0;exact DataW.trod_lt m _ _ _ hm
 obtain ⟨o0,len0,cap0,rfl⟩:=okWide_slice Tryd.underlying22 (hval 0 22 v0 rfl rfl)
 obtain ⟨xs0,hxl0,hi0,hd0⟩:=open_taggeds' h0 (fun m hm=>by simpa using List.all_eq_true.1 hsz0 m (DataW.weights_mem_each (j:=0) rfl rfl m hm))
 subst hxl0
 have hl0:xs0.length * 48<=140737488351232:=by
  rcases hd0 with h | ⟨els,sp,rfl,he⟩
  ·omega
  ·have:=sized_slice hsz0 (j:=0) (t:=22) (e:=28) rfl rfl Tryd.underlying22
   rw [show Tryd.prog.bytesOf 28=48 by kernel_rfl] at this
   simp only [reachBytes] at this
   omega
 clear hA0
 refine (ValueSorts_card o0 cap0 xs0 (by omega) W hi0 hG).mono fun e W' ⟨he,hm⟩=>?_
 subst he
 have bel:Below W.heap.size W W':=hm.below (Nat.le_refl _) (by simp)
 exact ⟨_,rfl,_,_,_,[],_,[],hW',trodAll_mk1 (shut_bool Tryd.underlying4 _),(trodAll_cons_mk (Below.trod laidOut (by kernel_rfl) (of_decide_eq_true (by kernel_rfl)) k0 bel lt0) trodAll_mk0),rfl,bel.frame _,fun h=>by cases h⟩
theorem door_met (os:Os):laidMetH Tryd.prog Rows.valueSortsRow.laid ((World.doorLaid Tryd.prog 62 os).forCall (fun _ _=>0) ⟨#[],#[.slice none 0 0],[]⟩).memory:=by
 rw [MakeChecks.laidMetH_plain _ _ _ (by kernel_rfl)]
 exact laidMet_of_run' 8 (by kernel_rfl) (by kernel_rfl)
theorem reads (os:Os) {H:Type} (enc:TypeId × Value->H):∃ places,DataW.whole enc Tryd.prog ((World.doorLaid Tryd.prog 62 os).forCall (fun _ _=>0) ⟨#[],#[.slice none 0 0],[]⟩).memory Tryd.f3.params.toList Rows.valueSortsSpec.vars false (#[.slice none 0 0]:Array Value).toList 8=some ([.nil],[],places) :=
 ⟨[],by kernel_rfl⟩
theorem lifted (os:Os) (started:os.Started) (H:Type) (enc:TypeId × Value->H) (F:Stop.Interp) :
  ReturnsInHanded {} Tryd.checked os 3 .any ((OpenSpec.ofChange Rows.valueSortsSpec).preRow enc Tryd.prog Tryd.f3 Rows.valueSortsRow.domain false Rows.valueSortsRow.laid) (((OpenSpec.ofChange Rows.valueSortsSpec).at F).post enc Tryd.prog Tryd.f3 false true false false):=by
 obtain ⟨places,hx⟩:=reads os enc
 refine returnsInHanded_of_row (C:=Tryd.checked) (s:=OpenSpec.ofChange Rows.valueSortsSpec) own started (by kernel_rfl) Tryd.func3
  (witness_row_atRef (enc:=enc) (C:=Tryd.checked) false (World.doorLaid Tryd.prog 62 os) #[.slice none 0 0] rfl (by kernel_rfl) (by kernel_rfl) (by kernel_rfl)
   (OpenSpec.preRow_of_cond 8 hx (by kernel_rfl) (fun k hk=>by cases hk) (by kernel_rfl) (door_met os))) ?_
 intro W base args ds gs before hval hW _ _ hsz hL _ _
 exact contract H enc W base args ds gs before hval hW hsz hL
theorem said:Rows.ValueSortsSaid :=
 OpenClaim.holds_of_cond 3 Tryd.f3 rfl rfl rfl rfl rfl rfl rfl ⟨rfl,rfl,rfl,rfl,rfl⟩ rfl rfl rfl rfl rfl (by kernel_rfl) Tryd.func3 (by kernel_rfl)
  (of_decide_eq_true (by kernel_rfl)) (by unfold Func.isWrapper;first | (rw [if_pos (by decide +kernel)];kernel_rfl) | (rw [if_neg (by decide +kernel)];exact ⟨rfl,rfl⟩))
  (fun os started H enc _ F=>by rw [OpenClaim.pre_eq_preRow];exact lifted os started H enc F)
theorem plain (f : FuncId) (fn : Func) (hf : Tryd.pinned.checked.prog.funcNamed "pedigree/pedigreelaw02.ValueSorts" = some f) (hfn : Tryd.pinned.checked.prog.funcs[f]? = some fn) :
  true=Tryd.pinned.checked.prog.looks []/\∀ (j:Nat) t,fn.params[j]?=some t->Tryd.pinned.checked.prog.wantsStandIn t=false:=by
 obtain rfl : f = 3 := Option.some.inj ((show Tryd.prog.funcNamed "pedigree/pedigreelaw02.ValueSorts" = some 3 by kernel_rfl).symm.trans hf) |>.symm
 obtain rfl:fn=Tryd.f3:=(Option.some.inj (Tryd.func3.symm.trans hfn)).symm
 refine ⟨by kernel_rfl,fun j t ht=>?_⟩
 rw [Tryd.params3] at ht
 have hm:t∈[22]:=by simpa using Array.mem_of_getElem? ht
 have hall:([22].all fun u=>!Tryd.prog.wantsStandIn u)=true:=by kernel_rfl
 exact (show Tryd.prog.wantsStandIn t=false by simpa using List.all_eq_true.1 hall t hm)
/-- THE STATEMENT -/
theorem proved:Rows.ValueSortsCardSaid :=
 Claim7.holds_tied_plain_at .later [] _ _ _ _ said (fun _ h=>by cases h) (by kernel_rfl) (fun _ h=>by cases h) valueSorts_row_tie rfl ⟨rfl,rfl⟩ (by kernel_rfl) rfl plain (by kernel_rfl)
end Go.Proofs.YtcalbbfkgdfidaaDoor.pValueSorts
