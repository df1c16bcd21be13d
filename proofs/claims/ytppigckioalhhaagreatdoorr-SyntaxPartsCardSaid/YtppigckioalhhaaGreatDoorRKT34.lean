/- THE TEXTS MERGED: RpBegin. -/
import Derived.Test.YtppigckioalhhaaGreatDoorRKT1
import Derived.Test.YtppigckioalhhaaGreatDoorRKT22
import Derived.Test.YtppigckioalhhaaGreatDoorRKT33
import Derived.Test.YtppigckioalhhaaGreatDoorRKT21
namespace Go.Proofs.YtppigckioalhhaaGreatDoorR
open Go.RowKit
set_option linter.unusedVariables false
set_option linter.unusedSimpArgs false
set_option maxRecDepth 100000
namespace Lx
theorem next_code {x:St} (h:x.code≠42):(next x).1.code≠42:=by
 unfold next
 split
 ·exact h
 ·split
  ·show (2:Nat)≠42;omega
  ·split
   ·exact h
   ·split
    ·rename_i e he
     have:=word_bad he
     show e≠42;omega
    ·exact h
theorem allF_code:∀ (k:Nat) (x:St),x.code≠42->(allF k x).2.code≠42
 | 0,x,h=>h
 | k+1,x,h=>by
  rw [allF]
  have:=next_code h
  cases hn:next x with
  | mk y o =>
   rw [hn] at this
   cases o with
   | none=>exact this
   | some t=>exact allF_code k y this
theorem given_code (s:List Nat):(given s).2.code≠42:=allF_code _ _ (by show (0:Nat)≠42;omega)
theorem adv_snoc (p:Nat × Nat) (a:List Nat) (c:Nat):adv p (a++[c])=if c=10 then ((adv p a).1+1,1) else ((adv p a).1,(adv p a).2+1):=by
 rw [adv_append];rfl
end Lx
set_option maxHeartbeats 1000000 in
theorem rwords_any (s:ByteArray) (hs:s.size<=140737488355328) (w:World) :
  Calls Tryz.prog 62 #[.string s] w (GivR (Cod.str s) w):=by
 unfold GivR
 have mA:=(Mod.refl [] w).alloc (Obj.cells #[Value.int IntKind.i64 0,Value.int IntKind.i64 0,Value.int IntKind.i64 0] 31)
 have eA:=heap_alloc_new w (Obj.cells #[Value.int IntKind.i64 0,Value.int IntKind.i64 0,Value.int IntKind.i64 0] 31)
 have zA:(w.alloc (Obj.cells #[Value.int IntKind.i64 0,Value.int IntKind.i64 0,Value.int IntKind.i64 0] 31)).heap.size=w.heap.size+1:=by simp
 go_enter Tryz.func62,Tryz.ntmps62
 go_upto_region 1 with fail
 generalize w.alloc (Obj.cells #[Value.int IntKind.i64 0,Value.int IntKind.i64 0,Value.int IntKind.i64 0] 31)=wA at *
 have MA:=Lib.hid mA;have EA:=Lib.hid eA
 clear mA eA
 go_wp2_with fail
 refine (rGiven_any s hs wA).mono ?_
 rintro e2 w2 ⟨v,rfl,hr,hm⟩
 have E2:=Hxq (hm.at EA.out (by simp));have HR:=Lib.hid hr;have M2:=Hxq (MA.out.trans hm (by simp));have z2:=hm.size
 clear hr hm
 rw [faultV]
 obtain ⟨f0,f1,f2⟩:=cells3 E2.out
 have fz:∀ j,w2.frozen? ⟨w.heap.size,j,none⟩=false:=fun j=>free_at E2.out j
 go_wp2_with fail
 refine bodyPost_ret (res_toks rfl _ _ _ _ _ _ _ rfl rfl (store3 E2.out _ _ _) rfl) rfl ⟨v,rfl,?_,mod3 M2.out (.inr (Nat.le_refl _)) _ _ _⟩
 refine (HR.out.keep (S:=[w.heap.size]) (mod3 (Mod.refl _ w2) (.inl (by simp)) _ _ _) (fun k hk=>?_)).base (by omega)
 have h1:=HR.out.new k hk
 simp at h1 ⊢;omega
set_option maxHeartbeats 4000000 in
theorem rbehind_any (s:ByteArray) (hs:s.size<=140737488355328) (w:World) :
  Calls Tryz.prog 63 #[.string s] w fun e w'=>e=.returned (.agg #[.int .i64 ((Sy.eot (Cod.str s)).1:Nat),.int .i64 ((Sy.eot (Cod.str s)).2:Nat)])/\Mod [] w w':=by
 have hlen:=Cod.str_len s
 have HE:Hid (Sy.eot (Cod.str s)=Lx.adv (1,1) (Cod.str s)):=Hxq (Sy.eot_adv _)
 have hg:∀ (k:Nat) (hk:k<s.size),∃ c,(Cod.str s)[k]?=some c/\(s[k]'hk).toNat=c:=fun k hk=>by
  have h2:k<(Cod.str s).length:=by rw [Cod.str_len];exact hk
  have:=Lx.get_str s k hk
  rw [List.getD_eq_getElem?_getD,List.getElem?_eq_getElem h2] at this
  exact ⟨_,List.getElem?_eq_getElem h2,this.symm⟩
 have HG:=Lib.hid hg
 clear hg
 generalize Sy.eot (Cod.str s)=E at *
 generalize Cod.str s=l at *
 have mA:=((Mod.refl [] w).alloc (Obj.cells #[.int .i64 0,.int .i64 0] 29)).alloc (Obj.cells #[.int .i64 1,.int .i64 1] 29)
 have eA:=two_a w #[.int .i64 0,.int .i64 0] #[.int .i64 1,.int .i64 1] 29 29
 have eB:=two_b w #[.int .i64 0,.int .i64 0] #[.int .i64 1,.int .i64 1] 29 29
 go_enter Tryz.func63,Tryz.ntmps63
 go_upto_region 2 with fail
 generalize (w.alloc (Obj.cells _ 29)).alloc (Obj.cells _ 29)=wA at *
 have MA:=Lib.hid mA;have EA:=Lib.hid eA;have EB:=Lib.hid eB
 clear mA eA eB
 obtain ⟨pp,hpp⟩:∃ pp,w.heap.size+1=pp:=⟨_,rfl⟩
 rw [hpp] at EB
 rw [hpp]
 go_wp2_with fail
 go_loopw [4] (fun iv wr=>∃ (k:Nat),iv=.int .i64 (k:Nat)/\k<=s.size/\wr.heap[pp]?=some (.cells #[.int .i64 ((Lx.adv (1,1) (l.take k)).1:Nat),.int .i64 ((Lx.adv (1,1) (l.take k)).2:Nat)] 29 (0,0))/\wr.heap[w.heap.size]?=some (.cells #[.int .i64 0,.int .i64 0] 29 (0,0))/\Mod [] w wr) (fun iv _=>s.size - (intOf iv).toNat)
 case atStart=>exact ⟨0,rfl,Nat.zero_le _,EB.out,EA.out,MA.out⟩
 case round =>
  obtain ⟨k,rfl,hk,hb,ha,hm⟩:=hrel
  have B0:=Lib.hid hb;have A0:=Lib.hid ha;have M0:=Lib.hid hm
  clear hb ha hm
  have hal:=Lx.adv_le (1,1) (l.take k)
  have htk:(l.take k).length<=k:=by rw [List.length_take];omega
  generalize hA:Lx.adv (1,1) (l.take k)=a at *
  obtain ⟨ln,cl⟩:=a
  simp only at hal B0
  by_cases hlt:k<s.size
  ·have hkI:(k:Int)<(s.size:Int):=by omega
   have hk0:(0:Int)<=(k:Int):=by omega
   have hkl:k<l.length:=by omega
   obtain ⟨c,hc,hy0⟩:=HG.out k hlt
   have hsn:Lx.adv (1,1) (l.take (k+1))=if c=10 then (ln+1,1) else (ln,cl+1):=by
    rw [List.take_add_one,hc]
    show Lx.adv (1,1) (l.take k++[c])=_
    rw [Lx.adv_snoc,hA]
   have HSN:=Lib.hid hsn
   clear hsn hA hc
   obtain ⟨c0,c1⟩:=cells2 B0.out
   have fz:∀ j,wr.frozen? ⟨pp,j,none⟩=false:=fun j=>free_at B0.out j
   have mS:Mod [pp] wr (wr.setCell ⟨pp,1,none⟩ (.int .i64 ((cl:Int)+1))):=(Mod.refl [pp] wr).setCell (p:=⟨pp,1,none⟩) (.inl (by simp)) _
   have b1:=setCell_at B0.out 1 (.int .i64 ((cl:Int)+1))
   have B1:Hid ((wr.setCell ⟨pp,1,none⟩ (.int .i64 ((cl:Int)+1))).heap[pp]?=some (.cells #[.int .i64 (ln:Nat),.int .i64 ((cl:Int)+1)] 29 (0,0))):=Hxq (by simpa using b1)
   have A1:=Hxq (mS.at A0.out (by simp;omega));have M1:=Hxq (M0.out.trans mS (fun t ht=>by rw [Msq] at ht;exact .inr (by omega)))
   clear mS b1 B0 A0 M0
   go_upto_region 6 with fail
   generalize wr.setCell ⟨pp,1,none⟩ (.int .i64 ((cl:Int)+1))=w1 at *
   clear c0 c1 fz
   by_cases hy:c=10
   ·have hyb:(((s[k]'hlt).toNat:Int) == 10)=true:=by rw [beq_iff_eq,hy0,hy];rfl
    have HS2:Hid (Lx.adv (1,1) (l.take (k+1))=(ln+1,1)):=Hxq (by rw [HSN.out,if_pos hy])
    clear hy hy0 HSN
    obtain ⟨c0,c1⟩:=cells2 B1.out
    have fz:∀ j,w1.frozen? ⟨pp,j,none⟩=false:=fun j=>free_at B1.out j
    have mS:Mod [pp] w1 (w1.setCell ⟨pp,0,none⟩ (.int .i64 ((ln:Int)+1))):=(Mod.refl [pp] w1).setCell (p:=⟨pp,0,none⟩) (.inl (by simp)) _
    have b1:=setCell_at B1.out 0 (.int .i64 ((ln:Int)+1))
    have B2:Hid ((w1.setCell ⟨pp,0,none⟩ (.int .i64 ((ln:Int)+1))).heap[pp]?=some (.cells #[.int .i64 ((ln:Int)+1),.int .i64 ((cl:Int)+1)] 29 (0,0))):=Hxq (by simpa using b1)
    have A2:=Hxq (mS.at A1.out (by simp;omega));have M2:=Hxq (M1.out.trans mS (fun t ht=>by rw [Msq] at ht;exact .inr (by omega)))
    clear mS b1 B1 A1 M1
    go_upto_region 8 with fail
    generalize w1.setCell ⟨pp,0,none⟩ (.int .i64 ((ln:Int)+1))=w2 at *
    clear c0 c1 fz
    obtain ⟨c0,c1⟩:=cells2 B2.out
    have fz:∀ j,w2.frozen? ⟨pp,j,none⟩=false:=fun j=>free_at B2.out j
    have mS:Mod [pp] w2 (w2.setCell ⟨pp,1,none⟩ (.int .i64 1)):=(Mod.refl [pp] w2).setCell (p:=⟨pp,1,none⟩) (.inl (by simp)) _
    have b1:=setCell_at B2.out 1 (.int .i64 1)
    have B3:Hid ((w2.setCell ⟨pp,1,none⟩ (.int .i64 1)).heap[pp]?=some (.cells #[.int .i64 ((ln:Int)+1),.int .i64 1] 29 (0,0))):=Hxq (by simpa using b1)
    have A3:=Hxq (mS.at A2.out (by simp;omega));have M3:=Hxq (M2.out.trans mS (fun t ht=>by rw [Msq] at ht;exact .inr (by omega)))
    clear mS b1 B2 A2 M2
    go_wp2_with fail
    go_roundw
    case rel=>exact ⟨k+1,by go_num,by omega,by rw [HS2.out];exact B3.out,A3.out,M3.out⟩
    case measure=>simp [intOf];omega
   ·have hyb:(((s[k]'hlt).toNat:Int) == 10)=false:=by rw [beq_eq_false_iff_ne,hy0];omega
    have HS2:Hid (Lx.adv (1,1) (l.take (k+1))=(ln,cl+1)):=Hxq (by rw [HSN.out,if_neg hy])
    clear hy hy0 HSN
    go_wp2_with fail
    go_roundw
    case rel=>exact ⟨k+1,by go_num,by omega,by rw [HS2.out];exact B1.out,A1.out,M1.out⟩
    case measure=>simp [intOf];omega
  ·have hkI:¬ (k:Int)<(s.size:Int):=by omega
   have hE:E=(ln,cl):=by rw [HE.out,<-hA,List.take_of_length_le (by omega)]
   subst hE
   clear hA HE
   obtain ⟨c0,c1⟩:=cells2 B0.out
   obtain ⟨r0,r1⟩:=cells2 A0.out
   have fz:∀ j,wr.frozen? ⟨w.heap.size,j,none⟩=false:=fun j=>free_at A0.out j
   go_wp2_with fail
   have mR:=setCs_mod w.heap.size [.int .i64 (ln:Nat),.int .i64 (cl:Nat)] 0 wr
   exact bodyPost_ret (results_cell_row rfl _ _ _ _ _ _ _ rfl (setCs_row (vs:=[.int .i64 (ln:Nat),.int .i64 (cl:Nat)]) A0.out rfl) Tryz.underlying29 rfl (by kernel_rfl)) rfl ⟨rfl,M0.out.trans mR (by simp)⟩
/-- a parser of its own, at a text's first word -/
def BegR (v:Sy.Env) (w:World) (e:Ending) (w':World):Prop :=
 ∃ (b:Nat) (ra:Option Addr) (rc:Nat) (L:LX),e=.returned (.pointer (some ⟨b,0,none⟩))/\RpP w' b ra rc L v 0 nf0/\w.heap.size<=b/\(∀ k∈fp (.slice ra v.ws.length rc),w.heap.size<=k)/\L.lc≠42/\Mod [] w w'
set_option maxHeartbeats 4000000 in
theorem rbegin_any (s:ByteArray) (hs:s.size<=140737488355328) (w:World) :
  Calls Tryz.prog 32 #[.string s] w (BegR (Sy.envOf (Cod.str s)) w):=by
 have HW:=Hxq (rwords_any s hs w)
 have HBd:=Hxq (fun w=>rbehind_any s hs w)
 have h42:=Lx.given_code (Cod.str s)
 obtain ⟨l,hl⟩:∃ l,Cod.str s=l:=⟨_,rfl⟩
 rw [hl] at HW HBd h42
 rw [hl]
 clear hl
 go_enter Tryz.func32,Tryz.ntmps32
 go_wp2_with fail
 refine HW.out.mono ?_
 rintro e1 w1 ⟨tv,rfl,hr,m1⟩
 obtain ⟨va,vc,rfl⟩:=hr.lit
 have hlast:(Sy.envOf l).last=if (Lx.given l).2.code=0 then (42,(Sy.eot l).1,(Sy.eot l).2) else ((Lx.given l).2.code,(Lx.given l).2.fp.1,(Lx.given l).2.fp.2):=rfl
 have hws:(Sy.envOf l).ws=(Lx.given l).1:=rfl
 rw [faultV]
 have mF:=(Mod.refl [] w1).alloc (Obj.cells #[.int .i64 ((Lx.given l).2.code:Nat),.int .i64 ((Lx.given l).2.fp.1:Nat),.int .i64 ((Lx.given l).2.fp.2:Nat)] 31)
 have eF:=heap_alloc_new w1 (Obj.cells #[.int .i64 ((Lx.given l).2.code:Nat),.int .i64 ((Lx.given l).2.fp.1:Nat),.int .i64 ((Lx.given l).2.fp.2:Nat)] 31)
 have HR:=Hxq (hr.past mF (by simp));have M2:=Hxq (m1.trans mF (by simp));have E2:=Lib.hid eF
 have HL:=Lib.hid hlast;have HWS:=Lib.hid hws
 clear hr m1 mF eF hlast hws HW
 generalize hrc:(Lx.given l).2=r at *
 generalize Sy.eot l=E at *
 go_upto_region 2 with fail
 generalize w1.alloc (Obj.cells _ 31)=w2 at *
 have Q0:=Hxq (show w2.cell? ⟨w1.heap.size,0,none⟩=some (.int .i64 (r.code:Nat)) from cell_at E2.out 0);have Q1:=Hxq (show w2.cell? ⟨w1.heap.size,1,none⟩=some (.int .i64 (r.fp.1:Nat)) from cell_at E2.out 1);have Q2:=Hxq (show w2.cell? ⟨w1.heap.size,2,none⟩=some (.int .i64 (r.fp.2:Nat)) from cell_at E2.out 2)
 refine wp_region_held_drew (S:=(fun w':World=>Mod [] w2 w')) (by kernel_rfl) (by (try dsimp only);exact (Mod.refl [] w2).drew) (fun hHeld=>?_)
 refine Tkq 0 (v:=?_) (by assumption) ?_ ?_ ?_
 rotate_left 1
 ·refine .inl ⟨by rfl,?_⟩;intro w hSw;have c0:=hSw.cell Q0.out (by simp);have c1:=hSw.cell Q1.out (by simp);have c2:=hSw.cell Q2.out (by simp);clear hSw;go_simp
  all_goals with_reducible rfl
 ·exact fun _ _ _ h=>h
 try simp only [Act.put,Lq1,Lq2,Lq3]
 refine Tkq 1 (v:=?_) (by assumption) ?_ ?_ ?_
 rotate_left 1
 ·refine .inl ⟨by rfl,?_⟩;intro w hSw;have c0:=hSw.cell Q0.out (by simp);have c1:=hSw.cell Q1.out (by simp);have c2:=hSw.cell Q2.out (by simp);clear hSw;go_simp
  all_goals with_reducible rfl
 ·exact fun _ _ _ h=>h
 try simp only [Act.put,Lq1,Lq2,Lq3]
 refine Tkq 2 (v:=?_) (by assumption) ?_ ?_ ?_
 rotate_left 1
 ·refine .inl ⟨by rfl,?_⟩;intro w hSw;have c0:=hSw.cell Q0.out (by simp);have c1:=hSw.cell Q1.out (by simp);have c2:=hSw.cell Q2.out (by simp);clear hSw;go_simp
  all_goals with_reducible rfl
 ·exact fun _ _ _ h=>h
 try simp only [Act.put,Lq1,Lq2,Lq3]
 refine wpAnyH_ready (rs:=[3]) (by kernel_rfl) (by simp) ?_
 refine AllReadyH.cons (o:=?_) ?_ ?_ AllReadyH.nil
 rotate_left 1
 ·(simp only [Gq1,Gq2,Gq3])<;>rfl
 intro K hK
 go_simp
 refine (HBd.out _).mono ?_
 rintro e3 w3 ⟨rfl,m3⟩
 have N3:=Hxq ((Mod.refl [] w2).drew.trans m3 (by simp))
 clear m3
 refine hK.out _ _ (by (try dsimp only);exact N3.out) (fun hHeld=>?_)
 clear hK K
 try simp only [Act.put,Lq1,Lq2,Lq3]
 refine Tkq 4 (v:=?_) (by assumption) ?_ ?_ ?_
 rotate_left 1
 ·refine .inl ⟨by rfl,?_⟩;intro w hSw;have c0:=hSw.cell Q0.out (by simp);have c1:=hSw.cell Q1.out (by simp);have c2:=hSw.cell Q2.out (by simp);clear hSw;go_simp
  all_goals with_reducible rfl
 ·exact fun _ _ _ h=>h
 try simp only [Act.put,Lq1,Lq2,Lq3]
 refine wpAnyH_ready (rs:=[5]) (by kernel_rfl) (by simp) ?_
 refine AllReadyH.cons (o:=?_) ?_ ?_ AllReadyH.nil
 rotate_left 1
 ·(simp only [Gq1,Gq2,Gq3])<;>rfl
 intro K hK
 go_simp
 refine hK.out _ _ (by (try dsimp only);exact N3.out.alloc _) (fun hHeld=>?_)
 clear hK K
 try simp only [Act.put,Lq1,Lq2,Lq3]
 refine Tkq 6 (v:=?_) (by assumption) ?_ ?_ ?_
 rotate_left 1
 ·refine .inl ⟨by rfl,?_⟩;intro w hSw;have c0:=hSw.cell Q0.out (by simp);have c1:=hSw.cell Q1.out (by simp);have c2:=hSw.cell Q2.out (by simp);clear hSw;go_simp
  all_goals with_reducible rfl
 ·exact fun _ _ _ h=>h
 try simp only [Act.put,Lq1,Lq2,Lq3]
 refine wpAnyH_done (by kernel_rfl) ?_ _
 clear HBd
 go_wp2_with fail
 go_ret
 refine ⟨w3.heap.size,va,vc,⟨r.code,r.fp.1,r.fp.2,E.1,E.2⟩,rfl,⟨?_,?_,?_,HL.out⟩,?_,?_,h42,?_⟩
 ·rw [HWS.out]
  exact heap_alloc_new w3 _
 ·rw [HWS.out]
  exact (TokRow.base ((HR.out.past N3.out (by simp)).past ((Mod.refl [] w3).alloc _) (by simp)) (Nat.zero_le _))
 ·rw [HWS.out]
  intro hk
  have:=fp_lt (HR.out.past N3.out (by simp)).row w3.heap.size hk
  omega
 ·have:=M2.out.size;have:=N3.out.size;omega
 ·rw [HWS.out]
  exact HR.out.new
 ·exact (M2.out.trans N3.out (by simp)).trans ((Mod.refl [] w3).alloc _) (by simp)
set_option maxHeartbeats 4000000 in
theorem rwhole_any (b:Nat) (ra:Option Addr) (rc:Nat) (L:LX) (v:Sy.Env) (i:Nat) (w:World) (h:RpP w b ra rc L v i nf0) (hv:EnvOk v) (hi:i<=70000) (h42:L.lc≠42) :
  Calls Tryz.prog 37 #[.pointer (some ⟨b,0,none⟩),.bool true] w fun e w'=>Mod [b] w w'/\if i<v.ws.length\/v.last.1≠42 then e=.returned (.bool false)/\RpP w' b ra rc L v i (v.give 40 i) else e=.returned (.bool true)/\RpP w' b ra rc L v i nf0:=by
 obtain ⟨c0,c1,c2,c3,c4,c5,c6,c7,c8,c9,fz⟩:=h.cells
 have hla:v.last.1≠42 ↔ L.lc≠0:=by
  rw [h.last]
  split
  ·rename_i hh;simp [hh]
  ·rename_i hh;simp [hh,h42]
 have HH:=Lib.hid h
 clear h
 by_cases hlt:i<v.ws.length
 ·have hif:i<v.ws.length\/v.last.1≠42:=.inl hlt
  simp only [if_pos hif]
  have hiI:(i:Int)<(v.ws.length:Int):=by omega
  have hd:decide ((i:Int)<(v.ws.length:Int))=true:=decide_eq_true hiI
  clear hla hif
  go_enter Tryz.func37,Tryz.ntmps37
  go_wp2_with fail
  go_quiet (fail)
  clear hd
  go_wp2_with fail
  refine (rstop_any b ra rc L v i 40 _ (HH.out.past ((Mod.refl [] w).drewN nq) (by simp)) hv hi).mono ?_
  rintro e2 w2 ⟨rfl,h2,m2⟩
  have H2:=Lib.hid h2;have M2:=Hxq (((Mod.refl [b] w).drewN nq).trans m2 (by simp))
  clear h2 m2
  go_wp2_with fail
  go_ret
  exact ⟨M2.out,rfl,H2.out⟩
 ·have hiI:¬ (i:Int)<(v.ws.length:Int):=by omega
  have hd:decide ((i:Int)<(v.ws.length:Int))=false:=decide_eq_false hiI
  by_cases hlc:L.lc=0
  ·have hB:((L.lc:Int) != 0)=false:=by rw [hlc];rfl
   have hB2:((L.lc:Int) == 0)=true:=by rw [hlc];rfl
   have hif:¬ (i<v.ws.length\/v.last.1≠42):=by rw [hla];simp [hlt,hlc]
   simp only [if_neg hif]
   clear hla hlc hif
   go_enter Tryz.func37,Tryz.ntmps37
   go_wp2_with fail
   go_quiet (fail)
   clear hd
   go_wp2_with fail
   go_ret
   exact ⟨(Mod.refl [b] w).drewN nq,rfl,HH.out.past ((Mod.refl [] w).drewN nq) (by simp)⟩
  ·have hB:((L.lc:Int) != 0)=true:=by rw [bne_iff_ne];omega
   have hB2:((L.lc:Int) == 0)=false:=by rw [beq_eq_false_iff_ne];omega
   have hif:i<v.ws.length\/v.last.1≠42:=.inr (hla.2 hlc)
   simp only [if_pos hif]
   clear hla hlc hif
   go_enter Tryz.func37,Tryz.ntmps37
   go_wp2_with fail
   go_quiet (fail)
   clear hd
   go_wp2_with fail
   refine (rstop_any b ra rc L v i 40 _ (HH.out.past ((Mod.refl [] w).drewN nq) (by simp)) hv hi).mono ?_
   rintro e2 w2 ⟨rfl,h2,m2⟩
   have H2:=Lib.hid h2;have M2:=Hxq (((Mod.refl [b] w).drewN nq).trans m2 (by simp))
   clear h2 m2
   go_wp2_with fail
   go_ret
   exact ⟨M2.out,rfl,H2.out⟩
theorem rwhole_false (b:Nat) (ra:Option Addr) (rc:Nat) (L:LX) (v:Sy.Env) (i:Nat) (g:Sy.Flt) (w:World) (h:RpP w b ra rc L v i g) :
  Calls Tryz.prog 37 #[.pointer (some ⟨b,0,none⟩),.bool false] w fun e w'=>e=.returned (.bool false)/\RpP w' b ra rc L v i g/\Mod [] w w':=by
 have HH:=Lib.hid h
 clear h
 go_enter Tryz.func37,Tryz.ntmps37
 go_wp2_with fail
 go_quiet (fail)
 go_wp2_with fail
 go_ret
 exact ⟨rfl,HH.out.past ((Mod.refl [] w).drewN nq) (by simp),(Mod.refl [] w).drewN nq⟩
end Go.Proofs.YtppigckioalhhaaGreatDoorR
