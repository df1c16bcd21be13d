/- THE TEXTS MERGED: VaParse VaPut. -/
import Derived.Test.YtcalbbfkgdfidaaDoorKV4
import Derived.Laws.StructEq
import Derived.Deep.DeepCutAuto
namespace Go.Proofs.YtcalbbfkgdfidaaDoor
open Go.RowKit
set_option linter.unusedVariables false
set_option linter.unusedSimpArgs false
set_option maxRecDepth 100000
theorem uqF_lt:∀ (k:Nat) (l t:List Nat),(∀ c∈l,c<256)->Va.uqF k l=some t->∀ c∈t,c<256
 | 0,_,_,_,h=>by simp [Va.uqF] at h
 | k+1,[],t,_,h=>by simp [Va.uqF] at h;subst h;simp
 | k+1,c :: r,t,hb,h=>by
  have hr:∀ x∈r,x<256:=fun x hx=>hb x (by simp [hx])
  have key:∀ (b:Nat) (l':List Nat),b<256->(∀ c∈l',c<256)->(Va.uqF k l').map (b :: ·)=some t->∀ c∈t,c<256:=by
   intro b l' hb' hl' hm
   cases hu:Va.uqF k l' with
   | none=>rw [hu] at hm;simp at hm
   | some t' =>
    rw [hu] at hm
    simp only [Option.map_some,Option.some.injEq] at hm
    subst hm
    intro x hx
    rcases List.mem_cons.1 hx with rfl | hx
    ·exact hb'
    ·exact uqF_lt k l' t' hl' hu x hx
  by_cases hc:c=92
  ·subst hc
   cases r with
   | nil=>simp [Va.uqF] at h
   | cons x u =>
    rw [Va.uqF_esc] at h
    have hu:∀ y∈u,y<256:=fun y hy=>hr y (by simp [hy])
    split at h
    ·cases ha:Lx.hexv (u.headD 0) with
     | none=>rw [ha] at h;simp at h
     | some p =>
      cases hq:Lx.hexv ((u.drop 1).headD 0) with
      | none=>rw [ha,hq] at h;simp at h
      | some q =>
       rw [ha,hq] at h
       have:=Lx.hexv_lt ha;have:=Lx.hexv_lt hq
       exact key _ _ (by omega) (fun y hy=>hu y (List.mem_of_mem_drop hy)) h
    ·split at h
     ·exact key _ _ (by decide) hu h
     ·exact key _ _ (hr x (by simp)) hu h
  ·rw [Va.uqF_one _ _ _ hc] at h
   exact key _ _ (hb c (by simp)) hr h
theorem res_val {fn:Func} {p u:Tmp} (h:fn.results=#[.cell p 44,.tmp u]) (tmps:Array Value) (w:World) (b:Nat) (cs:Array Value) (T:TypeId) (fr:Nat × Nat) (x:Value)
  (hp:tmps.getD p undef=.pointer (some ⟨b,0,none⟩)) (hx:tmps.getD u undef=x) (hg:w.heap[b]?=some (.cells cs T fr)) (hc:cs.size=3) :
  (results fn tmps).run Tryd.prog w=.ok (.tuple #[.agg cs,x]) w:=by
 have hl:=run_loadVar_row (P:=Tryd.prog) w b T 44 cs fr _ hg Tryd.underlying44 rfl (by rw [show (Tryd.prog.info? 44).map (·.size)=some 3 by kernel_rfl,hc])
 have hp':tmps[p]?.getD undef=.pointer (some ⟨b,0,none⟩):=by simpa using hp
 have hx':tmps[u]?.getD undef=x:=by simpa using hx
 simp [results,h,hp',hx',asAddr,hl]
theorem vstore3 {w:World} {b:Nat} {a0 a1 a2:Value} {T:TypeId} {fr:Nat × Nat} (h:w.heap[b]?=some (.cells #[a0,a1,a2] T fr)) (v0 v1 v2:Value) :
  (((w.setCell ⟨b,0,none⟩ v0).setCell ⟨b,1,none⟩ v1).setCell ⟨b,2,none⟩ v2).heap[b]?=some (.cells #[v0,v1,v2] T fr):=by
 have h1:=setCell_at h 0 v0
 generalize w.setCell ⟨b,0,none⟩ v0=w1 at *
 have h2:=setCell_at h1 1 v1
 generalize w1.setCell ⟨b,1,none⟩ v1=w2 at *
 have h3:=setCell_at h2 2 v2
 rw [h3];simp
theorem vmod3 {S:List Nat} {w0 w:World} {b:Nat} (h:Mod S w0 w) (hb:b∈S\/w0.heap.size<=b) (v0 v1 v2:Value) :
  Mod S w0 (((w.setCell ⟨b,0,none⟩ v0).setCell ⟨b,1,none⟩ v1).setCell ⟨b,2,none⟩ v2) :=
 ((h.setCell hb _).setCell hb _).setCell hb _
theorem val_ok {v:Va.Val} (h:Va.may v=true) (hb:∀ c∈v.s,c<256):v.Ok:=by
 unfold Va.may at h
 simp only [Bool.or_eq_true,Bool.and_eq_true,beq_iff_eq,decide_eq_true_eq] at h
 refine ⟨hb,?_,?_⟩ <;> rcases h with ⟨-,-,h1,h2⟩ | ⟨-,h1,-⟩ <;> omega
def VB (v:Va.Val):Prop:=∀ c∈v.s,c<256
/-- what Parse answers -/
def prsV:Option Va.Val->Value
 | some v=>.tuple #[.agg (valV v),.int .i64 0]
 | none=>.tuple #[.agg (valV Va.zero),.int .i64 21]
theorem prs_none {l:List Nat} {v:Va.Val} (hg:Va.guess l=some v) (h:¬ (Va.may v=true/\Va.text v=l)):Va.parse l=none:=by
 unfold Va.parse;rw [hg];exact if_neg h
theorem prs_some {l:List Nat} {v:Va.Val} (hg:Va.guess l=some v) (h:Va.may v=true/\Va.text v=l):Va.parse l=some v:=by
 unfold Va.parse;rw [hg];exact if_pos h
theorem ofS_eq (l:List Nat) (s:ByteArray) (hl:∀ c∈l,c<256):((Lx.ofS l).toList == s.toList)=decide (l=Cod.str s):=by
 rw [str_beq,Bool.eq_iff_iff,decide_eq_true_eq,decide_eq_true_eq]
 constructor
 ·intro h;rw [<-h,Lx.str_ofS hl]
 ·intro h;rw [h,Lx.ofS_str]
theorem text_lt {v:Va.Val} (hb:∀ c∈v.s,c<256):∀ c∈Va.text v,c<256:=by
 unfold Va.text
 split
 ·exact Va.itoa_lt _
 ·split
  ·exact hb
  ·intro c hc
   unfold Va.quoted at hc
   simp only [List.mem_append,List.mem_cons,List.mem_flatMap,List.not_mem_nil,or_false] at hc
   rcases hc with rfl | ⟨y,hy,hx⟩ | rfl
   ·decide
   ·exact qb_lt (hb y hy) c hx
   ·decide
set_option maxHeartbeats 8000000 in
theorem Parse_any (s:ByteArray) (hs:s.size<=140737488355327) (w:World) (hG:GlobV w) :
  Calls Tryd.prog 16 #[.string s] w fun e w'=>e=.returned (prsV (Va.parse (Cod.str s)))/\Mod [] w w':=by
 have hlt:=Cod.str_lt s
 have hln:=Cod.str_len s
 have hgs:Va.guess (Cod.str s)=match Va.atoiV (Cod.str s) with | some n=>some ⟨1,n,[]⟩ | none=>if 1<(Cod.str s).length/\(Cod.str s).headD 0=34 then (Va.uq (((Cod.str s).take ((Cod.str s).length - 1)).drop 1)).map fun t=>⟨2,0,t⟩ else some ⟨2,0,Cod.str s⟩:=rfl
 have h2:=fun w hG=>atoi_any s (by omega) w hG
 have HAT:=Lib.hid h2;have HGS:=Lib.hid hgs
 clear h2 hgs
 have hm0:Mod [] w ((w.alloc (Obj.cells #[Value.int IntKind.i64 0,Value.int IntKind.i64 0,Value.string ⟨#[]⟩] 44)).alloc (Obj.cells #[Value.int IntKind.i64 2,Value.int IntKind.i64 0,Value.string s] 44)):=((Mod.refl [] w).alloc _).alloc _
 have hB20:((w.alloc (Obj.cells #[Value.int IntKind.i64 0,Value.int IntKind.i64 0,Value.string ⟨#[]⟩] 44)).alloc (Obj.cells #[Value.int IntKind.i64 2,Value.int IntKind.i64 0,Value.string s] 44)).heap[w.heap.size]?=some (Obj.cells #[Value.int IntKind.i64 0,Value.int IntKind.i64 0,Value.string ⟨#[]⟩] 44):=two_at w _ _
 have hB40:((w.alloc (Obj.cells #[Value.int IntKind.i64 0,Value.int IntKind.i64 0,Value.string ⟨#[]⟩] 44)).alloc (Obj.cells #[Value.int IntKind.i64 2,Value.int IntKind.i64 0,Value.string s] 44)).heap[w.heap.size+1]?=some (Obj.cells #[Value.int IntKind.i64 2,Value.int IntKind.i64 0,Value.string s] 44):=alloc_at _ (by simp)
 have HM0:=Lib.hid hm0;have HB20:=Lib.hid hB20;have HB40:=Lib.hid hB40
 clear hm0 hB20 hB40
 go_enter Tryd.func16,Tryd.ntmps16
 go_wp2_with fail
 refine (HAT.out _ (hG.past HM0.out (by simp))).mono ?_
 rintro e w3 ⟨⟨n,ev,rfl,hc⟩,hm3⟩
 have hB2:=hm3.at HB20.out (by simp)
 have hB4:=hm3.at HB40.out (by simp)
 have hmX:=HM0.out.trans hm3 (by simp)
 clear hm3 HB20 HB40 HM0
 have hl4:=lt_of_block hB4
 rcases hc with ⟨ha,rfl⟩ | ⟨ha,ty,p,rfl⟩
 ·have HG:Hid (Va.guess (Cod.str s)=some ⟨1,n,[]⟩):=Hxq (by rw [HGS.out,ha])
  have fz4:∀ j,w3.frozen? ⟨w.heap.size+1,j,none⟩=false:=fun j=>by simp [World.frozen?,hB4]
  have q0:w3.cell? ⟨w.heap.size+1,0,none⟩=some (.int .i64 2):=by simp [World.cell?,hB4]
  have q1:w3.cell? ⟨w.heap.size+1,1,none⟩=some (.int .i64 0):=by simp [World.cell?,hB4]
  have q2:w3.cell? ⟨w.heap.size+1,2,none⟩=some (.string s):=by simp [World.cell?,hB4]
  have HB2:=Lib.hid hB2;have HB4:=Lib.hid hB4;have HMX:=Lib.hid hmX
  clear hB2 hB4 hmX ha
  go_upto_region 10 with fail
  have hB4:(((w3.setCell ⟨w.heap.size+1,0,none⟩ (.int .i64 1)).setCell ⟨w.heap.size+1,1,none⟩ (.int .i64 n)).setCell ⟨w.heap.size+1,2,none⟩ (.string ⟨#[]⟩)).heap[w.heap.size+1]?=some (.cells (valV ⟨1,n,[]⟩) 44 (0,0)):=vstore3 HB4.out _ _ _
  have hB2:=Mod.at (S:=[w.heap.size+1]) (k:=w.heap.size) (vmod3 (b:=w.heap.size+1) (Mod.refl [w.heap.size+1] w3) (.inl (by simp)) (.int .i64 1) (.int .i64 n) (.string ⟨#[]⟩)) HB2.out (by simp)
  have hmX:Mod [] w _:=vmod3 HMX.out (b:=w.heap.size+1) (.inr (Nat.le_succ _)) (.int .i64 1) (.int .i64 n) (.string ⟨#[]⟩)
  generalize (((w3.setCell ⟨w.heap.size+1,0,none⟩ (.int .i64 1)).setCell ⟨w.heap.size+1,1,none⟩ (.int .i64 n)).setCell ⟨w.heap.size+1,2,none⟩ (.string ⟨#[]⟩))=wr at *
  have hvb:VB ⟨1,n,[]⟩:=by simp [VB]
  have hl4:=lt_of_block hB4
  clear q0 q1 q2 fz4 HB2 HB4 HMX
  generalize (⟨1,n,[]⟩:Va.Val)=v at *
  have hGX:=hG.past hmX (by simp)
  have c0:wr.cell? ⟨w.heap.size+1,0,none⟩=some (.int .i64 v.k):=by simp only [World.cell?,hB4];rfl
  have c1:wr.cell? ⟨w.heap.size+1,1,none⟩=some (.int .i64 v.n):=by simp only [World.cell?,hB4];rfl
  have c2:wr.cell? ⟨w.heap.size+1,2,none⟩=some (.string (Lx.ofS v.s)):=by simp only [World.cell?,hB4];rfl
  have hck:=fun w=>check_any v w
  unfold valV at hck
  have HB2:=Lib.hid hB2;have HB4:=Lib.hid hB4;have HMX:=Lib.hid hmX
  clear hB2 hB4 hmX
  cases hmv:Va.may v
  ·have e:Hid (Va.parse (Cod.str s)=none):=Hxq (prs_none HG.out (by rw [hmv];simp))
   have hc20:chk v=20:=by unfold chk;rw [hmv];rfl
   rw [hc20] at hck
   have HCK:=Lib.hid hck
   clear hck hc20 hmv hGX
   go_wp2_with fail
   refine (HCK.out _).mono ?_
   rintro e2 w5 ⟨rfl,hm5⟩
   have hB2:=hm5.at HB2.out (by simp)
   have fz:∀ j,w5.frozen? ⟨w.heap.size,j,none⟩=false:=fun j=>by simp [World.frozen?,hB2]
   have d0:w5.cell? ⟨w.heap.size,0,none⟩=some (.int .i64 0):=by simp [World.cell?,hB2]
   have d1:w5.cell? ⟨w.heap.size,1,none⟩=some (.int .i64 0):=by simp [World.cell?,hB2]
   have d2:w5.cell? ⟨w.heap.size,2,none⟩=some (.string ⟨#[]⟩):=by simp [World.cell?,hB2]
   have HB5:=Lib.hid hB2;have HM5:=Hxq (HMX.out.trans hm5 (by simp))
   clear hB2 hm5 c0 c1 c2
   go_wp2_with fail
   refine bodyPost_ret (res_val rfl _ _ _ _ _ _ _ rfl rfl (vstore3 HB5.out _ _ _) rfl) rfl ⟨by rw [e.out];rfl,vmod3 HM5.out (.inr (Nat.le_refl _)) _ _ _⟩
  ·have hc0:chk v=0:=by unfold chk;rw [hmv];rfl
   rw [hc0] at hck
   have htx:=fun w hG=>text_any v (val_ok hmv hvb) (by have:=may_len hmv;omega) w hG
   unfold valV at htx
   have heq:=ofS_eq (Va.text v) s (text_lt hvb)
   have HCK:=Lib.hid hck;have HTX:=Lib.hid htx
   clear hck hc0 htx
   go_wp2_with fail
   refine (HCK.out _).mono ?_
   rintro e2 w5 ⟨rfl,hm5⟩
   replace c0:=hm5.cell c0 (by simp)
   replace c1:=hm5.cell c1 (by simp)
   replace c2:=hm5.cell c2 (by simp)
   have hB25:=hm5.at HB2.out (by simp)
   have HB25:=Lib.hid hB25;have HM5:=Hxq (HMX.out.trans hm5 (by simp))
   clear hm5 hB25
   go_wp2_with fail
   refine (HTX.out _ (hG.past HM5.out (by simp))).mono ?_
   rintro e2 w6 ⟨rfl,hm6⟩
   replace c0:=hm6.cell c0 (by simp)
   replace c1:=hm6.cell c1 (by simp)
   replace c2:=hm6.cell c2 (by simp)
   have hB2:=hm6.at HB25.out (by simp)
   have fz:∀ j,w6.frozen? ⟨w.heap.size,j,none⟩=false:=fun j=>by simp [World.frozen?,hB2]
   have d0:w6.cell? ⟨w.heap.size,0,none⟩=some (.int .i64 0):=by simp [World.cell?,hB2]
   have d1:w6.cell? ⟨w.heap.size,1,none⟩=some (.int .i64 0):=by simp [World.cell?,hB2]
   have d2:w6.cell? ⟨w.heap.size,2,none⟩=some (.string ⟨#[]⟩):=by simp [World.cell?,hB2]
   have HB6:=Lib.hid hB2;have HM6:=Hxq (HM5.out.trans hm6 (by simp))
   clear hB2 hm6
   by_cases hte:Va.text v=Cod.str s
   ·have e:Hid (Va.parse (Cod.str s)=some v):=Hxq (prs_some HG.out ⟨hmv,hte⟩)
    rw [decide_eq_true hte] at heq
    clear hte hmv
    go_wp2_with fail
    refine bodyPost_ret (res_val rfl _ _ _ _ _ _ _ rfl rfl (vstore3 HB6.out _ _ _) rfl) rfl ⟨by rw [e.out];rfl,vmod3 HM6.out (.inr (Nat.le_refl _)) _ _ _⟩
   ·have e:Hid (Va.parse (Cod.str s)=none):=Hxq (prs_none HG.out (fun h=>hte h.2))
    rw [decide_eq_false hte] at heq
    clear hte hmv c0 c1 c2
    go_wp2_with fail
    refine bodyPost_ret (res_val rfl _ _ _ _ _ _ _ rfl rfl (vstore3 HB6.out _ _ _) rfl) rfl ⟨by rw [e.out];rfl,vmod3 HM6.out (.inr (Nat.le_refl _)) _ _ _⟩
 ·by_cases hq:1<(Cod.str s).length/\(Cod.str s).headD 0=34
  ·have hg:Va.guess (Cod.str s)=(Va.uq (((Cod.str s).take ((Cod.str s).length - 1)).drop 1)).map fun t=>⟨2,0,t⟩:=by rw [HGS.out,ha];exact if_pos hq
   have hcut:Cod.str (s.extract 1 (s.size - 1))=((Cod.str s).take ((Cod.str s).length - 1)).drop 1:=by
    rw [Lx.str_extract,List.drop_take,hln]
   rw [<-hcut] at hg
   have hun:=fun w hG=>unquoted_any (s.extract 1 (s.size - 1)) (by rw [ByteArray.size_extract];omega) w hG
   have hub:∀ t,Va.uq (Cod.str (s.extract 1 (s.size - 1)))=some t->∀ c∈t,c<256:=fun t ht=>uqF_lt _ _ t (Cod.str_lt _) ht
   have h1I:(1:Int)<(s.size:Int):=by omega
   have h1J:(0:Int)<=(s.size:Int) - 1:=by omega
   have h1K:(1:Int)<=(s.size:Int) - 1:=by omega
   have h1L:((s.size:Int) - 1).toNat=s.size - 1:=by omega
   have h1M:(s.size:Int) - 1<=(s.size:Int):=by omega
   have h0I:(0:Int)<(s.size:Int):=by omega
   have hb34:(s[0].toNat:Int)=34:=by
    have:=Lx.get_str s 0 (by omega)
    have h2:=hq.2
    cases hs0:Cod.str s with
    | nil=>rw [hs0] at hq;simp at hq
    | cons c t=>rw [hs0] at this h2;simp at this h2;omega
   have fz4:∀ j,w3.frozen? ⟨w.heap.size+1,j,none⟩=false:=fun j=>by simp [World.frozen?,hB4]
   have q2:w3.cell? ⟨w.heap.size+1,2,none⟩=some (.string s):=by simp [World.cell?,hB4]
   have HUN:=Lib.hid hun;have HUB:=Lib.hid hub
   have HB2:=Lib.hid hB2;have HB4:=Lib.hid hB4;have HMX:=Lib.hid hmX
   clear hun hub hcut hB2 hB4 hmX ha
   generalize Va.uq (Cod.str (s.extract 1 (s.size - 1)))=o at *
   cases o with
   | none =>
    have e:Hid (Va.parse (Cod.str s)=none):=Hxq (by unfold Va.parse;rw [hg];rfl)
    clear hg
    go_wp2_with fail
    refine (HUN.out _ (hG.past HMX.out (by simp))).mono ?_
    rintro e2 w5 ⟨rfl,hm5⟩
    rw [unqV]
    have hB25:=hm5.at HB2.out (by simp)
    have fz:∀ j,w5.frozen? ⟨w.heap.size,j,none⟩=false:=fun j=>by simp [World.frozen?,hB25]
    have d0:w5.cell? ⟨w.heap.size,0,none⟩=some (.int .i64 0):=by simp [World.cell?,hB25]
    have d1:w5.cell? ⟨w.heap.size,1,none⟩=some (.int .i64 0):=by simp [World.cell?,hB25]
    have d2:w5.cell? ⟨w.heap.size,2,none⟩=some (.string ⟨#[]⟩):=by simp [World.cell?,hB25]
    have HB5:=Lib.hid hB25;have HM5:=Hxq (HMX.out.trans hm5 (by simp))
    clear hB25 hm5
    go_wp2_with fail
    refine bodyPost_ret (res_val rfl _ _ _ _ _ _ _ rfl rfl (vstore3 HB5.out _ _ _) rfl) rfl ⟨by rw [e.out];rfl,vmod3 HM5.out (.inr (Nat.le_refl _)) _ _ _⟩
   | some t =>
    have HG:Hid (Va.guess (Cod.str s)=some ⟨2,0,t⟩):=Hxq (by rw [hg];rfl)
    have hvb:VB ⟨2,0,t⟩:=HUB.out t rfl
    clear hg HUB
    go_wp2_with fail
    refine (HUN.out _ (hG.past HMX.out (by simp))).mono ?_
    rintro e2 w5 ⟨rfl,hm5⟩
    rw [unqV]
    have hB25:=hm5.at HB2.out (by simp)
    have hB45:=hm5.at HB4.out (by simp)
    have hmX5:=HMX.out.trans hm5 (by simp)
    have fz:∀ j,w5.frozen? ⟨w.heap.size+1,j,none⟩=false:=fun j=>by simp [World.frozen?,hB45]
    have d2:w5.cell? ⟨w.heap.size+1,2,none⟩=some (.string s):=by simp [World.cell?,hB45]
    have HB25:=Lib.hid hB25;have HB45:=Lib.hid hB45;have HMX5:=Lib.hid hmX5
    clear hm5 hB25 hB45 hmX5
    go_upto_region 10 with fail
    have hB4:(w5.setCell ⟨w.heap.size+1,2,none⟩ (.string (Lx.ofS t))).heap[w.heap.size+1]?=some (.cells (valV ⟨2,0,t⟩) 44 (0,0)):=(setCell_at HB45.out 2 _).trans (by simp [valV])
    have hB2:=((Mod.refl [w.heap.size+1] w5).setCell (p:=⟨w.heap.size+1,2,none⟩) (.inl (by simp)) (.string (Lx.ofS t))).at HB25.out (by simp)
    have hmX:Mod [] w _:=HMX5.out.setCell (p:=⟨w.heap.size+1,2,none⟩) (.inr (Nat.le_succ _)) (.string (Lx.ofS t))
    generalize (w5.setCell ⟨w.heap.size+1,2,none⟩ (.string (Lx.ofS t)))=wr at *
    have hl4:=lt_of_block hB4
    clear d2 fz HB25 HB45 HMX5 HB2 HB4 HMX HUN q2 fz4
    generalize (⟨2,0,t⟩:Va.Val)=v at *
    have hGX:=hG.past hmX (by simp)
    have c0:wr.cell? ⟨w.heap.size+1,0,none⟩=some (.int .i64 v.k):=by simp only [World.cell?,hB4];rfl
    have c1:wr.cell? ⟨w.heap.size+1,1,none⟩=some (.int .i64 v.n):=by simp only [World.cell?,hB4];rfl
    have c2:wr.cell? ⟨w.heap.size+1,2,none⟩=some (.string (Lx.ofS v.s)):=by simp only [World.cell?,hB4];rfl
    have hck:=fun w=>check_any v w
    unfold valV at hck
    have HB2:=Lib.hid hB2;have HB4:=Lib.hid hB4;have HMX:=Lib.hid hmX
    clear hB2 hB4 hmX
    cases hmv:Va.may v
    ·have e:Hid (Va.parse (Cod.str s)=none):=Hxq (prs_none HG.out (by rw [hmv];simp))
     have hc20:chk v=20:=by unfold chk;rw [hmv];rfl
     rw [hc20] at hck
     have HCK:=Lib.hid hck
     clear hck hc20 hmv hGX
     go_wp2_with fail
     refine (HCK.out _).mono ?_
     rintro e2 w5 ⟨rfl,hm5⟩
     have hB2:=hm5.at HB2.out (by simp)
     have fz:∀ j,w5.frozen? ⟨w.heap.size,j,none⟩=false:=fun j=>by simp [World.frozen?,hB2]
     have d0:w5.cell? ⟨w.heap.size,0,none⟩=some (.int .i64 0):=by simp [World.cell?,hB2]
     have d1:w5.cell? ⟨w.heap.size,1,none⟩=some (.int .i64 0):=by simp [World.cell?,hB2]
     have d2:w5.cell? ⟨w.heap.size,2,none⟩=some (.string ⟨#[]⟩):=by simp [World.cell?,hB2]
     have HB5:=Lib.hid hB2;have HM5:=Hxq (HMX.out.trans hm5 (by simp))
     clear hB2 hm5 c0 c1 c2
     go_wp2_with fail
     refine bodyPost_ret (res_val rfl _ _ _ _ _ _ _ rfl rfl (vstore3 HB5.out _ _ _) rfl) rfl ⟨by rw [e.out];rfl,vmod3 HM5.out (.inr (Nat.le_refl _)) _ _ _⟩
    ·have hc0:chk v=0:=by unfold chk;rw [hmv];rfl
     rw [hc0] at hck
     have htx:=fun w hG=>text_any v (val_ok hmv hvb) (by have:=may_len hmv;omega) w hG
     unfold valV at htx
     have heq:=ofS_eq (Va.text v) s (text_lt hvb)
     have HCK:=Lib.hid hck;have HTX:=Lib.hid htx
     clear hck hc0 htx
     go_wp2_with fail
     refine (HCK.out _).mono ?_
     rintro e2 w5 ⟨rfl,hm5⟩
     replace c0:=hm5.cell c0 (by simp)
     replace c1:=hm5.cell c1 (by simp)
     replace c2:=hm5.cell c2 (by simp)
     have hB25:=hm5.at HB2.out (by simp)
     have HB25:=Lib.hid hB25;have HM5:=Hxq (HMX.out.trans hm5 (by simp))
     clear hm5 hB25
     go_wp2_with fail
     refine (HTX.out _ (hG.past HM5.out (by simp))).mono ?_
     rintro e2 w6 ⟨rfl,hm6⟩
     replace c0:=hm6.cell c0 (by simp)
     replace c1:=hm6.cell c1 (by simp)
     replace c2:=hm6.cell c2 (by simp)
     have hB2:=hm6.at HB25.out (by simp)
     have fz:∀ j,w6.frozen? ⟨w.heap.size,j,none⟩=false:=fun j=>by simp [World.frozen?,hB2]
     have d0:w6.cell? ⟨w.heap.size,0,none⟩=some (.int .i64 0):=by simp [World.cell?,hB2]
     have d1:w6.cell? ⟨w.heap.size,1,none⟩=some (.int .i64 0):=by simp [World.cell?,hB2]
     have d2:w6.cell? ⟨w.heap.size,2,none⟩=some (.string ⟨#[]⟩):=by simp [World.cell?,hB2]
     have HB6:=Lib.hid hB2;have HM6:=Hxq (HM5.out.trans hm6 (by simp))
     clear hB2 hm6
     by_cases hte:Va.text v=Cod.str s
     ·have e:Hid (Va.parse (Cod.str s)=some v):=Hxq (prs_some HG.out ⟨hmv,hte⟩)
      rw [decide_eq_true hte] at heq
      clear hte hmv
      go_wp2_with fail
      refine bodyPost_ret (res_val rfl _ _ _ _ _ _ _ rfl rfl (vstore3 HB6.out _ _ _) rfl) rfl ⟨by rw [e.out];rfl,vmod3 HM6.out (.inr (Nat.le_refl _)) _ _ _⟩
     ·have e:Hid (Va.parse (Cod.str s)=none):=Hxq (prs_none HG.out (fun h=>hte h.2))
      rw [decide_eq_false hte] at heq
      clear hte hmv c0 c1 c2
      go_wp2_with fail
      refine bodyPost_ret (res_val rfl _ _ _ _ _ _ _ rfl rfl (vstore3 HB6.out _ _ _) rfl) rfl ⟨by rw [e.out];rfl,vmod3 HM6.out (.inr (Nat.le_refl _)) _ _ _⟩
  ·have HG:Hid (Va.guess (Cod.str s)=some ⟨2,0,Cod.str s⟩):=Hxq (by rw [HGS.out,ha];exact if_neg hq)
   have hvb:VB ⟨2,0,Cod.str s⟩:=hlt
   have hB4':w3.heap[w.heap.size+1]?=some (.cells (valV ⟨2,0,Cod.str s⟩) 44 (0,0)):=by rw [hB4];simp [valV,Lx.ofS_str]
   have hcs:¬ (1:Int)<(s.size:Int)\/∃ h:0<s.size,(1:Int)<(s.size:Int)/\((s[0].toNat:Int) == 34)=false:=by
    by_cases h1:1<s.size
    ·have hne:(Cod.str s).headD 0≠34:=fun h=>hq ⟨by rw [hln];exact h1,h⟩
     have hgd:(Cod.str s).getD 0 0=(Cod.str s).headD 0:=by cases Cod.str s <;> rfl
     refine .inr ⟨by omega,by omega,?_⟩
     rw [beq_eq_false_iff_ne]
     have:=Lx.get_str s 0 (by omega)
     omega
    ·exact .inl (by omega)
   have HB2:=Lib.hid hB2;have HB4':=Lib.hid hB4';have HMX:=Lib.hid hmX
   clear hB2 hB4' hB4 hmX hq ha
   rcases hcs with h1I | ⟨h0,h1I,h34⟩
   ·go_upto_region 10 with fail
    have hB2:=HB2.out;have hB4:=HB4'.out;have hmX:=HMX.out
    clear HB2 HB4' HMX h1I
    generalize hvd:(⟨2,0,Cod.str s⟩:Va.Val)=v at *
    clear hvd
    have hGX:=hG.past hmX (by simp)
    have c0:w3.cell? ⟨w.heap.size+1,0,none⟩=some (.int .i64 v.k):=by simp only [World.cell?,hB4];rfl
    have c1:w3.cell? ⟨w.heap.size+1,1,none⟩=some (.int .i64 v.n):=by simp only [World.cell?,hB4];rfl
    have c2:w3.cell? ⟨w.heap.size+1,2,none⟩=some (.string (Lx.ofS v.s)):=by simp only [World.cell?,hB4];rfl
    have hck:=fun w=>check_any v w
    unfold valV at hck
    have HB2:=Lib.hid hB2;have HB4:=Lib.hid hB4;have HMX:=Lib.hid hmX
    clear hB2 hB4 hmX
    cases hmv:Va.may v
    ·have e:Hid (Va.parse (Cod.str s)=none):=Hxq (prs_none HG.out (by rw [hmv];simp))
     have hc20:chk v=20:=by unfold chk;rw [hmv];rfl
     rw [hc20] at hck
     have HCK:=Lib.hid hck
     clear hck hc20 hmv hGX
     go_wp2_with fail
     refine (HCK.out _).mono ?_
     rintro e2 w5 ⟨rfl,hm5⟩
     have hB2:=hm5.at HB2.out (by simp)
     have fz:∀ j,w5.frozen? ⟨w.heap.size,j,none⟩=false:=fun j=>by simp [World.frozen?,hB2]
     have d0:w5.cell? ⟨w.heap.size,0,none⟩=some (.int .i64 0):=by simp [World.cell?,hB2]
     have d1:w5.cell? ⟨w.heap.size,1,none⟩=some (.int .i64 0):=by simp [World.cell?,hB2]
     have d2:w5.cell? ⟨w.heap.size,2,none⟩=some (.string ⟨#[]⟩):=by simp [World.cell?,hB2]
     have HB5:=Lib.hid hB2;have HM5:=Hxq (HMX.out.trans hm5 (by simp))
     clear hB2 hm5 c0 c1 c2
     go_wp2_with fail
     refine bodyPost_ret (res_val rfl _ _ _ _ _ _ _ rfl rfl (vstore3 HB5.out _ _ _) rfl) rfl ⟨by rw [e.out];rfl,vmod3 HM5.out (.inr (Nat.le_refl _)) _ _ _⟩
    ·have hc0:chk v=0:=by unfold chk;rw [hmv];rfl
     rw [hc0] at hck
     have htx:=fun w hG=>text_any v (val_ok hmv hvb) (by have:=may_len hmv;omega) w hG
     unfold valV at htx
     have heq:=ofS_eq (Va.text v) s (text_lt hvb)
     have HCK:=Lib.hid hck;have HTX:=Lib.hid htx
     clear hck hc0 htx
     go_wp2_with fail
     refine (HCK.out _).mono ?_
     rintro e2 w5 ⟨rfl,hm5⟩
     replace c0:=hm5.cell c0 (by simp)
     replace c1:=hm5.cell c1 (by simp)
     replace c2:=hm5.cell c2 (by simp)
     have hB25:=hm5.at HB2.out (by simp)
     have HB25:=Lib.hid hB25;have HM5:=Hxq (HMX.out.trans hm5 (by simp))
     clear hm5 hB25
     go_wp2_with fail
     refine (HTX.out _ (hG.past HM5.out (by simp))).mono ?_
     rintro e2 w6 ⟨rfl,hm6⟩
     replace c0:=hm6.cell c0 (by simp)
     replace c1:=hm6.cell c1 (by simp)
     replace c2:=hm6.cell c2 (by simp)
     have hB2:=hm6.at HB25.out (by simp)
     have fz:∀ j,w6.frozen? ⟨w.heap.size,j,none⟩=false:=fun j=>by simp [World.frozen?,hB2]
     have d0:w6.cell? ⟨w.heap.size,0,none⟩=some (.int .i64 0):=by simp [World.cell?,hB2]
     have d1:w6.cell? ⟨w.heap.size,1,none⟩=some (.int .i64 0):=by simp [World.cell?,hB2]
     have d2:w6.cell? ⟨w.heap.size,2,none⟩=some (.string ⟨#[]⟩):=by simp [World.cell?,hB2]
     have HB6:=Lib.hid hB2;have HM6:=Hxq (HM5.out.trans hm6 (by simp))
     clear hB2 hm6
     by_cases hte:Va.text v=Cod.str s
     ·have e:Hid (Va.parse (Cod.str s)=some v):=Hxq (prs_some HG.out ⟨hmv,hte⟩)
      rw [decide_eq_true hte] at heq
      clear hte hmv
      go_wp2_with fail
      refine bodyPost_ret (res_val rfl _ _ _ _ _ _ _ rfl rfl (vstore3 HB6.out _ _ _) rfl) rfl ⟨by rw [e.out];rfl,vmod3 HM6.out (.inr (Nat.le_refl _)) _ _ _⟩
     ·have e:Hid (Va.parse (Cod.str s)=none):=Hxq (prs_none HG.out (fun h=>hte h.2))
      rw [decide_eq_false hte] at heq
      clear hte hmv c0 c1 c2
      go_wp2_with fail
      refine bodyPost_ret (res_val rfl _ _ _ _ _ _ _ rfl rfl (vstore3 HB6.out _ _ _) rfl) rfl ⟨by rw [e.out];rfl,vmod3 HM6.out (.inr (Nat.le_refl _)) _ _ _⟩
   ·have h0I:(0:Int)<(s.size:Int):=by omega
    go_upto_region 10 with fail
    have hB2:=HB2.out;have hB4:=HB4'.out;have hmX:=HMX.out
    clear HB2 HB4' HMX h1I h34
    generalize hvd:(⟨2,0,Cod.str s⟩:Va.Val)=v at *
    clear hvd
    have hGX:=hG.past hmX (by simp)
    have c0:w3.cell? ⟨w.heap.size+1,0,none⟩=some (.int .i64 v.k):=by simp only [World.cell?,hB4];rfl
    have c1:w3.cell? ⟨w.heap.size+1,1,none⟩=some (.int .i64 v.n):=by simp only [World.cell?,hB4];rfl
    have c2:w3.cell? ⟨w.heap.size+1,2,none⟩=some (.string (Lx.ofS v.s)):=by simp only [World.cell?,hB4];rfl
    have hck:=fun w=>check_any v w
    unfold valV at hck
    have HB2:=Lib.hid hB2;have HB4:=Lib.hid hB4;have HMX:=Lib.hid hmX
    clear hB2 hB4 hmX
    cases hmv:Va.may v
    ·have e:Hid (Va.parse (Cod.str s)=none):=Hxq (prs_none HG.out (by rw [hmv];simp))
     have hc20:chk v=20:=by unfold chk;rw [hmv];rfl
     rw [hc20] at hck
     have HCK:=Lib.hid hck
     clear hck hc20 hmv hGX
     go_wp2_with fail
     refine (HCK.out _).mono ?_
     rintro e2 w5 ⟨rfl,hm5⟩
     have hB2:=hm5.at HB2.out (by simp)
     have fz:∀ j,w5.frozen? ⟨w.heap.size,j,none⟩=false:=fun j=>by simp [World.frozen?,hB2]
     have d0:w5.cell? ⟨w.heap.size,0,none⟩=some (.int .i64 0):=by simp [World.cell?,hB2]
     have d1:w5.cell? ⟨w.heap.size,1,none⟩=some (.int .i64 0):=by simp [World.cell?,hB2]
     have d2:w5.cell? ⟨w.heap.size,2,none⟩=some (.string ⟨#[]⟩):=by simp [World.cell?,hB2]
     have HB5:=Lib.hid hB2;have HM5:=Hxq (HMX.out.trans hm5 (by simp))
     clear hB2 hm5 c0 c1 c2
     go_wp2_with fail
     refine bodyPost_ret (res_val rfl _ _ _ _ _ _ _ rfl rfl (vstore3 HB5.out _ _ _) rfl) rfl ⟨by rw [e.out];rfl,vmod3 HM5.out (.inr (Nat.le_refl _)) _ _ _⟩
    ·have hc0:chk v=0:=by unfold chk;rw [hmv];rfl
     rw [hc0] at hck
     have htx:=fun w hG=>text_any v (val_ok hmv hvb) (by have:=may_len hmv;omega) w hG
     unfold valV at htx
     have heq:=ofS_eq (Va.text v) s (text_lt hvb)
     have HCK:=Lib.hid hck;have HTX:=Lib.hid htx
     clear hck hc0 htx
     go_wp2_with fail
     refine (HCK.out _).mono ?_
     rintro e2 w5 ⟨rfl,hm5⟩
     replace c0:=hm5.cell c0 (by simp)
     replace c1:=hm5.cell c1 (by simp)
     replace c2:=hm5.cell c2 (by simp)
     have hB25:=hm5.at HB2.out (by simp)
     have HB25:=Lib.hid hB25;have HM5:=Hxq (HMX.out.trans hm5 (by simp))
     clear hm5 hB25
     go_wp2_with fail
     refine (HTX.out _ (hG.past HM5.out (by simp))).mono ?_
     rintro e2 w6 ⟨rfl,hm6⟩
     replace c0:=hm6.cell c0 (by simp)
     replace c1:=hm6.cell c1 (by simp)
     replace c2:=hm6.cell c2 (by simp)
     have hB2:=hm6.at HB25.out (by simp)
     have fz:∀ j,w6.frozen? ⟨w.heap.size,j,none⟩=false:=fun j=>by simp [World.frozen?,hB2]
     have d0:w6.cell? ⟨w.heap.size,0,none⟩=some (.int .i64 0):=by simp [World.cell?,hB2]
     have d1:w6.cell? ⟨w.heap.size,1,none⟩=some (.int .i64 0):=by simp [World.cell?,hB2]
     have d2:w6.cell? ⟨w.heap.size,2,none⟩=some (.string ⟨#[]⟩):=by simp [World.cell?,hB2]
     have HB6:=Lib.hid hB2;have HM6:=Hxq (HM5.out.trans hm6 (by simp))
     clear hB2 hm6
     by_cases hte:Va.text v=Cod.str s
     ·have e:Hid (Va.parse (Cod.str s)=some v):=Hxq (prs_some HG.out ⟨hmv,hte⟩)
      rw [decide_eq_true hte] at heq
      clear hte hmv
      go_wp2_with fail
      refine bodyPost_ret (res_val rfl _ _ _ _ _ _ _ rfl rfl (vstore3 HB6.out _ _ _) rfl) rfl ⟨by rw [e.out];rfl,vmod3 HM6.out (.inr (Nat.le_refl _)) _ _ _⟩
     ·have e:Hid (Va.parse (Cod.str s)=none):=Hxq (prs_none HG.out (fun h=>hte h.2))
      rw [decide_eq_false hte] at heq
      clear hte hmv c0 c1 c2
      go_wp2_with fail
      refine bodyPost_ret (res_val rfl _ _ _ _ _ _ _ rfl rfl (vstore3 HB6.out _ _ _) rfl) rfl ⟨by rw [e.out];rfl,vmod3 HM6.out (.inr (Nat.le_refl _)) _ _ _⟩
structure ValAt (w:World) (b o:Nat) (v:Va.Val):Prop where
  c0:w.cell? ⟨b,o,none⟩=some (.int .i64 v.k)
  c1:w.cell? ⟨b,o+1,none⟩=some (.int .i64 v.n)
  c2:w.cell? ⟨b,o+2,none⟩=some (.string (Lx.ofS v.s))
/-- a slice that reads as these values -/
def VRow (w:World) (v:Value) (ts:List Va.Val):Prop :=
  (∃ a c,v=.slice a 0 c/\ts=[]) \/
   ∃ b off cap,v=.slice (some ⟨b,off,none⟩) ts.length cap/\∀ i (h:i<ts.length),ValAt w b (off+i * 3) ts[i]
theorem VRow.past {S:List Nat} {w w':World} {v:Value} {ts:List Va.Val} (h:VRow w v ts) (hm:Mod S w w') (hS:∀ t∈S,w.heap.size<=t):VRow w' v ts:=by
  rcases h with h | ⟨b,off,cap,rfl,hc⟩
  · exact .inl h
  · refine .inr ⟨b,off,cap,rfl,fun i hi=>?_⟩
    have h0:=hc i hi
    have hb:b∉S:=fun hb=>by have:=hS b hb;have hlt:b<w.heap.size:=World.block_lt_of_cell? w _ h0.c0;omega
    exact ⟨hm.cell h0.c0 hb,hm.cell h0.c1 hb,hm.cell h0.c2 hb⟩
theorem VRow.at {w:World} {a:Option Addr} {c:Nat} {ts:List Va.Val} (h:VRow w (.slice a ts.length c) ts) (i:Nat) (hi:i<ts.length) :
    ∃ b off,a=some ⟨b,off,none⟩/\ValAt w b (off+i * 3) ts[i]:=by
  rcases h with ⟨a',c',e,rfl⟩ | ⟨b,off,cap,e,hc⟩
  · simp at hi
  · simp only [Value.slice.injEq,true_and] at e
    exact ⟨b,off,e.1,hc i hi⟩
theorem VRow.lit {w:World} {v:Value} {ts:List Va.Val} (h:VRow w v ts):∃ a c,v=.slice a ts.length c:=by
  rcases h with ⟨a,c,rfl,rfl⟩ | ⟨b,off,cap,rfl,hc⟩
  · exact ⟨_,_,rfl⟩
  · exact ⟨_,_,rfl⟩
theorem all1_any (v:Va.Val) (w:World) :
    Calls Tryd.prog 53 #[.agg (valV v)] w fun e w'=>e=.returned (.bool (!Va.may v))/\Mod [] w w':=by
  have h1:=fun w=>check_any v w
  unfold chk at h1
  cases hm:Va.may v
  · rw [hm] at h1
    simp only [Bool.false_eq_true,if_false] at h1
    have H1:=Lib.hid h1
    clear h1 hm
    unfold valV at *
    go_enter Tryd.func53,Tryd.ntmps53
    go_wp2_with fail
    refine (H1.out _).mono ?_
    rintro e w1 ⟨rfl,hm⟩
    go_wp2_with fail
    go_ret
    exact ⟨rfl,((Mod.refl [] w).alloc _).trans hm (by simp)⟩
  · rw [hm] at h1
    simp only [if_true] at h1
    have H1:=Lib.hid h1
    clear h1 hm
    unfold valV at *
    go_enter Tryd.func53,Tryd.ntmps53
    go_wp2_with fail
    refine (H1.out _).mono ?_
    rintro e w1 ⟨rfl,hm⟩
    go_wp2_with fail
    go_ret
    exact ⟨rfl,((Mod.refl [] w).alloc _).trans hm (by simp)⟩
def mayI (ts:List Va.Val) (k:Int):Prop:=(k=-1/\ts.all Va.may=true)\/(0<=k/\ts.all Va.may=false)
set_option maxHeartbeats 1000000 in
theorem vindex_any (v:Value) (ts:List Va.Val) (hl:ts.length<=140737488355328) (w:World) (h:VRow w v ts) :
    Calls Tryd.prog 72 #[v,.func (.func 53) #[] #[]] w fun e w'=>(∃ k,e=.returned (.int .i64 k)/\mayI ts k)/\Mod [] w w':=by
  have he:=enter_of Tryd.func53 (by kernel_rfl) rfl
  obtain ⟨a,c,rfl⟩:=h.lit
  have H:=Lib.hid h
  clear h
  go_enter Tryd.func72,Tryd.ntmps72
  go_wp2_with fail
  go_loopw [8] (fun iv wr=>∃ k:Nat,k<=ts.length/\iv=.int .i64 (k:Nat)/\(ts.take k).all Va.may=true/\Mod [] w wr) (fun iv _=>ts.length - (intOf iv).toNat)
  case atStart=>exact ⟨0,Nat.zero_le _,rfl,rfl,Mod.refl _ _⟩
  case round =>
    obtain ⟨k,hk,rfl,hal,hmr⟩:=hrel
    by_cases hlt:k<ts.length
    · have hkI:(k:Int)<(ts.length:Int):=by omega
      have hk0:(0:Int)<=(k:Int):=by omega
      obtain ⟨b,off,rfl,hv⟩:=(H.out.past hmr (by simp)).at k hlt
      obtain ⟨c0,c1,c2⟩:=hv
      have h1:=fun w=>all1_any ts[k] w
      unfold valV at h1
      have hsn:(ts.take (k+1)).all Va.may=Va.may ts[k]:=by
        rw [List.take_succ_eq_append_getElem hlt,List.all_append,hal];simp
      have hno:Va.may ts[k]=false->ts.all Va.may=false:=fun hm=>by
        rw [<-Bool.not_eq_true,List.all_eq_true]
        intro hh
        have:=hh _ (List.getElem_mem hlt)
        rw [hm] at this;cases this
      generalize ts[k]=x at *
      cases hm:Va.may x
      · rw [hm] at h1
        have HN:=Hxq (hno hm)
        have H1:=Lib.hid h1
        clear h1 hno hsn hm hal
        go_wp2_with fail
        refine (H1.out _).mono ?_
        rintro e w1 ⟨rfl,hm1⟩
        go_wp2_with fail
        go_ret
        exact ⟨⟨_,rfl,.inr ⟨by omega,HN.out⟩⟩,hmr.trans hm1 (by simp)⟩
      · rw [hm] at h1
        have HS:=Hxq (hsn.trans hm)
        have H1:=Lib.hid h1
        clear h1 hno hsn hm hal
        go_wp2_with fail
        refine (H1.out _).mono ?_
        rintro e w1 ⟨rfl,hm1⟩
        go_wp2_with fail
        go_roundw
        case rel=>exact ⟨k+1,by omega,by go_num,HS.out,hmr.trans hm1 (by simp)⟩
        case measure=>simp [intOf];omega
    · obtain rfl:k=ts.length:=by omega
      have hkI:¬ (ts.length:Int)<(ts.length:Int):=by omega
      rw [List.take_length] at hal
      have HA:=Lib.hid hal
      clear hal
      go_wp2_with fail
      go_ret
      exact ⟨⟨_,rfl,.inl ⟨rfl,HA.out⟩⟩,hmr⟩
theorem vall_any (v:Value) (ts:List Va.Val) (hl:ts.length<=140737488355328) (w:World) (h:VRow w v ts) :
    Calls Tryd.prog 35 #[v] w fun e w'=>e=.returned (.bool (ts.all Va.may))/\Mod [] w w':=by
  have h1:=fun w h=>vindex_any v ts hl w h
  have hc:∀ w,VRow w v ts->Calls Tryd.prog 52 #[v,.func (.func 53) #[] #[]] w fun e w'=>e=.returned (.bool (!ts.all Va.may))/\Mod [] w w':=by
    intro w h
    have H1:=Hxq (h1 w h)
    clear h1
    go_enter Tryd.func52,Tryd.ntmps52
    go_wp2_with fail
    refine H1.out.mono ?_
    rintro e w1 ⟨⟨k,rfl,hk⟩,hm⟩
    rcases hk with ⟨rfl,ha⟩ | ⟨hk,ha⟩
    · go_wp2_with fail
      go_ret
      exact ⟨by rw [ha];rfl,hm⟩
    · go_wp2_with fail
      go_ret
      exact ⟨by rw [ha];rfl,hm⟩
  have HC:=Hxq (hc w h)
  clear h1 hc
  generalize ts.all Va.may=b at *
  go_enter Tryd.func35,Tryd.ntmps35
  go_wp2_with fail
  refine HC.out.mono ?_
  rintro e w1 ⟨rfl,hm⟩
  go_wp2_with fail
  go_ret
  exact ⟨by simp,hm⟩
/-- one value's bytes -/
def enc1 (v:Va.Val):List Nat:=[v.k.toNat]++(if v.k=1 then Cod.uv (Cod.zz v.n) else Cod.uv v.s.length++v.s)
def putB (ts:List Va.Val):List Nat:=Cod.uv ts.length++ts.flatMap enc1
theorem enc1_len {v:Va.Val} (h:Va.may v=true):(enc1 v).length<=100:=by
  have h1:=may_len h
  have h2:=Cod.uvF_len 10 (Cod.zz v.n)
  have h3:=Cod.uvF_len 10 v.s.length
  unfold enc1 Cod.uv
  split
  · simp;omega
  · simp;omega
theorem encs_len:∀ ts:List Va.Val,ts.all Va.may=true->(ts.flatMap enc1).length<=100 * ts.length
  | [],_=>by simp
  | v :: r,h=>by
    simp only [List.all_cons,Bool.and_eq_true] at h
    have:=encs_len r h.2
    have:=enc1_len h.1
    rw [List.flatMap_cons,List.length_append,List.length_cons]
    omega
def putE (ts:List Va.Val):Int:=if 8<ts.length then 2 else if ts.all Va.may then 0 else 20
def putL (ts:List Va.Val):List Nat:=if 8<ts.length then [] else if ts.all Va.may then putB ts else []
/-- what Put answers -/
def PutR (ts:List Va.Val) (w:World) (e:Ending) (w':World):Prop :=
  ∃ v,e=.returned (.tuple #[v,.int .i64 (putE ts)])/\w'.ownsRow 0 5 1 v (putL ts).length (toCells (putL ts))/\Mod [] w w'/\(∀ k∈fp v,w.heap.size<=k)
theorem may_kind {v:Va.Val} (h:Va.may v=true):(v.k=1/\v.s=[])\/v.k=2:=by
  unfold Va.may at h
  simp only [Bool.or_eq_true,Bool.and_eq_true,beq_iff_eq,decide_eq_true_eq] at h
  rcases h with ⟨h,h2,-⟩ | ⟨h,-⟩
  · exact .inl ⟨h,h2⟩
  · exact .inr h
set_option maxHeartbeats 4000000 in
theorem Put_any (v:Value) (ts:List Va.Val) (hb:∀ x∈ts,VB x) (hl:ts.length<=140737488355328) (w:World) (h:VRow w v ts) :
    Calls Tryd.prog 17 #[v] w (PutR ts w):=by
  obtain ⟨a,c,rfl⟩:=h.lit
  have hall:=fun w h=>vall_any (.slice a ts.length c) ts hl w h
  by_cases h8:8<ts.length
  · have h8I:(8:Int)<(ts.length:Int):=by omega
    have E1:Hid (putE ts=2):=Hxq (if_pos h8)
    have E2:Hid (putL ts=[]):=Hxq (if_pos h8)
    clear hall h8 h
    go_enter Tryd.func17,Tryd.ntmps17
    go_wp2_with fail
    go_ret2
    exact ⟨.slice none 0 0,by rw [E1.out];rfl,by rw [E2.out];exact World.ownsRow_nil _ _ _ _,Mod.refl _ _,by simp [fp]⟩
  · have h8I:¬ (8:Int)<(ts.length:Int):=by omega
    cases ha:ts.all Va.may
    · have E1:Hid (putE ts=20):=Hxq (by unfold putE;rw [if_neg h8,ha];rfl)
      rw [ha] at hall
      have E2:Hid (putL ts=[]):=Hxq (by unfold putL;rw [if_neg h8,ha];rfl)
      have HA:=Lib.hid hall
      have H:=Lib.hid h
      clear hall h8 ha h
      go_enter Tryd.func17,Tryd.ntmps17
      go_wp2_with fail
      refine (HA.out _ H.out).mono ?_
      rintro e w1 ⟨rfl,hm⟩
      go_wp2_with fail
      go_ret2
      exact ⟨.slice none 0 0,by rw [E1.out];rfl,by rw [E2.out];exact World.ownsRow_nil _ _ _ _,hm,by simp [fp]⟩
    · have E1:Hid (putE ts=0):=Hxq (by unfold putE;rw [if_neg h8,ha];rfl)
      rw [ha] at hall
      have E2:Hid (putL ts=putB ts):=Hxq (by unfold putL;rw [if_neg h8,ha];rfl)
      have HA:=Lib.hid hall
      have H:=Lib.hid h
      have hn8:ts.length<=8:=by omega
      have hma:∀ x∈ts,Va.may x=true:=List.all_eq_true.1 ha
      have hel:=encs_len ts ha
      have htk:∀ k,((ts.take k).flatMap enc1).length<=100 * k:=fun k=>by
        have:=encs_len (ts.take k) (List.all_eq_true.2 (fun x hx=>hma x (List.mem_of_mem_take hx)))
        rw [List.length_take] at this
        omega
      have huv:=Cod.uvF_len 10 ts.length
      have HMA:=Lib.hid hma;have HTK:=Lib.hid htk;have HVB:=Lib.hid hb
      clear hall h8 ha h hma htk hb
      go_enter Tryd.func17,Tryd.ntmps17
      go_wp2_with fail
      refine (HA.out _ H.out).mono ?_
      rintro e w1 ⟨rfl,hm1⟩
      have HM1:=Lib.hid hm1
      clear hm1
      go_wp2_with fail
      refine (New_any _).mono ?_
      rintro e w2 ⟨rfl,hB2,hm2⟩
      have HM2:=Hxq (HM1.out.trans hm2 (by simp));have HB2:=Lib.hid hB2
      have hs12:=hm2.size
      have hsw1:=HM1.out.size
      clear hB2 hm2
      generalize w1.heap.size=b at *
      go_wp2_with fail
      refine (WUint_any b _ ts.length [] _ HB2.out (by unfold Cod.U64;omega) (by simp)).mono ?_
      rintro e w3 ⟨rfl,v3,hB3,hm3,hf3⟩
      have hm3w:Mod [] w w3:=HM2.out.trans hm3 (fun t ht=>.inr (by simp [fp] at ht;omega))
      have hf3':∀ k∈fp v3,w.heap.size<=k:=fun k hk=>by
        rcases hf3 k hk with q | q
        · simp [fp] at q
        · have:=HM2.out.size;omega
      have HB3:=Lib.hid hB3;have HM3:=Lib.hid hm3w;have HF3:=Lib.hid hf3'
      clear hB3 hm3 hf3 hm3w hf3' HB2
      go_wp2_with fail
      go_loopw [23] (fun iv wr=>∃ (k:Nat) (vw:Value),k<=ts.length/\iv=.int .i64 (k:Nat)/\BoxIs wr b vw (Cod.uv ts.length++(ts.take k).flatMap enc1)/\Mod [] w wr/\(∀ t∈fp vw,w.heap.size<=t)) (fun iv _=>ts.length - (intOf iv).toNat)
      case atStart=>exact ⟨0,v3,Nat.zero_le _,rfl,by simpa using HB3.out,HM3.out,HF3.out⟩
      case round =>
        obtain ⟨k,vw,hk,rfl,hB,hmr,hfw⟩:=hrel
        have htk:=HTK.out k
        have huv2:(Cod.uv ts.length).length<=11:=huv
        have hlen:(Cod.uv ts.length++(ts.take k).flatMap enc1).length<=1000:=by rw [List.length_append];omega
        by_cases hlt:k<ts.length
        · have hkI:(k:Int)<(ts.length:Int):=by omega
          have hk0:(0:Int)<=(k:Int):=by omega
          obtain ⟨g,off,rfl,hv⟩:=(H.out.past hmr (by simp)).at k hlt
          obtain ⟨c0,c1,c2⟩:=hv
          have hmay:=HMA.out _ (List.getElem_mem hlt)
          have hvb:=HVB.out _ (List.getElem_mem hlt)
          have hsn:(ts.take (k+1)).flatMap enc1=(ts.take k).flatMap enc1++enc1 ts[k]:=by
            rw [List.take_succ_eq_append_getElem hlt,List.flatMap_append];simp
          generalize ts[k]=x at *
          have hok:=val_ok hmay hvb
          have h64:=may_len hmay
          have hst:Cod.str (Lx.ofS x.s)=x.s:=Lx.str_ofS hvb
          have hsz:(Lx.ofS x.s).size=x.s.length:=ofS_size _
          generalize hL:Cod.uv ts.length++(ts.take k).flatMap enc1=L at *
          have hsn':Hid (Cod.uv ts.length++(ts.take (k+1)).flatMap enc1=L++enc1 x):=Hxq (by rw [hsn,<-List.append_assoc,hL])
          have hX:=heap_alloc_new wr (Obj.cells (valV x) 44)
          have hBa:=hB.alloc (Obj.cells (valV x) 44)
          have hma:=hmr.alloc (Obj.cells (valV x) 44)
          have hbl:=lt_of_block hB.at_
          have hgl:g<wr.heap.size:=World.block_lt_of_cell? wr _ c0
          have HX:=Lib.hid hX;have HBa:=Lib.hid hBa;have HMa:=Lib.hid hma;have HFw:=Lib.hid hfw
          have hfwl:=fp_lt hB.row
          have HFL:=Lib.hid hfwl
          clear hB hX hBa hma hfw hmr hsn hfwl
          have hwx:w.heap.size<=wr.heap.size:=by have:=HMa.out.size;simp at this;have h2:=HMa.out;omega
          obtain ⟨xk,xn,xs⟩:=x
          simp only [valV] at HX HBa HMa c0 c1 c2 h64 hst hsz hok
          rcases may_kind hmay with ⟨k1,-⟩ | k2
          · simp only at k1
            subst k1
            have hwb:=WByte_any b vw 1 L _ HBa.out (by decide) (by omega)
            rw [show ((1:Nat):Int)=1 from rfl] at hwb
            have HWB:=Lib.hid hwb
            clear hwb
            go_wp2_with fail
            refine HWB.out.mono ?_
            rintro e w5 ⟨rfl,v5,hB5,hm5,hf5⟩
            have hX5:=hm5.at HX.out (fun hh=>by
              rcases List.mem_cons.1 hh with q | q
              · omega
              · have:=HFL.out _ q;omega)
            have d0:w5.cell? ⟨wr.heap.size,0,none⟩=some (.int .i64 1):=by simp only [World.cell?,hX5];rfl
            have d1:w5.cell? ⟨wr.heap.size,1,none⟩=some (.int .i64 xn):=by simp only [World.cell?,hX5];rfl
            have d2:w5.cell? ⟨wr.heap.size,2,none⟩=some (.string (Lx.ofS xs)):=by simp only [World.cell?,hX5];rfl
            have hm5w:Mod [] w w5:=HMa.out.trans hm5 (fun t ht=>by
              rcases List.mem_cons.1 ht with q | q
              · right;omega
              · exact .inr (HFw.out t q))
            have hf5':∀ k∈fp v5,w.heap.size<=k:=fun k hk=>by
              rcases hf5 k hk with q | q
              · exact HFw.out k q
              · have:=HMa.out.size;omega
            have HB5:=Lib.hid hB5;have HM5:=Lib.hid hm5w;have HF5:=Lib.hid hf5'
            have hs5:=hm5w.size
            clear hX5 hB5 hm5 hf5 hm5w hf5' c0 c1 c2
            have hwi:=WInt_any b v5 xn (L++[1]) _ HB5.out hok.lo hok.hi (by rw [List.length_append];simp;omega)
            have HWI:=Lib.hid hwi
            clear hwi
            go_wp2_with fail
            refine HWI.out.mono ?_
            rintro e w6 ⟨rfl,v6,hB6,hm6,hf6⟩
            have hm6w:Mod [] w w6:=HM5.out.trans hm6 (fun t ht=>by
              rcases List.mem_cons.1 ht with q | q
              · right;omega
              · exact .inr (HF5.out t q))
            have hf6':∀ k∈fp v6,w.heap.size<=k:=fun k hk=>by
              rcases hf6 k hk with q | q
              · exact HF5.out k q
              · omega
            have hB6':BoxIs w6 b v6 (Cod.uv ts.length++(ts.take (k+1)).flatMap enc1):=by
              rw [hsn'.out]
              have e:enc1 ⟨1,xn,xs⟩=[1]++Cod.uv (Cod.zz xn):=rfl
              rw [e,<-List.append_assoc]
              exact hB6
            have HB6:=Lib.hid hB6';have HM6:=Lib.hid hm6w;have HF6:=Lib.hid hf6'
            clear hB6 hm6 hf6 hm6w hf6' hB6'
            go_wp2_with fail
            go_roundw
            case rel=>exact ⟨k+1,v6,by omega,by go_num,HB6.out,HM6.out,HF6.out⟩
            case measure=>simp [intOf];omega
          · simp only at k2
            subst k2
            have hwb:=WByte_any b vw 2 L _ HBa.out (by decide) (by omega)
            rw [show ((2:Nat):Int)=2 from rfl] at hwb
            have HWB:=Lib.hid hwb
            clear hwb
            go_wp2_with fail
            refine HWB.out.mono ?_
            rintro e w5 ⟨rfl,v5,hB5,hm5,hf5⟩
            have hX5:=hm5.at HX.out (fun hh=>by
              rcases List.mem_cons.1 hh with q | q
              · omega
              · have:=HFL.out _ q;omega)
            have d0:w5.cell? ⟨wr.heap.size,0,none⟩=some (.int .i64 2):=by simp only [World.cell?,hX5];rfl
            have d1:w5.cell? ⟨wr.heap.size,1,none⟩=some (.int .i64 xn):=by simp only [World.cell?,hX5];rfl
            have d2:w5.cell? ⟨wr.heap.size,2,none⟩=some (.string (Lx.ofS xs)):=by simp only [World.cell?,hX5];rfl
            have hm5w:Mod [] w w5:=HMa.out.trans hm5 (fun t ht=>by
              rcases List.mem_cons.1 ht with q | q
              · right;omega
              · exact .inr (HFw.out t q))
            have hf5':∀ k∈fp v5,w.heap.size<=k:=fun k hk=>by
              rcases hf5 k hk with q | q
              · exact HFw.out k q
              · have:=HMa.out.size;omega
            have HB5:=Lib.hid hB5;have HM5:=Lib.hid hm5w;have HF5:=Lib.hid hf5'
            have hs5:=hm5w.size
            clear hX5 hB5 hm5 hf5 hm5w hf5' c0 c1 c2
            have hwi:=WText_any b v5 (Lx.ofS xs) (L++[2]) _ HB5.out (by rw [List.length_append,hsz];simp;omega)
            rw [hsz,hst] at hwi
            have HWI:=Lib.hid hwi
            clear hwi
            go_wp2_with fail
            refine HWI.out.mono ?_
            rintro e w6 ⟨rfl,v6,hB6,hm6,hf6⟩
            have hm6w:Mod [] w w6:=HM5.out.trans hm6 (fun t ht=>by
              rcases List.mem_cons.1 ht with q | q
              · right;omega
              · exact .inr (HF5.out t q))
            have hf6':∀ k∈fp v6,w.heap.size<=k:=fun k hk=>by
              rcases hf6 k hk with q | q
              · exact HF5.out k q
              · omega
            have hB6':BoxIs w6 b v6 (Cod.uv ts.length++(ts.take (k+1)).flatMap enc1):=by
              rw [hsn'.out]
              have e:enc1 ⟨2,xn,xs⟩=[2]++(Cod.uv xs.length++xs):=rfl
              rw [e,<-List.append_assoc]
              exact hB6
            have HB6:=Lib.hid hB6';have HM6:=Lib.hid hm6w;have HF6:=Lib.hid hf6'
            clear hB6 hm6 hf6 hm6w hf6' hB6'
            go_wp2_with fail
            go_roundw
            case rel=>exact ⟨k+1,v6,by omega,by go_num,HB6.out,HM6.out,HF6.out⟩
            case measure=>simp [intOf];omega
        · obtain rfl:k=ts.length:=by omega
          have hkI:¬ (ts.length:Int)<(ts.length:Int):=by omega
          rw [List.take_length] at hB hlen
          have hout:=Out_any b vw _ wr hB (by omega)
          have HO:=Lib.hid hout
          clear hout hB
          go_wp2_with fail
          refine HO.out.mono ?_
          rintro e w4 ⟨v4,rfl,hown,hm4,hf4,-⟩
          go_wp2_with fail
          go_ret2
          exact ⟨v4,by rw [E1.out];rfl,by rw [E2.out];exact hown,hmr.trans hm4 (by simp),fun t ht=>by have:=hf4 t ht;have:=hmr.size;omega⟩
end Go.Proofs.YtcalbbfkgdfidaaDoor
