/- THE TEXTS MERGED: RtByte PwLawBack. -/
import Derived.Test.YtohnmnfhmbmoaaaGreatDoorKQ1
import Derived.Test.YtohnmnfhmbmoaaaGreatDoorKQ41
import Derived.Test.YtohnmnfhmbmoaaaGreatDoorKQ22
import Derived.Test.YtohnmnfhmbmoaaaGreatDoorKQ28
import Derived.Test.YtohnmnfhmbmoaaaGreatDoorKQ43
import Derived.Test.YtohnmnfhmbmoaaaGreatDoorKQ42
import Derived.Test.YtohnmnfhmbmoaaaGreatDoorKQ18
import Derived.Test.YtohnmnfhmbmoaaaGreatDoorKQ26
import Derived.Test.YtohnmnfhmbmoaaaGreatDoorKQ20
namespace Go.Proofs.YtohnmnfhmbmoaaaGreatDoor.Rt
open Pr
open Cod (str)
set_option linter.unusedVariables false
set_option linter.unusedSimpArgs false
def By (l:List Nat):Prop:=∀ c∈l,c<256
theorem By.nil:By []:=fun c h=>by cases h
theorem By.cons {a:Nat} {l:List Nat} (ha:a<256) (h:By l):By (a :: l):=fun c hc=>by
 rcases List.mem_cons.1 hc with rfl | hc
 ·exact ha
 ·exact h c hc
theorem By.app {a b:List Nat} (ha:By a) (hb:By b):By (a++b):=fun c hc=>(List.mem_append.1 hc).elim (ha c) (hb c)
theorem By.str (s:ByteArray):By (Cod.str s):=Cod.str_lt s
theorem by_qb {c:Nat} (hc:c<256):By (Va.qb c):=by
 have:∀ c:_root_.Fin 256,∀ x∈Va.qb c.val,x<256:=by decide +kernel
 exact this ⟨c,hc⟩
theorem by_text {v:Va.Val} (hb:By v.s):By (Va.text v):=by
 unfold Va.text
 split
 ·exact Va.itoa_lt _
 ·split
  ·exact hb
  ·unfold Va.quoted
   intro c hc
   simp only [List.mem_append,List.mem_cons,List.mem_flatMap,List.not_mem_nil,or_false] at hc
   rcases hc with rfl | ⟨y,hy,hx⟩ | rfl
   ·decide
   ·exact by_qb (hb y hy) c hx
   ·decide
theorem by_sign (op:Int):By (Pr.sign op):=by
 unfold Pr.sign By
 (repeat' split) <;> decide
theorem by_cmp (op:Int):By (Pr.cmp op):=by
 unfold Pr.cmp By
 (repeat' split) <;> decide
theorem by_word (fn:Int):By (Pr.word fn):=by
 unfold Pr.word By
 (repeat' split) <;> decide
theorem by_wrap {o:Option (List Nat)} (h:∀ t,o=some t->By t) {t:List Nat} (e:o.map (fun t=>40 :: (t++[41]))=some t):By t:=by
 obtain ⟨x,hx,rfl⟩:=Option.map_eq_some_iff.1 e
 exact .cons (by decide) (.app (h x hx) (.cons (by decide) .nil))
theorem pO_by (j:Nat) (ih:∀ m,m<j+2->∀ (e:Ex) (t:List Nat),ExO e->pE m e=some t->By t) (e:Ex) (ha:∀ a∈e.args,ExO a) (t:List Nat) (h:pO (j+1) e=some t):By t:=by
 rw [pO] at h
 split at h
 ·rename_i a he
  have hA:=ha a (by rw [he];simp)
  split at h
  ·obtain ⟨y,hy,rfl⟩:=Option.map_eq_some_iff.1 h
   refine .cons (by decide) (.app ?_ ?_)
   ·split
    ·exact .cons (by decide) .nil
    ·exact .nil
   ·split at hy
    ·exact by_wrap (fun t ht=>ih j (by omega) a t hA ht) hy
    ·exact ih (j+1) (by omega) a y hA hy
  ·cases h
 ·rename_i a b he
  have hA:=ha a (by rw [he];simp)
  have hB:=ha b (by rw [he];simp)
  split at h
  ·cases h
  ·split at h
   ·rename_i l r e1 e2
    cases h
    refine .app ?_ (.cons (by decide) (.app (by_sign _) (.cons (by decide) ?_)))
    ·split at e1
     ·exact by_wrap (fun t ht=>ih j (by omega) a t hA ht) e1
     ·exact ih (j+1) (by omega) a _ hA e1
    ·split at e2
     ·exact by_wrap (fun t ht=>ih j (by omega) b t hB ht) e2
     ·exact ih (j+1) (by omega) b _ hB e2
   ·cases h
 ·cases h
theorem ExO.x {e:Ex} (h:ExO e):By e.x.s:=by cases h with | mk hx ha=>exact hx
theorem ExO.args {e:Ex} (h:ExO e):∀ a∈e.args,ExO a:=by cases h with | mk hx ha=>exact ha
theorem pE_by:∀ (k:Nat) (e:Ex) (t:List Nat),ExO e->pE k e=some t->By t:=by
 intro k
 induction k using Nat.strongRecOn with
 | ind k ih =>
  intro e t hO h
  cases k with
  | zero=>simp [pE] at h
  | succ k =>
   by_cases h1:e.k=1
   ·rw [pE_var _ _ h1] at h
    split at h
    ·cases h;exact .str _
    ·cases h
   ·by_cases h2:e.k=2
    ·rw [pE_val _ _ h2] at h
     split at h
     ·cases h;exact by_text hO.x
     ·cases h
    ·by_cases h4:e.k=4
     ·rw [pE_op _ _ h4] at h
      split at h
      ·cases k with
       | zero=>simp [pO] at h
       | succ j=>exact pO_by j (fun m hm=>ih m (by omega)) e hO.args t h
      ·cases h
     ·rw [pE_other _ e h1 h2 h4] at h
      cases h
theorem seqO_by {α:Type} {f:α->Option (List Nat)}:∀ (l:List α),(∀ x∈l,∀ t,f x=some t->By t)->∀ ls,seqO (l.map f)=some ls->∀ t∈ls,By t
 | [],_,ls,h,t,ht=>by simp [seqO] at h;subst h;cases ht
 | x :: r,hf,ls,h,t,ht=>by
  simp only [List.map_cons,seqO] at h
  split at h
  ·rename_i a l e1 e2
   cases h
   rcases List.mem_cons.1 ht with rfl | ht
   ·exact hf x (by simp) _ e1
   ·exact seqO_by r (fun y hy=>hf y (List.mem_cons_of_mem _ hy)) l e2 t ht
  ·cases h
theorem by_commas:∀ (ls:List (List Nat)),(∀ t∈ls,By t)->By (commas ls)
 | [],_=>by simp [commas,By]
 | [a],h=>by simpa [commas] using h a (by simp)
 | a :: b :: r,h=>by
  have ih:=by_commas (b :: r) (fun t ht=>h t (List.mem_cons_of_mem _ ht))
  have e:commas (a :: b :: r)=a++([44,32]++commas (b :: r)):=by simp [commas,List.intercalate]
  rw [e]
  exact .app (h a (by simp)) (.app (.cons (by decide) (.cons (by decide) .nil)) ih)
theorem pT_by {t:Term} (hb:By t.x.s) {s:List Nat} (h:pT t=some s):By s:=by
 unfold pT at h
 repeat' split at h
 all_goals first | (cases h;done) | (cases h;exact .str _) | (cases h;exact by_text hb) | (cases h;exact .cons (by decide) .nil)
theorem pA_by {a:Atom} (hb:∀ t∈a.terms,By t.x.s) {s:List Nat} (h:pA a=some s):By s:=by
 unfold pA at h
 split at h
 ·obtain ⟨ls,hl,rfl⟩:=Option.map_eq_some_iff.1 h
  exact .app (.str _) (.cons (by decide) (.app (by_commas _ (seqO_by _ (fun t ht s hs=>pT_by (hb t ht) hs) _ hl)) (.cons (by decide) .nil)))
 ·cases h
theorem by_lit {l:List Nat} (h:l.all (·<256)=true):By l:=fun c hc=>by simpa using List.all_eq_true.1 h c hc
theorem pL_by:∀ (b:Nat) (li:Li) (t:List Nat),LiO li->pL b li=some t->By t:=by
 intro b
 induction b with
 | zero =>
  intro li t hO h
  cases hO with
  | mk ha hl hr ho hb =>
   rw [pL.eq_def] at h
   simp only at h
   repeat' split at h
   all_goals first
    | (cases h;done)
    | exact pA_by ha h
    | (obtain ⟨x,hx,rfl⟩:=Option.map_eq_some_iff.1 h;exact .app (by_lit (by decide)) (pA_by ha hx))
    | (rename_i e1 e2;cases h;exact .app (pE_by _ _ _ hl e1) (.app (by_cmp _) (pE_by _ _ _ hr e2)))
 | succ c ih =>
  intro li t hO h
  cases hO with
  | mk ha hl hr ho hb =>
   rw [pL.eq_def] at h
   simp only at h
   repeat' split at h
   all_goals first
    | (cases h;done)
    | exact pA_by ha h
    | (obtain ⟨x,hx,rfl⟩:=Option.map_eq_some_iff.1 h;exact .app (by_lit (by decide)) (pA_by ha hx))
    | (rename_i e1 e2;cases h;exact .app (pE_by _ _ _ hl e1) (.app (by_cmp _) (pE_by _ _ _ hr e2)))
    | skip
   all_goals (
    rename_i e1 e2
    cases h
    have h2:=by_commas _ (seqO_by _ (fun x hx s hs=>ih x s (hb x hx) hs) _ e2)
    refine .app (.str _) (.app (by_lit (by decide)) (.app (by_word _) (.app (by_lit (by decide)) (.app ?_ (.app h2 (by_lit (by decide)))))))
    first
     | (cases e1;exact .nil)
     | (obtain ⟨x,hx,rfl⟩:=Option.map_eq_some_iff.1 e1;exact .app (pE_by _ _ _ ho hx) (by_lit (by decide)))
     | (split at e1 <;> first | (cases e1;done) | (cases e1;exact .nil) | (obtain ⟨x,hx,rfl⟩:=Option.map_eq_some_iff.1 e1;exact .app (pE_by _ _ _ ho hx) (by_lit (by decide))) | (split at e1 <;> first | (cases e1;done) | (cases e1;exact .nil))))
theorem pR_by {r:Rul} (hO:RuO r) {t:List Nat} (h:pR r=some t):By t:=by
 unfold pR at h
 split at h
 ·cases h
 ·rename_i x e
  have hA:=pA_by hO.1 e
  split at h
  ·cases h;exact hA
  ·obtain ⟨y,hy,rfl⟩:=Option.map_eq_some_iff.1 h
   unfold pB at hy
   obtain ⟨ls,hl,rfl⟩:=Option.map_eq_some_iff.1 hy
   exact .app hA (.app (by_lit (by decide)) (by_commas _ (seqO_by _ (fun x hx s hs=>pL_by 16 x s (hO.2 x hx) hs) _ hl)))
theorem pD_by {x:Rel} {t:List Nat} (h:pD x=some t):By t:=by
 unfold pD at h
 split at h
 ·obtain ⟨ls,hl,rfl⟩:=Option.map_eq_some_iff.1 h
  refine .app (by_lit (by decide)) (.app (.str _) (.cons (by decide) (.app (by_commas _ (seqO_by _ (fun y hy s hs=>?_) _ hl)) (.cons (by decide) .nil))))
  unfold pTy at hs
  repeat' split at hs
  all_goals first | (cases hs;done) | (cases hs;exact by_lit (by decide))
 ·cases h
theorem by_lines:∀ (ls:List (List Nat)),(∀ t∈ls,By t)->By (lines ls):=fun ls h c hc=>by
 obtain ⟨l,hl,hx⟩:=List.mem_flatMap.1 hc
 exact By.app (h l hl) (by_lit (by decide)) c hx
theorem pP_by {p:Prog} (hO:PgO p) {t:List Nat} (h:pP p=some t):By t:=by
 unfold pP at h
 split at h
 ·rename_i a b e1 e2
  cases h
  exact .app (by_lines _ (seqO_by _ (fun x hx s hs=>pD_by hs) _ e1)) (by_lines _ (seqO_by _ (fun r hr s hs=>pR_by (hO r hr) hs) _ e2))
 ·cases h
end Go.Proofs.YtohnmnfhmbmoaaaGreatDoor.Rt
namespace Go.Proofs.YtohnmnfhmbmoaaaGreatDoor
open Go.RowKit
set_option linter.unusedVariables false
set_option linter.unusedSimpArgs false
set_option maxRecDepth 100000
theorem seqO_memZ {α:Type} {f:α->Option (List Nat)}:∀ (l:List α) (ls:List (List Nat)),Pr.seqO (l.map f)=some ls->∀ x∈l,∃ s,f x=some s/\s∈ls
 | y :: r,ls,h,x,hx=>by
  simp only [List.map_cons,Pr.seqO] at h
  split at h
  ·rename_i a b e1 e2
   cases h
   rcases List.mem_cons.1 hx with rfl | hx
   ·exact ⟨a,e1,by simp⟩
   ·obtain ⟨s,h1,h2⟩:=seqO_memZ r b e2 x hx
    exact ⟨s,h1,List.mem_cons_of_mem _ h2⟩
  ·cases h
theorem lines_ge:∀ (ls:List (List Nat)),∀ s∈ls,s.length<=(Pr.lines ls).length
 | y :: r,s,h=>by
  have e:Pr.lines (y :: r)=(y++[46,10])++Pr.lines r:=rfl
  rw [e,List.length_append,List.length_append]
  rcases List.mem_cons.1 h with rfl | h
  ·omega
  ·have:=lines_ge r s h;omega
/-- a program's text has its rules' texts -/
theorem rule_of_prog {p:Pr.Prog} {t:List Nat} (h:Pr.pP p=some t):∀ r∈p.rules,∃ s,Pr.pR r=some s/\s.length<=t.length:=fun r hr=>by
 unfold Pr.pP at h
 split at h
 ·rename_i a b e1 e2
  cases h
  obtain ⟨s,h1,h2⟩:=seqO_memZ _ _ e2 r hr
  exact ⟨s,h1,by have:=lines_ge b s h2;rw [List.length_append];omega⟩
 ·cases h
theorem AllRes.okP {p:Pr.Prog} {j n:Nat} {w:World} {e:Ending} {w':World} (h:AllRes (.ok p j) (valP n) (.agg #[.slice none 0 0,.slice none 0 0]) w e w') :
  ∃ (a1:Option Addr) (c1:Nat) (a2:Option Addr) (c2:Nat),e=.returned (.tuple #[.agg #[.slice a1 p.rels.length c1,.slice a2 p.rules.length c2],.agg #[.int .i64 0,.int .i64 0,.int .i64 0]]) /\
   PgB (fun k=>n<=k) w' p (.agg #[.slice a1 p.rels.length c1,.slice a2 p.rules.length c2])/\Mod [] w w':=by
 obtain ⟨C,rfl,hv,hm⟩:=h
 obtain ⟨a1,c1,a2,c2,hx⟩:=PgB.lit hv
 rw [hx] at hv
 simp only [Value.agg.injEq] at hx
 subst hx
 exact ⟨a1,c1,a2,c2,rfl,hv,hm⟩
theorem AllRes.okU {r:Pr.Rul} {j n:Nat} {z:Value} {w:World} {e:Ending} {w':World} (h:AllRes (.ok r j) (valR n) z w e w') :
  ∃ (sa:Option Addr) (sc:Nat) (sb:Option Addr) (sd:Nat),e=.returned (.tuple #[.agg #[.string r.head.rel,.slice sa r.head.terms.length sc,.slice sb r.body.length sd,.int .i64 r.line,.int .i64 r.col],.agg #[.int .i64 0,.int .i64 0,.int .i64 0]]) /\
   RowB (fun k=>n<=k) w' 5 tmV r.head.terms (.slice sa r.head.terms.length sc)/\BB (fun k=>n<=k) w' r.body (.slice sb r.body.length sd)/\Mod [] w w':=by
 obtain ⟨C,rfl,⟨tu,ub,hx,h1,h2⟩,hm⟩:=h
 obtain ⟨sa,sc,rfl⟩:=h1.lit
 obtain ⟨sb,sd,rfl⟩:=h2.lit
 simp only [Value.agg.injEq] at hx
 subst hx
 exact ⟨sa,sc,sb,sd,rfl,h1,h2,hm⟩
/-- a program of one rule -/
theorem PgB.oneU {F:Nat->Prop} {w:World} {r:Pr.Rul} {g:Nat} {tu ub:Value} (hg:w.heap[g]?=some (.cells (ruV r tu ub) 63 (0,0))) (hF:F g) (h1:RowB F w 5 tmV r.head.terms tu) (h2:BB F w r.body ub) :
  PgB F w ⟨[],[r]⟩ (.agg #[.slice none 0 0,.slice (some ⟨g,0,none⟩) 1 1]):=by
 refine ⟨[],[(r,tu,ub)],_,_,rfl,rfl,.nil,.row (l:=[(r,tu,ub)]) hF (lt_of_block hg) (fun i hi=>?_) (by simp),by simp,fun p hp=>?_⟩
 ·obtain rfl:i=0:=by simpa using hi
  exact CellsAt.of hg
 ·rw [Msq] at hp
  subst hp
  exact ⟨h1,h2⟩
set_option maxHeartbeats 8000000 in
theorem PrintBack_any (P:Pr.Prog) (du ru:Value) (hwt:dsWt P.rels+rsWt P.rules<=1048576000) (w:World) (hp:PgB All w P (.agg #[du,ru])) (hv:Rt.PgV P) (hG:Glob w/\GlobV w) :
  Calls Tryz.prog 6 #[.agg #[du,ru]] w fun e w'=>e=.returned (.bool true)/\Mod [] w w':=by
 obtain ⟨a1,c1,b1,d1,hx⟩:=hp.lit
 simp only [Value.agg.injEq,Array.mk.injEq,List.cons.injEq,and_true] at hx
 obtain ⟨rfl,rfl⟩:=hx
 have HG:=Lib.hid hG.1;have HV:=Lib.hid hG.2
 have HMP:=Hxq (PgM.light hwt)
 have HMB:=Hxq (Sy.bareP_M HMP.out)
 have HVO:=Lib.hid hv
 have H0:=Lib.hid hp
 have hbig:P.rules.length<=134217728:=HMP.out.rules
 have mA:=(Mod.refl [] w).alloc (Obj.cells #[.slice a1 P.rels.length c1,.slice b1 P.rules.length d1] 25)
 have eA:=heap_alloc_new w (Obj.cells #[.slice a1 P.rels.length c1,.slice b1 P.rules.length d1] 25)
 clear hp hv hG
 go_enter Tryz.func6,Tryz.ntmps6
 go_upto_region 1 with fail
 generalize w.alloc (Obj.cells _ 25)=w1 at *
 have M1:=Lib.hid mA;have E1:=Lib.hid eA
 have HG1:=Hxq (HG.out.keep mA (by simp));have HV1:=Hxq (HV.out.past mA (by simp))
 clear mA eA HG HV
 generalize hpb:w.heap.size=pb at *
 go_wp2_with fail
 refine (awake_any w1 HV1.out).mono ?_
 rintro e1 w2 ⟨rfl,m2⟩
 have E2:=Hxq (m2.at E1.out (by simp));have M2:=Hxq (M1.out.trans m2 (by simp))
 have HG2:=Hxq (HG1.out.keep m2 (by simp));have HV2:=Hxq (HV1.out.past m2 (by simp))
 have HP2:=Hxq (H0.out.keep M2.out (by simp))
 clear m2 E1 M1 HG1 HV1
 have k0:=cell_at E2.out 0;have k1:=cell_at E2.out 1
 simp only [List.getElem?_toArray,List.getElem?_cons_zero,List.getElem?_cons_succ] at k0 k1
 have HPR:Hid (Calls Tryz.prog 9 #[.agg #[.slice a1 P.rels.length c1,.slice b1 P.rules.length d1]] w2 (Told (Pr.pP P) (dsWt P.rels+rsWt P.rules) w2)):=Hxq (by
  obtain ⟨du,ru,hx,hD,hR⟩:=HP2.out.ok HVO.out
  simp only [Value.agg.injEq,Array.mk.injEq,List.cons.injEq,and_true] at hx
  obtain ⟨rfl,rfl⟩:=hx
  exact Program_any P _ _ w2 hD hR HV2.out (by omega))
 go_wp2_with fail
 refine HPR.out.mono ?_
 rintro e3 w3 ⟨rfl,m3,-⟩
 have E3:=Hxq (m3.at E2.out (by simp));have M3:=Hxq (M2.out.trans m3 (by simp))
 have HG3:=Hxq (HG2.out.keep m3 (by simp));have HV3:=Hxq (HV2.out.past m3 (by simp))
 clear m3 k0 k1 E2 M2 HG2 HV2 HP2 HPR
 cases htp:Pr.pP P with
 | none =>
  unfold tv
  dsimp only
  go_wp2_with fail
  go_ret
  exact ⟨rfl,M3.out⟩
 | some t =>
  unfold tv
  dsimp only
  have hby:∀ c∈t,c<256:=Rt.pP_by HVO.out.o htp
  have hsz:(Lx.ofS t).size=t.length:=ofS_size t
  have HTP:=Lib.hid htp;have HBY:=Lib.hid hby
  clear htp hby
  by_cases hlen:t.length<=65536
  ·obtain ⟨q,jq,hq,hbq⟩:=Rt.prog_back HVO.out.o HTP.out HBY.out hlen
   have hstr:Cod.str (Lx.ofS t)=t:=Lx.str_ofS HBY.out
   generalize hst:Lx.ofS t=st at *
   have hl1:¬ (65536:Int)<(st.size:Int):=by omega
   rw [<-hstr] at hq
   have HQR:=Lib.hid hq;have HBQ:=Lib.hid hbq
   have HMQ:=Hxq (Sy.prog_pgM (envOk st).len hq)
   have hss:st.size<=140737488355328:=by omega
   clear hq hbq hstr hst
   go_wp2_with fail
   refine (entP_any st hss w3 HG3.out).mono ?_
   rintro e5 w5 h5
   rw [HQR.out] at h5
   obtain ⟨a3,c3,a4,c4,rfl,hQ,m5⟩:=h5.okP
   have E5:=Hxq (m5.at E3.out (by simp))
   have M5:=Hxq (M3.out.trans m5 (by simp))
   have HG5:=Hxq (HG3.out.keep m5 (by simp));have HV5:=Hxq (HV3.out.past m5 (by simp))
   have HQ5:=Lib.hid hQ
   have mA:=((Mod.refl [] w5).alloc (Obj.cells #[.slice a3 q.rels.length c3,.slice a4 q.rules.length c4] 25)).alloc (Obj.cells #[.int .i64 0,.int .i64 0,.int .i64 0] 51)
   have eA:=two_a w5 #[.slice a3 q.rels.length c3,.slice a4 q.rules.length c4] #[.int .i64 0,.int .i64 0,.int .i64 0] 25 51
   have eB:=two_b w5 #[.slice a3 q.rels.length c3,.slice a4 q.rules.length c4] #[.int .i64 0,.int .i64 0,.int .i64 0] 25 51
   clear m5 hQ h5 E3 M3 HG3 HV3
   go_upto_region 6 with fail
   generalize (w5.alloc (Obj.cells _ 25)).alloc (Obj.cells _ 51)=wz at *
   have EQ:=Lib.hid eA;have EF:=Lib.hid eB;have EP:=Hxq (mA.at E5.out (by simp))
   have HQ:=Hxq (HQ5.out.keep mA (by simp))
   have HGz:=Hxq (HG5.out.keep mA (by simp));have HVz:=Hxq (HV5.out.past mA (by simp))
   have Mz:=Hxq (M5.out.trans mA (by simp))
   have HP:=Hxq (H0.out.keep Mz.out (by simp))
   clear mA eA eB E5 HQ5 HG5 HV5 M5
   generalize hpq:w5.heap.size=pq at *
   have k0:=cell_at EP.out 0;have k1:=cell_at EP.out 1;have q0:=cell_at EQ.out 0;have q1:=cell_at EQ.out 1;have f0:=cell_at EF.out 0
   simp only [List.getElem?_toArray,List.getElem?_cons_zero,List.getElem?_cons_succ] at k0 k1 q0 q1 f0
   refine tl_region (fun wS=>Mod [] wz wS) [] (by kernel_rfl) ?_
   have hHeld:Mod [] wz wz.drew:=(Mod.refl [] wz).drew
   try simp only [Act.put,Lq1,Lq2,Lq3]
   refine TlAny.take 0 (v:=?_) hHeld ?_ ?_ ?_
   rotate_left 1
   ·refine Or.inl ⟨by rfl,?_⟩
    intro wS hSw
    replace hSw:Mod [] wz wS:=hSw
    clear hSw
    go_simp
    all_goals with_reducible rfl
   ·exact fun _ _ _ h=>h
   try simp only [Act.put,Lq1,Lq2,Lq3]
   refine TlAny.take 1 (v:=?_) hHeld ?_ ?_ ?_
   rotate_left 1
   ·refine Or.inl ⟨by rfl,?_⟩
    intro wS hSw
    replace hSw:Mod [] wz wS:=hSw
    have p0:=hSw.cell f0 (by simp)
    clear hSw
    go_simp
    all_goals with_reducible rfl
   ·exact fun _ _ _ h=>h
   try simp only [Act.put,Lq1,Lq2,Lq3]
   refine TlAny.take 2 (v:=?_) hHeld ?_ ?_ ?_
   rotate_left 1
   ·refine Or.inl ⟨by rfl,?_⟩
    intro wS hSw
    replace hSw:Mod [] wz wS:=hSw
    clear hSw
    go_simp
    all_goals with_reducible rfl
   ·exact fun _ _ _ h=>h
   try simp only [Act.put,Lq1,Lq2,Lq3]
   refine TlAny.take 3 (v:=?_) hHeld ?_ ?_ ?_
   rotate_left 1
   ·refine Or.inl ⟨by rfl,?_⟩
    intro wS hSw
    replace hSw:Mod [] wz wS:=hSw
    clear hSw
    go_simp
    all_goals with_reducible rfl
   ·exact fun _ _ _ h=>h
   try simp only [Act.put,Lq1,Lq2,Lq3]
   refine TlAny.take 4 (v:=?_) hHeld ?_ ?_ ?_
   rotate_left 1
   ·refine Or.inl ⟨by rfl,?_⟩
    intro wS hSw
    replace hSw:Mod [] wz wS:=hSw
    have p0:=hSw.cell q0 (by simp);have p1:=hSw.cell q1 (by simp)
    clear hSw
    go_simp
    all_goals with_reducible rfl
   ·exact fun _ _ _ h=>h
   try simp only [Act.put,Lq1,Lq2,Lq3]
   refine TlAny.take 6 (v:=?_) hHeld ?_ ?_ ?_
   rotate_left 1
   ·refine Or.inl ⟨by rfl,?_⟩
    intro wS hSw
    replace hSw:Mod [] wz wS:=hSw
    have p0:=hSw.cell k0 (by simp);have p1:=hSw.cell k1 (by simp)
    clear hSw
    go_simp
    all_goals with_reducible rfl
   ·exact fun _ _ _ h=>h
   try simp only [Act.put,Lq1,Lq2,Lq3]
   refine TlAny.one 5 ?_
   intro K hK
   go_simp
   refine (pbare_any q HMQ.out _ _ (HQ.out.keep hHeld (by simp))).mono ?_
   rintro e7 v1 ⟨rels,rus,va,vc,ua,uc,rfl,hb1,po1⟩
   have B1:=Hxq (hb1 ▸ po1.prog)
   replace hHeld:Mod [] wz v1:=hHeld.trans po1.mod (by simp)
   clear hb1 po1
   refine hK.out _ _ (fun _=>hHeld) ?_
   clear hK K
   try simp only [Act.put,Lq1,Lq2,Lq3]
   refine TlAny.one 7 ?_
   intro K hK
   go_simp
   refine (rbare_any P HMP.out _ _ (HP.out.keep hHeld (by simp))).mono ?_
   rintro e8 v2 ⟨ga,gc,ha,hc,rfl,hB2,m8⟩
   have B1:=Hxq (B1.out.keep m8 (by simp))
   have B2:=Lib.hid hB2
   replace hHeld:Mod [] wz v2:=hHeld.trans m8 (by simp)
   clear hB2 m8
   refine hK.out _ _ (fun _=>hHeld) ?_
   clear hK K
   try simp only [Act.put,Lq1,Lq2,Lq3]
   refine TlAny.one 8 ?_
   intro K hK
   go_simp
   refine (sameProg_any (Sy.bareP P) HMB.out _ _ v2 (HBQ.out ▸ B1.out) B2.out).mono ?_
   rintro e9 v3 ⟨rfl,m9⟩
   replace hHeld:Mod [] wz v3:=hHeld.trans m9 (by simp)
   clear m9 B1 B2
   refine hK.out _ _ (fun _=>hHeld) ?_
   clear hK K
   try simp only [Act.put,Lq1,Lq2,Lq3]
   refine TlAny.take 9 (v:=?_) hHeld ?_ ?_ ?_
   rotate_left 1
   ·refine Or.inl ⟨by rfl,?_⟩
    intro wS hSw
    replace hSw:Mod [] wz wS:=hSw
    clear hSw
    go_simp
    all_goals with_reducible rfl
   ·exact fun _ _ _ h=>h
   try simp only [Act.put,Lq1,Lq2,Lq3]
   refine TlAny.take 10 (v:=?_) hHeld ?_ ?_ ?_
   rotate_left 1
   ·refine Or.inl ⟨by rfl,?_⟩
    intro wS hSw
    replace hSw:Mod [] wz wS:=hSw
    clear hSw
    go_simp
    all_goals with_reducible rfl
   ·exact fun _ _ _ h=>h
   try simp only [Act.put,Lq1,Lq2,Lq3]
   refine TlAny.fin ?_
   have EP6:=Hxq (hHeld.at EP.out (by simp));have M6:=Hxq (Mz.out.trans hHeld (by simp))
   have HG6:=Hxq (HGz.out.keep hHeld (by simp));have HV6:=Hxq (HVz.out.past hHeld (by simp))
   clear hHeld k0 k1 q0 q1 f0 EP EQ EF HP HQ HGz HVz Mz HMQ HBQ HQR
   go_wp2_with fail
   go_loopw [8] (fun iv wr=>∃ i:Nat,iv=.int .i64 (i:Nat)/\i<=P.rules.length/\wr.heap[pb]?=some (.cells #[.slice a1 P.rels.length c1,.slice b1 P.rules.length d1] 25 (0,0))/\Mod [] w wr/\Glob wr/\GlobV wr) (fun iv _=>P.rules.length - (intOf iv).toNat)
   case atStart=>exact ⟨0,rfl,Nat.zero_le _,EP6.out,M6.out,HG6.out,HV6.out⟩
   case round =>
    obtain ⟨i,rfl,hi,hbx,hmw,hgl,hgv⟩:=hrel
    have BX:=Lib.hid hbx;have MW:=Lib.hid hmw;have GL:=Lib.hid hgl;have GV:=Lib.hid hgv
    clear hbx hmw hgl hgv
    have k1:=cell_at BX.out 1
    simp only [List.getElem?_toArray,List.getElem?_cons_zero,List.getElem?_cons_succ] at k1
    by_cases hlt:i<P.rules.length
    ·have hjI:(i:Int)<(P.rules.length:Int):=by omega
     have hj0:(0:Int)<=(i:Int):=by omega
     obtain ⟨g1,o1,t1,s1,rfl,hc1,ht1,hb1⟩:=H0.out.rulAt i hlt
     have hmem:P.rules[i]∈P.rules:=List.getElem_mem hlt
     obtain ⟨tr,htr,htl⟩:=rule_of_prog HTP.out _ hmem
     have hru:=HVO.out _ hmem
     have hrw:rWt P.rules[i]<=1048576000:=by
      have:=sum_mem (fun x=>rWt x+2) P.rules _ hmem
      unfold rsWt at hwt
      omega
     have hM2:PgM ⟨[],[P.rules[i]]⟩:=⟨by simp,by simp,by simp,fun r hr=>by rw [Msq] at hr;subst hr;exact HMP.out.terms _ hmem,fun r hr=>by rw [Msq] at hr;subst hr;exact HMP.out.body _ hmem,fun r hr=>by rw [Msq] at hr;subst hr;exact HMP.out.deep _ hmem⟩
     (try dsimp only at hc1 ht1 hb1)
     generalize P.rules[i]=r at *
     obtain ⟨ra,rc,rfl⟩:=ht1.lit
     obtain ⟨rb,rd,rfl⟩:=hb1.lit
     have HM2:=Lib.hid hM2
     have hbr:∀ c∈tr,c<256:=Rt.pR_by ⟨fun t ht=>(hru.1 t ht).byte,fun x hx=>(hru.2 x hx).o⟩ htr
     obtain ⟨r',j',hrr,hbare⟩:=Rt.rule_back ⟨fun t ht=>(hru.1 t ht).byte,fun x hx=>(hru.2 x hx).o⟩ htr hbr (by omega)
     have hst2:Cod.str (Lx.ofS tr)=tr:=Lx.str_ofS hbr
     have hsz2:(Lx.ofS tr).size=tr.length:=ofS_size tr
     rw [<-hst2] at hrr
     generalize hsr:Lx.ofS tr=sr at *
     have hM1:PgM ⟨[],[r']⟩:=by
      have hw:=(envOk sr).len
      have h3:r'.head.terms.length<=65538/\r'.body.length<=65538/\liMs r'.body<=65538:=by
       unfold Sy.whole at hrr
       obtain ⟨x,m,g1,g2⟩:=Sy.bind_ok hrr
       split at g2
       ·cases g2
       ·cases g2
        have:=Sy.rule_M g1
        omega
      refine ⟨by simp,by simp,by simp,fun r hr=>?_,fun r hr=>?_,fun r hr=>?_⟩ <;> (rw [Msq] at hr;subst hr;(try dsimp only);omega)
     have HM1:=Lib.hid hM1;have HM3:=Hxq (Sy.bareP_M hM2)
     have HBE:Hid (Sy.bareP ⟨[],[r']⟩=Sy.bareP ⟨[],[r]⟩):=Hxq (by simp [Sy.bareP,hbare])
     have HRR:=Lib.hid hrr;have HTR:=Lib.hid htr
     have hss2:sr.size<=140737488355328:=by omega
     have HRW:=Lib.hid hrw
     have hc2:=hc1.keep MW.out (by simp)
     have p0:=hc2 0 (.string r.head.rel) rfl;have p1:=hc2 1 (.slice ra r.head.terms.length rc) rfl;have p2:=hc2 2 (.slice rb r.body.length rd) rfl;have p3:=hc2 3 (.int .i64 r.line) rfl;have p4:=hc2 4 (.int .i64 r.col) rfl
     rw [Nat.add_zero] at p0
     have HT1:=Hxq (ht1.keep MW.out (by simp));have HB1:=Hxq (hb1.keep MW.out (by simp))
     have HRC:Hid (Calls Tryz.prog 21 #[.agg #[.string r.head.rel,.slice ra r.head.terms.length rc,.slice rb r.body.length rd,.int .i64 r.line,.int .i64 r.col]] wr (Told (Pr.pR r) (rWt r) wr)):=Hxq (Rule_any r _ _ wr (HT1.out.tok hru.1) (HB1.out.bok hru.2) GV.out (by omega))
     have HC1:=Lib.hid hc1
     clear hM1 hM2 hbare hrr htr hbr hru hst2 hc1 ht1 hb1 hc2 hrw hmem htl
     go_wp2_with fail
     refine HRC.out.mono ?_
     rintro e6 w6 ⟨rfl,m6,-⟩
     rw [HTR.out]
     unfold tv
     dsimp only
     rw [hsr]
     have BX6:=Hxq (m6.at BX.out (by simp));have M6:=Hxq (MW.out.trans m6 (by simp))
     have GL6:=Hxq (GL.out.keep m6 (by simp));have GV6:=Hxq (GV.out.past m6 (by simp))
     have HT6:=Hxq (HT1.out.keep m6 (by simp));have HB6:=Hxq (HB1.out.keep m6 (by simp))
     clear m6 k1 p0 p1 p2 p3 p4 HRC BX MW GL GV HT1 HB1 hsr hsz2
     go_wp2_with fail
     refine (entU_any sr hss2 w6 GL6.out).mono ?_
     rintro e7 w7 h7
     rw [HRR.out] at h7
     obtain ⟨sa,sc,sb,sd,rfl,hT7,hB7,m7⟩:=h7.okU
     have BX7:=Hxq (m7.at BX6.out (by simp));have M7:=Hxq (M6.out.trans m7 (by simp))
     have GL7:=Hxq (GL6.out.keep m7 (by simp));have GV7:=Hxq (GV6.out.past m7 (by simp))
     have HT7:=Hxq (HT6.out.keep m7 (by simp));have HB7:=Hxq (HB6.out.keep m7 (by simp))
     have HS7:=Hxq (hT7.mono (F':=All) (fun _ _ _=>trivial));have HU7:=Hxq (hB7.mono (F':=All) (fun _ _ _=>trivial))
     have mA:=((Mod.refl [] w7).alloc (Obj.cells #[.string r'.head.rel,.slice sa r'.head.terms.length sc,.slice sb r'.body.length sd,.int .i64 r'.line,.int .i64 r'.col] 63)).alloc (Obj.cells #[.int .i64 0,.int .i64 0,.int .i64 0] 51)
     have eA:=two_a w7 #[.string r'.head.rel,.slice sa r'.head.terms.length sc,.slice sb r'.body.length sd,.int .i64 r'.line,.int .i64 r'.col] #[.int .i64 0,.int .i64 0,.int .i64 0] 63 51
     have eB:=two_b w7 #[.string r'.head.rel,.slice sa r'.head.terms.length sc,.slice sb r'.body.length sd,.int .i64 r'.line,.int .i64 r'.col] #[.int .i64 0,.int .i64 0,.int .i64 0] 63 51
     clear m7 hT7 hB7 h7 BX6 M6 GL6 GV6 HT6 HB6
     go_upto_region 13 with fail
     generalize (w7.alloc (Obj.cells _ 63)).alloc (Obj.cells _ 51)=w8 at *
     have ER:=Lib.hid eA;have EF:=Lib.hid eB;have MA:=Lib.hid mA
     clear mA eA eB
     generalize hpr:w7.heap.size=pr at *
     have z0:=cell_at ER.out 0;have z1:=cell_at ER.out 1;have z2:=cell_at ER.out 2;have z3:=cell_at ER.out 3;have z4:=cell_at ER.out 4
     simp only [List.getElem?_toArray,List.getElem?_cons_zero,List.getElem?_cons_succ] at z0 z1 z2 z3 z4
     have mB:=((Mod.refl [] w8).alloc (Obj.cells #[.string r'.head.rel,.slice sa r'.head.terms.length sc,.slice sb r'.body.length sd,.int .i64 r'.line,.int .i64 r'.col] 63)).alloc (Obj.cells #[.slice none 0 0,.slice (some ⟨w8.heap.size,0,none⟩) 1 1] 25)
     have gA:=two_a w8 #[.string r'.head.rel,.slice sa r'.head.terms.length sc,.slice sb r'.body.length sd,.int .i64 r'.line,.int .i64 r'.col] #[.slice none 0 0,.slice (some ⟨w8.heap.size,0,none⟩) 1 1] 63 25
     have gB:=two_b w8 #[.string r'.head.rel,.slice sa r'.head.terms.length sc,.slice sb r'.body.length sd,.int .i64 r'.line,.int .i64 r'.col] #[.slice none 0 0,.slice (some ⟨w8.heap.size,0,none⟩) 1 1] 63 25
     go_upto_region 14 with fail
     clear z0 z1 z2 z3 z4
     generalize (w8.alloc (Obj.cells _ 63)).alloc (Obj.cells _ 25)=w9 at *
     have MB:=Lib.hid mB;have GA:=Lib.hid gA;have GB:=Lib.hid gB
     clear mB gA gB
     generalize hp8:w8.heap.size=p8 at *
     have BX9:=Hxq (MB.out.at (MA.out.at BX7.out (by simp)) (by simp))
     have M9:=Hxq ((M7.out.trans MA.out (by simp)).trans MB.out (by simp))
     have hc9:=HC1.out.keep M9.out (by simp)
     have p0:=hc9 0 (.string r.head.rel) rfl;have p1:=hc9 1 (.slice ra r.head.terms.length rc) rfl;have p2:=hc9 2 (.slice rb r.body.length rd) rfl;have p3:=hc9 3 (.int .i64 r.line) rfl;have p4:=hc9 4 (.int .i64 r.col) rfl
     rw [Nat.add_zero] at p0
     have k1:=cell_at BX9.out 1
     simp only [List.getElem?_toArray,List.getElem?_cons_zero,List.getElem?_cons_succ] at k1
     have mC:=((Mod.refl [] w9).alloc (Obj.cells #[.string r.head.rel,.slice ra r.head.terms.length rc,.slice rb r.body.length rd,.int .i64 r.line,.int .i64 r.col] 63)).alloc (Obj.cells #[.slice none 0 0,.slice (some ⟨w9.heap.size,0,none⟩) 1 1] 25)
     have hA':=two_a w9 #[.string r.head.rel,.slice ra r.head.terms.length rc,.slice rb r.body.length rd,.int .i64 r.line,.int .i64 r.col] #[.slice none 0 0,.slice (some ⟨w9.heap.size,0,none⟩) 1 1] 63 25
     have hB':=two_b w9 #[.string r.head.rel,.slice ra r.head.terms.length rc,.slice rb r.body.length rd,.int .i64 r.line,.int .i64 r.col] #[.slice none 0 0,.slice (some ⟨w9.heap.size,0,none⟩) 1 1] 63 25
     clear hc9
     go_upto_region 15 with fail
     clear p0 p1 p2 p3 p4 k1
     generalize (w9.alloc (Obj.cells _ 63)).alloc (Obj.cells _ 25)=wy at *
     have MC:=Lib.hid mC;have HA':=Lib.hid hA';have HB':=Lib.hid hB'
     clear mC hA' hB'
     generalize hp9:w9.heap.size=p9 at *
     have M89:=Hxq (MB.out.trans MC.out (by simp))
     have My:=Hxq (M9.out.trans MC.out (by simp))
     have m7y:=(MA.out.trans M89.out (by simp))
     have HA:Hid (PgB All wy ⟨[],[r']⟩ (.agg #[.slice none 0 0,.slice (some ⟨p8,0,none⟩) 1 1])):=Hxq (PgB.oneU (MC.out.at GA.out (by simp)) trivial (HS7.out.keep m7y (by simp)) (HU7.out.keep m7y (by simp)))
     have HB:Hid (PgB All wy ⟨[],[r]⟩ (.agg #[.slice none 0 0,.slice (some ⟨p9,0,none⟩) 1 1])):=Hxq (PgB.oneU HA'.out trivial (HT7.out.keep m7y (by simp)) (HB7.out.keep m7y (by simp)))
     have BXy:=Hxq (MC.out.at BX9.out (by simp));have EFy:=Hxq (M89.out.at EF.out (by simp));have EAy:=Hxq (MC.out.at GB.out (by simp));have EBy:=Lib.hid HB'.out
     have GLy:=Hxq (GL7.out.keep m7y (by simp));have GVy:=Hxq (GV7.out.past m7y (by simp))
     clear m7y MA MB MC M89 M9 M7 GA GB HA' HB' BX9 BX7 EF ER GL7 GV7 HT7 HB7 HS7 HU7
     have f0:=cell_at EFy.out 0;have a0:=cell_at EAy.out 0;have a1':=cell_at EAy.out 1;have b0:=cell_at EBy.out 0;have b1':=cell_at EBy.out 1
     simp only [List.getElem?_toArray,List.getElem?_cons_zero,List.getElem?_cons_succ] at f0 a0 a1' b0 b1'
     refine tl_region (fun wS=>Mod [] wy wS) [] (by kernel_rfl) ?_
     have hHeld:Mod [] wy wy.drew:=(Mod.refl [] wy).drew
     try simp only [Act.put,Lq1,Lq2,Lq3]
     refine TlAny.take 0 (v:=?_) hHeld ?_ ?_ ?_
     rotate_left 1
     ·refine Or.inl ⟨by rfl,?_⟩
      intro wS hSw
      replace hSw:Mod [] wy wS:=hSw
      clear hSw
      go_simp
      all_goals with_reducible rfl
     ·exact fun _ _ _ h=>h
     try simp only [Act.put,Lq1,Lq2,Lq3]
     refine TlAny.take 1 (v:=?_) hHeld ?_ ?_ ?_
     rotate_left 1
     ·refine Or.inl ⟨by rfl,?_⟩
      intro wS hSw
      replace hSw:Mod [] wy wS:=hSw
      clear hSw
      go_simp
      all_goals with_reducible rfl
     ·exact fun _ _ _ h=>h
     try simp only [Act.put,Lq1,Lq2,Lq3]
     refine TlAny.take 2 (v:=?_) hHeld ?_ ?_ ?_
     rotate_left 1
     ·refine Or.inl ⟨by rfl,?_⟩
      intro wS hSw
      replace hSw:Mod [] wy wS:=hSw
      clear hSw
      go_simp
      all_goals with_reducible rfl
     ·exact fun _ _ _ h=>h
     try simp only [Act.put,Lq1,Lq2,Lq3]
     refine TlAny.take 3 (v:=?_) hHeld ?_ ?_ ?_
     rotate_left 1
     ·refine Or.inl ⟨by rfl,?_⟩
      intro wS hSw
      replace hSw:Mod [] wy wS:=hSw
      clear hSw
      go_simp
      all_goals with_reducible rfl
     ·exact fun _ _ _ h=>h
     try simp only [Act.put,Lq1,Lq2,Lq3]
     refine TlAny.take 4 (v:=?_) hHeld ?_ ?_ ?_
     rotate_left 1
     ·refine Or.inl ⟨by rfl,?_⟩
      intro wS hSw
      replace hSw:Mod [] wy wS:=hSw
      have p0:=hSw.cell f0 (by simp)
      clear hSw
      go_simp
      all_goals with_reducible rfl
     ·exact fun _ _ _ h=>h
     try simp only [Act.put,Lq1,Lq2,Lq3]
     refine TlAny.take 5 (v:=?_) hHeld ?_ ?_ ?_
     rotate_left 1
     ·refine Or.inl ⟨by rfl,?_⟩
      intro wS hSw
      replace hSw:Mod [] wy wS:=hSw
      clear hSw
      go_simp
      all_goals with_reducible rfl
     ·exact fun _ _ _ h=>h
     try simp only [Act.put,Lq1,Lq2,Lq3]
     refine TlAny.take 6 (v:=?_) hHeld ?_ ?_ ?_
     rotate_left 1
     ·refine Or.inl ⟨by rfl,?_⟩
      intro wS hSw
      replace hSw:Mod [] wy wS:=hSw
      clear hSw
      go_simp
      all_goals with_reducible rfl
     ·exact fun _ _ _ h=>h
     try simp only [Act.put,Lq1,Lq2,Lq3]
     refine TlAny.take 7 (v:=?_) hHeld ?_ ?_ ?_
     rotate_left 1
     ·refine Or.inl ⟨by rfl,?_⟩
      intro wS hSw
      replace hSw:Mod [] wy wS:=hSw
      clear hSw
      go_simp
      all_goals with_reducible rfl
     ·exact fun _ _ _ h=>h
     try simp only [Act.put,Lq1,Lq2,Lq3]
     refine TlAny.take 8 (v:=?_) hHeld ?_ ?_ ?_
     rotate_left 1
     ·refine Or.inl ⟨by rfl,?_⟩
      intro wS hSw
      replace hSw:Mod [] wy wS:=hSw
      have p0:=hSw.cell a0 (by simp);have p1:=hSw.cell a1' (by simp)
      clear hSw
      go_simp
      all_goals with_reducible rfl
     ·exact fun _ _ _ h=>h
     try simp only [Act.put,Lq1,Lq2,Lq3]
     refine TlAny.take 10 (v:=?_) hHeld ?_ ?_ ?_
     rotate_left 1
     ·refine Or.inl ⟨by rfl,?_⟩
      intro wS hSw
      replace hSw:Mod [] wy wS:=hSw
      have p0:=hSw.cell b0 (by simp);have p1:=hSw.cell b1' (by simp)
      clear hSw
      go_simp
      all_goals with_reducible rfl
     ·exact fun _ _ _ h=>h
     try simp only [Act.put,Lq1,Lq2,Lq3]
     refine TlAny.one 9 ?_
     intro K hK
     go_simp
     refine (rbare_any ⟨[],[r']⟩ HM1.out _ _ (HA.out.keep hHeld (by simp))).mono ?_
     rintro e8 v1 ⟨ga,gc,ha,hc,rfl,hB2,m8⟩
     have B1:=Lib.hid hB2
     replace hHeld:Mod [] wy v1:=hHeld.trans m8 (by simp)
     clear hB2 m8
     refine hK.out _ _ (fun _=>hHeld) ?_
     clear hK K
     try simp only [Act.put,Lq1,Lq2,Lq3]
     refine TlAny.one 11 ?_
     intro K hK
     go_simp
     refine (rbare_any ⟨[],[r]⟩ HM2.out _ _ (HB.out.keep hHeld (by simp))).mono ?_
     rintro e9 v2 ⟨ga2,gc2,ha2,hc2,rfl,hB2,m8⟩
     have B1:=Hxq (B1.out.keep m8 (by simp))
     have B2:=Lib.hid hB2
     replace hHeld:Mod [] wy v2:=hHeld.trans m8 (by simp)
     clear hB2 m8
     refine hK.out _ _ (fun _=>hHeld) ?_
     clear hK K
     try simp only [Act.put,Lq1,Lq2,Lq3]
     refine TlAny.one 12 ?_
     intro K hK
     go_simp
     refine (sameProg_any (Sy.bareP ⟨[],[r]⟩) HM3.out _ _ v2 (HBE.out ▸ B1.out) B2.out).mono ?_
     rintro e10 v3 ⟨rfl,m9⟩
     replace hHeld:Mod [] wy v3:=hHeld.trans m9 (by simp)
     clear m9 B1 B2
     refine hK.out _ _ (fun _=>hHeld) ?_
     clear hK K
     try simp only [Act.put,Lq1,Lq2,Lq3]
     refine TlAny.take 13 (v:=?_) hHeld ?_ ?_ ?_
     rotate_left 1
     ·refine Or.inl ⟨by rfl,?_⟩
      intro wS hSw
      replace hSw:Mod [] wy wS:=hSw
      clear hSw
      go_simp
      all_goals with_reducible rfl
     ·exact fun _ _ _ h=>h
     try simp only [Act.put,Lq1,Lq2,Lq3]
     refine TlAny.take 14 (v:=?_) hHeld ?_ ?_ ?_
     rotate_left 1
     ·refine Or.inl ⟨by rfl,?_⟩
      intro wS hSw
      replace hSw:Mod [] wy wS:=hSw
      clear hSw
      go_simp
      all_goals with_reducible rfl
     ·exact fun _ _ _ h=>h
     try simp only [Act.put,Lq1,Lq2,Lq3]
     refine TlAny.fin ?_
     have BXe:=Hxq (hHeld.at BXy.out (by simp));have Me:=Hxq (My.out.trans hHeld (by simp))
     have GLe:=Hxq (GLy.out.keep hHeld (by simp));have GVe:=Hxq (GVy.out.past hHeld (by simp))
     clear hHeld f0 a0 a1' b0 b1'
     go_wp2_with fail
     go_roundw
     case rel=>exact ⟨i+1,by go_num,by omega,BXe.out,Me.out,GLe.out,GVe.out⟩
     case measure=>simp [intOf];omega
    ·obtain rfl:i=P.rules.length:=by omega
     have hjI:¬ (P.rules.length:Int)<(P.rules.length:Int):=by omega
     go_wp2_with fail
     go_ret
     exact ⟨rfl,MW.out⟩
  ·have hl1:(65536:Int)<((Lx.ofS t).size:Int):=by omega
   go_wp2_with fail
   go_ret
   exact ⟨rfl,M3.out⟩
end Go.Proofs.YtohnmnfhmbmoaaaGreatDoor
