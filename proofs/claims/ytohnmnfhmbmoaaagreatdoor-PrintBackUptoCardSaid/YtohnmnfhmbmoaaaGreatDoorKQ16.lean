/- THE TEXTS MERGED: SyProg2 SyCatch SyWhole. -/
import Derived.Test.YtohnmnfhmbmoaaaGreatDoorKQ1
import Derived.Test.YtohnmnfhmbmoaaaGreatDoorKQ15
import Derived.BigQuiet
import Derived.Recover
import Derived.Defers
import Derived.Laws.Pointers
namespace Go.Proofs.YtohnmnfhmbmoaaaGreatDoor
open Go.RowKit
set_option linter.unusedVariables false
set_option linter.unusedSimpArgs false
set_option maxRecDepth 100000
/-- a program in memory -/
def PgB (F:Nat->Prop) (w:World) (p:Pr.Prog) (x:Value):Prop:=∃ (rels:List RelU) (rus:List RulU) (u1 u2:Value),x=.agg #[u1,u2]/\p=⟨rels.map (·.1),rus.map (·.1)⟩/\RowB F w 4 csR rels u1/\RowB F w 5 csU rus u2/\(∀ p∈rels,RelB F w p)/\∀ p∈rus,RulB F w p
def valP (n:Nat):Pr.Prog->World->Value->Prop:=fun p w x=>PgB (fun k=>n<=k) w p x
theorem progF_eq (v:Sy.Env) (k:Nat) (p:Pr.Prog) (i:Nat):Sy.progF v (k+1) p i =
  if i<v.ws.length then
   if Sy.sign (v.tk i) [114,101,108,97,116,105,111,110]=true then (Sy.relation v (i+1)).bind fun x j=>(Sy.must v [46] j).bind fun _ j=>Sy.progF v k ⟨p.rels++[x],p.rules⟩ j
   else (Sy.rule v i).bind fun x j=>(Sy.must v [46] j).bind fun _ j=>Sy.progF v k ⟨p.rels,p.rules++[x]⟩ j
  else .ok p i:=by rw [Sy.progF]
theorem Tryz.infoRel:(Tryz.prog.info? 70).map (fun i=>(i.zero,i.size,i.bytes))=some (some (.agg #[.string ⟨#[]⟩,.slice none 0 0,.int .i64 0,.int .i64 0]),4,56):=by kernel_rfl
theorem Tryz.infoRul:(Tryz.prog.info? 63).map (fun i=>(i.zero,i.size,i.bytes))=some (some (.agg #[.string ⟨#[]⟩,.slice none 0 0,.slice none 0 0,.int .i64 0,.int .i64 0]),5,80):=by kernel_rfl
set_option maxHeartbeats 8000000 in
theorem program_any (b:Nat) (ra:Option Addr) (rc:Nat) (f:Value) (v:Sy.Env) (w:World) (h:RdP w b ra rc f v 0) (hv:EnvOk v) :
  Calls Tryz.prog 47 #[.pointer (some ⟨b,0,none⟩)] w (PRes b ra rc f v (Sy.prog v 0) (valP w.heap.size) w):=by
 have hlen:=hv.len
 obtain ⟨iR,hR0,hR1,hR2,hR3⟩:=info_parts Tryz.infoRel
 obtain ⟨iU,hU0,hU1,hU2,hU3⟩:=info_parts Tryz.infoRul
 have mA:=(Mod.refl [] w).alloc (Obj.cells #[Value.slice none 0 0,Value.slice none 0 0] 25)
 have hA:=h.past mA (by simp)
 have eA:=heap_alloc_new w (Obj.cells #[Value.slice none 0 0,Value.slice none 0 0] 25)
 have zA:(w.alloc (Obj.cells #[Value.slice none 0 0,Value.slice none 0 0] 25)).heap.size=w.heap.size+1:=by simp
 have HLo:=Lib.hid h.low
 have hbl:=h.lt
 have HQ:Hid (Sy.prog v 0=Sy.progF v (v.ws.length+1) ⟨[],[]⟩ 0):=Lib.hid rfl
 have HA:=Lib.hid hA;have EA:=Lib.hid eA;have MA:=Lib.hid mA
 have hnb:w.heap.size∉[b]:=by simp;omega
 clear h hA eA mA
 generalize hq:Sy.prog v 0=q at *
 clear hq
 go_enter Tryz.func47,Tryz.ntmps47
 go_upto_region 1 with fail
 generalize w.alloc (Obj.cells #[Value.slice none 0 0,Value.slice none 0 0] 25)=wA at *
 have mB:=(Mod.refl [] wA).alloc (Obj.cells #[Value.slice none 0 0,Value.slice none 0 0] 25)
 have bB:=heap_alloc_new wA (Obj.cells #[Value.slice none 0 0,Value.slice none 0 0] 25)
 have HB:=Hxq (HA.out.past mB (by simp))
 have PB:Hid (PI wA b wA.heap.size [] [] (wA.alloc (Obj.cells #[Value.slice none 0 0,Value.slice none 0 0] 25)) none 0 none 0):=Lib.hid
  ⟨bB,World.ownsRow_nil _ _ _ _,World.ownsRow_nil _ _ _ _,by simp [fp],by simp [fp],by simp [fp],by simp,by simp,Nat.le_refl _,by omega,mB.mono (by simp)⟩
 clear mB bB
 go_upto_region 2 with fail
 rw [zA] at PB
 generalize hpb:w.heap.size+1=pb at *
 generalize wA.alloc (Obj.cells _ 25)=wB at *
 go_loopg [] (v.ws.length+1) (fun gk wr=>∃ (j:Nat) (rels:List RelU) (rus:List RulU) (va:Option Addr) (vc:Nat) (ua:Option Addr) (uc:Nat),PI wA b pb rels rus wr va vc ua uc/\RdP wr b ra rc f v j/\j<=v.ws.length/\v.ws.length+1<=gk+j/\rels.length<=j/\rus.length<=j/\q=Sy.progF v gk ⟨rels.map (·.1),rus.map (·.1)⟩ j)
 case atStart=>exact ⟨0,[],[],none,0,none,0,PB.out,HB.out,by omega,by omega,by simp,by simp,HQ.out⟩
 case round =>
  obtain ⟨j,rels,rus,va,vc,ua,uc,hP,hr,hj,hgk,hl1,hl2,hq⟩:=hrel
  obtain ⟨g',rfl⟩:∃ g',gk=g'+1:=⟨gk - 1,by omega⟩
  rw [progF_eq] at hq
  obtain ⟨c0,c1,c2,c3,c4,c5,fz⟩:=hr.cells
  have P0:=Lib.hid hP;have H0:=Lib.hid hr;have HQ2:=Lib.hid hq
  clear hP hr hq HQ PB HB
  by_cases hlt:j<v.ws.length
  ·have hI:(j:Int)<(v.ws.length:Int):=by omega
   have HMy:=Hxq (fun w h=>may_any b ra rc f v j [114,101,108,97,116,105,111,110] { data:=#[114,101,108,97,116,105,111,110] } w h hv (by omega) rfl (by decide))
   have HQ3:Hid (q=if Sy.sign (v.tk j) [114,101,108,97,116,105,111,110]=true then (Sy.relation v (j+1)).bind fun x j=>(Sy.must v [46] j).bind fun _ j=>Sy.progF v g' ⟨rels.map (·.1)++[x],rus.map (·.1)⟩ j
    else (Sy.rule v j).bind fun x j=>(Sy.must v [46] j).bind fun _ j=>Sy.progF v g' ⟨rels.map (·.1),rus.map (·.1)++[x]⟩ j):=Hxq (by rw [HQ2.out,if_pos hlt])
   clear HQ2
   generalize Sy.sign (v.tk j) [114,101,108,97,116,105,111,110]=rs at *
   go_wp2_with fail
   go_quiet (fail)
   go_wp2_with fail
   have mq:Mod [] wr (wr.drewN nq):=(Mod.refl [] wr).drewN nq
   refine (HMy.out _ (H0.out.past mq (by simp))).mono ?_
   rintro e6 w6 ⟨rfl,h6,m6⟩
   have P6:=Hxq ((P0.out.keep (mq.mono (by simp))).keep m6)
   clear mq m6 c0 c1 c2 c3 c4 c5 fz
   cases rs
   ·have H6:=Hxq (show RdP w6 b ra rc f v j from h6)
    clear h6 P0 H0 HMy
    have HC:=Hxq (fun w h=>rule_any b ra rc f v j w h hv hj)
    have hadv:=Sy.adv_rule v j
    have HQ4:Hid (q=(Sy.rule v j).bind fun x j=>(Sy.must v [46] j).bind fun _ j=>Sy.progF v g' ⟨rels.map (·.1),rus.map (·.1)++[x]⟩ j):=Lib.hid HQ3.out
    clear HQ3
    have D1:w6.drew.cell? ⟨pb,1,none⟩=some (.slice ua rus.length uc):=cell_at P6.out.box 1
    have hbx:=lt_of_block P6.out.box
    generalize Sy.rule v j=pr at *
    cases pr with
    | err g1 =>
     have hq:q=.err g1:=HQ4.out
     subst hq
     clear HQ4 hadv
     go_wp2_with fail
     refine wp_region_held_drew (S:=(fun w':World=>w'.cell? ⟨pb,1,none⟩=some (.slice ua rus.length uc))) (by kernel_rfl) (by (try dsimp only);exact D1) (fun hHeld=>?_)
     refine Tkq 0 (v:=?_) (by assumption) ?_ ?_ ?_
     rotate_left 1
     ·refine .inl ⟨by rfl,?_⟩;intro w hSw;(try dsimp only at hSw);have hS1:=hSw;go_simp
      all_goals with_reducible rfl
     ·exact fun _ _ _ h=>h
     try simp only [Act.put,Lq1,Lq2,Lq3]
     refine Tkq 1 (v:=?_) (by assumption) ?_ ?_ ?_
     rotate_left 1
     ·refine .inl ⟨by rfl,?_⟩;intro w hSw;(try dsimp only at hSw);have hS1:=hSw;go_simp
      all_goals with_reducible rfl
     ·exact fun _ _ _ h=>h
     try simp only [Act.put,Lq1,Lq2,Lq3]
     refine Tkq 2 (v:=?_) (by assumption) ?_ ?_ ?_
     rotate_left 1
     ·refine .inl ⟨by rfl,?_⟩;intro w hSw;(try dsimp only at hSw);have hS1:=hSw;go_simp
      all_goals with_reducible rfl
     ·exact fun _ _ _ h=>h
     try simp only [Act.put,Lq1,Lq2,Lq3]
     refine wpAnyH_ready (rs:=[3]) (by kernel_rfl) (by simp) ?_
     refine AllReadyH.cons (o:=?_) ?_ ?_ AllReadyH.nil
     rotate_left 1
     ·(simp only [Gq1,Gq2,Gq3])<;>rfl
     intro K hK
     go_simp
     refine (HC.out w6.drew (H6.out.past ((Mod.refl [] w6).drew) (by simp))).mono ?_
     rintro e7 w7 ⟨rfl,m7⟩
     have M7:=Hxq (((Mod.refl [b] w6).drew).trans m7 (by simp))
     clear m7
     unfold stopE
     dsimp only
     clear hK K
     go_wp2_with fail
     exact ⟨rfl,rfl,(MA.out.mono (T:=[b]) (by simp)).trans (P6.out.mod.trans M7.out (by simp)) (by simp)⟩
    | ok a n =>
     have hn:=hadv a n hj rfl
     have HQ5:Hid (q=(Sy.must v [46] n).bind fun _ j=>Sy.progF v g' ⟨rels.map (·.1),rus.map (·.1)++[a]⟩ j):=Lib.hid HQ4.out
     clear HQ4 hadv
     have hlR:=Hxq (fun k hk=>fp_lt P6.out.rowR k hk)
     have hlU:=Hxq (fun k hk=>fp_lt P6.out.rowU k hk)
     go_wp2_with fail
     go_region_law (first
      | (go_simp;refine (HC.out w6.drew (H6.out.past ((Mod.refl [] w6).drew) (by simp))).mono ?_;rintro e3 w3 ⟨y3,rfl,⟨u3,t3,rfl,hb3,hc3⟩,h3,m3⟩;obtain ⟨a3,c3,rfl⟩:=RowB.lit hb3;obtain ⟨a4,c4,rfl⟩:=BB.lit hc3;have m03:=(((Mod.refl [b] w6).drew).trans m3 (by simp));have P3:=Hxq (P6.out.keep m03);have q3:=(cell_at P3.out.box 1);have P4:=Hxq (P3.out.keep ((Mod.refl [b] w3).alloc (Obj.cells #[.string a.head.rel,.slice a3 a.head.terms.length c3,.slice a4 a.body.length c4,.int .i64 a.line,.int .i64 a.col] 63)));have q6:=(cell_at P4.out.box 1);have HO3:=Lib.hid P4.out.rowU;have HS3:Hid (Src Tryz.prog 5 23 (.slice (some ⟨w3.heap.size,0,none⟩) 1 1) 1 (csU (a,.slice a3 a.head.terms.length c3,.slice a4 a.body.length c4)).toList (w3.alloc (Obj.cells #[.string a.head.rel,.slice a3 a.head.terms.length c3,.slice a4 a.body.length c4,.int .i64 a.line,.int .i64 a.col] 63))):=Hxq (src_one (TS:=23) Tryz.underlying23 (heap_alloc_new w3 (Obj.cells (csU (a,.slice a3 a.head.terms.length c3,.slice a4 a.body.length c4)) 63)) rfl (csU_one (p:=(a,.slice a3 a.head.terms.length c3,.slice a4 a.body.length c4)) (w:=w3) ⟨hb3,hc3⟩));have H3:=Hxq (h3.past ((Mod.refl [] w3).alloc (Obj.cells #[.string a.head.rel,.slice a3 a.head.terms.length c3,.slice a4 a.body.length c4,.int .i64 a.line,.int .i64 a.col] 63)) (by simp));have LB3:Hid (RulB (fun k=>w6.heap.size<=k) (w3.alloc (Obj.cells #[.string a.head.rel,.slice a3 a.head.terms.length c3,.slice a4 a.body.length c4,.int .i64 a.line,.int .i64 a.col] 63)) (a,.slice a3 a.head.terms.length c3,.slice a4 a.body.length c4)):=Hxq (RulB.keep (p:=(a,.slice a3 a.head.terms.length c3,.slice a4 a.body.length c4)) (w:=w3) ⟨hb3,hc3⟩ ((Mod.refl [] w3).alloc (Obj.cells #[.string a.head.rel,.slice a3 a.head.terms.length c3,.slice a4 a.body.length c4,.int .i64 a.line,.int .i64 a.col] 63)) (by simp));unfold ruV;clear h3 m3 m03)
      | (refine step_append_src _ rfl _ _ 23 23 rfl 63 iU (.agg #[.string ⟨#[]⟩,.slice none 0 0,.slice none 0 0,.int .i64 0,.int .i64 0]) 5 80 Tryz.underlying23 hU0 hU1 hU2 hU3 rfl (.slice ua rus.length uc) rus.length (rowCells csU rus) rfl HO3.out _ 1 (csU (a,.slice a3 a.head.terms.length c3,.slice a4 a.body.length c4)).toList rfl HS3.out (by unfold maxLen;omega) (by omega) ?_;intro v5 w5 hown5 hm5 hf5;obtain ⟨va5,vc5,rfl⟩:=owns_slice hown5;have hna:pb∉fp (.slice ua rus.length uc):=fun hk=>(P4.out.newU pb hk).2 rfl;have G5:=Hxq (P4.out.growU (p:=(a,.slice a3 a.head.terms.length c3,.slice a4 a.body.length c4)) hm5 LB3.out hbx hlU.out hlR.out hown5 hf5);have q5:w5.cell? ⟨pb,1,none⟩=some (.slice ua rus.length uc):=hm5.cell (p:=⟨pb,1,none⟩) (cell_at P4.out.box 1) hna;have f5:w5.frozen? ⟨pb,1,none⟩=false:=(World.frozen?_of_block (hm5.block pb (lt_of_block P4.out.box) hna)).trans (free_at P4.out.box 1);have MR5:=Hxq ((hm5.mono (T:=pb :: fp (.slice ua rus.length uc)) (fun t ht=>.inl (List.mem_cons_of_mem _ ht))).setCell (p:=⟨pb,1,none⟩) (.inl (by simp)) (.slice va5 (rus.length+1) vc5));clear hown5 hm5 hf5))
     all_goals (
      have H8:=Hxq (H3.out.new HLo.out MR5.out (fun t ht=>by
       rcases List.mem_cons.1 ht with rfl | ht
       ·have:=P6.out.pbn;omega
       ·have:=(P6.out.newU t ht).1;omega))
      clear q3 q5 q6 f5 hna MR5 HO3 HS3 H3 LB3 P3 P4 hlR hlU D1
      go_wp2_with fail
      generalize w5.setCell ⟨pb,1,none⟩ (.slice va5 (rus.length+1) vc5)=w8 at *
      have HMu:=Hxq (must_any b ra rc f v n [46] { data:=#[46] } w8 H8.out hv (by omega) rfl (by decide))
      have hadvU:=Sy.adv_must v [46] n
      have hm1:∀ u n2,Sy.must v [46] n=.ok u n2->n2=n+1:=fun u n2 hm=>by
       unfold Sy.must at hm
       split at hm
       ·cases hm;rfl
       ·cases hm
      generalize Sy.must v [46] n=pm at *
      cases pm with
      | err g1 =>
       have hq:q=.err g1:=HQ5.out
       subst hq
       clear HQ5
       go_wp2_with fail
       refine HMu.out.mono ?_
       rintro e9 w9 ⟨rfl,m9⟩
       have M9:=Hxq (((MA.out.mono (T:=[b]) (by simp)).trans G5.out.mod (by simp)).trans m9 (by simp))
       clear m9
       unfold stopE
       go_wp2_with fail
       exact ⟨rfl,rfl,M9.out⟩
      | ok uu n2 =>
       have hn2:=hm1 uu n2 rfl
       have hn3:=hadvU uu n2 hn.2 rfl
       have HQ6:=Lib.hid HQ5.out
       clear HQ5 hm1 hadvU
       go_wp2_with fail
       refine HMu.out.mono ?_
       rintro e9 w9 ⟨y9,rfl,hy9,h9,m9⟩
       unfold valU at hy9
       subst hy9
       have P9:=Hxq (G5.out.keep m9);have H9:=Lib.hid h9
       clear m9 h9
       go_wp2_with fail
       go_roundg g'
       case measure=>omega
       case rel=>exact ⟨n2,_,_,_,_,_,_,P9.out,H9.out,hn3.2,by omega,by first | omega | (simp;omega),by first | omega | (simp;omega),by rw [HQ6.out];simp [Sy.PR.bind]⟩)
   ·have H6:=Hxq (show RdP w6 b ra rc f v (j+1) from h6)
    have hjl:j<v.ws.length:=hlt
    clear h6 P0 H0 HMy
    have HC:=Hxq (fun w h=>relation_any b ra rc f v (j+1) w h hv (by omega))
    have hadv:=Sy.adv_relation v (j+1)
    have HQ4:Hid (q=(Sy.relation v (j+1)).bind fun x j=>(Sy.must v [46] j).bind fun _ j=>Sy.progF v g' ⟨rels.map (·.1)++[x],rus.map (·.1)⟩ j):=Lib.hid HQ3.out
    clear HQ3
    have D1:w6.drew.cell? ⟨pb,0,none⟩=some (.slice va rels.length vc):=cell_at P6.out.box 0
    have hbx:=lt_of_block P6.out.box
    generalize Sy.relation v (j+1)=pr at *
    cases pr with
    | err g1 =>
     have hq:q=.err g1:=HQ4.out
     subst hq
     clear HQ4 hadv
     go_wp2_with fail
     refine wp_region_held_drew (S:=(fun w':World=>w'.cell? ⟨pb,0,none⟩=some (.slice va rels.length vc))) (by kernel_rfl) (by (try dsimp only);exact D1) (fun hHeld=>?_)
     refine Tkq 0 (v:=?_) (by assumption) ?_ ?_ ?_
     rotate_left 1
     ·refine .inl ⟨by rfl,?_⟩;intro w hSw;(try dsimp only at hSw);have hS1:=hSw;go_simp
      all_goals with_reducible rfl
     ·exact fun _ _ _ h=>h
     try simp only [Act.put,Lq1,Lq2,Lq3]
     refine Tkq 1 (v:=?_) (by assumption) ?_ ?_ ?_
     rotate_left 1
     ·refine .inl ⟨by rfl,?_⟩;intro w hSw;(try dsimp only at hSw);have hS1:=hSw;go_simp
      all_goals with_reducible rfl
     ·exact fun _ _ _ h=>h
     try simp only [Act.put,Lq1,Lq2,Lq3]
     refine Tkq 2 (v:=?_) (by assumption) ?_ ?_ ?_
     rotate_left 1
     ·refine .inl ⟨by rfl,?_⟩;intro w hSw;(try dsimp only at hSw);have hS1:=hSw;go_simp
      all_goals with_reducible rfl
     ·exact fun _ _ _ h=>h
     try simp only [Act.put,Lq1,Lq2,Lq3]
     refine wpAnyH_ready (rs:=[3]) (by kernel_rfl) (by simp) ?_
     refine AllReadyH.cons (o:=?_) ?_ ?_ AllReadyH.nil
     rotate_left 1
     ·(simp only [Gq1,Gq2,Gq3])<;>rfl
     intro K hK
     go_simp
     refine (HC.out w6.drew (H6.out.past ((Mod.refl [] w6).drew) (by simp))).mono ?_
     rintro e7 w7 ⟨rfl,m7⟩
     have M7:=Hxq (((Mod.refl [b] w6).drew).trans m7 (by simp))
     clear m7
     unfold stopE
     dsimp only
     clear hK K
     go_wp2_with fail
     exact ⟨rfl,rfl,(MA.out.mono (T:=[b]) (by simp)).trans (P6.out.mod.trans M7.out (by simp)) (by simp)⟩
    | ok a n =>
     have hn:=hadv a n (by omega) rfl
     have HQ5:Hid (q=(Sy.must v [46] n).bind fun _ j=>Sy.progF v g' ⟨rels.map (·.1)++[a],rus.map (·.1)⟩ j):=Lib.hid HQ4.out
     clear HQ4 hadv
     have hlR:=Hxq (fun k hk=>fp_lt P6.out.rowR k hk)
     have hlU:=Hxq (fun k hk=>fp_lt P6.out.rowU k hk)
     go_wp2_with fail
     go_region_law (first
      | (go_simp;refine (HC.out w6.drew (H6.out.past ((Mod.refl [] w6).drew) (by simp))).mono ?_;rintro e3 w3 ⟨y3,rfl,⟨u3,rfl,hb3⟩,h3,m3⟩;obtain ⟨a3,c3,rfl⟩:=RowB.lit hb3;have m03:=(((Mod.refl [b] w6).drew).trans m3 (by simp));have P3:=Hxq (P6.out.keep m03);have q3:=(cell_at P3.out.box 0);have P4:=Hxq (P3.out.keep ((Mod.refl [b] w3).alloc (Obj.cells #[.string a.name,.slice a3 a.types.length c3,.int .i64 a.line,.int .i64 a.col] 70)));have q6:=(cell_at P4.out.box 0);have HO3:=Lib.hid P4.out.rowR;have HS3:Hid (Src Tryz.prog 4 22 (.slice (some ⟨w3.heap.size,0,none⟩) 1 1) 1 (csR (a,.slice a3 a.types.length c3)).toList (w3.alloc (Obj.cells #[.string a.name,.slice a3 a.types.length c3,.int .i64 a.line,.int .i64 a.col] 70))):=Hxq (src_one (TS:=22) Tryz.underlying22 (heap_alloc_new w3 (Obj.cells (csR (a,.slice a3 a.types.length c3)) 70)) rfl (csR_one (p:=(a,.slice a3 a.types.length c3)) (w:=w3) hb3));have H3:=Hxq (h3.past ((Mod.refl [] w3).alloc (Obj.cells #[.string a.name,.slice a3 a.types.length c3,.int .i64 a.line,.int .i64 a.col] 70)) (by simp));have LB3:Hid (RelB (fun k=>w6.heap.size<=k) (w3.alloc (Obj.cells #[.string a.name,.slice a3 a.types.length c3,.int .i64 a.line,.int .i64 a.col] 70)) (a,.slice a3 a.types.length c3)):=Hxq (RelB.keep (p:=(a,.slice a3 a.types.length c3)) (w:=w3) hb3 ((Mod.refl [] w3).alloc (Obj.cells #[.string a.name,.slice a3 a.types.length c3,.int .i64 a.line,.int .i64 a.col] 70)) (by simp));unfold reV;clear h3 m3 m03)
      | (refine step_append_src _ rfl _ _ 22 22 rfl 70 iR (.agg #[.string ⟨#[]⟩,.slice none 0 0,.int .i64 0,.int .i64 0]) 4 56 Tryz.underlying22 hR0 hR1 hR2 hR3 rfl (.slice va rels.length vc) rels.length (rowCells csR rels) rfl HO3.out _ 1 (csR (a,.slice a3 a.types.length c3)).toList rfl HS3.out (by unfold maxLen;omega) (by omega) ?_;intro v5 w5 hown5 hm5 hf5;obtain ⟨va5,vc5,rfl⟩:=owns_slice hown5;have hna:pb∉fp (.slice va rels.length vc):=fun hk=>(P4.out.newR pb hk).2 rfl;have G5:=Hxq (P4.out.growR (p:=(a,.slice a3 a.types.length c3)) hm5 LB3.out hbx hlR.out hlU.out hown5 hf5);have q5:w5.cell? ⟨pb,0,none⟩=some (.slice va rels.length vc):=hm5.cell (p:=⟨pb,0,none⟩) (cell_at P4.out.box 0) hna;have f5:w5.frozen? ⟨pb,0,none⟩=false:=(World.frozen?_of_block (hm5.block pb (lt_of_block P4.out.box) hna)).trans (free_at P4.out.box 0);have MR5:=Hxq ((hm5.mono (T:=pb :: fp (.slice va rels.length vc)) (fun t ht=>.inl (List.mem_cons_of_mem _ ht))).setCell (p:=⟨pb,0,none⟩) (.inl (by simp)) (.slice va5 (rels.length+1) vc5));clear hown5 hm5 hf5))
     all_goals (
      have H8:=Hxq (H3.out.new HLo.out MR5.out (fun t ht=>by
       rcases List.mem_cons.1 ht with rfl | ht
       ·have:=P6.out.pbn;omega
       ·have:=(P6.out.newR t ht).1;omega))
      clear q3 q5 q6 f5 hna MR5 HO3 HS3 H3 LB3 P3 P4 hlR hlU D1
      go_wp2_with fail
      generalize w5.setCell ⟨pb,0,none⟩ (.slice va5 (rels.length+1) vc5)=w8 at *
      have HMu:=Hxq (must_any b ra rc f v n [46] { data:=#[46] } w8 H8.out hv (by omega) rfl (by decide))
      have hadvU:=Sy.adv_must v [46] n
      have hm1:∀ u n2,Sy.must v [46] n=.ok u n2->n2=n+1:=fun u n2 hm=>by
       unfold Sy.must at hm
       split at hm
       ·cases hm;rfl
       ·cases hm
      generalize Sy.must v [46] n=pm at *
      cases pm with
      | err g1 =>
       have hq:q=.err g1:=HQ5.out
       subst hq
       clear HQ5
       go_wp2_with fail
       refine HMu.out.mono ?_
       rintro e9 w9 ⟨rfl,m9⟩
       have M9:=Hxq (((MA.out.mono (T:=[b]) (by simp)).trans G5.out.mod (by simp)).trans m9 (by simp))
       clear m9
       unfold stopE
       go_wp2_with fail
       exact ⟨rfl,rfl,M9.out⟩
      | ok uu n2 =>
       have hn2:=hm1 uu n2 rfl
       have hn3:=hadvU uu n2 hn.2 rfl
       have HQ6:=Lib.hid HQ5.out
       clear HQ5 hm1 hadvU
       go_wp2_with fail
       refine HMu.out.mono ?_
       rintro e9 w9 ⟨y9,rfl,hy9,h9,m9⟩
       unfold valU at hy9
       subst hy9
       have P9:=Hxq (G5.out.keep m9);have H9:=Lib.hid h9
       clear m9 h9
       go_wp2_with fail
       go_roundg g'
       case measure=>omega
       case rel=>exact ⟨n2,_,_,_,_,_,_,P9.out,H9.out,hn3.2,by omega,by first | omega | (simp;omega),by first | omega | (simp;omega),by rw [HQ6.out];simp [Sy.PR.bind]⟩)
  ·have hI:¬ (j:Int)<(v.ws.length:Int):=by omega
   have hq:q=.ok ⟨rels.map (·.1),rus.map (·.1)⟩ j:=by rw [HQ2.out,if_neg hlt]
   subst hq
   clear HQ2
   go_wp2_with fail
   go_quiet (fail)
   have mq:Mod [] wr (wr.drewN nq):=(Mod.refl [] wr).drewN nq
   have P6:=Hxq (P0.out.keep (mq.mono (by simp)));have H6:=Hxq (H0.out.past mq (by simp))
   generalize wr.drewN nq=w6 at *
   have A6:=Hxq ((P6.out.mod).at EA.out hnb)
   obtain ⟨x0,x1⟩:=cells2 P6.out.box
   obtain ⟨y0,y1⟩:=cells2 A6.out
   have fA:∀ j,w6.frozen? ⟨w.heap.size,j,none⟩=false:=fun j=>free_at A6.out j
   clear mq c0 c1 c2 c3 c4 c5 fz
   go_wp2_with fail
   have mR:=setCs_mod w.heap.size [.slice va rels.length vc,.slice ua rus.length uc] 0 w6
   have hS:∀ s∈[w.heap.size],¬ PF wA pb (.slice va rels.length vc) (.slice ua rus.length uc) s:=fun s hs hh=>by
    rw [Msq] at hs;subst hs;have:=hh.1;omega
   refine bodyPost_ret (results_cell_row rfl _ _ _ _ _ _ _ rfl (setCs_row (vs:=[.slice va rels.length vc,.slice ua rus.length uc]) A6.out rfl) Tryz.underlying25 rfl (by kernel_rfl)) rfl ⟨_,rfl,⟨rels,rus,_,_,rfl,rfl,?_,?_,?_,?_⟩,H6.out.new HLo.out mR (by simp),((MA.out.mono (T:=[b]) (by simp)).trans P6.out.mod (by simp)).trans mR (by simp)⟩
   ·exact ((RowB.of_owns (F:=fun k=>wA.heap.size<=k) csR_size P6.out.rowR (fun k hk=>(P6.out.newR k hk).1)).keep mR (fun s hs=>by rw [Msq] at hs;omega)).mono (fun k hk _=>by omega)
   ·exact ((RowB.of_owns (F:=fun k=>wA.heap.size<=k) csU_size P6.out.rowU (fun k hk=>(P6.out.newU k hk).1)).keep mR (fun s hs=>by rw [Msq] at hs;omega)).mono (fun k hk _=>by omega)
   ·exact fun p hp=>((P6.out.subR p hp).keep mR hS).mono (fun k hk _=>by have:=hk.1;omega)
   ·exact fun p hp=>((P6.out.subU p hp).keep mR hS).mono (fun k hk _=>by have:=hk.1;omega)
theorem assert_stop (v:Value) (w:World):(Instr.typeAssert (.iface 169 v) 20 169 true).run Tryz.prog w=.ok (.tuple #[v,.bool true]) w:=by kernel_rfl
theorem assert_nil (w:World):(Instr.typeAssert .nilIface 20 169 true).run Tryz.prog w=.ok (.tuple #[.agg #[.int .i64 0,.int .i64 0,.int .i64 0],.bool false]) w:=by kernel_rfl
theorem catch_stop (p:Nat) (g:Sy.Flt) (w:World) (x0 x1 x2:Value) (hc:w.heap[p]?=some (.cells #[x0,x1,x2] 51 (0,0))) :
  CallsD Tryz.prog 103 #[.pointer (some ⟨p,0,none⟩)] (.panicking [{ v:=.iface 169 (.agg #[.int .i64 (g.1:Nat),.int .i64 (g.2.1:Nat),.int .i64 (g.2.2:Nat)]),recovered:=false }]) w fun e u' w' =>
   e=.returned (.tuple #[])/\u'=.panicking [{ v:=.iface 169 (.agg #[.int .i64 (g.1:Nat),.int .i64 (g.2.1:Nat),.int .i64 (g.2.2:Nat)]),recovered:=true }]/\w'.heap[p]?=some (.cells #[.int .i64 (g.1:Nat),.int .i64 (g.2.1:Nat),.int .i64 (g.2.2:Nat)] 51 (0,0))/\Mod [p] w w':=by
 refine callsD_of_wpS Tryz.func103 rfl fun c₀ cs hu=>?_
 apply wpS_seq
 apply wpS_region
 simp [wpOpsS,go_sem,recoverD,hu,Tryz.ntmps103,Exit.thenS,assert_stop,assert_nil]
 have mA:=(Mod.refl [] w).alloc (Obj.cells #[.int .i64 (g.1:Nat),.int .i64 (g.2.1:Nat),.int .i64 (g.2.2:Nat)] 169)
 have eA:=heap_alloc_new w (Obj.cells #[.int .i64 (g.1:Nat),.int .i64 (g.2.1:Nat),.int .i64 (g.2.2:Nat)] 169)
 have pA:=mA.at hc (by simp)
 obtain ⟨k0,k1,k2⟩:=cells3 eA
 obtain ⟨y0,y1,y2⟩:=cells3 pA
 have f0:=free_at pA 0
 have f1:=free_at pA 1
 have f2:=free_at pA 2
 apply wpS_seq
 apply wpS_region
 simp [wpOpsS,go_sem,Exit.thenS]
 refine wpS_cond (t:=true) (by simp [Act.eval,Array.replicate]) ?_
 simp only [if_true]
 apply wpS_region
 simp [wpOpsS,go_sem,k0,k1,k2,y0,y1,y2,f0,f1,f2,bodyPostS,results,Tryz.results103]
 exact ⟨setCs_row (vs:=[.int .i64 (g.1:Nat),.int .i64 (g.2.1:Nat),.int .i64 (g.2.2:Nat)]) pA rfl,(mA.mono (by simp)).trans (setCs_mod p [.int .i64 (g.1:Nat),.int .i64 (g.2.1:Nat),.int .i64 (g.2.2:Nat)] 0 _) (by simp)⟩
theorem catch_idle (p:Nat) (w:World) :
  CallsD Tryz.prog 103 #[.pointer (some ⟨p,0,none⟩)] .returning w fun e u' w'=>e=.returned (.tuple #[])/\u'=.returning/\Mod [] w w':=by
 refine callsD_of_wpS Tryz.func103 rfl fun c₀ cs hu=>?_
 apply wpS_seq
 apply wpS_region
 simp [wpOpsS,go_sem,recoverD,hu,Tryz.ntmps103,Exit.thenS,assert_stop,assert_nil]
 apply wpS_seq
 apply wpS_region
 simp [wpOpsS,go_sem,Exit.thenS]
 refine wpS_cond (t:=false) (by simp [Act.eval,Array.replicate]) ?_
 simp only [Bool.false_eq_true,if_false]
 refine wpS_of_wp (wp_skip ?_)
 cases c₀
 simp_all [bodyPostS,results,Tryz.results103]
 exact (Mod.refl [] w).alloc _
/-- a fault in memory's word -/
def fltC (g:Sy.Flt):Array Value:=#[.int .i64 (g.1:Nat),.int .i64 (g.2.1:Nat),.int .i64 (g.2.2:Nat)]
/-- what the reading of one kind leaves: Got a thing in the world, the reader past it, in blocks of S -/
def RdRes {α:Type} (b:Nat) (ra:Option Addr) (rc:Nat) (f:Value) (v:Sy.Env) (r:Sy.PR α) (S:List Nat) (Got:α->World->Prop) (w:World) (e:Ending) (w':World):Prop :=
 match r with
 | .ok a j=>e=.returned (.tuple #[])/\Got a w'/\RdP w' b ra rc f v j/\Mod S w w'
 | .err g=>e=stopE g/\Mod S w w'
set_option maxHeartbeats 4000000 in
theorem whole_err {α:Type} (b:Nat) (ra:Option Addr) (rc:Nat) (n:Nat) (x:Value) (v:Sy.Env) (one:Nat->Sy.PR α) (S:List Nat) (Got:α->World->Prop) (w:World) (g:Sy.Flt) (h:RdP w b ra rc (.func (.func n) #[x] #[]) v 0) (hv:EnvOk v)
  (he:∀ (args:Array Value) (w:World),(callFunc n args).run Tryz.prog w=.ok (.enter n args) w)
  (hr:∀ w' ,Mod [] w w'->w.heap.size<w'.heap.size->Calls Tryz.prog n #[x] w' (RdRes b ra rc (.func (.func n) #[x] #[]) v (one 0) S Got w')) (hS:∀ s∈S,s<w.heap.size) (ho:one 0=.err g) :
  Calls Tryz.prog 69 #[.pointer (some ⟨b,0,none⟩)] w fun e w'=>e=.returned (.agg (fltC g))/\Mod S w w':=by
 have hmf:=makeFunc_any
 have mA:=(Mod.refl [] w).alloc (Obj.cells #[Value.int .i64 0,Value.int .i64 0,Value.int .i64 0] 51)
 have hA:=h.past mA (by simp)
 have eA:=heap_alloc_new w (Obj.cells #[Value.int .i64 0,Value.int .i64 0,Value.int .i64 0] 51)
 obtain ⟨c0,c1,c2,c3,c4,c5,fz⟩:=hA.cells
 have HC:=Hxq (hr _ mA (by simp))
 rw [ho] at HC
 go_enter_defers Tryz.func69,Tryz.ntmps69
 go_wp2_with fail
 refine HC.out.mono ?_
 rintro e1 w1 ⟨rfl,m1⟩
 have e1:=m1.at eA (fun hs=>by have:=hS _ hs;omega)
 have M1:=Hxq ((mA.mono (T:=S) (by simp)).trans m1 (fun t ht=>.inl ht))
 clear HC m1 c0 c1 c2 c3 c4 c5 fz hA eA mA
 unfold stopE
 go_wp2_with fail
 refine leaves_cons (f:=103) (args:=#[.pointer (some ⟨w.heap.size,0,none⟩)]) (by simp) (by simp [go_sem]) ?_
 refine (catch_stop _ g w1 _ _ _ e1).mono ?_
 rintro e2 u2 w2 ⟨rfl,rfl,h2,m2⟩
 exact ⟨_,results_cell_row rfl _ _ _ _ _ _ _ rfl h2 Tryz.underlying51 rfl (by kernel_rfl),rfl,M1.out.trans m2 (fun t ht=>by rw [Msq] at ht;exact .inr (by omega))⟩
set_option maxHeartbeats 4000000 in
/-- read, but something stands behind it (or the text's end is a fault) -/
theorem whole_more {α:Type} (b:Nat) (ra:Option Addr) (rc:Nat) (n:Nat) (x:Value) (v:Sy.Env) (one:Nat->Sy.PR α) (S:List Nat) (Got:α->World->Prop) (w:World) (a:α) (i:Nat) (h:RdP w b ra rc (.func (.func n) #[x] #[]) v 0) (hv:EnvOk v)
  (he:∀ (args:Array Value) (w:World),(callFunc n args).run Tryz.prog w=.ok (.enter n args) w)
  (hr:∀ w' ,Mod [] w w'->w.heap.size<w'.heap.size->Calls Tryz.prog n #[x] w' (RdRes b ra rc (.func (.func n) #[x] #[]) v (one 0) S Got w')) (hS:∀ s∈S,s<w.heap.size) (ho:one 0=.ok a i) (hi:i<=v.ws.length) (hm:i<v.ws.length\/v.last.1≠42) :
  Calls Tryz.prog 69 #[.pointer (some ⟨b,0,none⟩)] w fun e w'=>e=.returned (.agg (fltC (v.give 40 i)))/\Mod S w w':=by
 have hmf:=makeFunc_any
 have hlen:=hv.len
 have mA:=(Mod.refl [] w).alloc (Obj.cells #[Value.int .i64 0,Value.int .i64 0,Value.int .i64 0] 51)
 have hA:=h.past mA (by simp)
 have eA:=heap_alloc_new w (Obj.cells #[Value.int .i64 0,Value.int .i64 0,Value.int .i64 0] 51)
 obtain ⟨c0,c1,c2,c3,c4,c5,fz⟩:=hA.cells
 have HC:=Hxq (hr _ mA (by simp))
 rw [ho] at HC
 by_cases hlt:i<v.ws.length
 all_goals (
  go_enter_defers Tryz.func69,Tryz.ntmps69
  go_wp2_with fail
  refine HC.out.mono ?_
  rintro e1 w1 ⟨rfl,hg,h1,m1⟩
  have e1:=m1.at eA (fun hs=>by have:=hS _ hs;omega)
  have M1:=Hxq ((mA.mono (T:=S) (by simp)).trans m1 (fun t ht=>.inl ht))
  have H1:=Lib.hid h1
  clear HC m1 c0 c1 c2 c3 c4 c5 fz hA eA mA
  obtain ⟨c0,c1,c2,c3,c4,c5,fz⟩:=h1.cells
  try have hI:(i:Int)<(v.ws.length:Int):=by omega
  try have hI:¬ (i:Int)<(v.ws.length:Int):=by omega
  try have hK:((v.last.1:Int) != 42)=true:=by simp;omega
  clear h1
  go_wp2_with fail
  go_quiet (fail)
  go_wp2_with fail
  have mq:Mod [] w1 (w1.drewN nq):=(Mod.refl [] w1).drewN nq
  refine (give_any b ra rc _ v i 40 _ (H1.out.past mq (by simp)) hv (by omega)).mono ?_
  rintro e3 w3 ⟨rfl,m3⟩
  have m13:=mq.trans m3 (by simp)
  have e3:=m13.at e1 (by simp)
  have M3:=Hxq (M1.out.trans m13 (by simp))
  clear m3 mq m13
  unfold stopE
  go_wp2_with fail
  refine leaves_cons (f:=103) (args:=#[.pointer (some ⟨w.heap.size,0,none⟩)]) (by simp) (by simp [go_sem]) ?_
  refine (catch_stop _ (v.give 40 i) w3 _ _ _ e3).mono ?_
  rintro e2 u2 w2 ⟨rfl,rfl,h2,m2⟩
  exact ⟨_,results_cell_row rfl _ _ _ _ _ _ _ rfl h2 Tryz.underlying51 rfl (by kernel_rfl),rfl,M3.out.trans m2 (fun t ht=>by rw [Msq] at ht;exact .inr (by omega))⟩)
set_option maxHeartbeats 4000000 in
/-- read whole -/
theorem whole_ok {α:Type} (b:Nat) (ra:Option Addr) (rc:Nat) (n:Nat) (x:Value) (v:Sy.Env) (one:Nat->Sy.PR α) (S:List Nat) (Got:α->World->Prop) (w:World) (a:α) (i:Nat) (h:RdP w b ra rc (.func (.func n) #[x] #[]) v 0) (hv:EnvOk v)
  (he:∀ (args:Array Value) (w:World),(callFunc n args).run Tryz.prog w=.ok (.enter n args) w)
  (hr:∀ w' ,Mod [] w w'->w.heap.size<w'.heap.size->Calls Tryz.prog n #[x] w' (RdRes b ra rc (.func (.func n) #[x] #[]) v (one 0) S Got w')) (hS:∀ s∈S,s<w.heap.size) (ho:one 0=.ok a i) (hi:¬ i<v.ws.length) (hi2:i<=65536) (hm:v.last.1=42) :
  Calls Tryz.prog 69 #[.pointer (some ⟨b,0,none⟩)] w fun e w'=>e=.returned (.agg #[.int .i64 0,.int .i64 0,.int .i64 0])/\(∃ w1,Got a w1/\Mod [w.heap.size] w1 w')/\Mod S w w':=by
 have hmf:=makeFunc_any
 have hlen:=hv.len
 have mA:=(Mod.refl [] w).alloc (Obj.cells #[Value.int .i64 0,Value.int .i64 0,Value.int .i64 0] 51)
 have hA:=h.past mA (by simp)
 have eA:=heap_alloc_new w (Obj.cells #[Value.int .i64 0,Value.int .i64 0,Value.int .i64 0] 51)
 obtain ⟨c0,c1,c2,c3,c4,c5,fz⟩:=hA.cells
 have HC:=Hxq (hr _ mA (by simp))
 rw [ho] at HC
 go_enter_defers Tryz.func69,Tryz.ntmps69
 go_wp2_with fail
 refine HC.out.mono ?_
 rintro e1 w1 ⟨rfl,hg,h1,m1⟩
 have e1:=m1.at eA (fun hs=>by have:=hS _ hs;omega)
 have M1:=Hxq ((mA.mono (T:=S) (by simp)).trans m1 (fun t ht=>.inl ht))
 have H1:=Lib.hid h1;have HGt:=Lib.hid hg
 clear HC m1 c0 c1 c2 c3 c4 c5 fz hA eA mA hg
 obtain ⟨c0,c1,c2,c3,c4,c5,fz⟩:=h1.cells
 have hI:¬ (i:Int)<(v.ws.length:Int):=by omega
 have hK:((v.last.1:Int) != 42)=false:=by rw [hm];rfl
 clear h1
 go_wp2_with fail
 go_quiet (fail)
 have mq:Mod [] w1 (w1.drewN nq):=(Mod.refl [] w1).drewN nq
 have e3:=mq.at e1 (by simp)
 generalize w1.drewN nq=w3 at *
 obtain ⟨y0,y1,y2⟩:=cells3 e3
 have f0:=free_at e3 0
 have f1:=free_at e3 1
 have f2:=free_at e3 2
 clear c0 c1 c2 c3 c4 c5 fz
 go_wp2_with fail
 refine leaves_cons (f:=103) (args:=#[.pointer (some ⟨w.heap.size,0,none⟩)]) (by simp) (by simp [go_sem]) ?_
 refine (catch_idle _ _).mono ?_
 rintro e2 u2 w2 ⟨rfl,rfl,m2⟩
 have mR:=setCs_mod w.heap.size [.int .i64 0,.int .i64 0,.int .i64 0] 0 w3
 have mT:=(mq.mono (T:=[w.heap.size]) (by simp)).trans (mR.trans m2 (by simp)) (by simp)
 have h2:=m2.at (setCs_row (vs:=[.int .i64 0,.int .i64 0,.int .i64 0]) e3 rfl) (by simp)
 exact ⟨_,results_cell_row rfl _ _ _ _ _ _ _ rfl h2 Tryz.underlying51 rfl (by kernel_rfl),rfl,⟨w1,HGt.out,mT⟩,M1.out.trans mT (fun t ht=>by rw [Msq] at ht;exact .inr (by omega))⟩
/-- what whole leaves -/
def WhRes {α:Type} (r:Sy.PR α) (S:List Nat) (Got:α->World->Prop) (w:World) (e:Ending) (w':World):Prop :=
 match r with
 | .ok a _=>e=.returned (.agg #[.int .i64 0,.int .i64 0,.int .i64 0])/\(∃ w1,Got a w1/\Mod [w.heap.size] w1 w')/\Mod S w w'
 | .err g=>e=.returned (.agg (fltC g))/\Mod S w w'
theorem whole_any {α:Type} (b:Nat) (ra:Option Addr) (rc:Nat) (n:Nat) (x:Value) (v:Sy.Env) (one:Nat->Sy.PR α) (S:List Nat) (Got:α->World->Prop) (w:World) (h:RdP w b ra rc (.func (.func n) #[x] #[]) v 0) (hv:EnvOk v)
  (he:∀ (args:Array Value) (w:World),(callFunc n args).run Tryz.prog w=.ok (.enter n args) w)
  (hr:∀ w' ,Mod [] w w'->w.heap.size<w'.heap.size->Calls Tryz.prog n #[x] w' (RdRes b ra rc (.func (.func n) #[x] #[]) v (one 0) S Got w')) (hS:∀ s∈S,s<w.heap.size) (hadv:Sy.Adv v one) :
  Calls Tryz.prog 69 #[.pointer (some ⟨b,0,none⟩)] w (WhRes (Sy.whole v one) S Got w):=by
 have hlen:=hv.len
 cases ho:one 0 with
 | err g =>
  have e:Sy.whole v one=.err g:=by unfold Sy.whole;rw [ho];rfl
  rw [e]
  exact whole_err b ra rc n x v one S Got w g h hv he hr hS ho
 | ok a i =>
  have hi:=(hadv 0 a i (Nat.zero_le _) ho).2
  by_cases hm:i<v.ws.length\/v.last.1≠42
  ·have e:Sy.whole v one=.err (v.give 40 i):=by unfold Sy.whole;rw [ho,Sy.PR.bind_ok,if_pos hm]
   rw [e]
   exact whole_more b ra rc n x v one S Got w a i h hv he hr hS ho hi hm
  ·have e:Sy.whole v one=.ok a i:=by unfold Sy.whole;rw [ho,Sy.PR.bind_ok,if_neg hm]
   rw [e]
   exact whole_ok b ra rc n x v one S Got w a i h hv he hr hS ho (by omega) (by omega) (by omega)
end Go.Proofs.YtohnmnfhmbmoaaaGreatDoor
