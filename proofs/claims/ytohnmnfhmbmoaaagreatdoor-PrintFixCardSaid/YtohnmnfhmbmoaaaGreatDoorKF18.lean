/- THE TEXTS MERGED: SyAll SyShown SySame3. -/
import Derived.Test.YtohnmnfhmbmoaaaGreatDoorKF1
import Derived.Test.YtohnmnfhmbmoaaaGreatDoorKF17
import Derived.Laws.EntriesVeiled
import Derived.Test.YtohnmnfhmbmoaaaGreatDoorKF13
namespace Go.Proofs.YtohnmnfhmbmoaaaGreatDoor
open Go.RowKit
set_option linter.unusedVariables false
set_option linter.unusedSimpArgs false
set_option maxRecDepth 100000
section
variable {P:Program} {ops:Array Oper} {rest:List Oper} {o:Oper} {a:Act} {w:World} {Q:Exit->Act->World->Prop}
theorem wpList_built2 (hgd:o.guard=none) (t:TypeId) (n m:Nat) (x y:Operand) (ho:o.op=.build t #[(n,x),(m,y)])
  (v u:Value) (hv:a.eval x=v) (hu:a.eval y=u) (cells:Array Value) (hc:(Instr.build t #[(n,v),(m,u)]).run P w=.ok (.agg cells) w) (h:wpList P ops Q rest (a.put o.dst (.agg cells)) w):wpList P ops Q (o :: rest) a w :=
 wpList_plain hgd fun K hK=>by
  unfold Oper.wp execOp
  simp only [ho,Sem.run_bind,List.map_toArray,List.map_cons,List.map_nil,hv,hu,hc,Result.andThen_ok]
  exact hK _ _ h
end
/-- a text's words are in order -/
theorem envOk (s:ByteArray):EnvOk (Sy.envOf (Cod.str s)):=by
 obtain ⟨h1,h2⟩:=Sy.env_toks (Cod.str s) (Cod.str_lt s)
 exact ⟨h2,fun t ht=>(h1 t ht).num,fun t ht=>(h1 t ht).byte⟩
/-- another function in the reader's last field -/
theorem RdP.setF {w:World} {b:Nat} {ra:Option Addr} {rc:Nat} {f:Value} {v:Sy.Env} {i:Nat} (h:RdP w b ra rc f v i) (f':Value) :
  RdP (w.setCell ⟨b,5,none⟩ f') b ra rc f' v i/\Mod [b] w (w.setCell ⟨b,5,none⟩ f'):=by
 have hm:Mod [b] w (w.setCell ⟨b,5,none⟩ f'):=(Mod.refl [b] w).setCell (p:=⟨b,5,none⟩) (.inl (by simp)) _
 refine ⟨⟨?_,h.row.keep hm (fun k hk hs=>h.out (by simp at hs;exact hs ▸ hk)),h.out⟩,hm⟩
 have:=setCell_at h.at_ 5 f'
 simpa using this
/-- what all leaves -/
def AllRes {α:Type} (r:Sy.PR α) (val:α->World->Value->Prop) (z:Value) (w:World) (e:Ending) (w':World):Prop :=
 match r with
 | .ok a _=>∃ C:Array Value,e=.returned (.tuple #[.agg C,.agg #[.int .i64 0,.int .i64 0,.int .i64 0]])/\val a w' (.agg C)/\Mod [] w w'
 | .err g=>e=.returned (.tuple #[z,.agg (fltC g)])/\Mod [] w w'
theorem wp_range {w:World} {b:Nat} {C:Array Value} {T:TypeId} {fr:Nat × Nat} (h:w.heap[b]?=some (.cells C T fr)):w.rangeAt b 0 C.toList:=fun j v hv=>by
 rw [Nat.zero_add,cell_at h,<-hv,Array.getElem?_toList]
theorem part_range {w:World} {px:Nat} {a o:Value} {C:Array Value} {T:TypeId} {fr:Nat × Nat} (h:w.heap[px]?=some (.cells (#[a,o]++C) T fr)):w.rangeAt px 2 C.toList:=fun j v hv=>by
 rw [cell_at h,<-hv,Array.getElem?_toList,Array.getElem?_append_right (by simp)]
 congr 1
 simp
theorem sizeFlt:(Tryz.prog.info? 51).map (·.size)=some 3:=by kernel_rfl
theorem RdRes.mono {α:Type} {b:Nat} {ra:Option Addr} {rc:Nat} {f:Value} {v:Sy.Env} {r:Sy.PR α} {S:List Nat} {Got Got':α->World->Prop} {w:World} {e:Ending} {w':World} (h:RdRes b ra rc f v r S Got w e w') (hG:∀ a w',Got a w'->Got' a w'):RdRes b ra rc f v r S Got' w e w':=by
 cases r with
 | ok a j=>exact ⟨h.1,hG _ _ h.2.1,h.2.2⟩
 | err g=>exact h
theorem res_pair {fn:Func} {p q:Tmp} {T U:TypeId} (h:fn.results=#[.cell p T,.cell q U]) (tmps:Array Value) (w:World) (b c:Nat) (C D:Array Value)
  (hp:tmps.getD p undef=.pointer (some ⟨b,0,none⟩)) (hq:tmps.getD q undef=.pointer (some ⟨c,0,none⟩)) (hl:(loadVar T ⟨b,0,none⟩).run Tryz.prog w=.ok (.agg C) w) (hm:(loadVar U ⟨c,0,none⟩).run Tryz.prog w=.ok (.agg D) w) :
  (results fn tmps).run Tryz.prog w=.ok (.tuple #[.agg C,.agg D]) w:=by
 have hp':tmps[p]?.getD undef=.pointer (some ⟨b,0,none⟩):=by simpa using hp
 have hq':tmps[q]?.getD undef=.pointer (some ⟨c,0,none⟩):=by simpa using hq
 simp [results,h,hp',hq',asAddr,hl,hm]
theorem sizeP:(Tryz.prog.info? 25).map (·.size)=some 2:=by kernel_rfl
theorem valP_cells {n:Nat} {a:Pr.Prog} {w:World} {C:Array Value} (h:valP n a w (.agg C)):C.size=2/\C.toList.all (·.oneCell')=true:=by
 obtain ⟨rels,rus,u1,u2,h0,hpp,hb1,hb2,hs1,hs2⟩:=h
 obtain ⟨a1,c1,rfl⟩:=hb1.lit
 obtain ⟨a2,c2,rfl⟩:=hb2.lit
 simp only [Value.agg.injEq] at h0
 subst h0
 exact ⟨rfl,rfl⟩
theorem valP_keep {n m:Nat} {S:List Nat} {w w':World} {a:Pr.Prog} {x:Value} (h:valP n a w x) (hm:Mod S w w') (hS:∀ s∈S,¬ n<=s) (hn:m<=n):valP m a w' x:=by
 obtain ⟨rels,rus,u1,u2,h0,hpp,hb1,hb2,hs1,hs2⟩:=h
 exact ⟨rels,rus,u1,u2,h0,hpp,(hb1.keep hm hS).mono (fun k hk _=>by omega),(hb2.keep hm hS).mono (fun k hk _=>by omega),fun p hp=>((hs1 p hp).keep hm hS).mono (fun k hk _=>by omega),fun p hp=>((hs2 p hp).keep hm hS).mono (fun k hk _=>by omega)⟩
theorem buildP (p f:Value) (w:World) (hp:∃ x,p=.pointer x) (hf:f=.func (.func 47) #[] #[]):(Instr.build 144 #[(0,p),(1,f)]).run Tryz.prog w=.ok (.agg (#[p,f]++#[.slice none 0 0,.slice none 0 0])) w:=by
 obtain ⟨x,rfl⟩:=hp
 subst hf
 exact run_build w 144 _ _ (by kernel_rfl)
theorem enterP (args:Array Value) (w:World):(callFunc 80 args).run Tryz.prog w=.ok (.enter 80 args) w:=by kernel_rfl
set_option maxHeartbeats 8000000 in
theorem allP_any (s:ByteArray) (hs:s.size<=140737488355328) (w:World) (hG:Glob w) :
  Calls Tryz.prog 46 #[.string s,.func (.func 47) #[] #[]] w (AllRes (Sy.whole (Sy.envOf (Cod.str s)) (Sy.prog (Sy.envOf (Cod.str s)))) (valP w.heap.size) (.agg #[.slice none 0 0,.slice none 0 0]) w):=by
 have hmf:=makeFunc_any
 have hv:=envOk s
 have hnz:Sy.Nz (Sy.whole (Sy.envOf (Cod.str s)) (Sy.prog (Sy.envOf (Cod.str s)))):=Sy.nz_whole (Sy.env_last _) (Sy.nz_prog (Sy.env_last _) 0)
 have hB:=fun w hG=>begin_any s hs w hG
 have HG:=Lib.hid hG
 generalize Sy.envOf (Cod.str s)=v at *
 have HB:=Lib.hid hB;have HV:=Lib.hid hv;have HNZ:=Lib.hid hnz
 clear hB hv hnz hG
 have m0:=((Mod.refl [] w).alloc (Obj.cells #[.slice none 0 0,.slice none 0 0] 25)).alloc (Obj.cells #[.int .i64 0,.int .i64 0,.int .i64 0] 51)
 have e0:=(((Mod.refl [] (w.alloc (Obj.cells #[.slice none 0 0,.slice none 0 0] 25))).alloc (Obj.cells #[.int .i64 0,.int .i64 0,.int .i64 0] 51))).at (heap_alloc_new w (Obj.cells #[.slice none 0 0,.slice none 0 0] 25)) (by simp)
 have e1:=heap_alloc_new (w.alloc (Obj.cells #[.slice none 0 0,.slice none 0 0] 25)) (Obj.cells #[.int .i64 0,.int .i64 0,.int .i64 0] 51)
 have hs1:(w.alloc (Obj.cells #[.slice none 0 0,.slice none 0 0] 25)).heap.size=w.heap.size+1:=by simp
 rw [hs1] at e1
 have hG0:=HG.out.past m0 (by simp)
 go_enter Tryz.func46,Tryz.ntmps46
 go_upto_region 1 with fail
 generalize (w.alloc (Obj.cells _ 25)).alloc (Obj.cells _ 51)=w0 at *
 have E0:=Lib.hid e0;have E1:=Lib.hid e1;have M0:=Lib.hid m0;have HG0:=Lib.hid hG0
 have hw0:w.heap.size+2<=w0.heap.size:=by have:=lt_of_block e1;omega
 clear e0 e1 m0 hG0 hs1
 go_wp2_with fail
 refine (HB.out w0 HG0.out).mono ?_
 rintro e1 w1 ⟨b,ra,rc,rfl,h1,hb1,hf1,m1⟩
 have A1:=Hxq (m1.at E0.out (by simp));have B1:=Hxq (m1.at E1.out (by simp));have M1:=Hxq (M0.out.trans m1 (by simp));have H1:=Lib.hid h1;have HF1:=Lib.hid hf1
 have hsz1:=m1.size
 have hbl:=h1.lt
 clear m1 h1 hf1 HB HG0
 go_upto_region 2 with (refine wpList_built2 rfl 144 0 1 _ _ rfl (.pointer (some ⟨b,0,none⟩)) (.func (.func 47) #[] #[]) rfl rfl _ (buildP _ _ _ ⟨_,rfl⟩ rfl) ?_)
 have mP:=(Mod.refl [] w1).alloc (Obj.cells #[.pointer (some ⟨b,0,none⟩),.func (.func 47) #[] #[],.slice none 0 0,.slice none 0 0] 144)
 have eP:=heap_alloc_new w1 (Obj.cells #[.pointer (some ⟨b,0,none⟩),.func (.func 47) #[] #[],.slice none 0 0,.slice none 0 0] 144)
 generalize w1.alloc (Obj.cells _ 144)=wP at *
 have A2:=Hxq (mP.at A1.out (by simp));have B2:=Hxq (mP.at B1.out (by simp));have M2:=Hxq (M1.out.trans mP (by simp));have H2:=Hxq (H1.out.past mP (by simp));have P2:=Lib.hid eP
 have hpxb:w1.heap.size≠b:=by omega
 have hpxf:w1.heap.size∉fp (.slice ra v.ws.length rc):=fun hk=>by have:=fp_lt H1.out.row.row _ hk;omega
 have hwp:=lt_of_block eP
 clear A1 B1 M1 H1 mP eP
 generalize w1.heap.size=px at *
 have p0:=cell_at P2.out 0
 have c5:=cell_at H2.out.at_ 5
 simp only [List.getElem?_toArray,List.getElem?_cons_zero,List.getElem?_cons_succ] at p0 c5
 have f5:=free_at H2.out.at_ 5
 go_upto_region 3 with fail
 obtain ⟨h3,m3⟩:=H2.out.setF (.func (.func 80) #[.pointer (some ⟨px,0,none⟩)] #[])
 generalize wP.setCell ⟨b,5,none⟩ _=wS at *
 have hpb:∀ (k:Nat) (o:Obj),wP.heap[k]?=some o->k≠b->wS.heap[k]?=some o:=fun k o hk hb=>m3.at hk (by simpa using hb)
 have A3:=Hxq (hpb _ _ A2.out (by omega));have B3:=Hxq (hpb _ _ B2.out (by omega));have P3:=Hxq (hpb _ _ P2.out hpxb);have M3:=Hxq (M2.out.trans m3 (fun t ht=>by rw [Msq] at ht;exact .inr (by omega)));have H3:=Lib.hid h3
 have hsz3:=m3.size
 clear A2 B2 P2 M2 H2 m3 h3 p0 c5 f5 hpb
 have hwp3:px<wS.heap.size:=by omega
 have HW:=Hxq (whole_any b ra rc 80 (.pointer (some ⟨px,0,none⟩)) v (Sy.prog v) [b,px] (fun a w'=>∃ C:Array Value,w'.heap[px]?=some (.cells (#[.pointer (some ⟨b,0,none⟩),.func (.func 47) #[] #[]]++C) 144 (0,0))/\valP (wS.heap.size+1) a w' (.agg C)) wS H3.out HV.out enterP
  (fun w' hm hsz=>by
   have h':=H3.out.past hm (by simp)
   have hp':=hm.at P3.out (by simp)
   have hv:=HV.out
   have hne:=hpxb
   have hpx:=hpxf
   refine (readP_any b ra rc (.func (.func 80) #[.pointer (some ⟨px,0,none⟩)] #[]) v px (.slice none 0 0) (.slice none 0 0) w' h' hv hp' hne hpx).mono ?_
   intro e w'' hh
   exact hh.mono fun a w' ⟨C,h1,h2⟩=>⟨C,h1,valP_keep h2 (Mod.refl [] w') (by simp) (by omega)⟩)
  (fun s hs=>by simp at hs;omega) (Sy.adv_prog v))
 have p0:=cell_at P3.out 0
 simp only [List.getElem?_toArray,List.getElem?_cons_zero,List.getElem?_cons_succ] at p0
 have hq:Sy.prog v=Sy.prog v:=rfl
 rw [hq] at HNZ ⊢
 generalize Sy.whole v (Sy.prog v)=q at *
 clear hq
 cases q with
 | err g =>
  have hg:g.1≠0:=HNZ.out g rfl
  have hgB:((g.1:Int) != 0)=true:=by rw [bne_iff_ne];omega
  go_wp2_with fail
  refine HW.out.mono ?_
  rintro e4 w4 ⟨rfl,m4⟩
  have hnb:∀ (k:Nat),k≠b->k≠px->k∉[b,px]:=fun k h1 h2=>by simp [h1,h2]
  have A4:=m4.at A3.out (hnb _ (by omega) (by omega));have B4:=m4.at B3.out (hnb _ (by omega) (by omega));have M4:=M3.out.trans m4 (fun t ht=>by simp at ht;exact .inr (by omega))
  unfold fltC at *
  have m5:=((Mod.refl [] w4).alloc (Obj.cells #[.int .i64 (g.1:Nat),.int .i64 (g.2.1:Nat),.int .i64 (g.2.2:Nat)] 51)).alloc (Obj.cells #[.slice none 0 0,.slice none 0 0] 25)
  have x5:=heap_alloc_new w4 (Obj.cells #[.int .i64 (g.1:Nat),.int .i64 (g.2.1:Nat),.int .i64 (g.2.2:Nat)] 51)
  have hs5:(w4.alloc (Obj.cells #[.int .i64 (g.1:Nat),.int .i64 (g.2.1:Nat),.int .i64 (g.2.2:Nat)] 51)).heap.size=w4.heap.size+1:=by simp
  have z5:=heap_alloc_new (w4.alloc (Obj.cells #[.int .i64 (g.1:Nat),.int .i64 (g.2.1:Nat),.int .i64 (g.2.2:Nat)] 51)) (Obj.cells #[.slice none 0 0,.slice none 0 0] 25)
  have y5:=((Mod.refl [] (w4.alloc (Obj.cells #[.int .i64 (g.1:Nat),.int .i64 (g.2.1:Nat),.int .i64 (g.2.2:Nat)] 51))).alloc (Obj.cells #[.slice none 0 0,.slice none 0 0] 25)).at x5 (by simp)
  rw [hs5] at z5
  have A5:=Hxq (m5.at A4 (by simp));have B5:=Hxq (m5.at B4 (by simp));have M5:=Hxq (M4.trans m5 (by simp));have Y5:=Lib.hid y5;have Z5:=Lib.hid z5
  have hs4:=m4.size
  clear m4 A4 B4 M4 m5 y5 z5 hnb hs5 HW A3 B3 M3 P3 p0 H3 HV HNZ
  obtain ⟨x50,x51,x52⟩:=cells3 x5
  clear x5
  go_upto_region 6 with fail
  generalize (w4.alloc (Obj.cells _ 51)).alloc (Obj.cells _ 25)=w5 at *
  clear x50 x51 x52
  go_wp2_with fail
  refine wp_region_held_drew (S:=(fun w':World=>w'.heap[w4.heap.size+1]?=some (.cells #[.slice none 0 0,.slice none 0 0] 25 (0,0))/\w'.heap[w4.heap.size]?=some (.cells #[.int .i64 (g.1:Nat),.int .i64 (g.2.1:Nat),.int .i64 (g.2.2:Nat)] 51 (0,0)))) (by kernel_rfl) (by (try dsimp only);exact ⟨drew_cells Z5.out,drew_cells Y5.out⟩) (fun hHeld=>?_)
  refine wpAnyH_take (i:=0) (oi:=?_) (v:=.agg #[.slice none 0 0,.slice none 0 0]) ?_ ?_ ?_ ?_ ?_ ?_ (by assumption) ?_
  rotate_left 1
  ·(simp only [Gq1,Gq2,Gq3])<;>rfl
  ·kernel_rfl
  ·kernel_rfl
  ·kernel_rfl
  rotate_left 1
  ·refine yieldsIf_load_mid ?_ 25 _ rfl (w4.heap.size+1) 0 rfl [.slice none 0 0,.slice none 0 0] _ ?_ Tryz.underlying25 rfl sizeP
   ·rfl
   ·intro w hSw
    exact wp_range (C:=#[.slice none 0 0,.slice none 0 0]) hSw.1
  rotate_left 1
  ·exact fun _ _ _ h=>h
  try simp only [Act.put,Lq1,Lq2,Lq3]
  refine wpAnyH_take (i:=1) (oi:=?_) (v:=.agg #[.int .i64 (g.1:Nat),.int .i64 (g.2.1:Nat),.int .i64 (g.2.2:Nat)]) ?_ ?_ ?_ ?_ ?_ ?_ (by assumption) ?_
  rotate_left 1
  ·(simp only [Gq1,Gq2,Gq3])<;>rfl
  ·kernel_rfl
  ·kernel_rfl
  ·kernel_rfl
  rotate_left 1
  ·refine yieldsIf_load_mid ?_ 51 _ rfl w4.heap.size 0 rfl [.int .i64 (g.1:Nat),.int .i64 (g.2.1:Nat),.int .i64 (g.2.2:Nat)] _ ?_ Tryz.underlying51 rfl sizeFlt
   ·rfl
   ·intro w hSw
    exact wp_range (C:=#[.int .i64 (g.1:Nat),.int .i64 (g.2.1:Nat),.int .i64 (g.2.2:Nat)]) hSw.2
  rotate_left 1
  ·exact fun _ _ _ h=>h
  try simp only [Act.put,Lq1,Lq2,Lq3]
  have hlt0:=lt_of_block A5.out
  refine wpAnyH_ready (rs:=[2]) (by kernel_rfl) (by simp) ?_
  refine AllReadyH.cons (o:=?_) ?_ ?_ AllReadyH.nil
  rotate_left 1
  ·(simp only [Gq1,Gq2,Gq3])<;>rfl
  intro K hK
  refine (if_pos (by rfl)).mpr ?_
  refine wp_store_row 25 _ _ rfl w.heap.size #[.slice none 0 0,.slice none 0 0] rfl rfl 25 _ (drew_cells A5.out) sizeP rfl (by rw [<-Array.all_toList];rfl) ?_
  refine hK.out _ _ (by (try dsimp only);exact ⟨(setRow_other w5.drew w.heap.size (w4.heap.size+1) #[.slice none 0 0,.slice none 0 0] (by omega)).trans (drew_cells Z5.out),(setRow_other w5.drew w.heap.size w4.heap.size #[.slice none 0 0,.slice none 0 0] (by omega)).trans (drew_cells Y5.out)⟩) (fun hHeld=>?_)
  clear hK K
  try simp only [Act.put,Lq1,Lq2,Lq3]
  refine wpAnyH_ready (rs:=[3]) (by kernel_rfl) (by simp) ?_
  refine AllReadyH.cons (o:=?_) ?_ ?_ AllReadyH.nil
  rotate_left 1
  ·(simp only [Gq1,Gq2,Gq3])<;>rfl
  intro K hK
  refine (if_pos (by rfl)).mpr ?_
  refine wp_store_row 51 _ _ rfl (w.heap.size+1) #[.int .i64 (g.1:Nat),.int .i64 (g.2.1:Nat),.int .i64 (g.2.2:Nat)] rfl rfl 51 _ ((setRow_other w5.drew w.heap.size (w.heap.size+1) #[.slice none 0 0,.slice none 0 0] (by omega)).trans (drew_cells B5.out)) sizeFlt rfl (by rw [<-Array.all_toList];rfl) ?_
  refine hK.out _ _ (by (try dsimp only);exact ⟨(setRow_other (w5.drew.setRow w.heap.size #[.slice none 0 0,.slice none 0 0]) (w.heap.size+1) (w4.heap.size+1) #[.int .i64 (g.1:Nat),.int .i64 (g.2.1:Nat),.int .i64 (g.2.2:Nat)] (by omega)).trans ((setRow_other w5.drew w.heap.size (w4.heap.size+1) #[.slice none 0 0,.slice none 0 0] (by omega)).trans (drew_cells Z5.out)),(setRow_other (w5.drew.setRow w.heap.size #[.slice none 0 0,.slice none 0 0]) (w.heap.size+1) w4.heap.size #[.int .i64 (g.1:Nat),.int .i64 (g.2.1:Nat),.int .i64 (g.2.2:Nat)] (by omega)).trans ((setRow_other w5.drew w.heap.size w4.heap.size #[.slice none 0 0,.slice none 0 0] (by omega)).trans (drew_cells Y5.out))⟩) (fun hHeld=>?_)
  clear hK K
  try simp only [Act.put,Lq1,Lq2,Lq3]
  refine wpAnyH_done (by kernel_rfl) ?_ _
  have n0:=setRow_heap w5.drew w.heap.size _ #[.slice none 0 0,.slice none 0 0] 25 _ (drew_cells A5.out)
  have n1:=setRow_heap (w5.drew.setRow w.heap.size #[.slice none 0 0,.slice none 0 0]) (w.heap.size+1) _ #[.int .i64 (g.1:Nat),.int .i64 (g.2.1:Nat),.int .i64 (g.2.2:Nat)] 51 _ ((setRow_other w5.drew w.heap.size (w.heap.size+1) #[.slice none 0 0,.slice none 0 0] (by omega)).trans (drew_cells B5.out))
  have k0:=(setRow_other (w5.drew.setRow w.heap.size #[.slice none 0 0,.slice none 0 0]) (w.heap.size+1) w.heap.size #[.int .i64 (g.1:Nat),.int .i64 (g.2.1:Nat),.int .i64 (g.2.2:Nat)] (by omega)).trans n0
  have mm:=((M5.out.drew).trans (Mod.setRow w5.drew w.heap.size #[.slice none 0 0,.slice none 0 0]) (fun t ht=>by rw [Msq] at ht;exact .inr (by omega))).trans (Mod.setRow (w5.drew.setRow w.heap.size #[.slice none 0 0,.slice none 0 0]) (w.heap.size+1) #[.int .i64 (g.1:Nat),.int .i64 (g.2.1:Nat),.int .i64 (g.2.2:Nat)]) (fun t ht=>by rw [Msq] at ht;exact .inr (by omega))
  go_wp2_with fail
  exact bodyPost_ret (res_pair rfl _ _ w.heap.size (w.heap.size+1) #[.slice none 0 0,.slice none 0 0] #[.int .i64 (g.1:Nat),.int .i64 (g.2.1:Nat),.int .i64 (g.2.2:Nat)] rfl rfl (run_loadVar_row (P:=Tryz.prog) _ _ _ _ _ _ _ k0 Tryz.underlying25 rfl sizeP) (run_loadVar_row (P:=Tryz.prog) _ _ _ _ _ _ _ n1 Tryz.underlying51 rfl sizeFlt)) rfl ⟨rfl,mm⟩
 | ok a i =>
  go_wp2_with fail
  refine HW.out.mono ?_
  rintro e4 w4 ⟨rfl,⟨wg,⟨C,hpC,hval⟩,mg⟩,m4⟩
  have hnb:∀ (k:Nat),k≠b->k≠px->k∉[b,px]:=fun k h1 h2=>by simp [h1,h2]
  have A4:=m4.at A3.out (hnb _ (by omega) (by omega));have B4:=m4.at B3.out (hnb _ (by omega) (by omega));have M4:=M3.out.trans m4 (fun t ht=>by simp at ht;exact .inr (by omega))
  have P4:=mg.at hpC (by simp;omega)
  have V4:=valP_keep (m:=wS.heap.size+1) hval mg (by simp) (Nat.le_refl _)
  have m5:=(Mod.refl [] w4).alloc (Obj.cells #[.int .i64 0,.int .i64 0,.int .i64 0] 51)
  have x5:=heap_alloc_new w4 (Obj.cells #[.int .i64 0,.int .i64 0,.int .i64 0] 51)
  have A5:=Hxq (m5.at A4 (by simp));have B5:=Hxq (m5.at B4 (by simp));have M5:=Hxq (M4.trans m5 (by simp));have P5:=Hxq (m5.at P4 (by simp));have V5:=Hxq (valP_keep (m:=wS.heap.size+1) V4 m5 (by simp) (Nat.le_refl _))
  have hs4:=m4.size
  obtain ⟨hC,hO⟩:=valP_cells hval
  have HO:=Lib.hid hO
  clear m4 A4 B4 M4 P4 V4 m5 hnb HW A3 B3 M3 P3 p0 H3 HV HNZ mg hpC hval hO
  obtain ⟨x50,x51,x52⟩:=cells3 x5
  clear x5
  go_upto_region 7 with fail
  generalize w4.alloc (Obj.cells _ 51)=w5 at *
  clear x50 x51 x52
  obtain ⟨p50,p51⟩:=part_c0 P5.out
  have b0:=cell_at B5.out 0;have b1:=cell_at B5.out 1;have b2:=cell_at B5.out 2
  simp only [List.getElem?_toArray,List.getElem?_cons_zero,List.getElem?_cons_succ] at b0 b1 b2
  go_wp2_with (first | refine wpList_load_mid rfl 25 _ rfl px 2 rfl C.toList _ (part_range P5.out) Tryz.underlying25 rfl (by rw [Array.length_toList];exact size_of sizeP hC) ?_ | refine wpList_store_at rfl 25 _ _ rfl w.heap.size C _ 25 rfl rfl A5.out (size_of sizeP hC) (by rw [hC];rfl) HO.out ?_ | refine wpList_store_at rfl 51 _ _ rfl (w.heap.size+1) #[.int .i64 0,.int .i64 0,.int .i64 0] _ 51 rfl rfl ((setRow_other w5 w.heap.size (w.heap.size+1) C (by omega)).trans B5.out) sizeFlt rfl rfl ?_)
  have mR:=Mod.setRow w5 w.heap.size C
  have mR2:=Mod.setRow (w5.setRow w.heap.size C) (w.heap.size+1) #[.int .i64 0,.int .i64 0,.int .i64 0]
  have a6:=setRow_heap w5 w.heap.size _ C 25 _ A5.out
  have a7:=mR2.at a6 (by simp)
  have b7:=setRow_heap (w5.setRow w.heap.size C) (w.heap.size+1) _ #[.int .i64 0,.int .i64 0,.int .i64 0] 51 _ ((setRow_other w5 w.heap.size (w.heap.size+1) C (by omega)).trans B5.out)
  refine bodyPost_ret (res_pair rfl _ _ w.heap.size (w.heap.size+1) C #[.int .i64 0,.int .i64 0,.int .i64 0] rfl rfl (run_loadVar_row (P:=Tryz.prog) _ _ _ _ _ _ _ a7 Tryz.underlying25 rfl (size_of sizeP hC)) (run_loadVar_row (P:=Tryz.prog) _ _ _ _ _ _ _ b7 Tryz.underlying51 rfl sizeFlt)) rfl ⟨C,rfl,valP_keep (valP_keep (m:=wS.heap.size+1) V5.out mR (by simp;omega) (Nat.le_refl _)) mR2 (by simp;omega) (by omega),(M5.out.trans mR (fun t ht=>?_)).trans mR2 (fun t ht=>?_)⟩
  ·rw [Msq] at ht;exact .inr (by omega)
  ·rw [Msq] at ht;exact .inr (by omega)
set_option maxHeartbeats 8000000 in
/-- the entry -/
theorem entP_any (s:ByteArray) (hs:s.size<=140737488355328) (w:World) (hG:Glob w) :
  Calls Tryz.prog 20 #[.string s] w (AllRes (Sy.whole (Sy.envOf (Cod.str s)) (Sy.prog (Sy.envOf (Cod.str s)))) (valP w.heap.size) (.agg #[.slice none 0 0,.slice none 0 0]) w):=by
 have m0:=((Mod.refl [] w).alloc (Obj.cells #[.slice none 0 0,.slice none 0 0] 25)).alloc (Obj.cells #[.int .i64 0,.int .i64 0,.int .i64 0] 51)
 have e0:=(((Mod.refl [] (w.alloc (Obj.cells #[.slice none 0 0,.slice none 0 0] 25))).alloc (Obj.cells #[.int .i64 0,.int .i64 0,.int .i64 0] 51))).at (heap_alloc_new w (Obj.cells #[.slice none 0 0,.slice none 0 0] 25)) (by simp)
 have e1:=heap_alloc_new (w.alloc (Obj.cells #[.slice none 0 0,.slice none 0 0] 25)) (Obj.cells #[.int .i64 0,.int .i64 0,.int .i64 0] 51)
 have hs1:(w.alloc (Obj.cells #[.slice none 0 0,.slice none 0 0] 25)).heap.size=w.heap.size+1:=by simp
 rw [hs1] at e1
 have hA:=allP_any s hs _ (hG.past m0 (by simp))
 go_enter Tryz.func20,Tryz.ntmps20
 go_upto_region 1 with fail
 generalize (w.alloc (Obj.cells _ 25)).alloc (Obj.cells _ 51)=w0 at *
 have E0:=Lib.hid e0;have E1:=Lib.hid e1;have M0:=Lib.hid m0;have HA:=Lib.hid hA
 have hw0:w.heap.size+2<=w0.heap.size:=by have:=lt_of_block e1;omega
 clear e0 e1 m0 hs1 hA
 generalize Sy.whole (Sy.envOf (Cod.str s)) _=q at *
 cases q with
 | err g =>
  go_wp2_with fail
  refine HA.out.mono ?_
  rintro e1 w1 ⟨rfl,m1⟩
  have A1:=Hxq (m1.at E0.out (by simp));have B1:=Hxq (m1.at E1.out (by simp));have M1:=Hxq (M0.out.trans m1 (by simp))
  have hsz1:=m1.size
  clear m1 HA
  unfold fltC
  go_wp2_with (first | refine wpList_store_at rfl 25 _ _ rfl w.heap.size #[.slice none 0 0,.slice none 0 0] _ 25 rfl rfl A1.out sizeP rfl rfl ?_ | refine wpList_store_at rfl 51 _ _ rfl (w.heap.size+1) #[.int .i64 (g.1:Nat),.int .i64 (g.2.1:Nat),.int .i64 (g.2.2:Nat)] _ 51 rfl rfl ((setRow_other w1 w.heap.size (w.heap.size+1) #[.slice none 0 0,.slice none 0 0] (by omega)).trans B1.out) sizeFlt rfl rfl ?_)
  have mR:=Mod.setRow w1 w.heap.size #[.slice none 0 0,.slice none 0 0]
  have mR2:=Mod.setRow (w1.setRow w.heap.size #[.slice none 0 0,.slice none 0 0]) (w.heap.size+1) #[.int .i64 (g.1:Nat),.int .i64 (g.2.1:Nat),.int .i64 (g.2.2:Nat)]
  have a6:=setRow_heap w1 w.heap.size _ #[.slice none 0 0,.slice none 0 0] 25 _ A1.out
  have a7:=mR2.at a6 (by simp)
  have b7:=setRow_heap (w1.setRow w.heap.size #[.slice none 0 0,.slice none 0 0]) (w.heap.size+1) _ #[.int .i64 (g.1:Nat),.int .i64 (g.2.1:Nat),.int .i64 (g.2.2:Nat)] 51 _ ((setRow_other w1 w.heap.size (w.heap.size+1) #[.slice none 0 0,.slice none 0 0] (by omega)).trans B1.out)
  refine bodyPost_ret (res_pair rfl _ _ w.heap.size (w.heap.size+1) #[.slice none 0 0,.slice none 0 0] #[.int .i64 (g.1:Nat),.int .i64 (g.2.1:Nat),.int .i64 (g.2.2:Nat)] rfl rfl (run_loadVar_row (P:=Tryz.prog) _ _ _ _ _ _ _ a7 Tryz.underlying25 rfl sizeP) (run_loadVar_row (P:=Tryz.prog) _ _ _ _ _ _ _ b7 Tryz.underlying51 rfl sizeFlt)) rfl ⟨rfl,(M1.out.trans mR (fun t ht=>?_)).trans mR2 (fun t ht=>?_)⟩
  ·rw [Msq] at ht;exact .inr (by omega)
  ·rw [Msq] at ht;exact .inr (by omega)
 | ok a i =>
  go_wp2_with fail
  refine HA.out.mono ?_
  rintro e1 w1 ⟨C,rfl,hval,m1⟩
  have A1:=Hxq (m1.at E0.out (by simp));have B1:=Hxq (m1.at E1.out (by simp));have M1:=Hxq (M0.out.trans m1 (by simp))
  have hsz1:=m1.size
  obtain ⟨hC,hO⟩:=valP_cells hval
  have HO:=Lib.hid hO;have HV:=Lib.hid hval
  clear m1 HA hO hval
  go_wp2_with (first | refine wpList_store_at rfl 25 _ _ rfl w.heap.size C _ 25 rfl rfl A1.out (size_of sizeP hC) (by rw [hC];rfl) HO.out ?_ | refine wpList_store_at rfl 51 _ _ rfl (w.heap.size+1) #[.int .i64 0,.int .i64 0,.int .i64 0] _ 51 rfl rfl ((setRow_other w1 w.heap.size (w.heap.size+1) C (by omega)).trans B1.out) sizeFlt rfl rfl ?_)
  have mR:=Mod.setRow w1 w.heap.size C
  have mR2:=Mod.setRow (w1.setRow w.heap.size C) (w.heap.size+1) #[.int .i64 0,.int .i64 0,.int .i64 0]
  have a6:=setRow_heap w1 w.heap.size _ C 25 _ A1.out
  have a7:=mR2.at a6 (by simp)
  have b7:=setRow_heap (w1.setRow w.heap.size C) (w.heap.size+1) _ #[.int .i64 0,.int .i64 0,.int .i64 0] 51 _ ((setRow_other w1 w.heap.size (w.heap.size+1) C (by omega)).trans B1.out)
  refine bodyPost_ret (res_pair rfl _ _ w.heap.size (w.heap.size+1) C #[.int .i64 0,.int .i64 0,.int .i64 0] rfl rfl (run_loadVar_row (P:=Tryz.prog) _ _ _ _ _ _ _ a7 Tryz.underlying25 rfl (size_of sizeP hC)) (run_loadVar_row (P:=Tryz.prog) _ _ _ _ _ _ _ b7 Tryz.underlying51 rfl sizeFlt)) rfl ⟨C,rfl,valP_keep (valP_keep (m:=w0.heap.size) HV.out mR (by simp;omega) (Nat.le_refl _)) mR2 (by simp;omega) (by omega),(M1.out.trans mR (fun t ht=>?_)).trans mR2 (fun t ht=>?_)⟩
  ·rw [Msq] at ht;exact .inr (by omega)
  ·rw [Msq] at ht;exact .inr (by omega)
open Go.RowKit
set_option linter.unusedVariables false
set_option linter.unusedSimpArgs false
set_option maxRecDepth 100000
section
variable (w:World) (Z F C D:Array Value) (T U:TypeId)
theorem two_a:((w.alloc (.cells Z T)).alloc (.cells F U)).heap[w.heap.size]?=some (.cells Z T (0,0)):=((Mod.refl [] (w.alloc (.cells Z T))).alloc (.cells F U)).at (heap_alloc_new w _) (by simp)
theorem two_b:((w.alloc (.cells Z T)).alloc (.cells F U)).heap[w.heap.size+1]?=some (.cells F U (0,0)):=by
 have:=heap_alloc_new (w.alloc (.cells Z T)) (.cells F U)
 rw [show (w.alloc (.cells Z T)).heap.size=w.heap.size+1 by simp] at this
 exact this
end
namespace Sy
end Sy
open Go.RowKit
set_option linter.unusedVariables false
set_option linter.unusedSimpArgs false
set_option maxRecDepth 100000
section
variable {F G:Nat->Prop} {w:World} {p:Pr.Prog} {x:Value}
theorem PgB.lit (h:PgB F w p x):∃ a c b d,x=.agg #[.slice a p.rels.length c,.slice b p.rules.length d]:=by
 obtain ⟨rels,rus,u1,u2,rfl,rfl,h1,h2,-,-⟩:=h
 obtain ⟨a,c,rfl⟩:=h1.lit
 obtain ⟨b,d,rfl⟩:=h2.lit
 exact ⟨a,c,b,d,by simp⟩
theorem PgB.keep {S:List Nat} {w':World} (h:PgB F w p x) (hm:Mod S w w') (hS:∀ s∈S,¬ F s):PgB F w' p x:=by
 obtain ⟨rels,rus,u1,u2,rfl,rfl,h1,h2,h3,h4⟩:=h
 exact ⟨rels,rus,u1,u2,rfl,rfl,h1.keep hm hS,h2.keep hm hS,fun q hq=>(h3 q hq).keep hm hS,fun q hq=>(h4 q hq).keep hm hS⟩
theorem PgB.mono (h:PgB F w p x) (hF:∀ k,F k->k<w.heap.size->G k):PgB G w p x:=by
 obtain ⟨rels,rus,u1,u2,rfl,rfl,h1,h2,h3,h4⟩:=h
 exact ⟨rels,rus,u1,u2,rfl,rfl,h1.mono hF,h2.mono hF,fun q hq=>(h3 q hq).mono hF,fun q hq=>(h4 q hq).mono hF⟩
theorem PgB.relAt {a b:Option Addr} {c d:Nat} (h:PgB F w p (.agg #[.slice a p.rels.length c,.slice b p.rules.length d])) (i:Nat) (hi:i<p.rels.length) :
  ∃ g o u,a=some ⟨g,o,none⟩/\CellsAt w g (o+i * 4) (reV p.rels[i] u)/\RowB F w 1 intC p.rels[i].types u:=by
 obtain ⟨rels,rus,u1,u2,hx,rfl,h1,h2,h3,h4⟩:=h
 simp only [Value.agg.injEq,Array.mk.injEq,List.cons.injEq,and_true,List.length_map] at hx hi
 obtain ⟨rfl,rfl⟩:=hx
 obtain ⟨g,o,ha,hc⟩:=h1.at i hi
 refine ⟨g,o,rels[i].2,ha,?_,?_⟩
 ·simpa [csR] using hc
 ·simpa [RelB] using h3 _ (List.getElem_mem hi)
theorem PgB.rulAt {a b:Option Addr} {c d:Nat} (h:PgB F w p (.agg #[.slice a p.rels.length c,.slice b p.rules.length d])) (i:Nat) (hi:i<p.rules.length) :
  ∃ g o u u',b=some ⟨g,o,none⟩/\CellsAt w g (o+i * 5) (ruV p.rules[i] u u')/\RowB F w 5 tmV p.rules[i].head.terms u/\BB F w p.rules[i].body u':=by
 obtain ⟨rels,rus,u1,u2,hx,rfl,h1,h2,h3,h4⟩:=h
 simp only [Value.agg.injEq,Array.mk.injEq,List.cons.injEq,and_true,List.length_map] at hx hi
 obtain ⟨rfl,rfl⟩:=hx
 obtain ⟨g,o,ha,hc⟩:=h2.at i hi
 have h5:=h4 _ (List.getElem_mem hi)
 refine ⟨g,o,rus[i].2.1,rus[i].2.2,ha,?_,?_,?_⟩
 ·simpa [csU] using hc
 ·simpa using h5.1
 ·simpa using h5.2
end
/-- no list is longer -/
structure PgM (p:Pr.Prog):Prop where
 rels:p.rels.length<=134217728
 rules:p.rules.length<=134217728
 types:∀ r∈p.rels,r.types.length<=134217728
 terms:∀ r∈p.rules,r.head.terms.length<=134217728
 body:∀ r∈p.rules,r.body.length<=134217728
 deep:∀ r∈p.rules,liMs r.body<=134217728
set_option maxHeartbeats 16000000 in
theorem sameProg_any {F G:Nat->Prop} (p:Pr.Prog) (hM:PgM p) (u u':Value) (w:World) (h:PgB F w p u) (h':PgB G w p u') :
  Calls Tryz.prog 11 #[u,u'] w (Tru w):=by
 obtain ⟨a1,c1,b1,d1,rfl⟩:=h.lit
 obtain ⟨a2,c2,b2,d2,rfl⟩:=h'.lit
 obtain ⟨rels,rules⟩:=p
 have HMM:=Lib.hid hM
 have hl1:=hM.rels
 have hl2:=hM.rules
 dsimp only at *
 have H1:=Lib.hid h;have H2:=Lib.hid h'
 clear h h' hM
 have mA:=((Mod.refl [] w).alloc (Obj.cells #[.slice a1 rels.length c1,.slice b1 rules.length d1] 25)).alloc (Obj.cells #[.slice a2 rels.length c2,.slice b2 rules.length d2] 25)
 have eA:=two_a w #[.slice a1 rels.length c1,.slice b1 rules.length d1] #[.slice a2 rels.length c2,.slice b2 rules.length d2] 25 25
 have eB:=two_b w #[.slice a1 rels.length c1,.slice b1 rules.length d1] #[.slice a2 rels.length c2,.slice b2 rules.length d2] 25 25
 go_enter Tryz.func11,Tryz.ntmps11
 go_upto_region 1 with fail
 generalize (w.alloc (Obj.cells _ 25)).alloc (Obj.cells _ 25)=w0 at *
 have M0:=Lib.hid mA;have E0:=Lib.hid eA;have E1:=Lib.hid eB
 clear mA eA eB
 have x0:=cell_at E0.out 0;have y0:=cell_at E1.out 0
 have x1:=cell_at E0.out 1;have y1:=cell_at E1.out 1
 simp only [List.getElem?_toArray,List.getElem?_cons_zero,List.getElem?_cons_succ] at x0 y0 x1 y1
 go_wp2_with fail
 clear x0 x1 y0 y1
 go_loopw [5] (fun iv wr=>∃ j:Nat,j<=rels.length/\iv=.int .i64 (j:Nat)/\Mod [] w0 wr) (fun iv _=>rels.length - (intOf iv).toNat)
 case atStart=>exact ⟨0,Nat.zero_le _,rfl,Mod.refl _ _⟩
 case round =>
  obtain ⟨j,hj,rfl,hm⟩:=hrel
  have x0:=cell_at (hm.at E0.out (by simp)) 0;have y0:=cell_at (hm.at E1.out (by simp)) 0
  have x1:=cell_at (hm.at E0.out (by simp)) 1;have y1:=cell_at (hm.at E1.out (by simp)) 1
  simp only [List.getElem?_toArray,List.getElem?_cons_zero,List.getElem?_cons_succ] at x0 y0 x1 y1
  have MR:=Hxq (M0.out.trans hm (by simp));have HM:=Lib.hid hm
  clear hm
  by_cases hlt:j<rels.length
  ·have hjI:(j:Int)<(rels.length:Int):=by omega
   have hj0:(0:Int)<=(j:Int):=by omega
   obtain ⟨g1,o1,t1,rfl,hc1,ht1⟩:=(H1.out.keep MR.out (by simp)).relAt j hlt
   obtain ⟨g2,o2,t2,rfl,hc2,ht2⟩:=(H2.out.keep MR.out (by simp)).relAt j hlt
   have hty:=HMM.out.types _ (List.getElem_mem hlt)
   dsimp only at hc1 hc2 ht1 ht2
   generalize rels[j]=y at *
   obtain ⟨nm,tys,ln,cl⟩:=y
   obtain ⟨ya1,yc1,rfl⟩:=ht1.lit
   obtain ⟨ya2,yc2,rfl⟩:=ht2.lit
   have HT1:=Lib.hid ht1;have HT2:=Lib.hid ht2
   dsimp only at hty
   clear ht1 ht2
   have p0:=hc1 0 (.string nm) rfl;have p1:=hc1 1 (.slice ya1 tys.length yc1) rfl;have p2:=hc1 2 (.int .i64 ln) rfl;have p3:=hc1 3 (.int .i64 cl) rfl
   have q0:=hc2 0 (.string nm) rfl;have q1:=hc2 1 (.slice ya2 tys.length yc2) rfl;have q2:=hc2 2 (.int .i64 ln) rfl;have q3:=hc2 3 (.int .i64 cl) rfl
   rw [Nat.add_zero] at p0 q0
   have q0:=((Mod.refl [] wr).alloc (Obj.cells #[.string nm,.slice ya1 tys.length yc1,.int .i64 ln,.int .i64 cl] 70)).cell q0 (by simp);have q1:=((Mod.refl [] wr).alloc (Obj.cells #[.string nm,.slice ya1 tys.length yc1,.int .i64 ln,.int .i64 cl] 70)).cell q1 (by simp);have q2:=((Mod.refl [] wr).alloc (Obj.cells #[.string nm,.slice ya1 tys.length yc1,.int .i64 ln,.int .i64 cl] 70)).cell q2 (by simp);have q3:=((Mod.refl [] wr).alloc (Obj.cells #[.string nm,.slice ya1 tys.length yc1,.int .i64 ln,.int .i64 cl] 70)).cell q3 (by simp)
   clear hc1 hc2
   have eR1:=two_a wr #[.string nm,.slice ya1 tys.length yc1,.int .i64 ln,.int .i64 cl] #[.string nm,.slice ya2 tys.length yc2,.int .i64 ln,.int .i64 cl] 70 70
   have eR2:=two_b wr #[.string nm,.slice ya1 tys.length yc1,.int .i64 ln,.int .i64 cl] #[.string nm,.slice ya2 tys.length yc2,.int .i64 ln,.int .i64 cl] 70 70
   have mR:=((Mod.refl [] wr).alloc (Obj.cells #[.string nm,.slice ya1 tys.length yc1,.int .i64 ln,.int .i64 cl] 70)).alloc (Obj.cells #[.string nm,.slice ya2 tys.length yc2,.int .i64 ln,.int .i64 cl] 70)
   have y0':=((Mod.refl [] wr).alloc (Obj.cells #[.string nm,.slice ya1 tys.length yc1,.int .i64 ln,.int .i64 cl] 70)).cell y0 (by simp)
   go_upto_region 8 with fail
   generalize (wr.alloc (Obj.cells _ 70)).alloc (Obj.cells _ 70)=wb at *
   have E2:=Lib.hid eR1;have E3:=Lib.hid eR2;have MB:=Lib.hid mR
   have hTA:=Hxq (HT1.out.keep mR (by simp));have hTB:=Hxq (HT2.out.keep mR (by simp))
   clear eR1 eR2 mR p0 p1 p2 p3 q0 q1 q2 q3 x0 y0 y0' HT1 HT2
   have x0:=cell_at E2.out 0;have y0:=cell_at E3.out 0
   have x1:=cell_at E2.out 1;have y1:=cell_at E3.out 1
   have x2:=cell_at E2.out 2;have y2:=cell_at E3.out 2
   have x3:=cell_at E2.out 3;have y3:=cell_at E3.out 3
   simp only [List.getElem?_toArray,List.getElem?_cons_zero,List.getElem?_cons_succ] at x0 y0 x1 y1 x2 y2 x3 y3
   go_wp2_with fail
   clear x0 x1 x2 x3 y0 y1 y2 y3
   go_loopw [8] (fun iv wi=>∃ k:Nat,k<=tys.length/\iv=.int .i64 (k:Nat)/\Mod [] wb wi) (fun iv _=>tys.length - (intOf iv).toNat)
   case atStart=>exact ⟨0,Nat.zero_le _,rfl,Mod.refl _ _⟩
   case round =>
    obtain ⟨k,hk,rfl,hmi⟩:=hrel
    have x1:=cell_at (hmi.at E2.out (by simp)) 1;have y1:=cell_at (hmi.at E3.out (by simp)) 1
    simp only [List.getElem?_toArray,List.getElem?_cons_zero,List.getElem?_cons_succ] at x1 y1
    have MI:=Lib.hid hmi
    by_cases hlk:k<tys.length
    ·have hkI:(k:Int)<(tys.length:Int):=by omega
     have hk0:(0:Int)<=(k:Int):=by omega
     obtain ⟨g3,o3,rfl,hc3⟩:=(hTA.out.keep hmi (by simp)).at k hlk
     obtain ⟨g4,o4,rfl,hc4⟩:=(hTB.out.keep hmi (by simp)).at k hlk
     have r0:=hc3 0 (.int .i64 tys[k]) rfl
     have s0:=hc4 0 (.int .i64 tys[k]) rfl
     rw [Nat.add_zero,Nat.mul_one] at r0 s0
     clear hc3 hc4 hmi
     generalize tys[k]=ty at *
     go_wp2_with fail
     go_quiet (fail)
     go_wp2_with fail
     go_roundw
     case rel=>exact ⟨k+1,by omega,by go_num,by first | exact MI.out.drewN _ | exact MI.out.drew | exact MI.out⟩
     case measure=>simp [intOf];omega
    ·obtain rfl:k=tys.length:=by omega
     have hkI:¬ (tys.length:Int)<(tys.length:Int):=by omega
     clear hmi
     go_wp2_with fail
     go_roundw
     case rel=>exact ⟨j+1,by omega,by go_num,HM.out.trans (MB.out.trans MI.out (by simp)) (by simp)⟩
     case measure=>simp [intOf];omega
  ·obtain rfl:j=rels.length:=by omega
   have hjI:¬ (rels.length:Int)<(rels.length:Int):=by omega
   go_wp2_with fail
   clear x0 y0
   obtain ⟨wo,rfl⟩:∃ wo:World,wo=wr:=⟨_,rfl⟩
   go_loopw [9] (fun iv wr=>∃ j:Nat,j<=rules.length/\iv=.int .i64 (j:Nat)/\Mod [] w0 wr) (fun iv _=>rules.length - (intOf iv).toNat)
   case atStart=>exact ⟨0,Nat.zero_le _,rfl,HM.out⟩
   case round =>
    obtain ⟨j,hj,rfl,hm⟩:=hrel
    have x1:=cell_at (hm.at E0.out (by simp)) 1;have y1:=cell_at (hm.at E1.out (by simp)) 1
    simp only [List.getElem?_toArray,List.getElem?_cons_zero,List.getElem?_cons_succ] at x1 y1
    have MQ:=Hxq (M0.out.trans hm (by simp));have HQ:=Lib.hid hm
    clear hm
    by_cases hlt:j<rules.length
    ·have hjI:(j:Int)<(rules.length:Int):=by omega
     have hj0:(0:Int)<=(j:Int):=by omega
     obtain ⟨g1,o1,t1,s1,rfl,hc1,ht1,hb1⟩:=(H1.out.keep MQ.out (by simp)).rulAt j hlt
     obtain ⟨g2,o2,t2,s2,rfl,hc2,ht2,hb2⟩:=(H2.out.keep MQ.out (by simp)).rulAt j hlt
     have hq1:=HMM.out.terms _ (List.getElem_mem hlt)
     have hq2:=HMM.out.body _ (List.getElem_mem hlt)
     have hq3:=HMM.out.deep _ (List.getElem_mem hlt)
     dsimp only at hc1 hc2 ht1 ht2 hb1 hb2
     generalize rules[j]=y at *
     obtain ⟨⟨rel,ts⟩,body,ln,cl⟩:=y
     obtain ⟨ta1,tc1,rfl⟩:=ht1.lit
     obtain ⟨ta2,tc2,rfl⟩:=ht2.lit
     obtain ⟨ba1,bc1,rfl⟩:=hb1.lit
     obtain ⟨ba2,bc2,rfl⟩:=hb2.lit
     have HT1:=Lib.hid ht1;have HT2:=Lib.hid ht2;have HB1:=Lib.hid hb1;have HB2:=Lib.hid hb2
     dsimp only at hq1 hq2 hq3
     have hq1:ts.length<=140737488355328:=by omega
     have hq2:body.length<=140737488355328:=by omega
     have hq3:liMs body<=140737488355328:=by omega
     clear ht1 ht2 hb1 hb2
     have p0:=hc1 0 (.string rel) rfl;have q0:=hc2 0 (.string rel) rfl
     have p1:=hc1 1 (.slice ta1 ts.length tc1) rfl;have q1:=hc2 1 (.slice ta2 ts.length tc2) rfl
     have p2:=hc1 2 (.slice ba1 body.length bc1) rfl;have q2:=hc2 2 (.slice ba2 body.length bc2) rfl
     have p3:=hc1 3 (.int .i64 ln) rfl;have q3:=hc2 3 (.int .i64 ln) rfl
     have p4:=hc1 4 (.int .i64 cl) rfl;have q4:=hc2 4 (.int .i64 cl) rfl
     rw [Nat.add_zero] at p0 q0
     have q0:=((Mod.refl [] wr).alloc (Obj.cells #[.string rel,.slice ta1 ts.length tc1,.slice ba1 body.length bc1,.int .i64 ln,.int .i64 cl] 63)).cell q0 (by simp);have q1:=((Mod.refl [] wr).alloc (Obj.cells #[.string rel,.slice ta1 ts.length tc1,.slice ba1 body.length bc1,.int .i64 ln,.int .i64 cl] 63)).cell q1 (by simp);have q2:=((Mod.refl [] wr).alloc (Obj.cells #[.string rel,.slice ta1 ts.length tc1,.slice ba1 body.length bc1,.int .i64 ln,.int .i64 cl] 63)).cell q2 (by simp);have q3:=((Mod.refl [] wr).alloc (Obj.cells #[.string rel,.slice ta1 ts.length tc1,.slice ba1 body.length bc1,.int .i64 ln,.int .i64 cl] 63)).cell q3 (by simp);have q4:=((Mod.refl [] wr).alloc (Obj.cells #[.string rel,.slice ta1 ts.length tc1,.slice ba1 body.length bc1,.int .i64 ln,.int .i64 cl] 63)).cell q4 (by simp)
     clear hc1 hc2
     have eR1:=two_a wr #[.string rel,.slice ta1 ts.length tc1,.slice ba1 body.length bc1,.int .i64 ln,.int .i64 cl] #[.string rel,.slice ta2 ts.length tc2,.slice ba2 body.length bc2,.int .i64 ln,.int .i64 cl] 63 63
     have eR2:=two_b wr #[.string rel,.slice ta1 ts.length tc1,.slice ba1 body.length bc1,.int .i64 ln,.int .i64 cl] #[.string rel,.slice ta2 ts.length tc2,.slice ba2 body.length bc2,.int .i64 ln,.int .i64 cl] 63 63
     have mR:=((Mod.refl [] wr).alloc (Obj.cells #[.string rel,.slice ta1 ts.length tc1,.slice ba1 body.length bc1,.int .i64 ln,.int .i64 cl] 63)).alloc (Obj.cells #[.string rel,.slice ta2 ts.length tc2,.slice ba2 body.length bc2,.int .i64 ln,.int .i64 cl] 63)
     have y1':=((Mod.refl [] wr).alloc (Obj.cells #[.string rel,.slice ta1 ts.length tc1,.slice ba1 body.length bc1,.int .i64 ln,.int .i64 cl] 63)).cell y1 (by simp)
     go_upto_region 20 with fail
     generalize (wr.alloc (Obj.cells _ 63)).alloc (Obj.cells _ 63)=wb at *
     have E2:=Lib.hid eR1;have E3:=Lib.hid eR2;have MB:=Lib.hid mR
     have hTA:=Hxq (HT1.out.keep mR (by simp));have hTB:=Hxq (HT2.out.keep mR (by simp));have hBA:=Hxq (HB1.out.keep mR (by simp));have hBB:=Hxq (HB2.out.keep mR (by simp))
     clear eR1 eR2 mR p0 p1 p2 p3 p4 q0 q1 q2 q3 q4 x1 y1 y1' HT1 HT2 HB1 HB2
     have x0:=cell_at E2.out 0;have y0:=cell_at E3.out 0
     have x1:=cell_at E2.out 1;have y1:=cell_at E3.out 1
     have x2:=cell_at E2.out 2;have y2:=cell_at E3.out 2
     have x3:=cell_at E2.out 3;have y3:=cell_at E3.out 3
     have x4:=cell_at E2.out 4;have y4:=cell_at E3.out 4
     simp only [List.getElem?_toArray,List.getElem?_cons_zero,List.getElem?_cons_succ] at x0 y0 x1 y1 x2 y2 x3 y3 x4 y4
     go_wp2_with fail
     refine (sameAtom_any ⟨rel,ts⟩ hq1 _ _ wb hTA.out hTB.out).mono ?_
     rintro e1 v1 ⟨rfl,m1⟩
     have M1:=Lib.hid m1
     clear x0 x1 x2 x3 x4 y0 y1 y2 y3 y4
     have x2:=cell_at (m1.at E2.out (by simp)) 2;have y2:=cell_at (m1.at E3.out (by simp)) 2
     simp only [List.getElem?_toArray,List.getElem?_cons_zero,List.getElem?_cons_succ] at x2 y2
     clear m1
     go_wp2_with fail
     refine (sameLits_any body hq2 hq3 _ _ v1 (hBA.out.keep M1.out (by simp)) (hBB.out.keep M1.out (by simp))).mono ?_
     rintro e2 v2 ⟨rfl,m2⟩
     have M2:=Lib.hid m2
     clear m2 x2 y2
     go_wp2_with fail
     go_roundw
     case rel=>exact ⟨j+1,by omega,by go_num,((HQ.out.trans MB.out (by simp)).trans M1.out (by simp)).trans M2.out (by simp)⟩
     case measure=>simp [intOf];omega
    ·obtain rfl:j=rules.length:=by omega
     have hjI:¬ (rules.length:Int)<(rules.length:Int):=by omega
     go_wp2_with fail
     go_ret
     exact ⟨rfl,MQ.out⟩
end Go.Proofs.YtohnmnfhmbmoaaaGreatDoor
