/- THE TEXTS MERGED: SyAll. -/
import Derived.Test.YtohnmnfhmbmoaaaGreatDoorKQ1
import Derived.Test.YtohnmnfhmbmoaaaGreatDoorKQ17
import Derived.Laws.EntriesVeiled
namespace Go.Proofs.YtohnmnfhmbmoaaaGreatDoor
open Go.RowKit
set_option linter.unusedVariables false
set_option linter.unusedSimpArgs false
set_option maxRecDepth 100000
section
variable {P:Program} {ops:Array Oper} {rest:List Oper} {o:Oper} {a:Act} {w:World} {Q:Exit->Act->World->Prop}
theorem wpList_built2 (hgd:o.guard=none) (t:TypeId) (n m:Nat) (x y:Operand) (ho:o.op=.build t #[(n,x),(m,y)])
  (v u:Value) (hv:a.eval x=v) (hu:a.eval y=u) (cells:Array Value) (hc:(Instr.build t #[(n,v),(m,u)]).run P w=.ok (.agg cells) w) (h:wpList P ops Q rest (a.put o.dst (.agg cells)) w):wpList P ops Q (o :: rest) a w :=
 wpList_plain hgd fun K hK=>by
  unfold Oper.wp execOp
  simp only [ho,Sem.run_bind,List.map_toArray,List.map_cons,List.map_nil,hv,hu,hc,Result.andThen_ok]
  exact hK _ _ h
end
/-- a text's words are in order -/
theorem envOk (s:ByteArray):EnvOk (Sy.envOf (Cod.str s)):=by
 obtain ⟨h1,h2⟩:=Sy.env_toks (Cod.str s) (Cod.str_lt s)
 exact ⟨h2,fun t ht=>(h1 t ht).num,fun t ht=>(h1 t ht).byte⟩
/-- another function in the reader's last field -/
theorem RdP.setF {w:World} {b:Nat} {ra:Option Addr} {rc:Nat} {f:Value} {v:Sy.Env} {i:Nat} (h:RdP w b ra rc f v i) (f':Value) :
  RdP (w.setCell ⟨b,5,none⟩ f') b ra rc f' v i/\Mod [b] w (w.setCell ⟨b,5,none⟩ f'):=by
 have hm:Mod [b] w (w.setCell ⟨b,5,none⟩ f'):=(Mod.refl [b] w).setCell (p:=⟨b,5,none⟩) (.inl (by simp)) _
 refine ⟨⟨?_,h.row.keep hm (fun k hk hs=>h.out (by simp at hs;exact hs ▸ hk)),h.out⟩,hm⟩
 have:=setCell_at h.at_ 5 f'
 simpa using this
/-- what all leaves -/
def AllRes {α:Type} (r:Sy.PR α) (val:α->World->Value->Prop) (z:Value) (w:World) (e:Ending) (w':World):Prop :=
 match r with
 | .ok a _=>∃ C:Array Value,e=.returned (.tuple #[.agg C,.agg #[.int .i64 0,.int .i64 0,.int .i64 0]])/\val a w' (.agg C)/\Mod [] w w'
 | .err g=>e=.returned (.tuple #[z,.agg (fltC g)])/\Mod [] w w'
theorem wp_range {w:World} {b:Nat} {C:Array Value} {T:TypeId} {fr:Nat × Nat} (h:w.heap[b]?=some (.cells C T fr)):w.rangeAt b 0 C.toList:=fun j v hv=>by
 rw [Nat.zero_add,cell_at h,<-hv,Array.getElem?_toList]
theorem part_range {w:World} {px:Nat} {a o:Value} {C:Array Value} {T:TypeId} {fr:Nat × Nat} (h:w.heap[px]?=some (.cells (#[a,o]++C) T fr)):w.rangeAt px 2 C.toList:=fun j v hv=>by
 rw [cell_at h,<-hv,Array.getElem?_toList,Array.getElem?_append_right (by simp)]
 congr 1
 simp
theorem sizeFlt:(Tryz.prog.info? 51).map (·.size)=some 3:=by kernel_rfl
theorem RdRes.mono {α:Type} {b:Nat} {ra:Option Addr} {rc:Nat} {f:Value} {v:Sy.Env} {r:Sy.PR α} {S:List Nat} {Got Got':α->World->Prop} {w:World} {e:Ending} {w':World} (h:RdRes b ra rc f v r S Got w e w') (hG:∀ a w',Got a w'->Got' a w'):RdRes b ra rc f v r S Got' w e w':=by
 cases r with
 | ok a j=>exact ⟨h.1,hG _ _ h.2.1,h.2.2⟩
 | err g=>exact h
theorem res_pair {fn:Func} {p q:Tmp} {T U:TypeId} (h:fn.results=#[.cell p T,.cell q U]) (tmps:Array Value) (w:World) (b c:Nat) (C D:Array Value)
  (hp:tmps.getD p undef=.pointer (some ⟨b,0,none⟩)) (hq:tmps.getD q undef=.pointer (some ⟨c,0,none⟩)) (hl:(loadVar T ⟨b,0,none⟩).run Tryz.prog w=.ok (.agg C) w) (hm:(loadVar U ⟨c,0,none⟩).run Tryz.prog w=.ok (.agg D) w) :
  (results fn tmps).run Tryz.prog w=.ok (.tuple #[.agg C,.agg D]) w:=by
 have hp':tmps[p]?.getD undef=.pointer (some ⟨b,0,none⟩):=by simpa using hp
 have hq':tmps[q]?.getD undef=.pointer (some ⟨c,0,none⟩):=by simpa using hq
 simp [results,h,hp',hq',asAddr,hl,hm]
theorem sizeP:(Tryz.prog.info? 25).map (·.size)=some 2:=by kernel_rfl
theorem valP_cells {n:Nat} {a:Pr.Prog} {w:World} {C:Array Value} (h:valP n a w (.agg C)):C.size=2/\C.toList.all (·.oneCell')=true:=by
 obtain ⟨rels,rus,u1,u2,h0,hpp,hb1,hb2,hs1,hs2⟩:=h
 obtain ⟨a1,c1,rfl⟩:=hb1.lit
 obtain ⟨a2,c2,rfl⟩:=hb2.lit
 simp only [Value.agg.injEq] at h0
 subst h0
 exact ⟨rfl,rfl⟩
theorem valP_keep {n m:Nat} {S:List Nat} {w w':World} {a:Pr.Prog} {x:Value} (h:valP n a w x) (hm:Mod S w w') (hS:∀ s∈S,¬ n<=s) (hn:m<=n):valP m a w' x:=by
 obtain ⟨rels,rus,u1,u2,h0,hpp,hb1,hb2,hs1,hs2⟩:=h
 exact ⟨rels,rus,u1,u2,h0,hpp,(hb1.keep hm hS).mono (fun k hk _=>by omega),(hb2.keep hm hS).mono (fun k hk _=>by omega),fun p hp=>((hs1 p hp).keep hm hS).mono (fun k hk _=>by omega),fun p hp=>((hs2 p hp).keep hm hS).mono (fun k hk _=>by omega)⟩
theorem buildP (p f:Value) (w:World) (hp:∃ x,p=.pointer x) (hf:f=.func (.func 47) #[] #[]):(Instr.build 144 #[(0,p),(1,f)]).run Tryz.prog w=.ok (.agg (#[p,f]++#[.slice none 0 0,.slice none 0 0])) w:=by
 obtain ⟨x,rfl⟩:=hp
 subst hf
 exact run_build w 144 _ _ (by kernel_rfl)
theorem enterP (args:Array Value) (w:World):(callFunc 80 args).run Tryz.prog w=.ok (.enter 80 args) w:=by kernel_rfl
set_option maxHeartbeats 8000000 in
theorem allP_any (s:ByteArray) (hs:s.size<=140737488355328) (w:World) (hG:Glob w) :
  Calls Tryz.prog 46 #[.string s,.func (.func 47) #[] #[]] w (AllRes (Sy.whole (Sy.envOf (Cod.str s)) (Sy.prog (Sy.envOf (Cod.str s)))) (valP w.heap.size) (.agg #[.slice none 0 0,.slice none 0 0]) w):=by
 have hmf:=makeFunc_any
 have hv:=envOk s
 have hnz:Sy.Nz (Sy.whole (Sy.envOf (Cod.str s)) (Sy.prog (Sy.envOf (Cod.str s)))):=Sy.nz_whole (Sy.env_last _) (Sy.nz_prog (Sy.env_last _) 0)
 have hB:=fun w hG=>begin_any s hs w hG
 have HG:=Lib.hid hG
 generalize Sy.envOf (Cod.str s)=v at *
 have HB:=Lib.hid hB;have HV:=Lib.hid hv;have HNZ:=Lib.hid hnz
 clear hB hv hnz hG
 have m0:=((Mod.refl [] w).alloc (Obj.cells #[.slice none 0 0,.slice none 0 0] 25)).alloc (Obj.cells #[.int .i64 0,.int .i64 0,.int .i64 0] 51)
 have e0:=(((Mod.refl [] (w.alloc (Obj.cells #[.slice none 0 0,.slice none 0 0] 25))).alloc (Obj.cells #[.int .i64 0,.int .i64 0,.int .i64 0] 51))).at (heap_alloc_new w (Obj.cells #[.slice none 0 0,.slice none 0 0] 25)) (by simp)
 have e1:=heap_alloc_new (w.alloc (Obj.cells #[.slice none 0 0,.slice none 0 0] 25)) (Obj.cells #[.int .i64 0,.int .i64 0,.int .i64 0] 51)
 have hs1:(w.alloc (Obj.cells #[.slice none 0 0,.slice none 0 0] 25)).heap.size=w.heap.size+1:=by simp
 rw [hs1] at e1
 have hG0:=HG.out.past m0 (by simp)
 go_enter Tryz.func46,Tryz.ntmps46
 go_upto_region 1 with fail
 generalize (w.alloc (Obj.cells _ 25)).alloc (Obj.cells _ 51)=w0 at *
 have E0:=Lib.hid e0;have E1:=Lib.hid e1;have M0:=Lib.hid m0;have HG0:=Lib.hid hG0
 have hw0:w.heap.size+2<=w0.heap.size:=by have:=lt_of_block e1;omega
 clear e0 e1 m0 hG0 hs1
 go_wp2_with fail
 refine (HB.out w0 HG0.out).mono ?_
 rintro e1 w1 ⟨b,ra,rc,rfl,h1,hb1,hf1,m1⟩
 have A1:=Hxq (m1.at E0.out (by simp));have B1:=Hxq (m1.at E1.out (by simp));have M1:=Hxq (M0.out.trans m1 (by simp));have H1:=Lib.hid h1;have HF1:=Lib.hid hf1
 have hsz1:=m1.size
 have hbl:=h1.lt
 clear m1 h1 hf1 HB HG0
 go_upto_region 2 with (refine wpList_built2 rfl 144 0 1 _ _ rfl (.pointer (some ⟨b,0,none⟩)) (.func (.func 47) #[] #[]) rfl rfl _ (buildP _ _ _ ⟨_,rfl⟩ rfl) ?_)
 have mP:=(Mod.refl [] w1).alloc (Obj.cells #[.pointer (some ⟨b,0,none⟩),.func (.func 47) #[] #[],.slice none 0 0,.slice none 0 0] 144)
 have eP:=heap_alloc_new w1 (Obj.cells #[.pointer (some ⟨b,0,none⟩),.func (.func 47) #[] #[],.slice none 0 0,.slice none 0 0] 144)
 generalize w1.alloc (Obj.cells _ 144)=wP at *
 have A2:=Hxq (mP.at A1.out (by simp));have B2:=Hxq (mP.at B1.out (by simp));have M2:=Hxq (M1.out.trans mP (by simp));have H2:=Hxq (H1.out.past mP (by simp));have P2:=Lib.hid eP
 have hpxb:w1.heap.size≠b:=by omega
 have hpxf:w1.heap.size∉fp (.slice ra v.ws.length rc):=fun hk=>by have:=fp_lt H1.out.row.row _ hk;omega
 have hwp:=lt_of_block eP
 clear A1 B1 M1 H1 mP eP
 generalize w1.heap.size=px at *
 have p0:=cell_at P2.out 0
 have c5:=cell_at H2.out.at_ 5
 simp only [List.getElem?_toArray,List.getElem?_cons_zero,List.getElem?_cons_succ] at p0 c5
 have f5:=free_at H2.out.at_ 5
 go_upto_region 3 with fail
 obtain ⟨h3,m3⟩:=H2.out.setF (.func (.func 80) #[.pointer (some ⟨px,0,none⟩)] #[])
 generalize wP.setCell ⟨b,5,none⟩ _=wS at *
 have hpb:∀ (k:Nat) (o:Obj),wP.heap[k]?=some o->k≠b->wS.heap[k]?=some o:=fun k o hk hb=>m3.at hk (by simpa using hb)
 have A3:=Hxq (hpb _ _ A2.out (by omega));have B3:=Hxq (hpb _ _ B2.out (by omega));have P3:=Hxq (hpb _ _ P2.out hpxb);have M3:=Hxq (M2.out.trans m3 (fun t ht=>by rw [Msq] at ht;exact .inr (by omega)));have H3:=Lib.hid h3
 have hsz3:=m3.size
 clear A2 B2 P2 M2 H2 m3 h3 p0 c5 f5 hpb
 have hwp3:px<wS.heap.size:=by omega
 have HW:=Hxq (whole_any b ra rc 80 (.pointer (some ⟨px,0,none⟩)) v (Sy.prog v) [b,px] (fun a w'=>∃ C:Array Value,w'.heap[px]?=some (.cells (#[.pointer (some ⟨b,0,none⟩),.func (.func 47) #[] #[]]++C) 144 (0,0))/\valP (wS.heap.size+1) a w' (.agg C)) wS H3.out HV.out enterP
  (fun w' hm hsz=>by
   have h':=H3.out.past hm (by simp)
   have hp':=hm.at P3.out (by simp)
   have hv:=HV.out
   have hne:=hpxb
   have hpx:=hpxf
   refine (readP_any b ra rc (.func (.func 80) #[.pointer (some ⟨px,0,none⟩)] #[]) v px (.slice none 0 0) (.slice none 0 0) w' h' hv hp' hne hpx).mono ?_
   intro e w'' hh
   exact hh.mono fun a w' ⟨C,h1,h2⟩=>⟨C,h1,valP_keep h2 (Mod.refl [] w') (by simp) (by omega)⟩)
  (fun s hs=>by simp at hs;omega) (Sy.adv_prog v))
 have p0:=cell_at P3.out 0
 simp only [List.getElem?_toArray,List.getElem?_cons_zero,List.getElem?_cons_succ] at p0
 have hq:Sy.prog v=Sy.prog v:=rfl
 rw [hq] at HNZ ⊢
 generalize Sy.whole v (Sy.prog v)=q at *
 clear hq
 cases q with
 | err g =>
  have hg:g.1≠0:=HNZ.out g rfl
  have hgB:((g.1:Int) != 0)=true:=by rw [bne_iff_ne];omega
  go_wp2_with fail
  refine HW.out.mono ?_
  rintro e4 w4 ⟨rfl,m4⟩
  have hnb:∀ (k:Nat),k≠b->k≠px->k∉[b,px]:=fun k h1 h2=>by simp [h1,h2]
  have A4:=m4.at A3.out (hnb _ (by omega) (by omega));have B4:=m4.at B3.out (hnb _ (by omega) (by omega));have M4:=M3.out.trans m4 (fun t ht=>by simp at ht;exact .inr (by omega))
  unfold fltC at *
  have m5:=((Mod.refl [] w4).alloc (Obj.cells #[.int .i64 (g.1:Nat),.int .i64 (g.2.1:Nat),.int .i64 (g.2.2:Nat)] 51)).alloc (Obj.cells #[.slice none 0 0,.slice none 0 0] 25)
  have x5:=heap_alloc_new w4 (Obj.cells #[.int .i64 (g.1:Nat),.int .i64 (g.2.1:Nat),.int .i64 (g.2.2:Nat)] 51)
  have hs5:(w4.alloc (Obj.cells #[.int .i64 (g.1:Nat),.int .i64 (g.2.1:Nat),.int .i64 (g.2.2:Nat)] 51)).heap.size=w4.heap.size+1:=by simp
  have z5:=heap_alloc_new (w4.alloc (Obj.cells #[.int .i64 (g.1:Nat),.int .i64 (g.2.1:Nat),.int .i64 (g.2.2:Nat)] 51)) (Obj.cells #[.slice none 0 0,.slice none 0 0] 25)
  have y5:=((Mod.refl [] (w4.alloc (Obj.cells #[.int .i64 (g.1:Nat),.int .i64 (g.2.1:Nat),.int .i64 (g.2.2:Nat)] 51))).alloc (Obj.cells #[.slice none 0 0,.slice none 0 0] 25)).at x5 (by simp)
  rw [hs5] at z5
  have A5:=Hxq (m5.at A4 (by simp));have B5:=Hxq (m5.at B4 (by simp));have M5:=Hxq (M4.trans m5 (by simp));have Y5:=Lib.hid y5;have Z5:=Lib.hid z5
  have hs4:=m4.size
  clear m4 A4 B4 M4 m5 y5 z5 hnb hs5 HW A3 B3 M3 P3 p0 H3 HV HNZ
  obtain ⟨x50,x51,x52⟩:=cells3 x5
  clear x5
  go_upto_region 6 with fail
  generalize (w4.alloc (Obj.cells _ 51)).alloc (Obj.cells _ 25)=w5 at *
  clear x50 x51 x52
  go_wp2_with fail
  refine wp_region_held_drew (S:=(fun w':World=>w'.heap[w4.heap.size+1]?=some (.cells #[.slice none 0 0,.slice none 0 0] 25 (0,0))/\w'.heap[w4.heap.size]?=some (.cells #[.int .i64 (g.1:Nat),.int .i64 (g.2.1:Nat),.int .i64 (g.2.2:Nat)] 51 (0,0)))) (by kernel_rfl) (by (try dsimp only);exact ⟨drew_cells Z5.out,drew_cells Y5.out⟩) (fun hHeld=>?_)
  refine wpAnyH_take (i:=0) (oi:=?_) (v:=.agg #[.slice none 0 0,.slice none 0 0]) ?_ ?_ ?_ ?_ ?_ ?_ (by assumption) ?_
  rotate_left 1
  ·(simp only [Gq1,Gq2,Gq3])<;>rfl
  ·kernel_rfl
  ·kernel_rfl
  ·kernel_rfl
  rotate_left 1
  ·refine yieldsIf_load_mid ?_ 25 _ rfl (w4.heap.size+1) 0 rfl [.slice none 0 0,.slice none 0 0] _ ?_ Tryz.underlying25 rfl sizeP
   ·rfl
   ·intro w hSw
    exact wp_range (C:=#[.slice none 0 0,.slice none 0 0]) hSw.1
  rotate_left 1
  ·exact fun _ _ _ h=>h
  try simp only [Act.put,Lq1,Lq2,Lq3]
  refine wpAnyH_take (i:=1) (oi:=?_) (v:=.agg #[.int .i64 (g.1:Nat),.int .i64 (g.2.1:Nat),.int .i64 (g.2.2:Nat)]) ?_ ?_ ?_ ?_ ?_ ?_ (by assumption) ?_
  rotate_left 1
  ·(simp only [Gq1,Gq2,Gq3])<;>rfl
  ·kernel_rfl
  ·kernel_rfl
  ·kernel_rfl
  rotate_left 1
  ·refine yieldsIf_load_mid ?_ 51 _ rfl w4.heap.size 0 rfl [.int .i64 (g.1:Nat),.int .i64 (g.2.1:Nat),.int .i64 (g.2.2:Nat)] _ ?_ Tryz.underlying51 rfl sizeFlt
   ·rfl
   ·intro w hSw
    exact wp_range (C:=#[.int .i64 (g.1:Nat),.int .i64 (g.2.1:Nat),.int .i64 (g.2.2:Nat)]) hSw.2
  rotate_left 1
  ·exact fun _ _ _ h=>h
  try simp only [Act.put,Lq1,Lq2,Lq3]
  have hlt0:=lt_of_block A5.out
  refine wpAnyH_ready (rs:=[2]) (by kernel_rfl) (by simp) ?_
  refine AllReadyH.cons (o:=?_) ?_ ?_ AllReadyH.nil
  rotate_left 1
  ·(simp only [Gq1,Gq2,Gq3])<;>rfl
  intro K hK
  refine (if_pos (by rfl)).mpr ?_
  refine wp_store_row 25 _ _ rfl w.heap.size #[.slice none 0 0,.slice none 0 0] rfl rfl 25 _ (drew_cells A5.out) sizeP rfl (by rw [<-Array.all_toList];rfl) ?_
  refine hK.out _ _ (by (try dsimp only);exact ⟨(setRow_other w5.drew w.heap.size (w4.heap.size+1) #[.slice none 0 0,.slice none 0 0] (by omega)).trans (drew_cells Z5.out),(setRow_other w5.drew w.heap.size w4.heap.size #[.slice none 0 0,.slice none 0 0] (by omega)).trans (drew_cells Y5.out)⟩) (fun hHeld=>?_)
  clear hK K
  try simp only [Act.put,Lq1,Lq2,Lq3]
  refine wpAnyH_ready (rs:=[3]) (by kernel_rfl) (by simp) ?_
  refine AllReadyH.cons (o:=?_) ?_ ?_ AllReadyH.nil
  rotate_left 1
  ·(simp only [Gq1,Gq2,Gq3])<;>rfl
  intro K hK
  refine (if_pos (by rfl)).mpr ?_
  refine wp_store_row 51 _ _ rfl (w.heap.size+1) #[.int .i64 (g.1:Nat),.int .i64 (g.2.1:Nat),.int .i64 (g.2.2:Nat)] rfl rfl 51 _ ((setRow_other w5.drew w.heap.size (w.heap.size+1) #[.slice none 0 0,.slice none 0 0] (by omega)).trans (drew_cells B5.out)) sizeFlt rfl (by rw [<-Array.all_toList];rfl) ?_
  refine hK.out _ _ (by (try dsimp only);exact ⟨(setRow_other (w5.drew.setRow w.heap.size #[.slice none 0 0,.slice none 0 0]) (w.heap.size+1) (w4.heap.size+1) #[.int .i64 (g.1:Nat),.int .i64 (g.2.1:Nat),.int .i64 (g.2.2:Nat)] (by omega)).trans ((setRow_other w5.drew w.heap.size (w4.heap.size+1) #[.slice none 0 0,.slice none 0 0] (by omega)).trans (drew_cells Z5.out)),(setRow_other (w5.drew.setRow w.heap.size #[.slice none 0 0,.slice none 0 0]) (w.heap.size+1) w4.heap.size #[.int .i64 (g.1:Nat),.int .i64 (g.2.1:Nat),.int .i64 (g.2.2:Nat)] (by omega)).trans ((setRow_other w5.drew w.heap.size w4.heap.size #[.slice none 0 0,.slice none 0 0] (by omega)).trans (drew_cells Y5.out))⟩) (fun hHeld=>?_)
  clear hK K
  try simp only [Act.put,Lq1,Lq2,Lq3]
  refine wpAnyH_done (by kernel_rfl) ?_ _
  have n0:=setRow_heap w5.drew w.heap.size _ #[.slice none 0 0,.slice none 0 0] 25 _ (drew_cells A5.out)
  have n1:=setRow_heap (w5.drew.setRow w.heap.size #[.slice none 0 0,.slice none 0 0]) (w.heap.size+1) _ #[.int .i64 (g.1:Nat),.int .i64 (g.2.1:Nat),.int .i64 (g.2.2:Nat)] 51 _ ((setRow_other w5.drew w.heap.size (w.heap.size+1) #[.slice none 0 0,.slice none 0 0] (by omega)).trans (drew_cells B5.out))
  have k0:=(setRow_other (w5.drew.setRow w.heap.size #[.slice none 0 0,.slice none 0 0]) (w.heap.size+1) w.heap.size #[.int .i64 (g.1:Nat),.int .i64 (g.2.1:Nat),.int .i64 (g.2.2:Nat)] (by omega)).trans n0
  have mm:=((M5.out.drew).trans (Mod.setRow w5.drew w.heap.size #[.slice none 0 0,.slice none 0 0]) (fun t ht=>by rw [Msq] at ht;exact .inr (by omega))).trans (Mod.setRow (w5.drew.setRow w.heap.size #[.slice none 0 0,.slice none 0 0]) (w.heap.size+1) #[.int .i64 (g.1:Nat),.int .i64 (g.2.1:Nat),.int .i64 (g.2.2:Nat)]) (fun t ht=>by rw [Msq] at ht;exact .inr (by omega))
  go_wp2_with fail
  exact bodyPost_ret (res_pair rfl _ _ w.heap.size (w.heap.size+1) #[.slice none 0 0,.slice none 0 0] #[.int .i64 (g.1:Nat),.int .i64 (g.2.1:Nat),.int .i64 (g.2.2:Nat)] rfl rfl (run_loadVar_row (P:=Tryz.prog) _ _ _ _ _ _ _ k0 Tryz.underlying25 rfl sizeP) (run_loadVar_row (P:=Tryz.prog) _ _ _ _ _ _ _ n1 Tryz.underlying51 rfl sizeFlt)) rfl ⟨rfl,mm⟩
 | ok a i =>
  go_wp2_with fail
  refine HW.out.mono ?_
  rintro e4 w4 ⟨rfl,⟨wg,⟨C,hpC,hval⟩,mg⟩,m4⟩
  have hnb:∀ (k:Nat),k≠b->k≠px->k∉[b,px]:=fun k h1 h2=>by simp [h1,h2]
  have A4:=m4.at A3.out (hnb _ (by omega) (by omega));have B4:=m4.at B3.out (hnb _ (by omega) (by omega));have M4:=M3.out.trans m4 (fun t ht=>by simp at ht;exact .inr (by omega))
  have P4:=mg.at hpC (by simp;omega)
  have V4:=valP_keep (m:=wS.heap.size+1) hval mg (by simp) (Nat.le_refl _)
  have m5:=(Mod.refl [] w4).alloc (Obj.cells #[.int .i64 0,.int .i64 0,.int .i64 0] 51)
  have x5:=heap_alloc_new w4 (Obj.cells #[.int .i64 0,.int .i64 0,.int .i64 0] 51)
  have A5:=Hxq (m5.at A4 (by simp));have B5:=Hxq (m5.at B4 (by simp));have M5:=Hxq (M4.trans m5 (by simp));have P5:=Hxq (m5.at P4 (by simp));have V5:=Hxq (valP_keep (m:=wS.heap.size+1) V4 m5 (by simp) (Nat.le_refl _))
  have hs4:=m4.size
  obtain ⟨hC,hO⟩:=valP_cells hval
  have HO:=Lib.hid hO
  clear m4 A4 B4 M4 P4 V4 m5 hnb HW A3 B3 M3 P3 p0 H3 HV HNZ mg hpC hval hO
  obtain ⟨x50,x51,x52⟩:=cells3 x5
  clear x5
  go_upto_region 7 with fail
  generalize w4.alloc (Obj.cells _ 51)=w5 at *
  clear x50 x51 x52
  obtain ⟨p50,p51⟩:=part_c0 P5.out
  have b0:=cell_at B5.out 0;have b1:=cell_at B5.out 1;have b2:=cell_at B5.out 2
  simp only [List.getElem?_toArray,List.getElem?_cons_zero,List.getElem?_cons_succ] at b0 b1 b2
  go_wp2_with (first | refine wpList_load_mid rfl 25 _ rfl px 2 rfl C.toList _ (part_range P5.out) Tryz.underlying25 rfl (by rw [Array.length_toList];exact size_of sizeP hC) ?_ | refine wpList_store_at rfl 25 _ _ rfl w.heap.size C _ 25 rfl rfl A5.out (size_of sizeP hC) (by rw [hC];rfl) HO.out ?_ | refine wpList_store_at rfl 51 _ _ rfl (w.heap.size+1) #[.int .i64 0,.int .i64 0,.int .i64 0] _ 51 rfl rfl ((setRow_other w5 w.heap.size (w.heap.size+1) C (by omega)).trans B5.out) sizeFlt rfl rfl ?_)
  have mR:=Mod.setRow w5 w.heap.size C
  have mR2:=Mod.setRow (w5.setRow w.heap.size C) (w.heap.size+1) #[.int .i64 0,.int .i64 0,.int .i64 0]
  have a6:=setRow_heap w5 w.heap.size _ C 25 _ A5.out
  have a7:=mR2.at a6 (by simp)
  have b7:=setRow_heap (w5.setRow w.heap.size C) (w.heap.size+1) _ #[.int .i64 0,.int .i64 0,.int .i64 0] 51 _ ((setRow_other w5 w.heap.size (w.heap.size+1) C (by omega)).trans B5.out)
  refine bodyPost_ret (res_pair rfl _ _ w.heap.size (w.heap.size+1) C #[.int .i64 0,.int .i64 0,.int .i64 0] rfl rfl (run_loadVar_row (P:=Tryz.prog) _ _ _ _ _ _ _ a7 Tryz.underlying25 rfl (size_of sizeP hC)) (run_loadVar_row (P:=Tryz.prog) _ _ _ _ _ _ _ b7 Tryz.underlying51 rfl sizeFlt)) rfl ⟨C,rfl,valP_keep (valP_keep (m:=wS.heap.size+1) V5.out mR (by simp;omega) (Nat.le_refl _)) mR2 (by simp;omega) (by omega),(M5.out.trans mR (fun t ht=>?_)).trans mR2 (fun t ht=>?_)⟩
  ·rw [Msq] at ht;exact .inr (by omega)
  ·rw [Msq] at ht;exact .inr (by omega)
set_option maxHeartbeats 8000000 in
/-- the entry -/
theorem entP_any (s:ByteArray) (hs:s.size<=140737488355328) (w:World) (hG:Glob w) :
  Calls Tryz.prog 20 #[.string s] w (AllRes (Sy.whole (Sy.envOf (Cod.str s)) (Sy.prog (Sy.envOf (Cod.str s)))) (valP w.heap.size) (.agg #[.slice none 0 0,.slice none 0 0]) w):=by
 have m0:=((Mod.refl [] w).alloc (Obj.cells #[.slice none 0 0,.slice none 0 0] 25)).alloc (Obj.cells #[.int .i64 0,.int .i64 0,.int .i64 0] 51)
 have e0:=(((Mod.refl [] (w.alloc (Obj.cells #[.slice none 0 0,.slice none 0 0] 25))).alloc (Obj.cells #[.int .i64 0,.int .i64 0,.int .i64 0] 51))).at (heap_alloc_new w (Obj.cells #[.slice none 0 0,.slice none 0 0] 25)) (by simp)
 have e1:=heap_alloc_new (w.alloc (Obj.cells #[.slice none 0 0,.slice none 0 0] 25)) (Obj.cells #[.int .i64 0,.int .i64 0,.int .i64 0] 51)
 have hs1:(w.alloc (Obj.cells #[.slice none 0 0,.slice none 0 0] 25)).heap.size=w.heap.size+1:=by simp
 rw [hs1] at e1
 have hA:=allP_any s hs _ (hG.past m0 (by simp))
 go_enter Tryz.func20,Tryz.ntmps20
 go_upto_region 1 with fail
 generalize (w.alloc (Obj.cells _ 25)).alloc (Obj.cells _ 51)=w0 at *
 have E0:=Lib.hid e0;have E1:=Lib.hid e1;have M0:=Lib.hid m0;have HA:=Lib.hid hA
 have hw0:w.heap.size+2<=w0.heap.size:=by have:=lt_of_block e1;omega
 clear e0 e1 m0 hs1 hA
 generalize Sy.whole (Sy.envOf (Cod.str s)) _=q at *
 cases q with
 | err g =>
  go_wp2_with fail
  refine HA.out.mono ?_
  rintro e1 w1 ⟨rfl,m1⟩
  have A1:=Hxq (m1.at E0.out (by simp));have B1:=Hxq (m1.at E1.out (by simp));have M1:=Hxq (M0.out.trans m1 (by simp))
  have hsz1:=m1.size
  clear m1 HA
  unfold fltC
  go_wp2_with (first | refine wpList_store_at rfl 25 _ _ rfl w.heap.size #[.slice none 0 0,.slice none 0 0] _ 25 rfl rfl A1.out sizeP rfl rfl ?_ | refine wpList_store_at rfl 51 _ _ rfl (w.heap.size+1) #[.int .i64 (g.1:Nat),.int .i64 (g.2.1:Nat),.int .i64 (g.2.2:Nat)] _ 51 rfl rfl ((setRow_other w1 w.heap.size (w.heap.size+1) #[.slice none 0 0,.slice none 0 0] (by omega)).trans B1.out) sizeFlt rfl rfl ?_)
  have mR:=Mod.setRow w1 w.heap.size #[.slice none 0 0,.slice none 0 0]
  have mR2:=Mod.setRow (w1.setRow w.heap.size #[.slice none 0 0,.slice none 0 0]) (w.heap.size+1) #[.int .i64 (g.1:Nat),.int .i64 (g.2.1:Nat),.int .i64 (g.2.2:Nat)]
  have a6:=setRow_heap w1 w.heap.size _ #[.slice none 0 0,.slice none 0 0] 25 _ A1.out
  have a7:=mR2.at a6 (by simp)
  have b7:=setRow_heap (w1.setRow w.heap.size #[.slice none 0 0,.slice none 0 0]) (w.heap.size+1) _ #[.int .i64 (g.1:Nat),.int .i64 (g.2.1:Nat),.int .i64 (g.2.2:Nat)] 51 _ ((setRow_other w1 w.heap.size (w.heap.size+1) #[.slice none 0 0,.slice none 0 0] (by omega)).trans B1.out)
  refine bodyPost_ret (res_pair rfl _ _ w.heap.size (w.heap.size+1) #[.slice none 0 0,.slice none 0 0] #[.int .i64 (g.1:Nat),.int .i64 (g.2.1:Nat),.int .i64 (g.2.2:Nat)] rfl rfl (run_loadVar_row (P:=Tryz.prog) _ _ _ _ _ _ _ a7 Tryz.underlying25 rfl sizeP) (run_loadVar_row (P:=Tryz.prog) _ _ _ _ _ _ _ b7 Tryz.underlying51 rfl sizeFlt)) rfl ⟨rfl,(M1.out.trans mR (fun t ht=>?_)).trans mR2 (fun t ht=>?_)⟩
  ·rw [Msq] at ht;exact .inr (by omega)
  ·rw [Msq] at ht;exact .inr (by omega)
 | ok a i =>
  go_wp2_with fail
  refine HA.out.mono ?_
  rintro e1 w1 ⟨C,rfl,hval,m1⟩
  have A1:=Hxq (m1.at E0.out (by simp));have B1:=Hxq (m1.at E1.out (by simp));have M1:=Hxq (M0.out.trans m1 (by simp))
  have hsz1:=m1.size
  obtain ⟨hC,hO⟩:=valP_cells hval
  have HO:=Lib.hid hO;have HV:=Lib.hid hval
  clear m1 HA hO hval
  go_wp2_with (first | refine wpList_store_at rfl 25 _ _ rfl w.heap.size C _ 25 rfl rfl A1.out (size_of sizeP hC) (by rw [hC];rfl) HO.out ?_ | refine wpList_store_at rfl 51 _ _ rfl (w.heap.size+1) #[.int .i64 0,.int .i64 0,.int .i64 0] _ 51 rfl rfl ((setRow_other w1 w.heap.size (w.heap.size+1) C (by omega)).trans B1.out) sizeFlt rfl rfl ?_)
  have mR:=Mod.setRow w1 w.heap.size C
  have mR2:=Mod.setRow (w1.setRow w.heap.size C) (w.heap.size+1) #[.int .i64 0,.int .i64 0,.int .i64 0]
  have a6:=setRow_heap w1 w.heap.size _ C 25 _ A1.out
  have a7:=mR2.at a6 (by simp)
  have b7:=setRow_heap (w1.setRow w.heap.size C) (w.heap.size+1) _ #[.int .i64 0,.int .i64 0,.int .i64 0] 51 _ ((setRow_other w1 w.heap.size (w.heap.size+1) C (by omega)).trans B1.out)
  refine bodyPost_ret (res_pair rfl _ _ w.heap.size (w.heap.size+1) C #[.int .i64 0,.int .i64 0,.int .i64 0] rfl rfl (run_loadVar_row (P:=Tryz.prog) _ _ _ _ _ _ _ a7 Tryz.underlying25 rfl (size_of sizeP hC)) (run_loadVar_row (P:=Tryz.prog) _ _ _ _ _ _ _ b7 Tryz.underlying51 rfl sizeFlt)) rfl ⟨C,rfl,valP_keep (valP_keep (m:=w0.heap.size) HV.out mR (by simp;omega) (Nat.le_refl _)) mR2 (by simp;omega) (by omega),(M1.out.trans mR (fun t ht=>?_)).trans mR2 (fun t ht=>?_)⟩
  ·rw [Msq] at ht;exact .inr (by omega)
  ·rw [Msq] at ht;exact .inr (by omega)
theorem sizeU:(Tryz.prog.info? 63).map (·.size)=some 5:=by kernel_rfl
theorem valU_cells {n:Nat} {a:Pr.Rul} {w:World} {C:Array Value} (h:valR n a w (.agg C)):C.size=5/\C.toList.all (·.oneCell')=true:=by
 obtain ⟨u1,u2,h0,hb1,hb2⟩:=h
 obtain ⟨a1,c1,rfl⟩:=hb1.lit
 obtain ⟨a2,c2,rfl⟩:=hb2.lit
 simp only [Value.agg.injEq] at h0
 subst h0
 exact ⟨rfl,rfl⟩
theorem valU_keep {n m:Nat} {S:List Nat} {w w':World} {a:Pr.Rul} {x:Value} (h:valR n a w x) (hm:Mod S w w') (hS:∀ s∈S,¬ n<=s) (hn:m<=n):valR m a w' x:=by
 obtain ⟨u1,u2,h0,hb1,hb2⟩:=h
 exact ⟨u1,u2,h0,(hb1.keep hm hS).mono (fun k hk _=>by omega),(hb2.keep hm hS).mono (fun k hk _=>by omega)⟩
theorem buildU (p f:Value) (w:World) (hp:∃ x,p=.pointer x) (hf:f=.func (.func 49) #[] #[]):(Instr.build 149 #[(0,p),(1,f)]).run Tryz.prog w=.ok (.agg (#[p,f]++#[.string ⟨#[]⟩,.slice none 0 0,.slice none 0 0,.int .i64 0,.int .i64 0])) w:=by
 obtain ⟨x,rfl⟩:=hp
 subst hf
 exact run_build w 149 _ _ (by kernel_rfl)
theorem enterU (args:Array Value) (w:World):(callFunc 83 args).run Tryz.prog w=.ok (.enter 83 args) w:=by kernel_rfl
set_option maxHeartbeats 8000000 in
theorem allU_any (s:ByteArray) (hs:s.size<=140737488355328) (w:World) (hG:Glob w) :
  Calls Tryz.prog 48 #[.string s,.func (.func 49) #[] #[]] w (AllRes (Sy.whole (Sy.envOf (Cod.str s)) (Sy.rule (Sy.envOf (Cod.str s)))) (valR w.heap.size) (.agg #[.string ⟨#[]⟩,.slice none 0 0,.slice none 0 0,.int .i64 0,.int .i64 0]) w):=by
 have hmf:=makeFunc_any
 have hv:=envOk s
 have hnz:Sy.Nz (Sy.whole (Sy.envOf (Cod.str s)) (Sy.rule (Sy.envOf (Cod.str s)))):=Sy.nz_whole (Sy.env_last _) (Sy.nz_rule (Sy.env_last _) 0)
 have hB:=fun w hG=>begin_any s hs w hG
 have HG:=Lib.hid hG
 generalize Sy.envOf (Cod.str s)=v at *
 have HB:=Lib.hid hB;have HV:=Lib.hid hv;have HNZ:=Lib.hid hnz
 clear hB hv hnz hG
 have m0:=((Mod.refl [] w).alloc (Obj.cells #[.string ⟨#[]⟩,.slice none 0 0,.slice none 0 0,.int .i64 0,.int .i64 0] 63)).alloc (Obj.cells #[.int .i64 0,.int .i64 0,.int .i64 0] 51)
 have e0:=(((Mod.refl [] (w.alloc (Obj.cells #[.string ⟨#[]⟩,.slice none 0 0,.slice none 0 0,.int .i64 0,.int .i64 0] 63))).alloc (Obj.cells #[.int .i64 0,.int .i64 0,.int .i64 0] 51))).at (heap_alloc_new w (Obj.cells #[.string ⟨#[]⟩,.slice none 0 0,.slice none 0 0,.int .i64 0,.int .i64 0] 63)) (by simp)
 have e1:=heap_alloc_new (w.alloc (Obj.cells #[.string ⟨#[]⟩,.slice none 0 0,.slice none 0 0,.int .i64 0,.int .i64 0] 63)) (Obj.cells #[.int .i64 0,.int .i64 0,.int .i64 0] 51)
 have hs1:(w.alloc (Obj.cells #[.string ⟨#[]⟩,.slice none 0 0,.slice none 0 0,.int .i64 0,.int .i64 0] 63)).heap.size=w.heap.size+1:=by simp
 rw [hs1] at e1
 have hG0:=HG.out.past m0 (by simp)
 go_enter Tryz.func48,Tryz.ntmps48
 go_upto_region 1 with fail
 generalize (w.alloc (Obj.cells _ 63)).alloc (Obj.cells _ 51)=w0 at *
 have E0:=Lib.hid e0;have E1:=Lib.hid e1;have M0:=Lib.hid m0;have HG0:=Lib.hid hG0
 have hw0:w.heap.size+2<=w0.heap.size:=by have:=lt_of_block e1;omega
 clear e0 e1 m0 hG0 hs1
 go_wp2_with fail
 refine (HB.out w0 HG0.out).mono ?_
 rintro e1 w1 ⟨b,ra,rc,rfl,h1,hb1,hf1,m1⟩
 have A1:=Hxq (m1.at E0.out (by simp));have B1:=Hxq (m1.at E1.out (by simp));have M1:=Hxq (M0.out.trans m1 (by simp));have H1:=Lib.hid h1;have HF1:=Lib.hid hf1
 have hsz1:=m1.size
 have hbl:=h1.lt
 clear m1 h1 hf1 HB HG0
 go_upto_region 2 with (refine wpList_built2 rfl 149 0 1 _ _ rfl (.pointer (some ⟨b,0,none⟩)) (.func (.func 49) #[] #[]) rfl rfl _ (buildU _ _ _ ⟨_,rfl⟩ rfl) ?_)
 have mP:=(Mod.refl [] w1).alloc (Obj.cells #[.pointer (some ⟨b,0,none⟩),.func (.func 49) #[] #[],.string ⟨#[]⟩,.slice none 0 0,.slice none 0 0,.int .i64 0,.int .i64 0] 149)
 have eP:=heap_alloc_new w1 (Obj.cells #[.pointer (some ⟨b,0,none⟩),.func (.func 49) #[] #[],.string ⟨#[]⟩,.slice none 0 0,.slice none 0 0,.int .i64 0,.int .i64 0] 149)
 generalize w1.alloc (Obj.cells _ 149)=wP at *
 have A2:=Hxq (mP.at A1.out (by simp));have B2:=Hxq (mP.at B1.out (by simp));have M2:=Hxq (M1.out.trans mP (by simp));have H2:=Hxq (H1.out.past mP (by simp));have P2:=Lib.hid eP
 have hpxb:w1.heap.size≠b:=by omega
 have hpxf:w1.heap.size∉fp (.slice ra v.ws.length rc):=fun hk=>by have:=fp_lt H1.out.row.row _ hk;omega
 have hwp:=lt_of_block eP
 clear A1 B1 M1 H1 mP eP
 generalize w1.heap.size=px at *
 have p0:=cell_at P2.out 0
 have c5:=cell_at H2.out.at_ 5
 simp only [List.getElem?_toArray,List.getElem?_cons_zero,List.getElem?_cons_succ] at p0 c5
 have f5:=free_at H2.out.at_ 5
 go_upto_region 3 with fail
 obtain ⟨h3,m3⟩:=H2.out.setF (.func (.func 83) #[.pointer (some ⟨px,0,none⟩)] #[])
 generalize wP.setCell ⟨b,5,none⟩ _=wS at *
 have hpb:∀ (k:Nat) (o:Obj),wP.heap[k]?=some o->k≠b->wS.heap[k]?=some o:=fun k o hk hb=>m3.at hk (by simpa using hb)
 have A3:=Hxq (hpb _ _ A2.out (by omega));have B3:=Hxq (hpb _ _ B2.out (by omega));have P3:=Hxq (hpb _ _ P2.out hpxb);have M3:=Hxq (M2.out.trans m3 (fun t ht=>by rw [Msq] at ht;exact .inr (by omega)));have H3:=Lib.hid h3
 have hsz3:=m3.size
 clear A2 B2 P2 M2 H2 m3 h3 p0 c5 f5 hpb
 have hwp3:px<wS.heap.size:=by omega
 have HW:=Hxq (whole_any b ra rc 83 (.pointer (some ⟨px,0,none⟩)) v (Sy.rule v) [b,px] (fun a w'=>∃ C:Array Value,w'.heap[px]?=some (.cells (#[.pointer (some ⟨b,0,none⟩),.func (.func 49) #[] #[]]++C) 149 (0,0))/\valR (wS.heap.size+1) a w' (.agg C)) wS H3.out HV.out enterU
  (fun w' hm hsz=>by
   have h':=H3.out.past hm (by simp)
   have hp':=hm.at P3.out (by simp)
   have hv:=HV.out
   have hne:=hpxb
   have hpx:=hpxf
   refine (readU_any b ra rc (.func (.func 83) #[.pointer (some ⟨px,0,none⟩)] #[]) v px (.string ⟨#[]⟩) (.slice none 0 0) (.slice none 0 0) (.int .i64 0) (.int .i64 0) w' h' hv hp' hne hpx).mono ?_
   intro e w'' hh
   exact hh.mono fun a w' ⟨C,h1,h2⟩=>⟨C,h1,valU_keep h2 (Mod.refl [] w') (by simp) (by omega)⟩)
  (fun s hs=>by simp at hs;omega) (Sy.adv_rule v))
 have p0:=cell_at P3.out 0
 simp only [List.getElem?_toArray,List.getElem?_cons_zero,List.getElem?_cons_succ] at p0
 have hq:Sy.rule v=Sy.rule v:=rfl
 rw [hq] at HNZ ⊢
 generalize Sy.whole v (Sy.rule v)=q at *
 clear hq
 cases q with
 | err g =>
  have hg:g.1≠0:=HNZ.out g rfl
  have hgB:((g.1:Int) != 0)=true:=by rw [bne_iff_ne];omega
  go_wp2_with fail
  refine HW.out.mono ?_
  rintro e4 w4 ⟨rfl,m4⟩
  have hnb:∀ (k:Nat),k≠b->k≠px->k∉[b,px]:=fun k h1 h2=>by simp [h1,h2]
  have A4:=m4.at A3.out (hnb _ (by omega) (by omega));have B4:=m4.at B3.out (hnb _ (by omega) (by omega));have M4:=M3.out.trans m4 (fun t ht=>by simp at ht;exact .inr (by omega))
  unfold fltC at *
  have m5:=((Mod.refl [] w4).alloc (Obj.cells #[.int .i64 (g.1:Nat),.int .i64 (g.2.1:Nat),.int .i64 (g.2.2:Nat)] 51)).alloc (Obj.cells #[.string ⟨#[]⟩,.slice none 0 0,.slice none 0 0,.int .i64 0,.int .i64 0] 63)
  have x5:=heap_alloc_new w4 (Obj.cells #[.int .i64 (g.1:Nat),.int .i64 (g.2.1:Nat),.int .i64 (g.2.2:Nat)] 51)
  have hs5:(w4.alloc (Obj.cells #[.int .i64 (g.1:Nat),.int .i64 (g.2.1:Nat),.int .i64 (g.2.2:Nat)] 51)).heap.size=w4.heap.size+1:=by simp
  have z5:=heap_alloc_new (w4.alloc (Obj.cells #[.int .i64 (g.1:Nat),.int .i64 (g.2.1:Nat),.int .i64 (g.2.2:Nat)] 51)) (Obj.cells #[.string ⟨#[]⟩,.slice none 0 0,.slice none 0 0,.int .i64 0,.int .i64 0] 63)
  have y5:=((Mod.refl [] (w4.alloc (Obj.cells #[.int .i64 (g.1:Nat),.int .i64 (g.2.1:Nat),.int .i64 (g.2.2:Nat)] 51))).alloc (Obj.cells #[.string ⟨#[]⟩,.slice none 0 0,.slice none 0 0,.int .i64 0,.int .i64 0] 63)).at x5 (by simp)
  rw [hs5] at z5
  have A5:=Hxq (m5.at A4 (by simp));have B5:=Hxq (m5.at B4 (by simp));have M5:=Hxq (M4.trans m5 (by simp));have Y5:=Lib.hid y5;have Z5:=Lib.hid z5
  have hs4:=m4.size
  clear m4 A4 B4 M4 m5 y5 z5 hnb hs5 HW A3 B3 M3 P3 p0 H3 HV HNZ
  obtain ⟨x50,x51,x52⟩:=cells3 x5
  clear x5
  go_upto_region 6 with fail
  generalize (w4.alloc (Obj.cells _ 51)).alloc (Obj.cells _ 63)=w5 at *
  clear x50 x51 x52
  go_wp2_with fail
  refine wp_region_held_drew (S:=(fun w':World=>w'.heap[w4.heap.size+1]?=some (.cells #[.string ⟨#[]⟩,.slice none 0 0,.slice none 0 0,.int .i64 0,.int .i64 0] 63 (0,0))/\w'.heap[w4.heap.size]?=some (.cells #[.int .i64 (g.1:Nat),.int .i64 (g.2.1:Nat),.int .i64 (g.2.2:Nat)] 51 (0,0)))) (by kernel_rfl) (by (try dsimp only);exact ⟨drew_cells Z5.out,drew_cells Y5.out⟩) (fun hHeld=>?_)
  refine wpAnyH_take (i:=0) (oi:=?_) (v:=.agg #[.string ⟨#[]⟩,.slice none 0 0,.slice none 0 0,.int .i64 0,.int .i64 0]) ?_ ?_ ?_ ?_ ?_ ?_ (by assumption) ?_
  rotate_left 1
  ·(simp only [Gq1,Gq2,Gq3])<;>rfl
  ·kernel_rfl
  ·kernel_rfl
  ·kernel_rfl
  rotate_left 1
  ·refine yieldsIf_load_mid ?_ 63 _ rfl (w4.heap.size+1) 0 rfl [.string ⟨#[]⟩,.slice none 0 0,.slice none 0 0,.int .i64 0,.int .i64 0] _ ?_ Tryz.underlying63 rfl sizeU
   ·rfl
   ·intro w hSw
    exact wp_range (C:=#[.string ⟨#[]⟩,.slice none 0 0,.slice none 0 0,.int .i64 0,.int .i64 0]) hSw.1
  rotate_left 1
  ·exact fun _ _ _ h=>h
  try simp only [Act.put,Lq1,Lq2,Lq3]
  refine wpAnyH_take (i:=1) (oi:=?_) (v:=.agg #[.int .i64 (g.1:Nat),.int .i64 (g.2.1:Nat),.int .i64 (g.2.2:Nat)]) ?_ ?_ ?_ ?_ ?_ ?_ (by assumption) ?_
  rotate_left 1
  ·(simp only [Gq1,Gq2,Gq3])<;>rfl
  ·kernel_rfl
  ·kernel_rfl
  ·kernel_rfl
  rotate_left 1
  ·refine yieldsIf_load_mid ?_ 51 _ rfl w4.heap.size 0 rfl [.int .i64 (g.1:Nat),.int .i64 (g.2.1:Nat),.int .i64 (g.2.2:Nat)] _ ?_ Tryz.underlying51 rfl sizeFlt
   ·rfl
   ·intro w hSw
    exact wp_range (C:=#[.int .i64 (g.1:Nat),.int .i64 (g.2.1:Nat),.int .i64 (g.2.2:Nat)]) hSw.2
  rotate_left 1
  ·exact fun _ _ _ h=>h
  try simp only [Act.put,Lq1,Lq2,Lq3]
  have hlt0:=lt_of_block A5.out
  refine wpAnyH_ready (rs:=[2]) (by kernel_rfl) (by simp) ?_
  refine AllReadyH.cons (o:=?_) ?_ ?_ AllReadyH.nil
  rotate_left 1
  ·(simp only [Gq1,Gq2,Gq3])<;>rfl
  intro K hK
  refine (if_pos (by rfl)).mpr ?_
  refine wp_store_row 63 _ _ rfl w.heap.size #[.string ⟨#[]⟩,.slice none 0 0,.slice none 0 0,.int .i64 0,.int .i64 0] rfl rfl 63 _ (drew_cells A5.out) sizeU rfl (by rw [<-Array.all_toList];rfl) ?_
  refine hK.out _ _ (by (try dsimp only);exact ⟨(setRow_other w5.drew w.heap.size (w4.heap.size+1) #[.string ⟨#[]⟩,.slice none 0 0,.slice none 0 0,.int .i64 0,.int .i64 0] (by omega)).trans (drew_cells Z5.out),(setRow_other w5.drew w.heap.size w4.heap.size #[.string ⟨#[]⟩,.slice none 0 0,.slice none 0 0,.int .i64 0,.int .i64 0] (by omega)).trans (drew_cells Y5.out)⟩) (fun hHeld=>?_)
  clear hK K
  try simp only [Act.put,Lq1,Lq2,Lq3]
  refine wpAnyH_ready (rs:=[3]) (by kernel_rfl) (by simp) ?_
  refine AllReadyH.cons (o:=?_) ?_ ?_ AllReadyH.nil
  rotate_left 1
  ·(simp only [Gq1,Gq2,Gq3])<;>rfl
  intro K hK
  refine (if_pos (by rfl)).mpr ?_
  refine wp_store_row 51 _ _ rfl (w.heap.size+1) #[.int .i64 (g.1:Nat),.int .i64 (g.2.1:Nat),.int .i64 (g.2.2:Nat)] rfl rfl 51 _ ((setRow_other w5.drew w.heap.size (w.heap.size+1) #[.string ⟨#[]⟩,.slice none 0 0,.slice none 0 0,.int .i64 0,.int .i64 0] (by omega)).trans (drew_cells B5.out)) sizeFlt rfl (by rw [<-Array.all_toList];rfl) ?_
  refine hK.out _ _ (by (try dsimp only);exact ⟨(setRow_other (w5.drew.setRow w.heap.size #[.string ⟨#[]⟩,.slice none 0 0,.slice none 0 0,.int .i64 0,.int .i64 0]) (w.heap.size+1) (w4.heap.size+1) #[.int .i64 (g.1:Nat),.int .i64 (g.2.1:Nat),.int .i64 (g.2.2:Nat)] (by omega)).trans ((setRow_other w5.drew w.heap.size (w4.heap.size+1) #[.string ⟨#[]⟩,.slice none 0 0,.slice none 0 0,.int .i64 0,.int .i64 0] (by omega)).trans (drew_cells Z5.out)),(setRow_other (w5.drew.setRow w.heap.size #[.string ⟨#[]⟩,.slice none 0 0,.slice none 0 0,.int .i64 0,.int .i64 0]) (w.heap.size+1) w4.heap.size #[.int .i64 (g.1:Nat),.int .i64 (g.2.1:Nat),.int .i64 (g.2.2:Nat)] (by omega)).trans ((setRow_other w5.drew w.heap.size w4.heap.size #[.string ⟨#[]⟩,.slice none 0 0,.slice none 0 0,.int .i64 0,.int .i64 0] (by omega)).trans (drew_cells Y5.out))⟩) (fun hHeld=>?_)
  clear hK K
  try simp only [Act.put,Lq1,Lq2,Lq3]
  refine wpAnyH_done (by kernel_rfl) ?_ _
  have n0:=setRow_heap w5.drew w.heap.size _ #[.string ⟨#[]⟩,.slice none 0 0,.slice none 0 0,.int .i64 0,.int .i64 0] 63 _ (drew_cells A5.out)
  have n1:=setRow_heap (w5.drew.setRow w.heap.size #[.string ⟨#[]⟩,.slice none 0 0,.slice none 0 0,.int .i64 0,.int .i64 0]) (w.heap.size+1) _ #[.int .i64 (g.1:Nat),.int .i64 (g.2.1:Nat),.int .i64 (g.2.2:Nat)] 51 _ ((setRow_other w5.drew w.heap.size (w.heap.size+1) #[.string ⟨#[]⟩,.slice none 0 0,.slice none 0 0,.int .i64 0,.int .i64 0] (by omega)).trans (drew_cells B5.out))
  have k0:=(setRow_other (w5.drew.setRow w.heap.size #[.string ⟨#[]⟩,.slice none 0 0,.slice none 0 0,.int .i64 0,.int .i64 0]) (w.heap.size+1) w.heap.size #[.int .i64 (g.1:Nat),.int .i64 (g.2.1:Nat),.int .i64 (g.2.2:Nat)] (by omega)).trans n0
  have mm:=((M5.out.drew).trans (Mod.setRow w5.drew w.heap.size #[.string ⟨#[]⟩,.slice none 0 0,.slice none 0 0,.int .i64 0,.int .i64 0]) (fun t ht=>by rw [Msq] at ht;exact .inr (by omega))).trans (Mod.setRow (w5.drew.setRow w.heap.size #[.string ⟨#[]⟩,.slice none 0 0,.slice none 0 0,.int .i64 0,.int .i64 0]) (w.heap.size+1) #[.int .i64 (g.1:Nat),.int .i64 (g.2.1:Nat),.int .i64 (g.2.2:Nat)]) (fun t ht=>by rw [Msq] at ht;exact .inr (by omega))
  go_wp2_with fail
  exact bodyPost_ret (res_pair rfl _ _ w.heap.size (w.heap.size+1) #[.string ⟨#[]⟩,.slice none 0 0,.slice none 0 0,.int .i64 0,.int .i64 0] #[.int .i64 (g.1:Nat),.int .i64 (g.2.1:Nat),.int .i64 (g.2.2:Nat)] rfl rfl (run_loadVar_row (P:=Tryz.prog) _ _ _ _ _ _ _ k0 Tryz.underlying63 rfl sizeU) (run_loadVar_row (P:=Tryz.prog) _ _ _ _ _ _ _ n1 Tryz.underlying51 rfl sizeFlt)) rfl ⟨rfl,mm⟩
 | ok a i =>
  go_wp2_with fail
  refine HW.out.mono ?_
  rintro e4 w4 ⟨rfl,⟨wg,⟨C,hpC,hval⟩,mg⟩,m4⟩
  have hnb:∀ (k:Nat),k≠b->k≠px->k∉[b,px]:=fun k h1 h2=>by simp [h1,h2]
  have A4:=m4.at A3.out (hnb _ (by omega) (by omega));have B4:=m4.at B3.out (hnb _ (by omega) (by omega));have M4:=M3.out.trans m4 (fun t ht=>by simp at ht;exact .inr (by omega))
  have P4:=mg.at hpC (by simp;omega)
  have V4:=valU_keep (m:=wS.heap.size+1) hval mg (by simp) (Nat.le_refl _)
  have m5:=(Mod.refl [] w4).alloc (Obj.cells #[.int .i64 0,.int .i64 0,.int .i64 0] 51)
  have x5:=heap_alloc_new w4 (Obj.cells #[.int .i64 0,.int .i64 0,.int .i64 0] 51)
  have A5:=Hxq (m5.at A4 (by simp));have B5:=Hxq (m5.at B4 (by simp));have M5:=Hxq (M4.trans m5 (by simp));have P5:=Hxq (m5.at P4 (by simp));have V5:=Hxq (valU_keep (m:=wS.heap.size+1) V4 m5 (by simp) (Nat.le_refl _))
  have hs4:=m4.size
  obtain ⟨hC,hO⟩:=valU_cells hval
  have HO:=Lib.hid hO
  clear m4 A4 B4 M4 P4 V4 m5 hnb HW A3 B3 M3 P3 p0 H3 HV HNZ mg hpC hval hO
  obtain ⟨x50,x51,x52⟩:=cells3 x5
  clear x5
  go_upto_region 7 with fail
  generalize w4.alloc (Obj.cells _ 51)=w5 at *
  clear x50 x51 x52
  obtain ⟨p50,p51⟩:=part_c0 P5.out
  have b0:=cell_at B5.out 0;have b1:=cell_at B5.out 1;have b2:=cell_at B5.out 2
  simp only [List.getElem?_toArray,List.getElem?_cons_zero,List.getElem?_cons_succ] at b0 b1 b2
  go_wp2_with (first | refine wpList_load_mid rfl 63 _ rfl px 2 rfl C.toList _ (part_range P5.out) Tryz.underlying63 rfl (by rw [Array.length_toList];exact size_of sizeU hC) ?_ | refine wpList_store_at rfl 63 _ _ rfl w.heap.size C _ 63 rfl rfl A5.out (size_of sizeU hC) (by rw [hC];rfl) HO.out ?_ | refine wpList_store_at rfl 51 _ _ rfl (w.heap.size+1) #[.int .i64 0,.int .i64 0,.int .i64 0] _ 51 rfl rfl ((setRow_other w5 w.heap.size (w.heap.size+1) C (by omega)).trans B5.out) sizeFlt rfl rfl ?_)
  have mR:=Mod.setRow w5 w.heap.size C
  have mR2:=Mod.setRow (w5.setRow w.heap.size C) (w.heap.size+1) #[.int .i64 0,.int .i64 0,.int .i64 0]
  have a6:=setRow_heap w5 w.heap.size _ C 63 _ A5.out
  have a7:=mR2.at a6 (by simp)
  have b7:=setRow_heap (w5.setRow w.heap.size C) (w.heap.size+1) _ #[.int .i64 0,.int .i64 0,.int .i64 0] 51 _ ((setRow_other w5 w.heap.size (w.heap.size+1) C (by omega)).trans B5.out)
  refine bodyPost_ret (res_pair rfl _ _ w.heap.size (w.heap.size+1) C #[.int .i64 0,.int .i64 0,.int .i64 0] rfl rfl (run_loadVar_row (P:=Tryz.prog) _ _ _ _ _ _ _ a7 Tryz.underlying63 rfl (size_of sizeU hC)) (run_loadVar_row (P:=Tryz.prog) _ _ _ _ _ _ _ b7 Tryz.underlying51 rfl sizeFlt)) rfl ⟨C,rfl,valU_keep (valU_keep (m:=wS.heap.size+1) V5.out mR (by simp;omega) (Nat.le_refl _)) mR2 (by simp;omega) (by omega),(M5.out.trans mR (fun t ht=>?_)).trans mR2 (fun t ht=>?_)⟩
  ·rw [Msq] at ht;exact .inr (by omega)
  ·rw [Msq] at ht;exact .inr (by omega)
set_option maxHeartbeats 8000000 in
/-- the entry -/
theorem entU_any (s:ByteArray) (hs:s.size<=140737488355328) (w:World) (hG:Glob w) :
  Calls Tryz.prog 22 #[.string s] w (AllRes (Sy.whole (Sy.envOf (Cod.str s)) (Sy.rule (Sy.envOf (Cod.str s)))) (valR w.heap.size) (.agg #[.string ⟨#[]⟩,.slice none 0 0,.slice none 0 0,.int .i64 0,.int .i64 0]) w):=by
 have m0:=((Mod.refl [] w).alloc (Obj.cells #[.string ⟨#[]⟩,.slice none 0 0,.slice none 0 0,.int .i64 0,.int .i64 0] 63)).alloc (Obj.cells #[.int .i64 0,.int .i64 0,.int .i64 0] 51)
 have e0:=(((Mod.refl [] (w.alloc (Obj.cells #[.string ⟨#[]⟩,.slice none 0 0,.slice none 0 0,.int .i64 0,.int .i64 0] 63))).alloc (Obj.cells #[.int .i64 0,.int .i64 0,.int .i64 0] 51))).at (heap_alloc_new w (Obj.cells #[.string ⟨#[]⟩,.slice none 0 0,.slice none 0 0,.int .i64 0,.int .i64 0] 63)) (by simp)
 have e1:=heap_alloc_new (w.alloc (Obj.cells #[.string ⟨#[]⟩,.slice none 0 0,.slice none 0 0,.int .i64 0,.int .i64 0] 63)) (Obj.cells #[.int .i64 0,.int .i64 0,.int .i64 0] 51)
 have hs1:(w.alloc (Obj.cells #[.string ⟨#[]⟩,.slice none 0 0,.slice none 0 0,.int .i64 0,.int .i64 0] 63)).heap.size=w.heap.size+1:=by simp
 rw [hs1] at e1
 have hA:=allU_any s hs _ (hG.past m0 (by simp))
 go_enter Tryz.func22,Tryz.ntmps22
 go_upto_region 1 with fail
 generalize (w.alloc (Obj.cells _ 63)).alloc (Obj.cells _ 51)=w0 at *
 have E0:=Lib.hid e0;have E1:=Lib.hid e1;have M0:=Lib.hid m0;have HA:=Lib.hid hA
 have hw0:w.heap.size+2<=w0.heap.size:=by have:=lt_of_block e1;omega
 clear e0 e1 m0 hs1 hA
 generalize Sy.whole (Sy.envOf (Cod.str s)) _=q at *
 cases q with
 | err g =>
  go_wp2_with fail
  refine HA.out.mono ?_
  rintro e1 w1 ⟨rfl,m1⟩
  have A1:=Hxq (m1.at E0.out (by simp));have B1:=Hxq (m1.at E1.out (by simp));have M1:=Hxq (M0.out.trans m1 (by simp))
  have hsz1:=m1.size
  clear m1 HA
  unfold fltC
  go_wp2_with (first | refine wpList_store_at rfl 63 _ _ rfl w.heap.size #[.string ⟨#[]⟩,.slice none 0 0,.slice none 0 0,.int .i64 0,.int .i64 0] _ 63 rfl rfl A1.out sizeU rfl rfl ?_ | refine wpList_store_at rfl 51 _ _ rfl (w.heap.size+1) #[.int .i64 (g.1:Nat),.int .i64 (g.2.1:Nat),.int .i64 (g.2.2:Nat)] _ 51 rfl rfl ((setRow_other w1 w.heap.size (w.heap.size+1) #[.string ⟨#[]⟩,.slice none 0 0,.slice none 0 0,.int .i64 0,.int .i64 0] (by omega)).trans B1.out) sizeFlt rfl rfl ?_)
  have mR:=Mod.setRow w1 w.heap.size #[.string ⟨#[]⟩,.slice none 0 0,.slice none 0 0,.int .i64 0,.int .i64 0]
  have mR2:=Mod.setRow (w1.setRow w.heap.size #[.string ⟨#[]⟩,.slice none 0 0,.slice none 0 0,.int .i64 0,.int .i64 0]) (w.heap.size+1) #[.int .i64 (g.1:Nat),.int .i64 (g.2.1:Nat),.int .i64 (g.2.2:Nat)]
  have a6:=setRow_heap w1 w.heap.size _ #[.string ⟨#[]⟩,.slice none 0 0,.slice none 0 0,.int .i64 0,.int .i64 0] 63 _ A1.out
  have a7:=mR2.at a6 (by simp)
  have b7:=setRow_heap (w1.setRow w.heap.size #[.string ⟨#[]⟩,.slice none 0 0,.slice none 0 0,.int .i64 0,.int .i64 0]) (w.heap.size+1) _ #[.int .i64 (g.1:Nat),.int .i64 (g.2.1:Nat),.int .i64 (g.2.2:Nat)] 51 _ ((setRow_other w1 w.heap.size (w.heap.size+1) #[.string ⟨#[]⟩,.slice none 0 0,.slice none 0 0,.int .i64 0,.int .i64 0] (by omega)).trans B1.out)
  refine bodyPost_ret (res_pair rfl _ _ w.heap.size (w.heap.size+1) #[.string ⟨#[]⟩,.slice none 0 0,.slice none 0 0,.int .i64 0,.int .i64 0] #[.int .i64 (g.1:Nat),.int .i64 (g.2.1:Nat),.int .i64 (g.2.2:Nat)] rfl rfl (run_loadVar_row (P:=Tryz.prog) _ _ _ _ _ _ _ a7 Tryz.underlying63 rfl sizeU) (run_loadVar_row (P:=Tryz.prog) _ _ _ _ _ _ _ b7 Tryz.underlying51 rfl sizeFlt)) rfl ⟨rfl,(M1.out.trans mR (fun t ht=>?_)).trans mR2 (fun t ht=>?_)⟩
  ·rw [Msq] at ht;exact .inr (by omega)
  ·rw [Msq] at ht;exact .inr (by omega)
 | ok a i =>
  go_wp2_with fail
  refine HA.out.mono ?_
  rintro e1 w1 ⟨C,rfl,hval,m1⟩
  have A1:=Hxq (m1.at E0.out (by simp));have B1:=Hxq (m1.at E1.out (by simp));have M1:=Hxq (M0.out.trans m1 (by simp))
  have hsz1:=m1.size
  obtain ⟨hC,hO⟩:=valU_cells hval
  have HO:=Lib.hid hO;have HV:=Lib.hid hval
  clear m1 HA hO hval
  go_wp2_with (first | refine wpList_store_at rfl 63 _ _ rfl w.heap.size C _ 63 rfl rfl A1.out (size_of sizeU hC) (by rw [hC];rfl) HO.out ?_ | refine wpList_store_at rfl 51 _ _ rfl (w.heap.size+1) #[.int .i64 0,.int .i64 0,.int .i64 0] _ 51 rfl rfl ((setRow_other w1 w.heap.size (w.heap.size+1) C (by omega)).trans B1.out) sizeFlt rfl rfl ?_)
  have mR:=Mod.setRow w1 w.heap.size C
  have mR2:=Mod.setRow (w1.setRow w.heap.size C) (w.heap.size+1) #[.int .i64 0,.int .i64 0,.int .i64 0]
  have a6:=setRow_heap w1 w.heap.size _ C 63 _ A1.out
  have a7:=mR2.at a6 (by simp)
  have b7:=setRow_heap (w1.setRow w.heap.size C) (w.heap.size+1) _ #[.int .i64 0,.int .i64 0,.int .i64 0] 51 _ ((setRow_other w1 w.heap.size (w.heap.size+1) C (by omega)).trans B1.out)
  refine bodyPost_ret (res_pair rfl _ _ w.heap.size (w.heap.size+1) C #[.int .i64 0,.int .i64 0,.int .i64 0] rfl rfl (run_loadVar_row (P:=Tryz.prog) _ _ _ _ _ _ _ a7 Tryz.underlying63 rfl (size_of sizeU hC)) (run_loadVar_row (P:=Tryz.prog) _ _ _ _ _ _ _ b7 Tryz.underlying51 rfl sizeFlt)) rfl ⟨C,rfl,valU_keep (valU_keep (m:=w0.heap.size) HV.out mR (by simp;omega) (Nat.le_refl _)) mR2 (by simp;omega) (by omega),(M1.out.trans mR (fun t ht=>?_)).trans mR2 (fun t ht=>?_)⟩
  ·rw [Msq] at ht;exact .inr (by omega)
  ·rw [Msq] at ht;exact .inr (by omega)
end Go.Proofs.YtohnmnfhmbmoaaaGreatDoor
