/- THE TEXTS MERGED: PrExpr2. -/
import Derived.Test.YtbfaclljbbfknaaGreatDoorKP19
namespace Go.Proofs.YtbfaclljbbfknaaGreatDoor
open Go.RowKit
set_option linter.unusedVariables false
set_option linter.unusedSimpArgs false
set_option maxRecDepth 100000
theorem WrIs.setBad {w:World} {p:Nat} {q v:Value} {l:List Nat} {bad:Bool} {br:Int} (h:WrIs w p q v l bad br) :
    WrIs (w.setCell ⟨p,2,none⟩ (.bool true)) p q v l true br/\WMod p v v w (w.setCell ⟨p,2,none⟩ (.bool true)):=by
  refine ⟨⟨?_,h.adr,ownsRow_setCell_other h.row (fun e=>h.out (ownBlock_fp _ _ e)) _,h.out,h.byte,h.nil_⟩,Mod.setCell (p:=⟨p,2,none⟩) (Mod.refl _ _) (.inl List.mem_cons_self) _,fun k hk=>.inl hk⟩
  have:=setCell_at h.at_ 2 (.bool true)
  simpa using this
def OperC (w0:World) (k:Nat):Prop:=∀ (e:Pr.Ex) (u:Value) (p:Nat) (q v:Value) (l:List Nat) (bad:Bool) (br:Int) (w:World),WAt w0 w p q v l bad br->EOk w0 e u->GlobV w0->l.length+exWt e<=140737488000000 ->
  Calls Tryz.prog 27 #[.pointer (some ⟨p,0,none⟩),.agg (exV e u),.int .i64 ((k:Int) - 1)] w (WRes p v l bad br (Pr.pO k e) (exWt e - 1) w)
theorem res_bad {l:List Nat} {bad:Bool} {o:Option (List Nat)} {n:Nat} {l':List Nat} (h:l'.length<=l.length+n) (ho:bad=false->o=none):Res bad l o n l' true :=
  ⟨h,fun _=>rfl,fun hb=>⟨by rw [ho hb];rfl,fun x hx=>by rw [ho hb] at hx;cases hx⟩⟩
theorem res_if {l x:List Nat} {b:Bool} {c:Prop} [Decidable c] {n:Nat} (h:x.length<=n) (hc:c ↔ b=true):Res false l (if c then some x else none) n (l++x) (false || !b):=by
  refine ⟨by rw [List.length_append];omega,fun h=>(by cases h),fun _=>?_⟩
  by_cases hh:c
  · rw [if_pos hh,hc.1 hh]
    exact ⟨rfl,fun y hy=>by cases hy;rfl⟩
  · rw [if_neg hh,show b=false from by cases b;rfl;exact absurd (hc.2 rfl) hh]
    exact ⟨rfl,fun y hy=>by cases hy⟩
theorem res_gen {l x y:List Nat} {bad':Bool} {c:Prop} [Decidable c] {n:Nat} (h:y.length<=n) (hc:c ↔ bad'=false) (hy:c->y=x):Res false l (if c then some x else none) n (l++y) bad':=by
  refine ⟨by rw [List.length_append];omega,fun h=>(by cases h),fun _=>?_⟩
  by_cases hh:c
  · rw [if_pos hh,hc.1 hh,hy hh]
    exact ⟨rfl,fun z hz=>by cases hz;rfl⟩
  · rw [if_neg hh,show bad'=true from by cases bad';exact absurd (hc.2 rfl) hh;rfl]
    exact ⟨rfl,fun z hz=>by cases hz⟩
theorem res_sub {l l':List Nat} {b bad':Bool} {c:Prop} [Decidable c] {o:Option (List Nat)} {n m:Nat} (hr:Res (false || !b) l o m l' bad') (hm:m<=n) (hc:c ↔ b=true):Res false l (if c then o else none) n l' bad':=by
  obtain ⟨r1,r2,r3⟩:=hr
  refine ⟨by omega,fun h=>(by cases h),fun _=>?_⟩
  cases b
  · rw [if_neg (fun h=>by simpa using hc.1 h),r2 rfl]
    exact ⟨rfl,fun z hz=>by cases hz⟩
  · rw [if_pos (hc.2 rfl)]
    exact r3 rfl
theorem expr_zero (w0:World):ExprC w0 0:=by
  intro e u p q v l bad br w h hE hG hlen
  have MA:=Hxq ((Mod.refl [] w).alloc (Obj.cells (exV e u) 26))
  have HA:=Hxq (h.new MA.out)
  obtain ⟨c0,c1,c2,c3,fz⟩:=HA.out.wr.cells
  have HS:=Lib.hid HA.out.wr.setBad
  have hd:(((0:Nat):Int) - 1)=-1:=by omega
  rw [hd]
  unfold exV at *
  clear h hE hG hd
  cases bad
  all_goals (
    go_enter Tryz.func14,Tryz.ntmps14
    go_wp2_with fail
    go_end0
    exact ⟨rfl,q,v,l,true,HS.out.1,(WMod.of MA.out).trans HS.out.2,res_bad (by omega) (fun _=>rfl)⟩)
set_option maxHeartbeats 8000000 in
theorem expr_of {w0:World} {k:Nat} (hk:k<=1000) (hO:OperC w0 k):ExprC w0 (k+1):=by
  intro e u p q v l bad br w h hE hG hlen
  obtain ⟨kd,ev,ex,eop,eargs⟩:=e
  have hd:(((k+1:Nat):Int) - 1)=(k:Int):=by omega
  have hkI:¬ (k:Int)<0:=by omega
  rw [hd]
  clear hd
  have MA:=Hxq ((Mod.refl [] w).alloc (Obj.cells (exV (.mk kd ev ex eop eargs) u) 26))
  have XA:=Hxq (ExAt.of (heap_alloc_new w (Obj.cells (exV (.mk kd ev ex eop eargs) u) 26)))
  have HA:=Hxq (h.new MA.out)
  have hpw:p<w.heap.size:=h.wr.lt
  have hbp:w.heap.size≠p:=by omega
  have HBV:Hid (w.heap.size∉fp v):=Hxq (fun hk=>by have:=fp_lt h.wr.row _ hk;omega)
  obtain ⟨c0,c1,c2,c3,fz⟩:=HA.out.wr.cells
  have HS:=Lib.hid HA.out.wr.setBad
  have hsz:w.heap.size<(w.alloc (Obj.cells (exV (.mk kd ev ex eop eargs) u) 26)).heap.size:=by simp
  cases bad
  · by_cases k1:kd=1
    · subst k1
      have hpe:=Pr.pE_var k (.mk 1 ev ex eop eargs) rfl
      simp only [Pr.Ex.v,Pr.Ex.x,Pr.Ex.op,Pr.Ex.args] at hpe
      have HPE:=Lib.hid hpe
      clear hpe
      obtain ⟨a,c,rfl⟩:=hE.lit
      have hv:=(fun w=>Variable_any ev (by have:=exWt_eq (.mk 1 ev ex eop eargs);simp only [Pr.Ex.v] at this;omega) w)
      have hve:=fun W=>veq_run ex W
      have hl:((eargs.length:Int) == 0)=decide (eargs.length=0):=by rw [Bool.eq_iff_iff,beq_iff_eq,decide_eq_true_eq];omega
      have MU:=Hxq (fun b w h=>must_anyP p q v l false br b w h)
      obtain ⟨bv,hbv⟩:∃ bv:Bool,bv=Va.variable_ (Cod.str ev):=⟨_,rfl⟩
      rw [<-hbv] at hv
      have HV:=Lib.hid hv
      generalize hbx:decide (ex=Va.zero)=bx at *
      generalize hbl:decide (eargs.length=0)=bl at *
      have HCN:Hid ((Va.variable_ (Cod.str ev)=true/\ex=Va.zero/\eop=0/\eargs.length=0) ↔ (bv && (bx && ((eop == 0) && bl)))=true):=Hxq (by rw [<-hbv,<-hbx,<-hbl];simp)
      have hw:=exWt_eq (.mk 1 ev ex eop eargs)
      clear hbx hbl hbv hv h hE hG
      simp only [exV,Pr.Ex.k,Pr.Ex.v,Pr.Ex.x,Pr.Ex.op,Pr.Ex.args] at *
      go_enter Tryz.func14,Tryz.ntmps14
      go_wp2_with fail
      refine (HV.out _).mono ?_
      rintro e1 w1 ⟨rfl,m1⟩
      have W1:=Hxq (HA.out.new m1)
      have M1:=Hxq (MA.out.trans m1 (by simp))
      have X1:=Hxq (XA.out.keep m1 (by simp))
      obtain ⟨x0,x1,x2,x3,x4,x5,x6⟩:=X1.out
      simp only [Nat.zero_add,Pr.Ex.k,Pr.Ex.v,Pr.Ex.x,Pr.Ex.op,Pr.Ex.args] at x0 x1 x2 x3 x4 x5 x6
      clear m1 c0 c1 c2 c3 fz
      go_wp2_with fail
      all_goals (
        refine (must_anyP p q v l false br _ _ W1.out.wr).mono ?_
        rintro e2 w2 ⟨rfl,q2,v2,h2,m2⟩
        have W2:=Hxq (W1.out.step h2 m2);have M2:=Hxq ((WMod.of M1.out).trans m2)
        have X2:=X1.out.wstep m2 hbp HBV.out
        obtain ⟨-,y1,-,-,-,-,-⟩:=X2
        simp only [Nat.zero_add,Pr.Ex.v] at y1
        clear h2 m2 x0 x1 x2 x3 x4 x5 x6
        go_wp2_with fail
        refine (put1 W2.out rfl (by omega)).mono ?_
        rintro e3 w3 ⟨rfl,q3,v3,h3,m3⟩
        have M3:=Hxq (M2.out.trans m3);have W3:=Lib.hid h3
        clear h3 m3
        go_wp2_with fail
        go_end0
        refine ⟨rfl,q3,v3,_,_,W3.out,M3.out,?_⟩
        rw [HPE.out]
        exact res_if (by rw [Cod.str_len];omega) (HCN.out.trans (by simp_all)))
    · have kB1:(kd == 1)=false:=by rw [beq_eq_false_iff_ne];exact k1
      by_cases k2:kd=2
      · subst k2
        have hpe:=Pr.pE_val k (.mk 2 ev ex eop eargs) rfl
        simp only [Pr.Ex.v,Pr.Ex.x,Pr.Ex.op,Pr.Ex.args] at hpe
        have HPE:=Lib.hid hpe
        obtain ⟨a,c,rfl⟩:=hE.lit
        have hl:((eargs.length:Int) == 0)=decide (eargs.length=0):=by rw [Bool.eq_iff_iff,beq_iff_eq,decide_eq_true_eq];omega
        have hem:ev.toList.isEmpty=decide (ev.size=0):=toList_isEmpty ev
        generalize hbe:decide (ev.size=0)=be at *
        generalize hbl:decide (eargs.length=0)=bl at *
        have HCN:Hid ((ev.size=0/\eop=0/\eargs.length=0/\Va.may ex=true) ↔ ((be && ((eop == 0) && bl))=true/\Va.may ex=true)):=Hxq (by rw [<-hbe,<-hbl];simp [and_assoc])
        have HX:=Lib.hid hE.ok
        have HG0:=Lib.hid hG
        have hw:=exWt_eq (.mk 2 ev ex eop eargs)
        have HTL:Hid ((if Va.may ex then Va.text ex else []).length<=258):=Hxq (by
          by_cases hm:Va.may ex=true
          · rw [if_pos hm];exact (Va.rguess_text hE.ok.byte hm).2.1
          · rw [if_neg hm];simp)
        clear hbe hbl h hE hG hpe kB1
        simp only [exV,Pr.Ex.k,Pr.Ex.v,Pr.Ex.x,Pr.Ex.op,Pr.Ex.args] at *
        go_enter Tryz.func14,Tryz.ntmps14
        go_upto_region 1 with fail
        generalize w.alloc (Obj.cells #[Value.int IntKind.i64 2,Value.string ev,Value.int IntKind.i64 ex.k,Value.int IntKind.i64 ex.n,Value.string (Lx.ofS ex.s),Value.int IntKind.i64 eop,Value.slice a eargs.length c] 26)=wA at *
        obtain ⟨x0,x1,x2,x3,x4,x5,x6⟩:=XA.out
        simp only [Nat.zero_add,Pr.Ex.k,Pr.Ex.v,Pr.Ex.x,Pr.Ex.op,Pr.Ex.args] at x0 x1 x2 x3 x4 x5 x6
        go_wp2_with fail
        all_goals (
          refine (must_anyP p q v l false br _ _ HA.out.wr).mono ?_
          rintro e2 w2 ⟨rfl,q2,v2,h2,m2⟩
          have W2:=Hxq (HA.out.step h2 m2);have M2:=Hxq ((WMod.of MA.out).trans m2)
          have X2:=XA.out.wstep m2 hbp HBV.out
          obtain ⟨-,-,y2,y3,y4,-,-⟩:=X2
          simp only [Nat.zero_add,Pr.Ex.x] at y2 y3 y4
          clear h2 m2 c0 c1 c2 c3 fz x0 x1 x2 x3 x4 x5 x6
          go_wp2_with fail
          refine (wvalue_any p q2 v2 l _ br ex HX.out _ W2.out.wr (HG0.out.past W2.out.base (by simp)) (by omega)).mono ?_
          rintro e3 w3 ⟨rfl,q3,v3,h3,m3⟩
          have M3:=Hxq (M2.out.trans m3);have W3:=Lib.hid h3
          clear h3 m3
          go_wp2_with fail
          go_end0
          refine ⟨rfl,q3,v3,_,_,W3.out,M3.out,?_⟩
          rw [HPE.out]
          have htl:=HTL.out
          exact res_gen (by omega) (HCN.out.trans (by cases Va.may ex <;> simp_all)) (fun hc=>by rw [if_pos hc.2.2.2]))
      · have kB2:(kd == 2)=false:=by rw [beq_eq_false_iff_ne];exact k2
        by_cases k4:kd=4
        · subst k4
          have hpe:=Pr.pE_op k (.mk 4 ev ex eop eargs) rfl
          simp only [Pr.Ex.v,Pr.Ex.x,Pr.Ex.op,Pr.Ex.args] at hpe
          have HPE:=Lib.hid hpe
          have HO:=Hxq (fun q v l bad br w h hl=>hO (.mk 4 ev ex eop eargs) u p q v l bad br w h hE hG hl)
          have hve:=fun W=>veq_run ex W
          have hem:ev.toList.isEmpty=decide (ev.size=0):=toList_isEmpty ev
          have HST:=Hxq (fun w=>strength_any eop w)
          generalize hbe:decide (ev.size=0)=be at *
          generalize hbx:decide (ex=Va.zero)=bx at *
          have HCN:Hid ((ev.size=0/\ex=Va.zero/\0<Pr.strength eop) ↔ (be && (bx && decide ((Pr.strength eop:Int) > 0)))=true):=Hxq (by rw [<-hbe,<-hbx];simp)
          have hw:=exWt_eq (.mk 4 ev ex eop eargs)
          clear hbe hbx h hE hG hpe kB1 kB2
          simp only [exV,Pr.Ex.k,Pr.Ex.v,Pr.Ex.x,Pr.Ex.op,Pr.Ex.args] at *
          go_enter Tryz.func14,Tryz.ntmps14
          go_upto_region 1 with fail
          generalize w.alloc (Obj.cells #[Value.int IntKind.i64 4,Value.string ev,Value.int IntKind.i64 ex.k,Value.int IntKind.i64 ex.n,Value.string (Lx.ofS ex.s),Value.int IntKind.i64 eop,u] 26)=wA at *
          obtain ⟨x0,x1,x2,x3,x4,x5,x6⟩:=XA.out
          simp only [Nat.zero_add,Pr.Ex.k,Pr.Ex.v,Pr.Ex.x,Pr.Ex.op,Pr.Ex.args] at x0 x1 x2 x3 x4 x5 x6
          go_wp2_with fail
          all_goals (
            first
              | (refine (HST.out _).mono ?_
                 rintro e1 w1 ⟨rfl,rfl⟩
                 go_wp2_with fail
                 refine (must_anyP p q v l false br _ _ HA.out.wr).mono ?_)
              | (refine (must_anyP p q v l false br _ _ HA.out.wr).mono ?_)
            rintro e2 w2 ⟨rfl,q2,v2,h2,m2⟩
            have W2:=Hxq (HA.out.step h2 m2);have M2:=Hxq ((WMod.of MA.out).trans m2)
            have X2:=XA.out.wstep m2 hbp HBV.out
            clear h2 m2 c0 c1 c2 c3 fz x0 x1 x2 x3 x4 x5 x6
            obtain ⟨y0,y1,y2,y3,y4,y5,y6⟩:=X2
            simp only [Nat.zero_add,Pr.Ex.k,Pr.Ex.v,Pr.Ex.x,Pr.Ex.op,Pr.Ex.args] at y0 y1 y2 y3 y4 y5 y6
            go_wp2_with fail
            refine (HO.out q2 v2 l _ br _ W2.out hlen).mono ?_
            rintro e3 w3 ⟨rfl,q3,v3,l3,bad3,h3,m3,r3⟩
            have M3:=Hxq (M2.out.trans m3);have W3:=Lib.hid h3;have R3:=Lib.hid r3
            clear h3 m3 r3
            go_wp2_with fail
            go_end0
            refine ⟨rfl,q3,v3,l3,bad3,W3.out,M3.out,?_⟩
            rw [HPE.out]
            exact res_sub R3.out (by omega) (HCN.out.trans (by simp_all)))
        · have kB4:(kd == 4)=false:=by rw [beq_eq_false_iff_ne];exact k4
          have HPE:=Hxq (Pr.pE_other k (.mk kd ev ex eop eargs) k1 k2 k4)
          clear h hE hG hbp hpw hsz
          simp only [exV,Pr.Ex.k,Pr.Ex.v,Pr.Ex.x,Pr.Ex.op,Pr.Ex.args] at *
          clear k1 k2 k4
          go_enter Tryz.func14,Tryz.ntmps14
          go_wp2_with fail
          go_end0
          exact ⟨rfl,q,v,l,true,HS.out.1,(WMod.of MA.out).trans HS.out.2,res_bad (by omega) (fun _=>HPE.out)⟩
  · simp only [exV,Pr.Ex.k,Pr.Ex.v,Pr.Ex.x,Pr.Ex.op,Pr.Ex.args] at *
    clear hbp hpw hsz
    go_enter Tryz.func14,Tryz.ntmps14
    go_wp2_with fail
    go_end0
    exact ⟨rfl,q,v,l,true,HS.out.1,(WMod.of MA.out).trans HS.out.2,res_bad (by omega) (fun h=>by cases h)⟩
end Go.Proofs.YtbfaclljbbfknaaGreatDoor
