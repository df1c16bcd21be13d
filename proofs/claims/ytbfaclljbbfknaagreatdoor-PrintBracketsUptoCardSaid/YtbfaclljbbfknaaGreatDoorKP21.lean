/- THE TEXTS MERGED: PrOper. -/
import Derived.Test.YtbfaclljbbfknaaGreatDoorKP20
namespace Go.Proofs.YtbfaclljbbfknaaGreatDoor
open Go.RowKit
set_option linter.unusedVariables false
set_option linter.unusedSimpArgs false
set_option maxRecDepth 100000
theorem pO_neg (j:Nat) (k:Int) (v:ByteArray) (x:Va.Val) (a:Pr.Ex):Pr.pO (j+1) (.mk k v x 6 [a]) =
  (if Pr.binds a<3\/(a.k=2/\a.x.k=1/\0<a.x.n) then (Pr.pE j a).map (fun t=>40 :: (t++[41])) else Pr.pE (j+1) a).map (fun t=>45 :: ((if a.k=2/\a.x.k=1/\a.x.n=0 then [45] else [])++t)):=rfl
theorem pO_neg_none (j:Nat) (e:Pr.Ex) (h6:e.op=6) (h:e.args.length≠1):Pr.pO (j+1) e=none:=by
 obtain ⟨k,v,x,op,args⟩:=e
 match args,h with
 | [],_=>rfl
 | [_,_],_=>simp only [Pr.Ex.op] at h6;subst h6;rfl
 | _ :: _ :: _ :: _,_=>rfl
theorem pO_two_none (j:Nat) (e:Pr.Ex) (h6:e.op≠6) (h:e.args.length≠2):Pr.pO (j+1) e=none:=by
 obtain ⟨k,v,x,op,args⟩:=e
 simp only [Pr.Ex.op] at h6
 match args,h with
 | [],_=>rfl
 | [_],_=>exact if_neg h6
 | _ :: _ :: _ :: _,_=>rfl
theorem Res.pre {l z l9:List Nat} {bad9:Bool} {o o':Option (List Nat)} {n m:Nat} (r:Res false (l++z) o n l9 bad9) (ho:o'=o.map (fun t=>z++t)) (hm:z.length+n<=m):Res false l o' m l9 bad9:=by
 obtain ⟨r1,r2,r3⟩:=r
 refine ⟨by rw [List.length_append] at r1;omega,fun h=>(by cases h),fun _=>?_⟩
 obtain ⟨r4,r5⟩:=r3 rfl
 subst ho
 refine ⟨by rw [r4];cases o <;> rfl,fun x hx=>?_⟩
 obtain ⟨t,ht,rfl⟩:=Option.map_eq_some_iff.1 hx
 rw [r5 t ht,List.append_assoc]
theorem Res.seq {l l1 l2:List Nat} {bad bad1 bad2:Bool} {o1 o2:Option (List Nat)} {n1 n2:Nat} (r:Res bad l o1 n1 l1 bad1) (s:Res bad1 l1 o2 n2 l2 bad2) :
  Res bad l (o1.bind fun x=>o2.map fun y=>x++y) (n1+n2) l2 bad2:=by
 obtain ⟨r1,r2,r3⟩:=r
 obtain ⟨s1,s2,s3⟩:=s
 refine ⟨by omega,fun h=>s2 (r2 h),fun hb=>?_⟩
 obtain ⟨r4,r5⟩:=r3 hb
 cases o1 with
 | none=>exact ⟨by rw [s2 r4];rfl,fun x hx=>by cases hx⟩
 | some x =>
  obtain ⟨s4,s5⟩:=s3 r4
  refine ⟨by rw [s4];cases o2 <;> rfl,fun y hy=>?_⟩
  cases o2 with
  | none=>cases hy
  | some z =>
   simp only [Option.bind_some,Option.map_some,Option.some.injEq] at hy
   rw [s5 z rfl,r5 x rfl,<-hy,List.append_assoc]
theorem Res.put (l:List Nat) (bad:Bool) (s:List Nat):Res bad l (some s) s.length (l++s) bad :=
 ⟨by rw [List.length_append];omega,fun h=>h,fun h=>⟨h,fun x hx=>by cases hx;rfl⟩⟩
theorem Res.of {l l':List Nat} {bad bad':Bool} {o o':Option (List Nat)} {n m:Nat} (r:Res bad l o n l' bad') (ho:o=o') (hm:n<=m):Res bad l o' m l' bad':=by
 subst ho
 exact ⟨by have:=r.1;omega,r.2.1,r.2.2⟩
/-- some texts put at once -/
theorem putS {w0 w:World} {p:Nat} {q v:Value} {l:List Nat} {bad:Bool} {br:Int} (h:WAt w0 w p q v l bad br) {g n:Nat} (ss:List ByteArray) {T:TypeId} (hg:w.heap.size=g) (hn:ss.length=n) (h1000:ss.length<=1000)
  (hlen:l.length+(ss.flatMap Cod.str).length<=140737488355328) :
  Calls Tryz.prog 20 #[.pointer (some ⟨p,0,none⟩),.slice (some ⟨g,0,none⟩) n n] (w.alloc (Obj.cells (ss.map Value.string).toArray T)) (WLaid p v (l++ss.flatMap Cod.str) bad br w):=by
 subst hg
 subst hn
 have hal:=(Mod.refl [] w).alloc (Obj.cells (ss.map Value.string).toArray T)
 have hcell:=heap_alloc_new w (Obj.cells (ss.map Value.string).toArray T)
 have hP:=put_any p q v l bad br w.heap.size ss.length ss _ (h.wr.past hal (by simp)) (by simp) (by have:=h.wr.lt;omega) (fun hk=>by have:=fp_lt h.wr.row _ hk;omega) (fun i hi=>by
  simp only [World.cell?,hcell]
  simp [hi]) h1000 hlen
 refine hP.mono ?_
 rintro e w' ⟨rfl,q',v',h',m'⟩
 exact ⟨rfl,q',v',h',(WMod.of hal).trans m'⟩
theorem pO_two (j:Nat) (k:Int) (v:ByteArray) (x:Va.Val) (op:Int) (a b:Pr.Ex) (h:op≠6):Pr.pO (j+1) (.mk k v x op [a,b]) =
  (((if decide (Pr.binds a<Pr.strength op)=true then (Pr.pE j a).map (fun t=>40 :: (t++[41])) else Pr.pE (j+1) a).bind fun x=>(some (32 :: (Pr.sign op++[32]))).map fun y=>x++y).bind fun x =>
   (if decide (Pr.binds b<=Pr.strength op)=true then (Pr.pE j b).map (fun t=>40 :: (t++[41])) else Pr.pE (j+1) b).map fun y=>x++y):=by
 have e:Pr.pO (j+1) (.mk k v x op [a,b])=if op=6 then none else match (if Pr.binds a<Pr.strength op then (Pr.pE j a).map (fun t=>40 :: (t++[41])) else Pr.pE (j+1) a),(if Pr.binds b<=Pr.strength op then (Pr.pE j b).map (fun t=>40 :: (t++[41])) else Pr.pE (j+1) b) with
   | some l,some r=>some (l++(32 :: (Pr.sign op++(32 :: r))))
   | _,_=>none:=rfl
 rw [e,if_neg h]
 simp only [decide_eq_true_eq]
 generalize (if Pr.binds a<Pr.strength op then (Pr.pE j a).map (fun t=>40 :: (t++[41])) else Pr.pE (j+1) a)=A
 generalize (if Pr.binds b<=Pr.strength op then (Pr.pE j b).map (fun t=>40 :: (t++[41])) else Pr.pE (j+1) b)=B
 cases A <;> cases B <;> simp
theorem oper_zero (w0:World):OperC w0 0:=by
 intro e u p q v l bad br w h hE hG hlen
 obtain ⟨kd,ev,ex,eop,eargs⟩:=e
 have MA:=Hxq ((Mod.refl [] w).alloc (Obj.cells (exV (.mk kd ev ex eop eargs) u) 26))
 have HA:=Hxq (h.new MA.out)
 obtain ⟨c0,c1,c2,c3,fz⟩:=HA.out.wr.cells
 have HS:=Lib.hid HA.out.wr.setBad
 obtain ⟨ad,c,rfl⟩:=hE.lit
 have hd:(((0:Nat):Int) - 1)=-1:=by omega
 rw [hd]
 simp only [exV,Pr.Ex.k,Pr.Ex.v,Pr.Ex.x,Pr.Ex.op,Pr.Ex.args] at *
 clear h hE hG hd
 cases bad
 all_goals (
  go_enter Tryz.func27,Tryz.ntmps27
  go_wp2_with fail
  all_goals go_end0
  all_goals exact ⟨rfl,q,v,l,true,HS.out.1,(WMod.of MA.out).trans HS.out.2,res_bad (by omega) (fun _=>rfl)⟩)
set_option maxHeartbeats 8000000 in
theorem oper_of {w0:World} {j:Nat} (hj:j<=1000) (h1:ExprC w0 j) (h2:ExprC w0 (j+1)):OperC w0 (j+1):=by
 intro e u p q v l bad br w h hE hG hlen
 have hC:ArgC w0 j:=arg_of hj h1 h2
 obtain ⟨kd,ev,ex,eop,eargs⟩:=e
 have hd:(((j+1:Nat):Int) - 1)=(j:Int):=by omega
 have hkI:¬ (j:Int)<0:=by omega
 rw [hd]
 clear hd
 obtain ⟨ad,c,rfl⟩:=hE.lit
 have MA:=Hxq ((Mod.refl [] w).alloc (Obj.cells (exV (.mk kd ev ex eop eargs) (.slice ad eargs.length c)) 26))
 have XA:=Hxq (ExAt.of (heap_alloc_new w (Obj.cells (exV (.mk kd ev ex eop eargs) (.slice ad eargs.length c)) 26)))
 have HA:=Hxq (h.new MA.out)
 have hpw:p<w.heap.size:=h.wr.lt
 have hbp:w.heap.size≠p:=by omega
 have HBV:Hid (w.heap.size∉fp v):=Hxq (fun hk=>by have:=fp_lt h.wr.row _ hk;omega)
 obtain ⟨c0,c1,c2,c3,fz⟩:=HA.out.wr.cells
 have HS:=Lib.hid HA.out.wr.setBad
 have hsz:w.heap.size+1=(w.alloc (Obj.cells (exV (.mk kd ev ex eop eargs) (.slice ad eargs.length c)) 26)).heap.size:=by simp
 cases bad
 ·by_cases o6:eop=6
  ·by_cases hn:eargs.length=1
   ·subst o6
    obtain ⟨a,rfl⟩:∃ a,eargs=[a]:=by
     match eargs,hn with
     | [a],_=>exact ⟨a,rfl⟩
    obtain ⟨ak,av,ax,aop,aargs⟩:=a
    obtain ⟨b,off,ua,rfl,hAt,hOk⟩:=hE.at 0 (by simp [Pr.Ex.args])
    simp only [Pr.Ex.args,Nat.zero_mul,Nat.add_zero,List.getElem_cons_zero] at hAt hOk
    obtain ⟨aad,ac,rfl⟩:=hOk.lit
    have HPO:=Hxq (pO_neg j kd ev ex (.mk ak av ax aop aargs))
    have hw:=exWt_eq (.mk kd ev ex 6 [.mk ak av ax aop aargs])
    simp only [Pr.Ex.args,Pr.Ex.v,exWts] at hw
    have HAR:=Hxq (fun m q v l bad br w h hl=>hC (.mk ak av ax aop aargs) (.slice aad aargs.length ac) m p q v l bad br w h hOk hG hl)
    have HB:=Hxq (fun w=>binds_any (.mk ak av ax aop aargs) (.slice aad aargs.length ac) w)
    have HAT:=Lib.hid hAt
    clear h hE hG hC h1 h2 hAt hOk hn
    simp only [exV,Pr.Ex.k,Pr.Ex.v,Pr.Ex.x,Pr.Ex.op,Pr.Ex.args,List.length_cons,List.length_nil] at *
    go_enter Tryz.func27,Tryz.ntmps27
    go_upto_region 1 with fail
    generalize w.alloc (Obj.cells #[Value.int IntKind.i64 kd,Value.string ev,Value.int IntKind.i64 ex.k,Value.int IntKind.i64 ex.n,Value.string (Lx.ofS ex.s),Value.int IntKind.i64 6,Value.slice (some ⟨b,off,none⟩) (0+1) c] 26)=wA at *
    obtain ⟨x0,x1,x2,x3,x4,x5,x6⟩:=XA.out
    simp only [Nat.zero_add,Pr.Ex.k,Pr.Ex.v,Pr.Ex.x,Pr.Ex.op,Pr.Ex.args] at x0 x1 x2 x3 x4 x5 x6
    obtain ⟨a0,a1,a2,a3,a4,a5,a6⟩:=HAT.out.keep HA.out.base (by simp)
    simp only [Pr.Ex.k,Pr.Ex.v,Pr.Ex.x,Pr.Ex.op,Pr.Ex.args] at a0 a1 a2 a3 a4 a5 a6
    have MB:=Hxq ((Mod.refl [] wA).alloc (Obj.cells #[Value.int IntKind.i64 ak,Value.string av,Value.int IntKind.i64 ax.k,Value.int IntKind.i64 ax.n,Value.string (Lx.ofS ax.s),Value.int IntKind.i64 aop,Value.slice aad aargs.length ac] 26))
    have XB:=Hxq (ExAt.of (e:=.mk ak av ax aop aargs) (heap_alloc_new wA (Obj.cells #[Value.int IntKind.i64 ak,Value.string av,Value.int IntKind.i64 ax.k,Value.int IntKind.i64 ax.n,Value.string (Lx.ofS ax.s),Value.int IntKind.i64 aop,Value.slice aad aargs.length ac] 26)))
    have hszB:wA.heap.size+1=(wA.alloc (Obj.cells #[Value.int IntKind.i64 ak,Value.string av,Value.int IntKind.i64 ax.k,Value.int IntKind.i64 ax.n,Value.string (Lx.ofS ax.s),Value.int IntKind.i64 aop,Value.slice aad aargs.length ac] 26)).heap.size:=by simp
    go_upto_region 8 with fail
    generalize wA.alloc (Obj.cells #[Value.int IntKind.i64 ak,Value.string av,Value.int IntKind.i64 ax.k,Value.int IntKind.i64 ax.n,Value.string (Lx.ofS ax.s),Value.int IntKind.i64 aop,Value.slice aad aargs.length ac] 26)=wB at *
    have HWB:=Hxq (HA.out.new MB.out)
    have M0:=Hxq (WMod.of (p:=p) (v:=v) (MA.out.trans MB.out (by simp)))
    have hpB:wA.heap.size≠p:=by have:=HA.out.wr.lt;omega
    have hpv:wA.heap.size∉fp v:=fun hk=>by have:=fp_lt HA.out.wr.row _ hk;omega
    have HPV:=Lib.hid hpv
    clear hpv a0 a1 a2 a3 a4 a5 a6 x0 x1 x2 x3 x4 x5 x6 c0 c1 c2 c3 fz HS XA
    obtain ⟨y0,y1,y2,y3,y4,y5,y6⟩:=XB.out
    simp only [Nat.zero_add,Pr.Ex.k,Pr.Ex.v,Pr.Ex.x,Pr.Ex.op,Pr.Ex.args] at y0 y1 y2 y3 y4 y5 y6
    go_cut [8] (fun c wx=>c=.bool ((ak == 2) && (ax.k == 1))/\wx=wB)
    case first =>
     by_cases e1:ak=2
     ·subst e1
      by_cases e2:ax.k=1
      ·rw [e2] at *
       go_wp2_with fail
       go_meet
       exact ⟨by rfl,rfl⟩
      ·have e2B:(ax.k == 1)=false:=by rw [beq_eq_false_iff_ne];exact e2
       clear e2
       go_wp2_with fail
       go_meet
       exact ⟨by simp [e2B],rfl⟩
     ·have e1B:(ak == 2)=false:=by rw [beq_eq_false_iff_ne];exact e1
      clear e1
      go_wp2_with fail
      go_meet
      exact ⟨by simp [e1B],rfl⟩
    case rest =>
     obtain ⟨rfl,rfl⟩:=hcut
     have HN:Hid (((ak == 2) && (ax.k == 1))=decide (ak=2/\ax.k=1)):=Hxq (by rw [Bool.eq_iff_iff];simp)
     obtain ⟨N,hN⟩:∃ N,((ak == 2) && (ax.k == 1))=N:=⟨_,rfl⟩
     have HN:=HN.out
     rw [hN] at HN ⊢
     have HNN:=Lib.hid HN
     clear hN HN
     go_wp2_with fail
     refine (put1 HWB.out (s:={ data:=#[45] }) rfl (by simp [ByteArray.size];omega)).mono ?_
     rintro e1 w1 ⟨rfl,q1,v1,h1,m1⟩
     have W1:=Hxq (HWB.out.step h1 m1);have M1:=Hxq (M0.out.trans m1)
     have X1:=Hxq (XB.out.wstep m1 hpB HPV.out)
     have hs1:wA.heap.size<w1.heap.size:=by have:=m1.size;omega
     have V1:=Hxq (m1.beside (b:=wA.heap.size) (by omega) HPV.out)
     clear h1 m1 y0 y1 y2 y3 y4 y5 y6
     obtain ⟨y0,y1,y2,y3,y4,y5,y6⟩:=X1.out
     simp only [Nat.zero_add,Pr.Ex.k,Pr.Ex.v,Pr.Ex.x,Pr.Ex.op,Pr.Ex.args] at y0 y1 y2 y3 y4 y5 y6
     go_upto_region 10 with fail
     go_cut [55] (fun c wx=>c=.bool (N && (ax.n == 0))/\wx=w1)
     case first =>
      cases N
      ·go_wp2_with fail
       go_meet
       exact ⟨by rfl,rfl⟩
      ·by_cases e2:ax.n=0
       ·rw [e2] at *
        go_wp2_with fail
        go_meet
        exact ⟨by rfl,rfl⟩
       ·have e2B:(ax.n == 0)=false:=by rw [beq_eq_false_iff_ne];exact e2
        clear e2
        go_wp2_with fail
        go_meet
        exact ⟨by simp [e2B],rfl⟩
     case rest =>
      obtain ⟨rfl,rfl⟩:=hcut
      have HZ:=Hxq (show (N && (ax.n == 0))=decide (ak=2/\ax.k=1/\ax.n=0) from by rw [HNN.out,Bool.eq_iff_iff];simp [and_assoc])
      obtain ⟨Z,hZ⟩:∃ Z,(N && (ax.n == 0))=Z:=⟨_,rfl⟩
      have HZ:=HZ.out
      rw [hZ] at HZ ⊢
      have HZZ:=Lib.hid HZ
      clear hZ HZ
      go_upto_if 55 with fail
      go_cut [] (fun wx=>∃ q2 v2,WAt w0 wx p q2 v2 (l++(45 :: (if Z then [45] else []))) false br/\WMod p v v2 w wx/\ExAt wx wA.heap.size 0 (.mk ak av ax aop aargs) (.slice aad aargs.length ac)/\wA.heap.size∉fp v2)
      case first =>
       cases Z
       ·go_wp2_with fail
        go_meet
        exact ⟨q1,v1,W1.out,M1.out,X1.out,V1.out⟩
       ·go_wp2_with fail
        refine (put1 W1.out (s:={ data:=#[45] }) rfl (by rw [List.length_append,Cod.str_len];simp [ByteArray.size];omega)).mono ?_
        rintro e2 w2 ⟨rfl,q2,v2,h2,m2⟩
        have W2:=Hxq (W1.out.step h2 m2);have M2:=Hxq (M1.out.trans m2)
        have X2:=Hxq (X1.out.wstep m2 hpB V1.out)
        have V2:=Hxq (m2.beside (b:=wA.heap.size) (hs1) V1.out)
        clear h2 m2 y0 y1 y2 y3 y4 y5 y6
        go_wp2_with fail
        go_meet
        exact ⟨q2,v2,by have h:=W2.out;rw [List.append_assoc] at h;exact h,M2.out,X2.out,V2.out⟩
      case rest =>
       clear y0 y1 y2 y3 y4 y5 y6 hs1
       obtain ⟨q2,v2,W2,M2,X2,V2⟩:=hcut
       have W2:=Hxq (W2.new (Mod.refl [] wc).drew);have M2:=Hxq (M2.trans (WMod.of (Mod.refl [] wc).drew));have X2:=Hxq (X2.keep (Mod.refl [] wc).drew (by simp))
       have HL:=Hxq (show (l++(45 :: (if Z then [45] else []))).length<=l.length+2 from by cases Z <;> simp)
       have HBN:Hid (∀ m:Bool,m=decide (Pr.binds (.mk ak av ax aop aargs)<3\/(ak=2/\ax.k=1/\0<ax.n))->Pr.pO (j+1) (.mk kd ev ex 6 [.mk ak av ax aop aargs])=Option.map (fun t=>(45 :: (if Z then [45] else []))++t) (if m=true then (Pr.pE j (.mk ak av ax aop aargs)).map (fun t=>40 :: (t++[41])) else Pr.pE (j+1) (.mk ak av ax aop aargs))):=Hxq (fun m hm=>by
        rw [HPO.out,hm,HZZ.out]
        simp only [decide_eq_true_eq]
        rfl)
       clear HPO HZZ
       generalize Pr.binds (.mk ak av ax aop aargs)=bn at *
       by_cases hb:bn<3
       ·have hbI:decide ((bn:Int)<3)=true:=by rw [decide_eq_true_eq];omega
        have HM:=Hxq (HBN.out true (by simp [hb]))
        clear hb HBN
        go_wp2_with fail
        refine wp_region_held_drew (S:=(fun w':World=>w'.cell? ⟨wA.heap.size,0,none⟩=some (.int .i64 ak)/\w'.cell? ⟨wA.heap.size,0+1,none⟩=some (.string av)/\w'.cell? ⟨wA.heap.size,0+2,none⟩=some (.int .i64 ax.k)/\w'.cell? ⟨wA.heap.size,0+3,none⟩=some (.int .i64 ax.n)/\w'.cell? ⟨wA.heap.size,0+4,none⟩=some (.string (Lx.ofS ax.s))/\w'.cell? ⟨wA.heap.size,0+5,none⟩=some (.int .i64 aop)/\w'.cell? ⟨wA.heap.size,0+6,none⟩=some (.slice aad aargs.length ac))) (by kernel_rfl) (by (try dsimp only);exact ⟨X2.out.c0,X2.out.c1,X2.out.c2,X2.out.c3,X2.out.c4,X2.out.c5,X2.out.c6⟩) (fun hHeld=>?_)
        refine Tkq 0 (v:=?_) (by assumption) ?_ ?_ ?_
        rotate_left 1
        ·refine .inl ⟨by rfl,?_⟩;intro w hSw;(try dsimp only at hSw);go_simp
         all_goals with_reducible rfl
        ·exact fun _ _ _ h=>h
        try simp only [Act.put,Lq1,Lq2,Lq3]
        refine Tkq 1 (v:=?_) (by assumption) ?_ ?_ ?_
        rotate_left 1
        ·refine .inl ⟨by rfl,?_⟩;intro w hSw;(try dsimp only at hSw);go_simp
         all_goals with_reducible rfl
        ·exact fun _ _ _ h=>h
        try simp only [Act.put,Lq1,Lq2,Lq3]
        refine Tkq 2 (v:=?_) (by assumption) ?_ ?_ ?_
        rotate_left 1
        ·refine .inl ⟨by rfl,?_⟩;intro w hSw;(try dsimp only at hSw);go_simp
         all_goals with_reducible rfl
        ·exact fun _ _ _ h=>h
        try simp only [Act.put,Lq1,Lq2,Lq3]
        refine Tkq 14 (v:=?_) (by assumption) ?_ ?_ ?_
        rotate_left 1
        ·refine .inl ⟨by rfl,?_⟩;intro w hSw;(try dsimp only at hSw);go_simp
         all_goals with_reducible rfl
        ·exact fun _ _ _ h=>h
        try simp only [Act.put,Lq1,Lq2,Lq3]
        refine wpAnyH_ready (rs:=[3]) (by kernel_rfl) (by simp) ?_
        refine AllReadyH.cons (o:=?_) ?_ ?_ AllReadyH.nil
        rotate_left 1
        ·(simp only [Gq1,Gq2,Gq3])<;>rfl
        intro K hK
        go_simp
        refine (HB.out _).mono ?_
        rintro e8 w8 ⟨rfl,m8⟩
        have X8:=Hxq (X2.out.keep m8 (by simp));have W8:=Hxq (W2.out.new m8)
        refine hK.out _ _ (by (try dsimp only);exact ⟨X8.out.c0,X8.out.c1,X8.out.c2,X8.out.c3,X8.out.c4,X8.out.c5,X8.out.c6⟩) (fun hHeld=>?_)
        clear hK K
        try simp only [Act.put,Lq1,Lq2,Lq3]
        refine Tkq 4 (v:=?_) (by assumption) ?_ ?_ ?_
        rotate_left 1
        ·refine .inl ⟨by rfl,?_⟩;intro w hSw;(try dsimp only at hSw);go_simp
         all_goals with_reducible rfl
        ·exact fun _ _ _ h=>h
        try simp only [Act.put,Lq1,Lq2,Lq3]
        refine Tkq 5 (v:=?_) (by assumption) ?_ ?_ ?_
        rotate_left 1
        ·refine .inl ⟨by rfl,?_⟩;intro w hSw;(try dsimp only at hSw);go_simp
         all_goals with_reducible rfl
        ·exact fun _ _ _ h=>h
        try simp only [Act.put,Lq1,Lq2,Lq3]
        refine wpAnyH_take (i:=6) (oi:=?_) (v:=undef) ?_ ?_ ?_ ?_ ?_ ?_ (by assumption) ?_
        rotate_left 1
        ·(simp only [Gq1,Gq2,Gq3])<;>rfl
        ·kernel_rfl
        ·kernel_rfl
        ·kernel_rfl
        rotate_left 1
        ·exact Or.inr ⟨by rfl,rfl⟩
        rotate_left 1
        ·exact fun _ _ _ h=>h
        try simp only [Act.put,Lq1,Lq2,Lq3]
        refine wpAnyH_take (i:=7) (oi:=?_) (v:=undef) ?_ ?_ ?_ ?_ ?_ ?_ (by assumption) ?_
        rotate_left 1
        ·(simp only [Gq1,Gq2,Gq3])<;>rfl
        ·kernel_rfl
        ·kernel_rfl
        ·kernel_rfl
        rotate_left 1
        ·exact Or.inr ⟨by rfl,rfl⟩
        rotate_left 1
        ·exact fun _ _ _ h=>h
        try simp only [Act.put,Lq1,Lq2,Lq3]
        refine wpAnyH_take (i:=8) (oi:=?_) (v:=undef) ?_ ?_ ?_ ?_ ?_ ?_ (by assumption) ?_
        rotate_left 1
        ·(simp only [Gq1,Gq2,Gq3])<;>rfl
        ·kernel_rfl
        ·kernel_rfl
        ·kernel_rfl
        rotate_left 1
        ·exact Or.inr ⟨by rfl,rfl⟩
        rotate_left 1
        ·exact fun _ _ _ h=>h
        try simp only [Act.put,Lq1,Lq2,Lq3]
        refine wpAnyH_take (i:=9) (oi:=?_) (v:=undef) ?_ ?_ ?_ ?_ ?_ ?_ (by assumption) ?_
        rotate_left 1
        ·(simp only [Gq1,Gq2,Gq3])<;>rfl
        ·kernel_rfl
        ·kernel_rfl
        ·kernel_rfl
        rotate_left 1
        ·exact Or.inr ⟨by rfl,rfl⟩
        rotate_left 1
        ·exact fun _ _ _ h=>h
        try simp only [Act.put,Lq1,Lq2,Lq3]
        refine wpAnyH_take (i:=10) (oi:=?_) (v:=undef) ?_ ?_ ?_ ?_ ?_ ?_ (by assumption) ?_
        rotate_left 1
        ·(simp only [Gq1,Gq2,Gq3])<;>rfl
        ·kernel_rfl
        ·kernel_rfl
        ·kernel_rfl
        rotate_left 1
        ·exact Or.inr ⟨by rfl,rfl⟩
        rotate_left 1
        ·exact fun _ _ _ h=>h
        try simp only [Act.put,Lq1,Lq2,Lq3]
        refine wpAnyH_take (i:=11) (oi:=?_) (v:=undef) ?_ ?_ ?_ ?_ ?_ ?_ (by assumption) ?_
        rotate_left 1
        ·(simp only [Gq1,Gq2,Gq3])<;>rfl
        ·kernel_rfl
        ·kernel_rfl
        ·kernel_rfl
        rotate_left 1
        ·exact Or.inr ⟨by rfl,rfl⟩
        rotate_left 1
        ·exact fun _ _ _ h=>h
        try simp only [Act.put,Lq1,Lq2,Lq3]
        refine wpAnyH_take (i:=12) (oi:=?_) (v:=undef) ?_ ?_ ?_ ?_ ?_ ?_ (by assumption) ?_
        rotate_left 1
        ·(simp only [Gq1,Gq2,Gq3])<;>rfl
        ·kernel_rfl
        ·kernel_rfl
        ·kernel_rfl
        rotate_left 1
        ·exact Or.inr ⟨by rfl,rfl⟩
        rotate_left 1
        ·exact fun _ _ _ h=>h
        try simp only [Act.put,Lq1,Lq2,Lq3]
        refine Tkq 13 (v:=?_) (by assumption) ?_ ?_ ?_
        rotate_left 1
        ·refine .inl ⟨by rfl,?_⟩;intro w hSw;(try dsimp only at hSw);go_simp
         all_goals with_reducible rfl
        ·exact fun _ _ _ h=>h
        try simp only [Act.put,Lq1,Lq2,Lq3]
        refine wpAnyH_ready (rs:=[15]) (by kernel_rfl) (by simp) ?_
        refine AllReadyH.cons (o:=?_) ?_ ?_ AllReadyH.nil
        rotate_left 1
        ·(simp only [Gq1,Gq2,Gq3])<;>rfl
        intro K hK
        go_simp
        refine (HAR.out true q2 v2 _ false br _ W8.out (by have:=HL.out;omega)).mono ?_
        rintro e9 w9 ⟨rfl,q9,v9,l9,bad9,h9,m9,r9⟩
        have X9:=Hxq (X8.out.wstep m9 hpB V2)
        refine hK.out _ _ (by (try dsimp only);exact ⟨X9.out.c0,X9.out.c1,X9.out.c2,X9.out.c3,X9.out.c4,X9.out.c5,X9.out.c6⟩) (fun hHeld=>?_)
        clear hK K
        try simp only [Act.put,Lq1,Lq2,Lq3]
        refine wpAnyH_done (by kernel_rfl) ?_ _
        go_wp2_with fail
        go_end0
        exact ⟨rfl,q9,v9,l9,bad9,h9,M2.out.trans ((WMod.of m8).trans m9),r9.pre HM.out (by have:=HL.out;rw [List.length_append] at this;omega)⟩
       ·have hbI:decide ((bn:Int)<3)=false:=by rw [decide_eq_false_iff_not];omega
        cases N
        ·have HM:=Hxq (HBN.out false (by have hNN:=HNN.out;simp at hNN;simp [hb];omega))
         clear hb HBN HNN
         go_wp2_with fail
         refine wp_region_held_drew (S:=(fun w':World=>w'.cell? ⟨wA.heap.size,0,none⟩=some (.int .i64 ak)/\w'.cell? ⟨wA.heap.size,0+1,none⟩=some (.string av)/\w'.cell? ⟨wA.heap.size,0+2,none⟩=some (.int .i64 ax.k)/\w'.cell? ⟨wA.heap.size,0+3,none⟩=some (.int .i64 ax.n)/\w'.cell? ⟨wA.heap.size,0+4,none⟩=some (.string (Lx.ofS ax.s))/\w'.cell? ⟨wA.heap.size,0+5,none⟩=some (.int .i64 aop)/\w'.cell? ⟨wA.heap.size,0+6,none⟩=some (.slice aad aargs.length ac))) (by kernel_rfl) (by (try dsimp only);exact ⟨X2.out.c0,X2.out.c1,X2.out.c2,X2.out.c3,X2.out.c4,X2.out.c5,X2.out.c6⟩) (fun hHeld=>?_)
         refine Tkq 0 (v:=?_) (by assumption) ?_ ?_ ?_
         rotate_left 1
         ·refine .inl ⟨by rfl,?_⟩;intro w hSw;(try dsimp only at hSw);go_simp
          all_goals with_reducible rfl
         ·exact fun _ _ _ h=>h
         try simp only [Act.put,Lq1,Lq2,Lq3]
         refine Tkq 1 (v:=?_) (by assumption) ?_ ?_ ?_
         rotate_left 1
         ·refine .inl ⟨by rfl,?_⟩;intro w hSw;(try dsimp only at hSw);go_simp
          all_goals with_reducible rfl
         ·exact fun _ _ _ h=>h
         try simp only [Act.put,Lq1,Lq2,Lq3]
         refine Tkq 2 (v:=?_) (by assumption) ?_ ?_ ?_
         rotate_left 1
         ·refine .inl ⟨by rfl,?_⟩;intro w hSw;(try dsimp only at hSw);go_simp
          all_goals with_reducible rfl
         ·exact fun _ _ _ h=>h
         try simp only [Act.put,Lq1,Lq2,Lq3]
         refine Tkq 14 (v:=?_) (by assumption) ?_ ?_ ?_
         rotate_left 1
         ·refine .inl ⟨by rfl,?_⟩;intro w hSw;(try dsimp only at hSw);go_simp
          all_goals with_reducible rfl
         ·exact fun _ _ _ h=>h
         try simp only [Act.put,Lq1,Lq2,Lq3]
         refine wpAnyH_ready (rs:=[3]) (by kernel_rfl) (by simp) ?_
         refine AllReadyH.cons (o:=?_) ?_ ?_ AllReadyH.nil
         rotate_left 1
         ·(simp only [Gq1,Gq2,Gq3])<;>rfl
         intro K hK
         go_simp
         refine (HB.out _).mono ?_
         rintro e8 w8 ⟨rfl,m8⟩
         have X8:=Hxq (X2.out.keep m8 (by simp));have W8:=Hxq (W2.out.new m8)
         refine hK.out _ _ (by (try dsimp only);exact ⟨X8.out.c0,X8.out.c1,X8.out.c2,X8.out.c3,X8.out.c4,X8.out.c5,X8.out.c6⟩) (fun hHeld=>?_)
         clear hK K
         try simp only [Act.put,Lq1,Lq2,Lq3]
         refine Tkq 4 (v:=?_) (by assumption) ?_ ?_ ?_
         rotate_left 1
         ·refine .inl ⟨by rfl,?_⟩;intro w hSw;(try dsimp only at hSw);go_simp
          all_goals with_reducible rfl
         ·exact fun _ _ _ h=>h
         try simp only [Act.put,Lq1,Lq2,Lq3]
         refine Tkq 5 (v:=?_) (by assumption) ?_ ?_ ?_
         rotate_left 1
         ·refine .inl ⟨by rfl,?_⟩;intro w hSw;(try dsimp only at hSw);go_simp
          all_goals with_reducible rfl
         ·exact fun _ _ _ h=>h
         try simp only [Act.put,Lq1,Lq2,Lq3]
         refine Tkq 6 (v:=?_) (by assumption) ?_ ?_ ?_
         rotate_left 1
         ·refine .inl ⟨by rfl,?_⟩;intro w hSw;(try dsimp only at hSw);go_simp
          all_goals with_reducible rfl
         ·exact fun _ _ _ h=>h
         try simp only [Act.put,Lq1,Lq2,Lq3]
         refine Tkq 7 (v:=?_) (by assumption) ?_ ?_ ?_
         rotate_left 1
         ·refine .inl ⟨by rfl,?_⟩;intro w hSw;(try dsimp only at hSw);go_simp
          all_goals with_reducible rfl
         ·exact fun _ _ _ h=>h
         try simp only [Act.put,Lq1,Lq2,Lq3]
         refine wpAnyH_take (i:=8) (oi:=?_) (v:=undef) ?_ ?_ ?_ ?_ ?_ ?_ (by assumption) ?_
         rotate_left 1
         ·(simp only [Gq1,Gq2,Gq3])<;>rfl
         ·kernel_rfl
         ·kernel_rfl
         ·kernel_rfl
         rotate_left 1
         ·exact Or.inr ⟨by rfl,rfl⟩
         rotate_left 1
         ·exact fun _ _ _ h=>h
         try simp only [Act.put,Lq1,Lq2,Lq3]
         refine wpAnyH_take (i:=9) (oi:=?_) (v:=undef) ?_ ?_ ?_ ?_ ?_ ?_ (by assumption) ?_
         rotate_left 1
         ·(simp only [Gq1,Gq2,Gq3])<;>rfl
         ·kernel_rfl
         ·kernel_rfl
         ·kernel_rfl
         rotate_left 1
         ·exact Or.inr ⟨by rfl,rfl⟩
         rotate_left 1
         ·exact fun _ _ _ h=>h
         try simp only [Act.put,Lq1,Lq2,Lq3]
         refine wpAnyH_take (i:=10) (oi:=?_) (v:=undef) ?_ ?_ ?_ ?_ ?_ ?_ (by assumption) ?_
         rotate_left 1
         ·(simp only [Gq1,Gq2,Gq3])<;>rfl
         ·kernel_rfl
         ·kernel_rfl
         ·kernel_rfl
         rotate_left 1
         ·exact Or.inr ⟨by rfl,rfl⟩
         rotate_left 1
         ·exact fun _ _ _ h=>h
         try simp only [Act.put,Lq1,Lq2,Lq3]
         refine wpAnyH_take (i:=11) (oi:=?_) (v:=undef) ?_ ?_ ?_ ?_ ?_ ?_ (by assumption) ?_
         rotate_left 1
         ·(simp only [Gq1,Gq2,Gq3])<;>rfl
         ·kernel_rfl
         ·kernel_rfl
         ·kernel_rfl
         rotate_left 1
         ·exact Or.inr ⟨by rfl,rfl⟩
         rotate_left 1
         ·exact fun _ _ _ h=>h
         try simp only [Act.put,Lq1,Lq2,Lq3]
         refine Tkq 12 (v:=?_) (by assumption) ?_ ?_ ?_
         rotate_left 1
         ·refine .inl ⟨by rfl,?_⟩;intro w hSw;(try dsimp only at hSw);go_simp
          all_goals with_reducible rfl
         ·exact fun _ _ _ h=>h
         try simp only [Act.put,Lq1,Lq2,Lq3]
         refine Tkq 13 (v:=?_) (by assumption) ?_ ?_ ?_
         rotate_left 1
         ·refine .inl ⟨by rfl,?_⟩;intro w hSw;(try dsimp only at hSw);go_simp
          all_goals with_reducible rfl
         ·exact fun _ _ _ h=>h
         try simp only [Act.put,Lq1,Lq2,Lq3]
         refine wpAnyH_ready (rs:=[15]) (by kernel_rfl) (by simp) ?_
         refine AllReadyH.cons (o:=?_) ?_ ?_ AllReadyH.nil
         rotate_left 1
         ·(simp only [Gq1,Gq2,Gq3])<;>rfl
         intro K hK
         go_simp
         refine (HAR.out false q2 v2 _ false br _ W8.out (by have:=HL.out;omega)).mono ?_
         rintro e9 w9 ⟨rfl,q9,v9,l9,bad9,h9,m9,r9⟩
         have X9:=Hxq (X8.out.wstep m9 hpB V2)
         refine hK.out _ _ (by (try dsimp only);exact ⟨X9.out.c0,X9.out.c1,X9.out.c2,X9.out.c3,X9.out.c4,X9.out.c5,X9.out.c6⟩) (fun hHeld=>?_)
         clear hK K
         try simp only [Act.put,Lq1,Lq2,Lq3]
         refine wpAnyH_done (by kernel_rfl) ?_ _
         go_wp2_with fail
         go_end0
         exact ⟨rfl,q9,v9,l9,bad9,h9,M2.out.trans ((WMod.of m8).trans m9),r9.pre HM.out (by have:=HL.out;rw [List.length_append] at this;omega)⟩
        ·have hNN:ak=2/\ax.k=1:=by simpa using HNN.out
         clear HNN
         by_cases hn:0<ax.n
         ·have HM:=Hxq (HBN.out true (by simp [hNN.1,hNN.2,hn]))
          have hnI:decide (ax.n > 0)=true:=by rw [decide_eq_true_eq];omega
          clear hb HBN hNN hn
          go_wp2_with fail
          refine wp_region_held_drew (S:=(fun w':World=>w'.cell? ⟨wA.heap.size,0,none⟩=some (.int .i64 ak)/\w'.cell? ⟨wA.heap.size,0+1,none⟩=some (.string av)/\w'.cell? ⟨wA.heap.size,0+2,none⟩=some (.int .i64 ax.k)/\w'.cell? ⟨wA.heap.size,0+3,none⟩=some (.int .i64 ax.n)/\w'.cell? ⟨wA.heap.size,0+4,none⟩=some (.string (Lx.ofS ax.s))/\w'.cell? ⟨wA.heap.size,0+5,none⟩=some (.int .i64 aop)/\w'.cell? ⟨wA.heap.size,0+6,none⟩=some (.slice aad aargs.length ac))) (by kernel_rfl) (by (try dsimp only);exact ⟨X2.out.c0,X2.out.c1,X2.out.c2,X2.out.c3,X2.out.c4,X2.out.c5,X2.out.c6⟩) (fun hHeld=>?_)
          refine Tkq 0 (v:=?_) (by assumption) ?_ ?_ ?_
          rotate_left 1
          ·refine .inl ⟨by rfl,?_⟩;intro w hSw;(try dsimp only at hSw);go_simp
           all_goals with_reducible rfl
          ·exact fun _ _ _ h=>h
          try simp only [Act.put,Lq1,Lq2,Lq3]
          refine Tkq 1 (v:=?_) (by assumption) ?_ ?_ ?_
          rotate_left 1
          ·refine .inl ⟨by rfl,?_⟩;intro w hSw;(try dsimp only at hSw);go_simp
           all_goals with_reducible rfl
          ·exact fun _ _ _ h=>h
          try simp only [Act.put,Lq1,Lq2,Lq3]
          refine Tkq 2 (v:=?_) (by assumption) ?_ ?_ ?_
          rotate_left 1
          ·refine .inl ⟨by rfl,?_⟩;intro w hSw;(try dsimp only at hSw);go_simp
           all_goals with_reducible rfl
          ·exact fun _ _ _ h=>h
          try simp only [Act.put,Lq1,Lq2,Lq3]
          refine Tkq 14 (v:=?_) (by assumption) ?_ ?_ ?_
          rotate_left 1
          ·refine .inl ⟨by rfl,?_⟩;intro w hSw;(try dsimp only at hSw);go_simp
           all_goals with_reducible rfl
          ·exact fun _ _ _ h=>h
          try simp only [Act.put,Lq1,Lq2,Lq3]
          refine wpAnyH_ready (rs:=[3]) (by kernel_rfl) (by simp) ?_
          refine AllReadyH.cons (o:=?_) ?_ ?_ AllReadyH.nil
          rotate_left 1
          ·(simp only [Gq1,Gq2,Gq3])<;>rfl
          intro K hK
          go_simp
          refine (HB.out _).mono ?_
          rintro e8 w8 ⟨rfl,m8⟩
          have X8:=Hxq (X2.out.keep m8 (by simp));have W8:=Hxq (W2.out.new m8)
          refine hK.out _ _ (by (try dsimp only);exact ⟨X8.out.c0,X8.out.c1,X8.out.c2,X8.out.c3,X8.out.c4,X8.out.c5,X8.out.c6⟩) (fun hHeld=>?_)
          clear hK K
          try simp only [Act.put,Lq1,Lq2,Lq3]
          refine Tkq 4 (v:=?_) (by assumption) ?_ ?_ ?_
          rotate_left 1
          ·refine .inl ⟨by rfl,?_⟩;intro w hSw;(try dsimp only at hSw);go_simp
           all_goals with_reducible rfl
          ·exact fun _ _ _ h=>h
          try simp only [Act.put,Lq1,Lq2,Lq3]
          refine Tkq 5 (v:=?_) (by assumption) ?_ ?_ ?_
          rotate_left 1
          ·refine .inl ⟨by rfl,?_⟩;intro w hSw;(try dsimp only at hSw);go_simp
           all_goals with_reducible rfl
          ·exact fun _ _ _ h=>h
          try simp only [Act.put,Lq1,Lq2,Lq3]
          refine Tkq 6 (v:=?_) (by assumption) ?_ ?_ ?_
          rotate_left 1
          ·refine .inl ⟨by rfl,?_⟩;intro w hSw;(try dsimp only at hSw);go_simp
           all_goals with_reducible rfl
          ·exact fun _ _ _ h=>h
          try simp only [Act.put,Lq1,Lq2,Lq3]
          refine Tkq 7 (v:=?_) (by assumption) ?_ ?_ ?_
          rotate_left 1
          ·refine .inl ⟨by rfl,?_⟩;intro w hSw;(try dsimp only at hSw);go_simp
           all_goals with_reducible rfl
          ·exact fun _ _ _ h=>h
          try simp only [Act.put,Lq1,Lq2,Lq3]
          refine Tkq 8 (v:=?_) (by assumption) ?_ ?_ ?_
          rotate_left 1
          ·refine .inl ⟨by rfl,?_⟩;intro w hSw;(try dsimp only at hSw);go_simp
           all_goals with_reducible rfl
          ·exact fun _ _ _ h=>h
          try simp only [Act.put,Lq1,Lq2,Lq3]
          refine Tkq 9 (v:=?_) (by assumption) ?_ ?_ ?_
          rotate_left 1
          ·refine .inl ⟨by rfl,?_⟩;intro w hSw;(try dsimp only at hSw);go_simp
           all_goals with_reducible rfl
          ·exact fun _ _ _ h=>h
          try simp only [Act.put,Lq1,Lq2,Lq3]
          refine Tkq 10 (v:=?_) (by assumption) ?_ ?_ ?_
          rotate_left 1
          ·refine .inl ⟨by rfl,?_⟩;intro w hSw;(try dsimp only at hSw);go_simp
           all_goals with_reducible rfl
          ·exact fun _ _ _ h=>h
          try simp only [Act.put,Lq1,Lq2,Lq3]
          refine Tkq 11 (v:=?_) (by assumption) ?_ ?_ ?_
          rotate_left 1
          ·refine .inl ⟨by rfl,?_⟩;intro w hSw;(try dsimp only at hSw);go_simp
           all_goals with_reducible rfl
          ·exact fun _ _ _ h=>h
          try simp only [Act.put,Lq1,Lq2,Lq3]
          refine Tkq 12 (v:=?_) (by assumption) ?_ ?_ ?_
          rotate_left 1
          ·refine .inl ⟨by rfl,?_⟩;intro w hSw;(try dsimp only at hSw);go_simp
           all_goals with_reducible rfl
          ·exact fun _ _ _ h=>h
          try simp only [Act.put,Lq1,Lq2,Lq3]
          refine Tkq 13 (v:=?_) (by assumption) ?_ ?_ ?_
          rotate_left 1
          ·refine .inl ⟨by rfl,?_⟩;intro w hSw;(try dsimp only at hSw);go_simp
           all_goals with_reducible rfl
          ·exact fun _ _ _ h=>h
          try simp only [Act.put,Lq1,Lq2,Lq3]
          refine wpAnyH_ready (rs:=[15]) (by kernel_rfl) (by simp) ?_
          refine AllReadyH.cons (o:=?_) ?_ ?_ AllReadyH.nil
          rotate_left 1
          ·(simp only [Gq1,Gq2,Gq3])<;>rfl
          intro K hK
          go_simp
          refine (HAR.out true q2 v2 _ false br _ W8.out (by have:=HL.out;omega)).mono ?_
          rintro e9 w9 ⟨rfl,q9,v9,l9,bad9,h9,m9,r9⟩
          have X9:=Hxq (X8.out.wstep m9 hpB V2)
          refine hK.out _ _ (by (try dsimp only);exact ⟨X9.out.c0,X9.out.c1,X9.out.c2,X9.out.c3,X9.out.c4,X9.out.c5,X9.out.c6⟩) (fun hHeld=>?_)
          clear hK K
          try simp only [Act.put,Lq1,Lq2,Lq3]
          refine wpAnyH_done (by kernel_rfl) ?_ _
          go_wp2_with fail
          go_end0
          exact ⟨rfl,q9,v9,l9,bad9,h9,M2.out.trans ((WMod.of m8).trans m9),r9.pre HM.out (by have:=HL.out;rw [List.length_append] at this;omega)⟩
         ·have HM:=Hxq (HBN.out false (by simp [hNN.1,hNN.2,hn,hb]))
          have hnI:decide (ax.n > 0)=false:=by rw [decide_eq_false_iff_not];omega
          clear hb HBN hNN hn
          go_wp2_with fail
          refine wp_region_held_drew (S:=(fun w':World=>w'.cell? ⟨wA.heap.size,0,none⟩=some (.int .i64 ak)/\w'.cell? ⟨wA.heap.size,0+1,none⟩=some (.string av)/\w'.cell? ⟨wA.heap.size,0+2,none⟩=some (.int .i64 ax.k)/\w'.cell? ⟨wA.heap.size,0+3,none⟩=some (.int .i64 ax.n)/\w'.cell? ⟨wA.heap.size,0+4,none⟩=some (.string (Lx.ofS ax.s))/\w'.cell? ⟨wA.heap.size,0+5,none⟩=some (.int .i64 aop)/\w'.cell? ⟨wA.heap.size,0+6,none⟩=some (.slice aad aargs.length ac))) (by kernel_rfl) (by (try dsimp only);exact ⟨X2.out.c0,X2.out.c1,X2.out.c2,X2.out.c3,X2.out.c4,X2.out.c5,X2.out.c6⟩) (fun hHeld=>?_)
          refine Tkq 0 (v:=?_) (by assumption) ?_ ?_ ?_
          rotate_left 1
          ·refine .inl ⟨by rfl,?_⟩;intro w hSw;(try dsimp only at hSw);go_simp
           all_goals with_reducible rfl
          ·exact fun _ _ _ h=>h
          try simp only [Act.put,Lq1,Lq2,Lq3]
          refine Tkq 1 (v:=?_) (by assumption) ?_ ?_ ?_
          rotate_left 1
          ·refine .inl ⟨by rfl,?_⟩;intro w hSw;(try dsimp only at hSw);go_simp
           all_goals with_reducible rfl
          ·exact fun _ _ _ h=>h
          try simp only [Act.put,Lq1,Lq2,Lq3]
          refine Tkq 2 (v:=?_) (by assumption) ?_ ?_ ?_
          rotate_left 1
          ·refine .inl ⟨by rfl,?_⟩;intro w hSw;(try dsimp only at hSw);go_simp
           all_goals with_reducible rfl
          ·exact fun _ _ _ h=>h
          try simp only [Act.put,Lq1,Lq2,Lq3]
          refine Tkq 14 (v:=?_) (by assumption) ?_ ?_ ?_
          rotate_left 1
          ·refine .inl ⟨by rfl,?_⟩;intro w hSw;(try dsimp only at hSw);go_simp
           all_goals with_reducible rfl
          ·exact fun _ _ _ h=>h
          try simp only [Act.put,Lq1,Lq2,Lq3]
          refine wpAnyH_ready (rs:=[3]) (by kernel_rfl) (by simp) ?_
          refine AllReadyH.cons (o:=?_) ?_ ?_ AllReadyH.nil
          rotate_left 1
          ·(simp only [Gq1,Gq2,Gq3])<;>rfl
          intro K hK
          go_simp
          refine (HB.out _).mono ?_
          rintro e8 w8 ⟨rfl,m8⟩
          have X8:=Hxq (X2.out.keep m8 (by simp));have W8:=Hxq (W2.out.new m8)
          refine hK.out _ _ (by (try dsimp only);exact ⟨X8.out.c0,X8.out.c1,X8.out.c2,X8.out.c3,X8.out.c4,X8.out.c5,X8.out.c6⟩) (fun hHeld=>?_)
          clear hK K
          try simp only [Act.put,Lq1,Lq2,Lq3]
          refine Tkq 4 (v:=?_) (by assumption) ?_ ?_ ?_
          rotate_left 1
          ·refine .inl ⟨by rfl,?_⟩;intro w hSw;(try dsimp only at hSw);go_simp
           all_goals with_reducible rfl
          ·exact fun _ _ _ h=>h
          try simp only [Act.put,Lq1,Lq2,Lq3]
          refine Tkq 5 (v:=?_) (by assumption) ?_ ?_ ?_
          rotate_left 1
          ·refine .inl ⟨by rfl,?_⟩;intro w hSw;(try dsimp only at hSw);go_simp
           all_goals with_reducible rfl
          ·exact fun _ _ _ h=>h
          try simp only [Act.put,Lq1,Lq2,Lq3]
          refine Tkq 6 (v:=?_) (by assumption) ?_ ?_ ?_
          rotate_left 1
          ·refine .inl ⟨by rfl,?_⟩;intro w hSw;(try dsimp only at hSw);go_simp
           all_goals with_reducible rfl
          ·exact fun _ _ _ h=>h
          try simp only [Act.put,Lq1,Lq2,Lq3]
          refine Tkq 7 (v:=?_) (by assumption) ?_ ?_ ?_
          rotate_left 1
          ·refine .inl ⟨by rfl,?_⟩;intro w hSw;(try dsimp only at hSw);go_simp
           all_goals with_reducible rfl
          ·exact fun _ _ _ h=>h
          try simp only [Act.put,Lq1,Lq2,Lq3]
          refine Tkq 8 (v:=?_) (by assumption) ?_ ?_ ?_
          rotate_left 1
          ·refine .inl ⟨by rfl,?_⟩;intro w hSw;(try dsimp only at hSw);go_simp
           all_goals with_reducible rfl
          ·exact fun _ _ _ h=>h
          try simp only [Act.put,Lq1,Lq2,Lq3]
          refine Tkq 9 (v:=?_) (by assumption) ?_ ?_ ?_
          rotate_left 1
          ·refine .inl ⟨by rfl,?_⟩;intro w hSw;(try dsimp only at hSw);go_simp
           all_goals with_reducible rfl
          ·exact fun _ _ _ h=>h
          try simp only [Act.put,Lq1,Lq2,Lq3]
          refine Tkq 10 (v:=?_) (by assumption) ?_ ?_ ?_
          rotate_left 1
          ·refine .inl ⟨by rfl,?_⟩;intro w hSw;(try dsimp only at hSw);go_simp
           all_goals with_reducible rfl
          ·exact fun _ _ _ h=>h
          try simp only [Act.put,Lq1,Lq2,Lq3]
          refine Tkq 11 (v:=?_) (by assumption) ?_ ?_ ?_
          rotate_left 1
          ·refine .inl ⟨by rfl,?_⟩;intro w hSw;(try dsimp only at hSw);go_simp
           all_goals with_reducible rfl
          ·exact fun _ _ _ h=>h
          try simp only [Act.put,Lq1,Lq2,Lq3]
          refine Tkq 12 (v:=?_) (by assumption) ?_ ?_ ?_
          rotate_left 1
          ·refine .inl ⟨by rfl,?_⟩;intro w hSw;(try dsimp only at hSw);go_simp
           all_goals with_reducible rfl
          ·exact fun _ _ _ h=>h
          try simp only [Act.put,Lq1,Lq2,Lq3]
          refine Tkq 13 (v:=?_) (by assumption) ?_ ?_ ?_
          rotate_left 1
          ·refine .inl ⟨by rfl,?_⟩;intro w hSw;(try dsimp only at hSw);go_simp
           all_goals with_reducible rfl
          ·exact fun _ _ _ h=>h
          try simp only [Act.put,Lq1,Lq2,Lq3]
          refine wpAnyH_ready (rs:=[15]) (by kernel_rfl) (by simp) ?_
          refine AllReadyH.cons (o:=?_) ?_ ?_ AllReadyH.nil
          rotate_left 1
          ·(simp only [Gq1,Gq2,Gq3])<;>rfl
          intro K hK
          go_simp
          refine (HAR.out false q2 v2 _ false br _ W8.out (by have:=HL.out;omega)).mono ?_
          rintro e9 w9 ⟨rfl,q9,v9,l9,bad9,h9,m9,r9⟩
          have X9:=Hxq (X8.out.wstep m9 hpB V2)
          refine hK.out _ _ (by (try dsimp only);exact ⟨X9.out.c0,X9.out.c1,X9.out.c2,X9.out.c3,X9.out.c4,X9.out.c5,X9.out.c6⟩) (fun hHeld=>?_)
          clear hK K
          try simp only [Act.put,Lq1,Lq2,Lq3]
          refine wpAnyH_done (by kernel_rfl) ?_ _
          go_wp2_with fail
          go_end0
          exact ⟨rfl,q9,v9,l9,bad9,h9,M2.out.trans ((WMod.of m8).trans m9),r9.pre HM.out (by have:=HL.out;rw [List.length_append] at this;omega)⟩
   ·have HPE:=Hxq (pO_neg_none j (.mk kd ev ex eop eargs) o6 hn)
    subst o6
    have o6:True:=trivial
    have hnB:((eargs.length:Int) != 1)=true:=by rw [bne_iff_ne];omega
    clear h hE hG hC h1 h2 hbp hpw hsz o6 hn
    simp only [exV,Pr.Ex.k,Pr.Ex.v,Pr.Ex.x,Pr.Ex.op,Pr.Ex.args] at *
    go_enter Tryz.func27,Tryz.ntmps27
    all_goals go_wp2_with fail
    all_goals go_end0
    all_goals exact ⟨rfl,q,v,l,true,HS.out.1,(WMod.of MA.out).trans HS.out.2,res_bad (by omega) (fun _=>HPE.out)⟩
  ·have o6B:(eop == 6)=false:=by rw [beq_eq_false_iff_ne];exact o6
   by_cases hn:eargs.length=2
   ·obtain ⟨a,b',rfl⟩:∃ a b',eargs=[a,b']:=by
     match eargs,hn with
     | [a,b'],_=>exact ⟨a,b',rfl⟩
    obtain ⟨ak,av,ax,aop,aargs⟩:=a
    obtain ⟨bk,bv,bx,bop,bargs⟩:=b'
    obtain ⟨b,off,ua,rfl,hAt,hOk⟩:=hE.at 0 (by simp [Pr.Ex.args])
    obtain ⟨b2,off2,ub,heq,hBt,hOkb⟩:=hE.at 1 (by simp [Pr.Ex.args])
    simp only [Option.some.injEq,Addr.mk.injEq,and_true] at heq
    obtain ⟨rfl,rfl⟩:=heq
    simp only [Pr.Ex.args,Nat.zero_mul,Nat.one_mul,Nat.add_zero,List.getElem_cons_zero,List.getElem_cons_succ] at hAt hOk hBt hOkb
    obtain ⟨aad,ac,rfl⟩:=hOk.lit
    obtain ⟨bad_,bc,rfl⟩:=hOkb.lit
    have HPO:=Hxq (pO_two j kd ev ex eop (.mk ak av ax aop aargs) (.mk bk bv bx bop bargs) o6)
    have hw:=exWt_eq (.mk kd ev ex eop [.mk ak av ax aop aargs,.mk bk bv bx bop bargs])
    simp only [Pr.Ex.args,Pr.Ex.v,exWts] at hw
    have HAR:=Hxq (fun m q v l bad br w h hl=>hC (.mk ak av ax aop aargs) (.slice aad aargs.length ac) m p q v l bad br w h hOk hG hl)
    have HBR:=Hxq (fun m q v l bad br w h hl=>hC (.mk bk bv bx bop bargs) (.slice bad_ bargs.length bc) m p q v l bad br w h hOkb hG hl)
    have HB:=Hxq (fun w=>binds_any (.mk ak av ax aop aargs) (.slice aad aargs.length ac) w)
    have HB2:=Hxq (fun w=>binds_any (.mk bk bv bx bop bargs) (.slice bad_ bargs.length bc) w)
    have HST:=Hxq (fun w=>strength_any eop w)
    have HSG:=Hxq (fun w=>sign_anyP eop w)
    have HAT:=Lib.hid hAt
    have HBT:=Lib.hid hBt
    have HS6:Hid (∀ c∈Pr.sign eop,c<256):=Hxq (by unfold Pr.sign;(repeat' split) <;> decide)
    have HSL:=Hxq (show (Pr.sign eop).length<=3 from by unfold Pr.sign;(repeat' split) <;> simp)
    clear h hE hG hC h1 h2 hAt hOk hBt hOkb hn o6
    simp only [exV,Pr.Ex.k,Pr.Ex.v,Pr.Ex.x,Pr.Ex.op,Pr.Ex.args,List.length_cons,List.length_nil] at *
    go_enter Tryz.func27,Tryz.ntmps27
    go_upto_region 1 with fail
    generalize w.alloc (Obj.cells #[Value.int IntKind.i64 kd,Value.string ev,Value.int IntKind.i64 ex.k,Value.int IntKind.i64 ex.n,Value.string (Lx.ofS ex.s),Value.int IntKind.i64 eop,Value.slice (some ⟨b,off,none⟩) (0+1+1) c] 26)=wA at *
    obtain ⟨x0,x1,x2,x3,x4,x5,x6⟩:=XA.out
    simp only [Nat.zero_add,Pr.Ex.k,Pr.Ex.v,Pr.Ex.x,Pr.Ex.op,Pr.Ex.args] at x0 x1 x2 x3 x4 x5 x6
    obtain ⟨a0,a1,a2,a3,a4,a5,a6⟩:=HAT.out.keep HA.out.base (by simp)
    simp only [Nat.zero_add,Pr.Ex.k,Pr.Ex.v,Pr.Ex.x,Pr.Ex.op,Pr.Ex.args] at a0 a1 a2 a3 a4 a5 a6
    have MB:=Hxq ((Mod.refl [] wA).alloc (Obj.cells #[Value.int IntKind.i64 ak,Value.string av,Value.int IntKind.i64 ax.k,Value.int IntKind.i64 ax.n,Value.string (Lx.ofS ax.s),Value.int IntKind.i64 aop,Value.slice aad aargs.length ac] 26))
    have XB:=Hxq (ExAt.of (e:=.mk ak av ax aop aargs) (heap_alloc_new wA (Obj.cells #[Value.int IntKind.i64 ak,Value.string av,Value.int IntKind.i64 ax.k,Value.int IntKind.i64 ax.n,Value.string (Lx.ofS ax.s),Value.int IntKind.i64 aop,Value.slice aad aargs.length ac] 26)))
    have hszB:wA.heap.size+1=(wA.alloc (Obj.cells #[Value.int IntKind.i64 ak,Value.string av,Value.int IntKind.i64 ax.k,Value.int IntKind.i64 ax.n,Value.string (Lx.ofS ax.s),Value.int IntKind.i64 aop,Value.slice aad aargs.length ac] 26)).heap.size:=by simp
    go_upto_region 13 with fail
    generalize wA.alloc (Obj.cells #[Value.int IntKind.i64 ak,Value.string av,Value.int IntKind.i64 ax.k,Value.int IntKind.i64 ax.n,Value.string (Lx.ofS ax.s),Value.int IntKind.i64 aop,Value.slice aad aargs.length ac] 26)=wB at *
    have HWB:=Hxq (HA.out.new MB.out)
    have hpB:wA.heap.size≠p:=by have:=HA.out.wr.lt;omega
    have HPV:=Hxq (show wA.heap.size∉fp v from fun hk=>by have:=fp_lt HA.out.wr.row _ hk;omega)
    have XA:=Hxq (XA.out.keep MB.out (by simp))
    clear a0 a1 a2 a3 a4 a5 a6 x0 x1 x2 x3 x4 x5 x6 c0 c1 c2 c3 fz HS
    obtain ⟨-,-,-,-,-,x5,x6⟩:=XA.out
    simp only [Nat.zero_add,Pr.Ex.k,Pr.Ex.v,Pr.Ex.x,Pr.Ex.op,Pr.Ex.args] at x5 x6
    obtain ⟨a0,a1,a2,a3,a4,a5,a6⟩:=HBT.out.keep HWB.out.base (by simp)
    simp only [Nat.zero_add,Pr.Ex.k,Pr.Ex.v,Pr.Ex.x,Pr.Ex.op,Pr.Ex.args] at a0 a1 a2 a3 a4 a5 a6
    have MC:=Hxq ((Mod.refl [] wB).alloc (Obj.cells #[Value.int IntKind.i64 bk,Value.string bv,Value.int IntKind.i64 bx.k,Value.int IntKind.i64 bx.n,Value.string (Lx.ofS bx.s),Value.int IntKind.i64 bop,Value.slice bad_ bargs.length bc] 26))
    have XC:=Hxq (ExAt.of (e:=.mk bk bv bx bop bargs) (heap_alloc_new wB (Obj.cells #[Value.int IntKind.i64 bk,Value.string bv,Value.int IntKind.i64 bx.k,Value.int IntKind.i64 bx.n,Value.string (Lx.ofS bx.s),Value.int IntKind.i64 bop,Value.slice bad_ bargs.length bc] 26)))
    have hszC:wB.heap.size+1=(wB.alloc (Obj.cells #[Value.int IntKind.i64 bk,Value.string bv,Value.int IntKind.i64 bx.k,Value.int IntKind.i64 bx.n,Value.string (Lx.ofS bx.s),Value.int IntKind.i64 bop,Value.slice bad_ bargs.length bc] 26)).heap.size:=by simp
    go_upto_region 14 with fail
    generalize wB.alloc (Obj.cells #[Value.int IntKind.i64 bk,Value.string bv,Value.int IntKind.i64 bx.k,Value.int IntKind.i64 bx.n,Value.string (Lx.ofS bx.s),Value.int IntKind.i64 bop,Value.slice bad_ bargs.length bc] 26)=wC at *
    have HWC:=Hxq (HWB.out.new MC.out)
    have M0:=Hxq (WMod.of (p:=p) (v:=v) ((MA.out.trans MB.out (by simp)).trans MC.out (by simp)))
    have hpC:wB.heap.size≠p:=by have:=HWB.out.wr.lt;omega
    have HPC:=Hxq (show wB.heap.size∉fp v from fun hk=>by have:=fp_lt HWB.out.wr.row _ hk;omega)
    have XA:=Hxq (XA.out.keep MC.out (by simp));have XB:=Hxq (XB.out.keep MC.out (by simp))
    clear a0 a1 a2 a3 a4 a5 a6 x5 x6
    have HBC:Hid (wB.heap.size<wC.heap.size):=Hxq (by omega)
    have HAC:Hid (w.heap.size<wC.heap.size):=Hxq (by omega)
    go_cut [] (fun wx=>∃ q1 v1 l1 bad1,WAt w0 wx p q1 v1 l1 bad1 br/\WMod p v v1 w wx/\Res false l (if decide (Pr.binds (.mk ak av ax aop aargs)<Pr.strength eop)=true then (Pr.pE j (.mk ak av ax aop aargs)).map (fun t=>40 :: (t++[41])) else Pr.pE (j+1) (.mk ak av ax aop aargs)) (exWt (.mk ak av ax aop aargs)+10) l1 bad1 /\
      ExAt wx w.heap.size 0 (.mk kd ev ex eop [.mk ak av ax aop aargs,.mk bk bv bx bop bargs]) (.slice (some ⟨b,off,none⟩) (0+1+1) c)/\ExAt wx wB.heap.size 0 (.mk bk bv bx bop bargs) (.slice bad_ bargs.length bc)/\w.heap.size∉fp v1/\wB.heap.size∉fp v1/\wC.heap.size<=wx.heap.size)
    case first =>
     have XA:=Hxq (XA.out.keep (Mod.refl [] wC).drew (by simp));have XB:=Hxq (XB.out.keep (Mod.refl [] wC).drew (by simp));have XC:=Hxq (XC.out.keep (Mod.refl [] wC).drew (by simp))
     have HWC:=Hxq (HWC.out.new (Mod.refl [] wC).drew);have M0:=Hxq (M0.out.trans (WMod.of (Mod.refl [] wC).drew))
     have HMD:=Hxq (Mod.refl [] wC).drew
     clear HPO hszB hszC hsz
     go_wp2_with fail
     refine wp_region_held_drew (S:=(fun w':World=>w'.cell? ⟨w.heap.size,0+5,none⟩=some (.int .i64 eop)/\w'.cell? ⟨wA.heap.size,0,none⟩=some (.int .i64 ak)/\w'.cell? ⟨wA.heap.size,0+1,none⟩=some (.string av)/\w'.cell? ⟨wA.heap.size,0+2,none⟩=some (.int .i64 ax.k)/\w'.cell? ⟨wA.heap.size,0+3,none⟩=some (.int .i64 ax.n)/\w'.cell? ⟨wA.heap.size,0+4,none⟩=some (.string (Lx.ofS ax.s))/\w'.cell? ⟨wA.heap.size,0+5,none⟩=some (.int .i64 aop)/\w'.cell? ⟨wA.heap.size,0+6,none⟩=some (.slice aad aargs.length ac))) (by kernel_rfl) (by (try dsimp only);exact ⟨XA.out.c5,XB.out.c0,XB.out.c1,XB.out.c2,XB.out.c3,XB.out.c4,XB.out.c5,XB.out.c6⟩) (fun hHeld=>?_)
     refine Tkq 0 (v:=?_) (by assumption) ?_ ?_ ?_
     rotate_left 1
     ·refine .inl ⟨by rfl,?_⟩;intro w hSw;(try dsimp only at hSw);go_simp
      all_goals with_reducible rfl
     ·exact fun _ _ _ h=>h
     try simp only [Act.put,Lq1,Lq2,Lq3]
     refine Tkq 1 (v:=?_) (by assumption) ?_ ?_ ?_
     rotate_left 1
     ·refine .inl ⟨by rfl,?_⟩;intro w hSw;(try dsimp only at hSw);go_simp
      all_goals with_reducible rfl
     ·exact fun _ _ _ h=>h
     try simp only [Act.put,Lq1,Lq2,Lq3]
     refine Tkq 2 (v:=?_) (by assumption) ?_ ?_ ?_
     rotate_left 1
     ·refine .inl ⟨by rfl,?_⟩;intro w hSw;(try dsimp only at hSw);go_simp
      all_goals with_reducible rfl
     ·exact fun _ _ _ h=>h
     try simp only [Act.put,Lq1,Lq2,Lq3]
     refine Tkq 4 (v:=?_) (by assumption) ?_ ?_ ?_
     rotate_left 1
     ·refine .inl ⟨by rfl,?_⟩;intro w hSw;(try dsimp only at hSw);go_simp
      all_goals with_reducible rfl
     ·exact fun _ _ _ h=>h
     try simp only [Act.put,Lq1,Lq2,Lq3]
     refine Tkq 5 (v:=?_) (by assumption) ?_ ?_ ?_
     rotate_left 1
     ·refine .inl ⟨by rfl,?_⟩;intro w hSw;(try dsimp only at hSw);go_simp
      all_goals with_reducible rfl
     ·exact fun _ _ _ h=>h
     try simp only [Act.put,Lq1,Lq2,Lq3]
     refine Tkq 8 (v:=?_) (by assumption) ?_ ?_ ?_
     rotate_left 1
     ·refine .inl ⟨by rfl,?_⟩;intro w hSw;(try dsimp only at hSw);go_simp
      all_goals with_reducible rfl
     ·exact fun _ _ _ h=>h
     try simp only [Act.put,Lq1,Lq2,Lq3]
     refine wpAnyH_ready (rs:=[3]) (by kernel_rfl) (by simp) ?_
     refine AllReadyH.cons (o:=?_) ?_ ?_ AllReadyH.nil
     rotate_left 1
     ·(simp only [Gq1,Gq2,Gq3])<;>rfl
     intro K hK
     go_simp
     refine (HB.out _).mono ?_
     rintro e8 w8 ⟨rfl,m8⟩
     have X8:=Hxq (XB.out.keep m8 (by simp));have A8:=Hxq (XA.out.keep m8 (by simp));have W8:=Hxq (HWC.out.new m8);have M8:=Lib.hid m8
     refine hK.out _ _ (by (try dsimp only);exact ⟨A8.out.c5,X8.out.c0,X8.out.c1,X8.out.c2,X8.out.c3,X8.out.c4,X8.out.c5,X8.out.c6⟩) (fun hHeld=>?_)
     clear hK K
     try simp only [Act.put,Lq1,Lq2,Lq3]
     refine wpAnyH_ready (rs:=[6]) (by kernel_rfl) (by simp) ?_
     refine AllReadyH.cons (o:=?_) ?_ ?_ AllReadyH.nil
     rotate_left 1
     ·(simp only [Gq1,Gq2,Gq3])<;>rfl
     intro K hK
     go_simp
     refine (HST.out _).mono ?_
     rintro e7 w7 ⟨rfl,rfl⟩
     refine hK.out _ _ (by (try dsimp only);exact ⟨A8.out.c5,X8.out.c0,X8.out.c1,X8.out.c2,X8.out.c3,X8.out.c4,X8.out.c5,X8.out.c6⟩) (fun hHeld=>?_)
     clear hK K
     try simp only [Act.put,Lq1,Lq2,Lq3]
     refine Tkq 7 (v:=?_) (by assumption) ?_ ?_ ?_
     rotate_left 1
     ·refine .inl ⟨by rfl,?_⟩;intro w hSw;(try dsimp only at hSw);go_simp
      all_goals with_reducible rfl
     ·exact fun _ _ _ h=>h
     try simp only [Act.put,Lq1,Lq2,Lq3]
     refine wpAnyH_ready (rs:=[9]) (by kernel_rfl) (by simp) ?_
     refine AllReadyH.cons (o:=?_) ?_ ?_ AllReadyH.nil
     rotate_left 1
     ·(simp only [Gq1,Gq2,Gq3])<;>rfl
     intro K hK
     go_simp
     refine (HAR.out _ q v l false br _ W8.out (by omega)).mono ?_
     rintro e9 w9 ⟨rfl,q9,v9,l9,bad9,h9,m9,r9⟩
     have X9:=Hxq (X8.out.wstep m9 hpB HPV.out);have A9:=Hxq (A8.out.wstep m9 hbp HBV.out)
     refine hK.out _ _ (by (try dsimp only);exact ⟨A9.out.c5,X9.out.c0,X9.out.c1,X9.out.c2,X9.out.c3,X9.out.c4,X9.out.c5,X9.out.c6⟩) (fun hHeld=>?_)
     clear hK K
     try simp only [Act.put,Lq1,Lq2,Lq3]
     refine wpAnyH_done (by kernel_rfl) ?_ _
     go_wp2_with fail
     go_meet
     exact ⟨q9,v9,l9,bad9,W8.out.step h9 m9,M0.out.trans ((WMod.of M8.out).trans m9),r9,A9.out,XC.out.keep M8.out (by simp) |>.wstep m9 hpC HPC.out,m9.beside (by have:=M8.out.size;have:=HMD.out.size;have:=HAC.out;omega) HBV.out,m9.beside (by have:=M8.out.size;have:=HMD.out.size;have:=HBC.out;omega) HPC.out,by have:=M8.out.size;have:=HMD.out.size;have:=m9.1.size;omega⟩
    case rest =>
     obtain ⟨q1,v1,l1,bad1,W1,M1,R1,XA,XC,V1,V2,hs⟩:=hcut
     have W1:=Lib.hid W1;have M1:=Lib.hid M1;have R1:=Lib.hid R1;have XA:=Lib.hid XA;have XC:=Lib.hid XC;have V1:=Lib.hid V1;have V2:=Lib.hid V2
     have hl1:=R1.out.1
     clear XB
     obtain ⟨-,-,-,-,-,x5,-⟩:=XA.out
     simp only [Nat.zero_add,Pr.Ex.k,Pr.Ex.v,Pr.Ex.x,Pr.Ex.op,Pr.Ex.args] at x5
     go_wp2_with fail
     refine (HSG.out _).mono ?_
     rintro e2 w2 ⟨rfl,m2⟩
     have W2:=Hxq (W1.out.new m2);have M2:=Hxq (M1.out.trans (WMod.of m2));have XA:=Hxq (XA.out.keep m2 (by simp));have XC:=Hxq (XC.out.keep m2 (by simp))
     have hs2:wC.heap.size<=w2.heap.size:=Nat.le_trans hs m2.size
     clear m2 x5 hs
     have hss:([{ data:=#[32] },Lx.ofS (Pr.sign eop),{ data:=#[32] }].flatMap Cod.str)=32 :: (Pr.sign eop++[32]):=by
      have e32:Cod.str { data:=#[32] }=[32]:=rfl
      simp only [List.flatMap_cons,List.flatMap_nil,List.append_nil]
      rw [e32,Lx.str_ofS HS6.out]
      rfl
     have HSS:=Lib.hid hss
     clear hss
     go_wp2_with fail
     refine (putS W2.out [{ data:=#[32] },Lx.ofS (Pr.sign eop),{ data:=#[32] }] rfl rfl (by simp) (by rw [HSS.out];have:=HSL.out;simp;omega)).mono ?_
     rw [HSS.out]
     rintro e3 w3 ⟨rfl,q3,v3,h3,m3⟩
     have W3:=Hxq (W2.out.step h3 m3);have M3:=Hxq (M2.out.trans m3)
     have XA:=Hxq (XA.out.wstep m3 hbp V1.out);have XC:=Hxq (XC.out.wstep m3 hpC V2.out)
     have V3:=Hxq (m3.beside (b:=w.heap.size) (by have:=HAC.out;omega) V1.out);have V4:=Hxq (m3.beside (b:=wB.heap.size) (by have:=HBC.out;omega) V2.out)
     have R3:=Hxq (R1.out.seq (Res.put l1 bad1 (32 :: (Pr.sign eop++[32]))))
     have hl3:(l1++(32 :: (Pr.sign eop++[32]))).length<=l1.length+5:=by have:=HSL.out;simp;omega
     have XA:=Hxq (XA.out.keep (Mod.refl [] w3).drew (by simp));have XC:=Hxq (XC.out.keep (Mod.refl [] w3).drew (by simp))
     have W3:=Hxq (W3.out.new (Mod.refl [] w3).drew);have M3:=Hxq (M3.out.trans (WMod.of (Mod.refl [] w3).drew))
     have HMD:=Hxq (Mod.refl [] w3).drew
     clear h3 m3 hszB hszC hsz hs2
     go_wp2_with fail
     refine wp_region_held_drew (S:=(fun w':World=>w'.cell? ⟨w.heap.size,0+5,none⟩=some (.int .i64 eop)/\w'.cell? ⟨wB.heap.size,0,none⟩=some (.int .i64 bk)/\w'.cell? ⟨wB.heap.size,0+1,none⟩=some (.string bv)/\w'.cell? ⟨wB.heap.size,0+2,none⟩=some (.int .i64 bx.k)/\w'.cell? ⟨wB.heap.size,0+3,none⟩=some (.int .i64 bx.n)/\w'.cell? ⟨wB.heap.size,0+4,none⟩=some (.string (Lx.ofS bx.s))/\w'.cell? ⟨wB.heap.size,0+5,none⟩=some (.int .i64 bop)/\w'.cell? ⟨wB.heap.size,0+6,none⟩=some (.slice bad_ bargs.length bc))) (by kernel_rfl) (by (try dsimp only);exact ⟨XA.out.c5,XC.out.c0,XC.out.c1,XC.out.c2,XC.out.c3,XC.out.c4,XC.out.c5,XC.out.c6⟩) (fun hHeld=>?_)
     refine Tkq 0 (v:=?_) (by assumption) ?_ ?_ ?_
     rotate_left 1
     ·refine .inl ⟨by rfl,?_⟩;intro w hSw;(try dsimp only at hSw);go_simp
      all_goals with_reducible rfl
     ·exact fun _ _ _ h=>h
     try simp only [Act.put,Lq1,Lq2,Lq3]
     refine Tkq 1 (v:=?_) (by assumption) ?_ ?_ ?_
     rotate_left 1
     ·refine .inl ⟨by rfl,?_⟩;intro w hSw;(try dsimp only at hSw);go_simp
      all_goals with_reducible rfl
     ·exact fun _ _ _ h=>h
     try simp only [Act.put,Lq1,Lq2,Lq3]
     refine Tkq 2 (v:=?_) (by assumption) ?_ ?_ ?_
     rotate_left 1
     ·refine .inl ⟨by rfl,?_⟩;intro w hSw;(try dsimp only at hSw);go_simp
      all_goals with_reducible rfl
     ·exact fun _ _ _ h=>h
     try simp only [Act.put,Lq1,Lq2,Lq3]
     refine Tkq 4 (v:=?_) (by assumption) ?_ ?_ ?_
     rotate_left 1
     ·refine .inl ⟨by rfl,?_⟩;intro w hSw;(try dsimp only at hSw);go_simp
      all_goals with_reducible rfl
     ·exact fun _ _ _ h=>h
     try simp only [Act.put,Lq1,Lq2,Lq3]
     refine Tkq 5 (v:=?_) (by assumption) ?_ ?_ ?_
     rotate_left 1
     ·refine .inl ⟨by rfl,?_⟩;intro w hSw;(try dsimp only at hSw);go_simp
      all_goals with_reducible rfl
     ·exact fun _ _ _ h=>h
     try simp only [Act.put,Lq1,Lq2,Lq3]
     refine Tkq 8 (v:=?_) (by assumption) ?_ ?_ ?_
     rotate_left 1
     ·refine .inl ⟨by rfl,?_⟩;intro w hSw;(try dsimp only at hSw);go_simp
      all_goals with_reducible rfl
     ·exact fun _ _ _ h=>h
     try simp only [Act.put,Lq1,Lq2,Lq3]
     refine wpAnyH_ready (rs:=[3]) (by kernel_rfl) (by simp) ?_
     refine AllReadyH.cons (o:=?_) ?_ ?_ AllReadyH.nil
     rotate_left 1
     ·(simp only [Gq1,Gq2,Gq3])<;>rfl
     intro K hK
     go_simp
     refine (HB2.out _).mono ?_
     rintro e8 w8 ⟨rfl,m8⟩
     have X8:=Hxq (XC.out.keep m8 (by simp));have A8:=Hxq (XA.out.keep m8 (by simp));have W8:=Hxq (W3.out.new m8);have M8:=Lib.hid m8
     refine hK.out _ _ (by (try dsimp only);exact ⟨A8.out.c5,X8.out.c0,X8.out.c1,X8.out.c2,X8.out.c3,X8.out.c4,X8.out.c5,X8.out.c6⟩) (fun hHeld=>?_)
     clear hK K
     try simp only [Act.put,Lq1,Lq2,Lq3]
     refine wpAnyH_ready (rs:=[6]) (by kernel_rfl) (by simp) ?_
     refine AllReadyH.cons (o:=?_) ?_ ?_ AllReadyH.nil
     rotate_left 1
     ·(simp only [Gq1,Gq2,Gq3])<;>rfl
     intro K hK
     go_simp
     refine (HST.out _).mono ?_
     rintro e7 w7 ⟨rfl,rfl⟩
     refine hK.out _ _ (by (try dsimp only);exact ⟨A8.out.c5,X8.out.c0,X8.out.c1,X8.out.c2,X8.out.c3,X8.out.c4,X8.out.c5,X8.out.c6⟩) (fun hHeld=>?_)
     clear hK K
     try simp only [Act.put,Lq1,Lq2,Lq3]
     refine Tkq 7 (v:=?_) (by assumption) ?_ ?_ ?_
     rotate_left 1
     ·refine .inl ⟨by rfl,?_⟩;intro w hSw;(try dsimp only at hSw);go_simp
      all_goals with_reducible rfl
     ·exact fun _ _ _ h=>h
     try simp only [Act.put,Lq1,Lq2,Lq3]
     refine wpAnyH_ready (rs:=[9]) (by kernel_rfl) (by simp) ?_
     refine AllReadyH.cons (o:=?_) ?_ ?_ AllReadyH.nil
     rotate_left 1
     ·(simp only [Gq1,Gq2,Gq3])<;>rfl
     intro K hK
     go_simp
     refine (HBR.out _ q3 v3 _ bad1 br _ W8.out (by omega)).mono ?_
     rintro e9 w9 ⟨rfl,q9,v9,l9,bad9,h9,m9,r9⟩
     have X9:=Hxq (X8.out.wstep m9 hpC V4.out);have A9:=Hxq (A8.out.wstep m9 hbp V3.out)
     refine hK.out _ _ (by (try dsimp only);exact ⟨A9.out.c5,X9.out.c0,X9.out.c1,X9.out.c2,X9.out.c3,X9.out.c4,X9.out.c5,X9.out.c6⟩) (fun hHeld=>?_)
     clear hK K
     try simp only [Act.put,Lq1,Lq2,Lq3]
     refine wpAnyH_done (by kernel_rfl) ?_ _
     go_wp2_with fail
     go_end0
     exact ⟨rfl,q9,v9,l9,bad9,h9,M3.out.trans ((WMod.of M8.out).trans m9),(R3.out.seq r9).of HPO.out.symm (by have:=HSL.out;simp only [List.length_cons,List.length_append,List.length_nil];omega)⟩
   ·have HPE:=Hxq (pO_two_none j (.mk kd ev ex eop eargs) o6 hn)
    have hnB:((eargs.length:Int) != 2)=true:=by rw [bne_iff_ne];omega
    clear h hE hG hC h1 h2 hbp hpw hsz o6 hn
    simp only [exV,Pr.Ex.k,Pr.Ex.v,Pr.Ex.x,Pr.Ex.op,Pr.Ex.args] at *
    go_enter Tryz.func27,Tryz.ntmps27
    all_goals go_wp2_with fail
    all_goals go_end0
    all_goals exact ⟨rfl,q,v,l,true,HS.out.1,(WMod.of MA.out).trans HS.out.2,res_bad (by omega) (fun _=>HPE.out)⟩
 ·have o6:True:=trivial
  have hn:True:=trivial
  clear h hE hG hC h1 h2 hbp hpw hsz o6 hn
  simp only [exV,Pr.Ex.k,Pr.Ex.v,Pr.Ex.x,Pr.Ex.op,Pr.Ex.args] at *
  go_enter Tryz.func27,Tryz.ntmps27
  all_goals go_wp2_with fail
  all_goals go_end0
  all_goals exact ⟨rfl,q,v,l,true,HS.out.1,(WMod.of MA.out).trans HS.out.2,res_bad (by omega) (fun h=>absurd h (by decide))⟩
end Go.Proofs.YtbfaclljbbfknaaGreatDoor
