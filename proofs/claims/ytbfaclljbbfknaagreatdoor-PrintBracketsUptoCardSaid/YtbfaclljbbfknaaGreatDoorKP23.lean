/- THE TEXTS MERGED: PrLit PrLit2. -/
import Derived.Test.YtbfaclljbbfknaaGreatDoorKP22
import Derived.Deep.CutBlock
import Derived.Deep.MidRow
namespace Go.Proofs.YtbfaclljbbfknaaGreatDoor
open Go.RowKit
set_option linter.unusedVariables false
set_option linter.unusedSimpArgs false
set_option maxRecDepth 100000
theorem CellsAt.past {w w':World} {b o:Nat} {xs:Array Value} (h:CellsAt w b o xs) (m:Mod [] w w'):CellsAt w' b o xs:=fun i x hx=>m.cell (h i x hx) (by simp)
theorem CellsAt.kept {w w':World} {b o:Nat} {xs:Array Value} {B:List Nat} (h:CellsAt w b o xs) (m:Kept B w w') (hb:b∈B):CellsAt w' b o xs:=fun i x hx=>m.cell (h i x hx) hb
theorem CellsAt.zero {w:World} {b:Nat} {xs:Array Value} (h:CellsAt w b 0 xs) (i:Nat) (x:Value) (hx:xs[i]?=some x):w.cell? ⟨b,i,none⟩=some x:=by
 have:=h i x hx
 rwa [Nat.zero_add] at this
inductive LOk (w:World):Pr.Li->LU->Prop
 | nil {k:Int} {a:Pr.Atom} {op:Int} {l r:Pr.Ex} {fn:Int} {av:ByteArray} {of:Pr.Ex} {ln cl:Int} {U:LU} {ad:Option Addr} {c:Nat} (ha:TOk w a.terms U.t) (hl:EOk w l U.l) (hr:EOk w r U.r) (ho:EOk w of U.o) (hb:U.b=.slice ad 0 c):LOk w (.mk k a op l r fn av of [] ln cl) U
 | row {k:Int} {a:Pr.Atom} {op:Int} {l r:Pr.Ex} {fn:Int} {av:ByteArray} {of:Pr.Ex} {body:List Pr.Li} {ln cl:Int} {U:LU} {b off c:Nat} {us:Nat->LU} (ha:TOk w a.terms U.t) (hl:EOk w l U.l) (hr:EOk w r U.r) (ho:EOk w of U.o) (hb:U.b=.slice (some ⟨b,off,none⟩) body.length c)
   (h1:∀ i (h:i<body.length),CellsAt w b (off+i * 30) (liV body[i] (us i))) (h2:∀ i (h:i<body.length),LOk w body[i] (us i)):LOk w (.mk k a op l r fn av of body ln cl) U
def BOk (w:World) (ls:List Pr.Li) (u:Value):Prop :=
 (ls=[]/\∃ a c,u=.slice a 0 c)\/∃ (b off c:Nat) (us:Nat->LU),u=.slice (some ⟨b,off,none⟩) ls.length c/\(∀ i (h:i<ls.length),CellsAt w b (off+i * 30) (liV ls[i] (us i)))/\∀ i (h:i<ls.length),LOk w ls[i] (us i)
theorem LOk.parts {w:World} {k:Int} {a:Pr.Atom} {op:Int} {l r:Pr.Ex} {fn:Int} {av:ByteArray} {of:Pr.Ex} {body:List Pr.Li} {ln cl:Int} {U:LU} (h:LOk w (.mk k a op l r fn av of body ln cl) U):TOk w a.terms U.t/\EOk w l U.l/\EOk w r U.r/\EOk w of U.o/\BOk w body U.b:=by
 cases h with
 | nil ha hl hr ho hb=>exact ⟨ha,hl,hr,ho,.inl ⟨rfl,_,_,hb⟩⟩
 | row ha hl hr ho hb h1 h2=>exact ⟨ha,hl,hr,ho,.inr ⟨_,_,_,_,hb,h1,h2⟩⟩
theorem LOk.past {w w':World} {e:Pr.Li} {U:LU} (h:LOk w e U) (m:Mod [] w w'):LOk w' e U:=by
 induction h with
 | nil ha hl hr ho hb=>exact .nil (ha.past m) (hl.past m) (hr.past m) (ho.past m) hb
 | row ha hl hr ho hb h1 h2 ih=>exact .row (ha.past m) (hl.past m) (hr.past m) (ho.past m) hb (fun i h=>(h1 i h).past m) ih
theorem BOk.past {w w':World} {ls:List Pr.Li} {u:Value} (h:BOk w ls u) (m:Mod [] w w'):BOk w' ls u:=by
 rcases h with h | ⟨b,off,c,us,hu,h1,h2⟩
 ·exact .inl h
 ·exact .inr ⟨b,off,c,us,hu,fun i h=>(h1 i h).past m,fun i h=>(h2 i h).past m⟩
theorem BOk.lit {w:World} {ls:List Pr.Li} {u:Value} (h:BOk w ls u):∃ a c,u=.slice a ls.length c:=by
 rcases h with ⟨rfl,a,c,rfl⟩ | ⟨b,off,c,us,rfl,-⟩
 ·exact ⟨_,_,rfl⟩
 ·exact ⟨_,_,rfl⟩
theorem BOk.at {w:World} {ls:List Pr.Li} {a:Option Addr} {c:Nat} (h:BOk w ls (.slice a ls.length c)) (i:Nat) (hi:i<ls.length):∃ b off U,a=some ⟨b,off,none⟩/\CellsAt w b (off+i * 30) (liV ls[i] U)/\LOk w ls[i] U:=by
 rcases h with ⟨rfl,a,c,h⟩ | ⟨b,off,c,us,hu,h1,h2⟩
 ·simp at hi
 ·simp only [Value.slice.injEq] at hu
  exact ⟨b,off,us i,hu.1,h1 i hi,h2 i hi⟩
theorem lsWt_app:∀ (a b:List Pr.Li),lsWt (a++b)=lsWt a+lsWt b
 | [],b=>by simp [lsWt]
 | e :: r,b=>by rw [List.cons_append];simp only [lsWt];rw [lsWt_app r b];omega
theorem lWt_pos (e:Pr.Li):1000<=lWt e:=by cases e;simp only [lWt];omega
theorem lsWt_len (ls:List Pr.Li):ls.length<=lsWt ls:=by
 induction ls with
 | nil=>simp
 | cons a r ih=>simp only [lsWt,List.length_cons];have:=lWt_pos a;omega
theorem lsWt_take (ls:List Pr.Li) (i:Nat) (h:i<ls.length):lsWt (ls.take (i+1))=lsWt (ls.take i)+lWt ls[i]:=by
 rw [List.take_succ_eq_append_getElem h,lsWt_app]
 simp [lsWt]
theorem lsWt_le (ls:List Pr.Li) (i:Nat):lsWt (ls.take i)<=lsWt ls:=by
 conv=>rhs;rw [<-List.take_append_drop i ls,lsWt_app]
 omega
set_option maxHeartbeats 4000000 in
theorem lacks_any (k:Int) (a:Pr.Atom) (op:Int) (l r:Pr.Ex) (fn:Int) (av:ByteArray) (of:Pr.Ex) (body:List Pr.Li) (ln cl:Int) (ta la ra oa ba:Option Addr) (tc lc rc oc bc:Nat) (w:World) :
  Calls Tryz.prog 83 #[.agg (liV (.mk k a op l r fn av of body ln cl) ⟨.slice ta a.terms.length tc,.slice la l.args.length lc,.slice ra r.args.length rc,.slice oa of.args.length oc,.slice ba body.length bc⟩)] w fun e w'=>e=.returned (.bool (Pr.lacks k a op l r fn av of body.length))/\Mod [] w w':=by
 have MA:=Hxq ((Mod.refl [] w).alloc (Obj.cells #[Value.int IntKind.i64 k,Value.string a.rel,(Value.slice ta a.terms.length tc),Value.int IntKind.i64 op,Value.int IntKind.i64 l.k,Value.string l.v,Value.int IntKind.i64 l.x.k,Value.int IntKind.i64 l.x.n,Value.string (Lx.ofS l.x.s),Value.int IntKind.i64 l.op,(Value.slice la l.args.length lc),Value.int IntKind.i64 r.k,Value.string r.v,Value.int IntKind.i64 r.x.k,Value.int IntKind.i64 r.x.n,Value.string (Lx.ofS r.x.s),Value.int IntKind.i64 r.op,(Value.slice ra r.args.length rc),Value.int IntKind.i64 fn,Value.string av,Value.int IntKind.i64 of.k,Value.string of.v,Value.int IntKind.i64 of.x.k,Value.int IntKind.i64 of.x.n,Value.string (Lx.ofS of.x.s),Value.int IntKind.i64 of.op,(Value.slice oa of.args.length oc),(Value.slice ba body.length bc),Value.int IntKind.i64 ln,Value.int IntKind.i64 cl] 40))
 have XA:Hid (CellsAt _ w.heap.size 0 (liV (.mk k a op l r fn av of body ln cl) ⟨.slice ta a.terms.length tc,.slice la l.args.length lc,.slice ra r.args.length rc,.slice oa of.args.length oc,.slice ba body.length bc⟩)):=Hxq (CellsAt.of (heap_alloc_new w (Obj.cells #[Value.int IntKind.i64 k,Value.string a.rel,(Value.slice ta a.terms.length tc),Value.int IntKind.i64 op,Value.int IntKind.i64 l.k,Value.string l.v,Value.int IntKind.i64 l.x.k,Value.int IntKind.i64 l.x.n,Value.string (Lx.ofS l.x.s),Value.int IntKind.i64 l.op,(Value.slice la l.args.length lc),Value.int IntKind.i64 r.k,Value.string r.v,Value.int IntKind.i64 r.x.k,Value.int IntKind.i64 r.x.n,Value.string (Lx.ofS r.x.s),Value.int IntKind.i64 r.op,(Value.slice ra r.args.length rc),Value.int IntKind.i64 fn,Value.string av,Value.int IntKind.i64 of.k,Value.string of.v,Value.int IntKind.i64 of.x.k,Value.int IntKind.i64 of.x.n,Value.string (Lx.ofS of.x.s),Value.int IntKind.i64 of.op,(Value.slice oa of.args.length oc),(Value.slice ba body.length bc),Value.int IntKind.i64 ln,Value.int IntKind.i64 cl] 40)))
 have HL:=Hxq (fun w=>noExpr_any l la lc w)
 have HR:=Hxq (fun w=>noExpr_any r ra rc w)
 have HO:=Hxq (fun w=>noExpr_any of oa oc w)
 have hlk:Pr.lacks k a op l r fn av of body.length=((decide (k=1\/k=2) || (decide (a.rel.size=0) && decide (a.terms.length=0))) && ((decide (k=3) || (decide (op=0) && (Pr.noExpr l && Pr.noExpr r))) && (decide (k=4) || (decide (fn=0) && (decide (av.size=0) && (Pr.noExpr of && decide (body.length=0))))))):=rfl
 rw [hlk]
 clear hlk
 have he1:a.rel.toList.isEmpty=decide (a.rel.size=0):=toList_isEmpty a.rel
 have he2:av.toList.isEmpty=decide (av.size=0):=toList_isEmpty av
 have hl1:((a.terms.length:Int) == 0)=decide (a.terms.length=0):=by rw [Bool.eq_iff_iff,beq_iff_eq,decide_eq_true_eq];omega
 have hl2:((body.length:Int) == 0)=decide (body.length=0):=by rw [Bool.eq_iff_iff,beq_iff_eq,decide_eq_true_eq];omega
 unfold liV exV at *
 generalize Pr.noExpr l=nl at *
 generalize Pr.noExpr r=nr at *
 generalize Pr.noExpr of=no at *
 generalize hRR:(((decide (k=1\/k=2) || (decide (a.rel.size=0) && decide (a.terms.length=0))) && ((decide (k=3) || (decide (op=0) && (nl && nr))) && (decide (k=4) || (decide (fn=0) && (decide (av.size=0) && (no && decide (body.length=0))))))))=RR
 have HRR:=Lib.hid hRR
 clear hRR
 go_enter Tryz.func83,Tryz.ntmps83
 go_upto_region 1 with fail
 generalize w.alloc (Obj.cells #[Value.int IntKind.i64 k,Value.string a.rel,(Value.slice ta a.terms.length tc),Value.int IntKind.i64 op,Value.int IntKind.i64 l.k,Value.string l.v,Value.int IntKind.i64 l.x.k,Value.int IntKind.i64 l.x.n,Value.string (Lx.ofS l.x.s),Value.int IntKind.i64 l.op,(Value.slice la l.args.length lc),Value.int IntKind.i64 r.k,Value.string r.v,Value.int IntKind.i64 r.x.k,Value.int IntKind.i64 r.x.n,Value.string (Lx.ofS r.x.s),Value.int IntKind.i64 r.op,(Value.slice ra r.args.length rc),Value.int IntKind.i64 fn,Value.string av,Value.int IntKind.i64 of.k,Value.string of.v,Value.int IntKind.i64 of.x.k,Value.int IntKind.i64 of.x.n,Value.string (Lx.ofS of.x.s),Value.int IntKind.i64 of.op,(Value.slice oa of.args.length oc),(Value.slice ba body.length bc),Value.int IntKind.i64 ln,Value.int IntKind.i64 cl] 40)=wA at *
 have c0:wA.cell? ⟨w.heap.size,0,none⟩=some (.int .i64 k):=XA.out.zero 0 _ rfl
 have c1:wA.cell? ⟨w.heap.size,1,none⟩=some (.string a.rel):=XA.out.zero 1 _ rfl
 have c2:wA.cell? ⟨w.heap.size,2,none⟩=some ((.slice ta a.terms.length tc)):=XA.out.zero 2 _ rfl
 have c3:wA.cell? ⟨w.heap.size,3,none⟩=some (.int .i64 op):=XA.out.zero 3 _ rfl
 have c4:wA.cell? ⟨w.heap.size,4,none⟩=some (.int .i64 l.k):=XA.out.zero 4 _ rfl
 have c5:wA.cell? ⟨w.heap.size,5,none⟩=some (.string l.v):=XA.out.zero 5 _ rfl
 have c6:wA.cell? ⟨w.heap.size,6,none⟩=some (.int .i64 l.x.k):=XA.out.zero 6 _ rfl
 have c7:wA.cell? ⟨w.heap.size,7,none⟩=some (.int .i64 l.x.n):=XA.out.zero 7 _ rfl
 have c8:wA.cell? ⟨w.heap.size,8,none⟩=some (.string (Lx.ofS l.x.s)):=XA.out.zero 8 _ rfl
 have c9:wA.cell? ⟨w.heap.size,9,none⟩=some (.int .i64 l.op):=XA.out.zero 9 _ rfl
 have c10:wA.cell? ⟨w.heap.size,10,none⟩=some ((.slice la l.args.length lc)):=XA.out.zero 10 _ rfl
 have c11:wA.cell? ⟨w.heap.size,11,none⟩=some (.int .i64 r.k):=XA.out.zero 11 _ rfl
 have c12:wA.cell? ⟨w.heap.size,12,none⟩=some (.string r.v):=XA.out.zero 12 _ rfl
 have c13:wA.cell? ⟨w.heap.size,13,none⟩=some (.int .i64 r.x.k):=XA.out.zero 13 _ rfl
 have c14:wA.cell? ⟨w.heap.size,14,none⟩=some (.int .i64 r.x.n):=XA.out.zero 14 _ rfl
 have c15:wA.cell? ⟨w.heap.size,15,none⟩=some (.string (Lx.ofS r.x.s)):=XA.out.zero 15 _ rfl
 have c16:wA.cell? ⟨w.heap.size,16,none⟩=some (.int .i64 r.op):=XA.out.zero 16 _ rfl
 have c17:wA.cell? ⟨w.heap.size,17,none⟩=some ((.slice ra r.args.length rc)):=XA.out.zero 17 _ rfl
 have c18:wA.cell? ⟨w.heap.size,18,none⟩=some (.int .i64 fn):=XA.out.zero 18 _ rfl
 have c19:wA.cell? ⟨w.heap.size,19,none⟩=some (.string av):=XA.out.zero 19 _ rfl
 have c20:wA.cell? ⟨w.heap.size,20,none⟩=some (.int .i64 of.k):=XA.out.zero 20 _ rfl
 have c21:wA.cell? ⟨w.heap.size,21,none⟩=some (.string of.v):=XA.out.zero 21 _ rfl
 have c22:wA.cell? ⟨w.heap.size,22,none⟩=some (.int .i64 of.x.k):=XA.out.zero 22 _ rfl
 have c23:wA.cell? ⟨w.heap.size,23,none⟩=some (.int .i64 of.x.n):=XA.out.zero 23 _ rfl
 have c24:wA.cell? ⟨w.heap.size,24,none⟩=some (.string (Lx.ofS of.x.s)):=XA.out.zero 24 _ rfl
 have c25:wA.cell? ⟨w.heap.size,25,none⟩=some (.int .i64 of.op):=XA.out.zero 25 _ rfl
 have c26:wA.cell? ⟨w.heap.size,26,none⟩=some ((.slice oa of.args.length oc)):=XA.out.zero 26 _ rfl
 have c27:wA.cell? ⟨w.heap.size,27,none⟩=some ((.slice ba body.length bc)):=XA.out.zero 27 _ rfl
 have c28:wA.cell? ⟨w.heap.size,28,none⟩=some (.int .i64 ln):=XA.out.zero 28 _ rfl
 have c29:wA.cell? ⟨w.heap.size,29,none⟩=some (.int .i64 cl):=XA.out.zero 29 _ rfl
 clear XA
 have hK2:Hid (((k == 1) || (k == 2))=decide (k=1\/k=2)):=Hxq (by rw [Bool.eq_iff_iff];simp)
 obtain ⟨A,hA⟩:∃ A,decide (k=1\/k=2)=A:=⟨_,rfl⟩
 have hK3:(k == 3)=decide (k=3):=by rw [Bool.eq_iff_iff];simp
 have hK4:(k == 4)=decide (k=4):=by rw [Bool.eq_iff_iff];simp
 have hOp:(op == 0)=decide (op=0):=by rw [Bool.eq_iff_iff];simp
 have hFn:(fn == 0)=decide (fn=0):=by rw [Bool.eq_iff_iff];simp
 go_cut [3] (fun c wx=>c=.bool (decide (k=1\/k=2))/\wx=wA)
 case first =>
  by_cases k1:k=1
  ·subst k1
   go_wp2_with fail
   go_meet
   exact ⟨by rfl,rfl⟩
  ·have k1B:(k == 1)=false:=by rw [beq_eq_false_iff_ne];exact k1
   have K1:=Lib.hid k1
   clear k1 hK3 hK4
   go_wp2_with fail
   go_meet
   exact ⟨by rw [<-hK2.out,k1B];rfl,rfl⟩
 case rest =>
  obtain ⟨rfl,rfl⟩:=hcut
  rw [hA]
  clear hK2
  have hl3:decide (0<a.terms.length)=!decide (a.terms.length=0):=by generalize a.terms.length=n;cases n <;> simp
  go_upto_region 2 with fail
  go_cut [26] (fun c wx=>c=.bool (!A && !(decide (a.rel.size=0) && decide (a.terms.length=0)))/\wx=wc)
  case first =>
   have hL3:=Lib.hid hl3
   clear hl3 hl1 hl2 he2 hK3 hK4 hOp hFn
   cases A
   ·obtain ⟨E1,hE1⟩:∃ E1,decide (a.rel.size=0)=E1:=⟨_,rfl⟩
    rw [hE1] at he1
    have HE1:=Lib.hid hE1
    clear hE1 hA
    cases E1
    all_goals (
     go_wp2_with fail
     go_meet
     first | exact ⟨by rw [HE1.out];rfl,rfl⟩ | exact ⟨by rw [HE1.out];simp [hL3.out],rfl⟩)
   ·clear hA
    go_wp2_with fail
    go_meet
    exact ⟨by rfl,rfl⟩
  case rest =>
   obtain ⟨rfl,rfl⟩:=hcut
   obtain ⟨D,hD⟩:∃ D,(decide (a.rel.size=0) && decide (a.terms.length=0))=D:=⟨_,rfl⟩
   rw [hD]
   clear hl3 hl1 he1
   have HD:=Lib.hid hD
   have HAA:=Lib.hid hA
   clear hD hA
   by_cases hAD:(!A && !D)=true
   ·have hr:(A || D)=false:=by cases A <;> cases D <;> simp_all
    rw [hAD]
    clear hAD
    have HR0:=Lib.hid hr
    clear hr
    go_wp2_with fail
    go_ret
    exact ⟨by rw [<-HRR.out,HAA.out,HD.out,HR0.out];rfl,MA.out⟩
   ·have hAD:(!A && !D)=false:=by simpa using hAD
    have hr:(A || D)=true:=by cases A <;> cases D <;> simp_all
    rw [hAD]
    have HR0:=Lib.hid hr
    clear hAD hr
    go_upto_region 4 with fail
    have HE2:=Lib.hid he2
    have HL2:=Lib.hid hl2
    clear hK4 hFn hl2 he2
    go_cut [46] (fun c wx=>c=.bool (!decide (k=3) && (!decide (op=0) || (!nl || !nr)))/\Mod [] wc wx)
    case first =>
     by_cases k3:k=3
     ·subst k3
      clear hK3
      go_wp2_with fail
      go_meet
      exact ⟨by simp,Mod.refl _ _⟩
     ·have k3B:(k == 3)=false:=by rw [beq_eq_false_iff_ne];exact k3
      have K3:=Lib.hid k3
      clear k3 hK3
      by_cases o0:op=0
      ·subst o0
       clear hOp
       go_wp2_with fail
       refine (HL.out _).mono ?_
       rintro e1 w1 ⟨rfl,m1⟩
       have c11':=m1.cell c11 (by simp)
       have c12':=m1.cell c12 (by simp)
       have c13':=m1.cell c13 (by simp)
       have c14':=m1.cell c14 (by simp)
       have c15':=m1.cell c15 (by simp)
       have c16':=m1.cell c16 (by simp)
       have c17':=m1.cell c17 (by simp)
       cases nl
       ·go_wp2_with fail
        go_meet
        exact ⟨by simp [K3.out],m1⟩
       ·go_wp2_with fail
        refine (HR.out _).mono ?_
        rintro e2 w2 ⟨rfl,m2⟩
        have M2:=Hxq (m1.trans m2 (by simp))
        clear m1 m2
        go_wp2_with fail
        go_meet
        exact ⟨by simp [K3.out],M2.out⟩
      ·have oB:(op == 0)=false:=by rw [beq_eq_false_iff_ne];exact o0
       have O0:=Lib.hid o0
       clear o0 hOp
       go_wp2_with fail
       go_meet
       exact ⟨by simp [K3.out,O0.out],Mod.refl _ _⟩
    case rest =>
     obtain ⟨rfl,mF⟩:=hcut
     obtain ⟨F,hF⟩:∃ F,(decide (k=3) || (decide (op=0) && (nl && nr)))=F:=⟨_,rfl⟩
     have hnF:(!decide (k=3) && (!decide (op=0) || (!nl || !nr)))=!F:=by rw [<-hF];simp [Bool.not_or,Bool.not_and]
     rw [hnF]
     have HF:=Lib.hid hF
     have MW:=Hxq (MA.out.trans mF (by simp))
     clear hF hnF hK3 hOp
     have d0:=mF.cell c0 (by simp)
     have d18:=mF.cell c18 (by simp)
     have d19:=mF.cell c19 (by simp)
     have d20:=mF.cell c20 (by simp)
     have d21:=mF.cell c21 (by simp)
     have d22:=mF.cell c22 (by simp)
     have d23:=mF.cell c23 (by simp)
     have d24:=mF.cell c24 (by simp)
     have d25:=mF.cell c25 (by simp)
     have d26:=mF.cell c26 (by simp)
     have d27:=mF.cell c27 (by simp)
     clear mF
     cases F
     ·have hT:(!false)=true:=rfl
      rw [hT]
      clear hT
      go_wp2_with fail
      go_ret
      exact ⟨by rw [<-HRR.out,HAA.out,HD.out,HR0.out,HF.out];rfl,MW.out⟩
     ·have hT:(!true)=false:=rfl
      rw [hT]
      clear hT
      go_upto_region 6 with fail
      by_cases k4:k=4
      ·subst k4
       go_wp2_with fail
       go_ret
       exact ⟨by show Ending.returned (.bool true)=Ending.returned (.bool RR);rw [<-HRR.out,HAA.out,HD.out,HR0.out,HF.out];rfl,MW.out⟩
      ·have k4B:(k == 4)=false:=by rw [beq_eq_false_iff_ne];exact k4
       have K4:=Lib.hid k4
       clear k4
       by_cases f0:fn=0
       ·subst f0
        by_cases v0:av.size=0
        ·have he2:av.toList.isEmpty=true:=by rw [HE2.out,v0];rfl
         have V0:=Lib.hid v0
         clear v0
         go_wp2_with fail
         refine (HO.out _).mono ?_
         rintro e1 w1 ⟨rfl,m1⟩
         have MW1:=Hxq (MW.out.trans m1 (by simp))
         have d27:=m1.cell d27 (by simp)
         clear m1
         have hl2:=HL2.out
         cases no
         ·clear hl2
          go_wp2_with fail
          go_ret
          exact ⟨by show Ending.returned (.bool false)=Ending.returned (.bool RR);rw [<-HRR.out,HAA.out,HD.out,HR0.out,HF.out];simp [K4.out],MW1.out⟩
         ·go_wp2_with fail
          go_ret
          exact ⟨by show Ending.returned (.bool (decide (body=[])))=Ending.returned (.bool RR);rw [<-HRR.out,HAA.out,HD.out,HR0.out,HF.out];simp [K4.out,V0.out],MW1.out⟩
        ·have he2:av.toList.isEmpty=false:=by rw [HE2.out];simpa using v0
         have V0:=Lib.hid v0
         clear v0
         go_wp2_with fail
         go_ret
         exact ⟨by show Ending.returned (.bool false)=Ending.returned (.bool RR);rw [<-HRR.out,HAA.out,HD.out,HR0.out,HF.out];simp [K4.out,V0.out],MW.out⟩
       ·have fB:(fn == 0)=false:=by rw [beq_eq_false_iff_ne];exact f0
        have F0:=Lib.hid f0
        clear f0
        go_wp2_with fail
        go_ret
        exact ⟨by show Ending.returned (.bool false)=Ending.returned (.bool RR);rw [<-HRR.out,HAA.out,HD.out,HR0.out,HF.out];simp [K4.out,F0.out],MW.out⟩
def agVP (fn:Int) (av:ByteArray) (of:Pr.Ex) (uo ub:Value):Array Value:=#[.int .i64 fn,.string av,.int .i64 of.k,.string of.v,.int .i64 of.x.k,.int .i64 of.x.n,.string (Lx.ofS of.x.s),.int .i64 of.op,uo,ub]
def LitC (w0:World) (b:Nat):Prop:=∀ (e:Pr.Li) (U:LU) (p:Nat) (q v:Value) (l:List Nat) (bad:Bool) (w:World),WAt w0 w p q v l bad (16 - (b:Int))->LOk w0 e U->GlobV w0->l.length+(lWt e - 100)<=140737488000000 ->
 Calls Tryz.prog 67 #[.pointer (some ⟨p,0,none⟩),.agg (liV e U)] w (WRes p v l bad (16 - (b:Int)) (Pr.pL b e) (lWt e - 100) w)
def BodyC (w0:World) (b:Nat):Prop:=∀ (ls:List Pr.Li) (u:Value) (p:Nat) (q v:Value) (l:List Nat) (bad:Bool) (w:World),WAt w0 w p q v l bad (16 - (b:Int))->BOk w0 ls u->GlobV w0->l.length+lsWt ls<=140737488000000 ->
 Calls Tryz.prog 44 #[.pointer (some ⟨p,0,none⟩),u] w (WRes p v l bad (16 - (b:Int)) (comO (Pr.pL b) ls) (lsWt ls) w)
def AggC (w0:World) (b:Nat):Prop:=∀ (fn:Int) (av:ByteArray) (of:Pr.Ex) (body:List Pr.Li) (uo ub:Value) (p:Nat) (q v:Value) (l:List Nat) (bad:Bool) (w:World),WAt w0 w p q v l bad (16 - (b:Int))->EOk w0 of uo->BOk w0 body ub->GlobV w0->l.length+(exWt of+av.size+500+lsWt body)<=140737488000000 ->
 Calls Tryz.prog 84 #[.pointer (some ⟨p,0,none⟩),.agg (agVP fn av of uo ub)] w (WRes p v l bad (16 - (b:Int)) (pG b fn av of body) (exWt of+av.size+500+lsWt body) w)
theorem CellsAt.range {w:World} {b o:Nat} {cs:List Value} (h:CellsAt w b o cs.toArray):w.rangeAt b o cs:=fun j v hv=>h j v (by simpa using hv)
def cmpS (op:Int):ByteArray:=if op=1 then { data:=#[32,61,32] } else if op=2 then { data:=#[32,33,61,32] } else if op=3 then { data:=#[32,60,32] } else if op=4 then { data:=#[32,60,61,32] } else if op=5 then { data:=#[32,62,32] } else { data:=#[32,62,61,32] }
theorem cmpS_len (op:Int):(cmpS op).size<=4:=by
 unfold cmpS
 repeat' split
 all_goals decide
theorem cmpS_str (op:Int):Cod.str (cmpS op)=Pr.cmp op:=by
 unfold cmpS Pr.cmp
 repeat' split
 all_goals rfl
section
variable (b:Nat) (a:Pr.Atom) (op:Int) (l r:Pr.Ex) (fn:Int) (av:ByteArray) (of:Pr.Ex) (body:List Pr.Li)
theorem tail1:tailO b 1 a op l r fn av of body=Pr.pA a:=by unfold tailO;rw [if_pos rfl]
theorem tail2:tailO b 2 a op l r fn av of body=cat (some [110,111,116,32]) (Pr.pA a):=by unfold tailO;rw [if_neg (by decide),if_pos rfl]
theorem tail3:tailO b 3 a op l r fn av of body=cat (cat (Pr.pE 17 l) (cmpO op)) (Pr.pE 17 r):=by unfold tailO;rw [if_neg (by decide),if_neg (by decide),if_pos rfl]
theorem tail4:tailO b 4 a op l r fn av of body=pG b fn av of body:=by unfold tailO;rw [if_neg (by decide),if_neg (by decide),if_neg (by decide),if_pos rfl]
theorem tailNP {k:Int} (h1:k≠1) (h2:k≠2) (h3:k≠3) (h4:k≠4):tailO b k a op l r fn av of body=none:=by unfold tailO;rw [if_neg h1,if_neg h2,if_neg h3,if_neg h4]
end
set_option maxHeartbeats 8000000 in
theorem lit_ofP {w0:World} {b:Nat} (hb16:b<=16) (HA:AggC w0 b):LitC w0 b:=by
 intro e U p q v l bad w h hL hG hlen
 obtain ⟨k,a,op,le,re,fn,av,of,body,ln,cl⟩:=e
 obtain ⟨hT,hl,hr,ho,hb⟩:=hL.parts
 obtain ⟨Ut,Ul,Ur,Uo,Ub⟩:=U
 dsimp only at hT hl hr ho hb
 obtain ⟨ta,tc,rfl⟩:=hT.lit
 obtain ⟨la,lc,rfl⟩:=hl.lit
 obtain ⟨ra,rc,rfl⟩:=hr.lit
 obtain ⟨oa,oc,rfl⟩:=ho.lit
 obtain ⟨ba,bc,rfl⟩:=hb.lit
 rw [pL_eq]
 have hW:lWt (.mk k a op le re fn av of body ln cl)=aWt a+exWt le+exWt re+exWt of+av.size+1000+lsWt body:=rfl
 have HLK:=Hxq (fun w=>lacks_any k a op le re fn av of body ln cl ta la ra oa ba tc lc rc oc bc w)
 have MA:=Hxq ((Mod.refl [] w).alloc (Obj.cells #[Value.int IntKind.i64 k,Value.string a.rel,(Value.slice ta a.terms.length tc),Value.int IntKind.i64 op,Value.int IntKind.i64 le.k,Value.string le.v,Value.int IntKind.i64 le.x.k,Value.int IntKind.i64 le.x.n,Value.string (Lx.ofS le.x.s),Value.int IntKind.i64 le.op,(Value.slice la le.args.length lc),Value.int IntKind.i64 re.k,Value.string re.v,Value.int IntKind.i64 re.x.k,Value.int IntKind.i64 re.x.n,Value.string (Lx.ofS re.x.s),Value.int IntKind.i64 re.op,(Value.slice ra re.args.length rc),Value.int IntKind.i64 fn,Value.string av,Value.int IntKind.i64 of.k,Value.string of.v,Value.int IntKind.i64 of.x.k,Value.int IntKind.i64 of.x.n,Value.string (Lx.ofS of.x.s),Value.int IntKind.i64 of.op,(Value.slice oa of.args.length oc),(Value.slice ba body.length bc),Value.int IntKind.i64 ln,Value.int IntKind.i64 cl] 40))
 have RA:=Hxq ((Run.start h).fresh MA.out (by simp))
 have XA:Hid (CellsAt _ w.heap.size 0 (liV (.mk k a op le re fn av of body ln cl) ⟨.slice ta a.terms.length tc,.slice la le.args.length lc,.slice ra re.args.length rc,.slice oa of.args.length oc,.slice ba body.length bc⟩)):=Hxq (CellsAt.of (heap_alloc_new w (Obj.cells #[Value.int IntKind.i64 k,Value.string a.rel,(Value.slice ta a.terms.length tc),Value.int IntKind.i64 op,Value.int IntKind.i64 le.k,Value.string le.v,Value.int IntKind.i64 le.x.k,Value.int IntKind.i64 le.x.n,Value.string (Lx.ofS le.x.s),Value.int IntKind.i64 le.op,(Value.slice la le.args.length lc),Value.int IntKind.i64 re.k,Value.string re.v,Value.int IntKind.i64 re.x.k,Value.int IntKind.i64 re.x.n,Value.string (Lx.ofS re.x.s),Value.int IntKind.i64 re.op,(Value.slice ra re.args.length rc),Value.int IntKind.i64 fn,Value.string av,Value.int IntKind.i64 of.k,Value.string of.v,Value.int IntKind.i64 of.x.k,Value.int IntKind.i64 of.x.n,Value.string (Lx.ofS of.x.s),Value.int IntKind.i64 of.op,(Value.slice oa of.args.length oc),(Value.slice ba body.length bc),Value.int IntKind.i64 ln,Value.int IntKind.i64 cl] 40)))
 have HT:=Lib.hid hT
 have HE1:=Lib.hid hl
 have HE2:=Lib.hid hr
 have HEO:=Lib.hid ho
 have HB:=Lib.hid hb
 have HG:=Lib.hid hG
 have HAG:=Lib.hid HA
 unfold AggC agVP at HAG
 clear h hL hT hl hr ho hb hG HA
 unfold liV at *
 generalize Pr.lacks k a op le re fn av of body.length=lk at *
 rw [hW] at hlen ⊢
 clear hW
 go_enter Tryz.func67,Tryz.ntmps67
 go_upto_region 1 with fail
 generalize w.alloc (Obj.cells #[Value.int IntKind.i64 k,Value.string a.rel,(Value.slice ta a.terms.length tc),Value.int IntKind.i64 op,Value.int IntKind.i64 le.k,Value.string le.v,Value.int IntKind.i64 le.x.k,Value.int IntKind.i64 le.x.n,Value.string (Lx.ofS le.x.s),Value.int IntKind.i64 le.op,(Value.slice la le.args.length lc),Value.int IntKind.i64 re.k,Value.string re.v,Value.int IntKind.i64 re.x.k,Value.int IntKind.i64 re.x.n,Value.string (Lx.ofS re.x.s),Value.int IntKind.i64 re.op,(Value.slice ra re.args.length rc),Value.int IntKind.i64 fn,Value.string av,Value.int IntKind.i64 of.k,Value.string of.v,Value.int IntKind.i64 of.x.k,Value.int IntKind.i64 of.x.n,Value.string (Lx.ofS of.x.s),Value.int IntKind.i64 of.op,(Value.slice oa of.args.length oc),(Value.slice ba body.length bc),Value.int IntKind.i64 ln,Value.int IntKind.i64 cl] 40)=wA at *
 have XR:=CellsAt.range (cs:=[Value.int IntKind.i64 k,Value.string a.rel,(Value.slice ta a.terms.length tc),Value.int IntKind.i64 op,Value.int IntKind.i64 le.k,Value.string le.v,Value.int IntKind.i64 le.x.k,Value.int IntKind.i64 le.x.n,Value.string (Lx.ofS le.x.s),Value.int IntKind.i64 le.op,(Value.slice la le.args.length lc),Value.int IntKind.i64 re.k,Value.string re.v,Value.int IntKind.i64 re.x.k,Value.int IntKind.i64 re.x.n,Value.string (Lx.ofS re.x.s),Value.int IntKind.i64 re.op,(Value.slice ra re.args.length rc),Value.int IntKind.i64 fn,Value.string av,Value.int IntKind.i64 of.k,Value.string of.v,Value.int IntKind.i64 of.x.k,Value.int IntKind.i64 of.x.n,Value.string (Lx.ofS of.x.s),Value.int IntKind.i64 of.op,(Value.slice oa of.args.length oc),(Value.slice ba body.length bc),Value.int IntKind.i64 ln,Value.int IntKind.i64 cl]) XA.out
 go_wp2_with (refine wpList_load_mid rfl 40 _ rfl w.heap.size 0 rfl _ _ XR Tryz.underlying40 rfl (by kernel_rfl) ?_)
 refine (HLK.out _).mono ?_
 rintro e1 w1 ⟨rfl,m1⟩
 have R1:=Hxq (RA.out.new m1)
 have X1:=Hxq (XA.out.past m1)
 clear m1 HLK XR XA
 go_wp2_with fail
 refine (R1.out.must lk).mono ?_
 rintro e2 w2 ⟨rfl,r2,k2⟩
 have R2:=Hxq (r2.of (cat_nil _) (Nat.le_refl _))
 have X2:=Hxq (X1.out.kept k2 (by simp))
 clear k2 r2 X1
 have c0:w2.cell? ⟨w.heap.size,0,none⟩=some (.int .i64 k):=X2.out.zero 0 _ rfl
 have c1:w2.cell? ⟨w.heap.size,1,none⟩=some (.string a.rel):=X2.out.zero 1 _ rfl
 have c2:w2.cell? ⟨w.heap.size,2,none⟩=some ((.slice ta a.terms.length tc)):=X2.out.zero 2 _ rfl
 have c3:w2.cell? ⟨w.heap.size,3,none⟩=some (.int .i64 op):=X2.out.zero 3 _ rfl
 have c4:w2.cell? ⟨w.heap.size,4,none⟩=some (.int .i64 le.k):=X2.out.zero 4 _ rfl
 have c5:w2.cell? ⟨w.heap.size,5,none⟩=some (.string le.v):=X2.out.zero 5 _ rfl
 have c6:w2.cell? ⟨w.heap.size,6,none⟩=some (.int .i64 le.x.k):=X2.out.zero 6 _ rfl
 have c7:w2.cell? ⟨w.heap.size,7,none⟩=some (.int .i64 le.x.n):=X2.out.zero 7 _ rfl
 have c8:w2.cell? ⟨w.heap.size,8,none⟩=some (.string (Lx.ofS le.x.s)):=X2.out.zero 8 _ rfl
 have c9:w2.cell? ⟨w.heap.size,9,none⟩=some (.int .i64 le.op):=X2.out.zero 9 _ rfl
 have c10:w2.cell? ⟨w.heap.size,10,none⟩=some ((.slice la le.args.length lc)):=X2.out.zero 10 _ rfl
 have c11:w2.cell? ⟨w.heap.size,11,none⟩=some (.int .i64 re.k):=X2.out.zero 11 _ rfl
 have c12:w2.cell? ⟨w.heap.size,12,none⟩=some (.string re.v):=X2.out.zero 12 _ rfl
 have c13:w2.cell? ⟨w.heap.size,13,none⟩=some (.int .i64 re.x.k):=X2.out.zero 13 _ rfl
 have c14:w2.cell? ⟨w.heap.size,14,none⟩=some (.int .i64 re.x.n):=X2.out.zero 14 _ rfl
 have c15:w2.cell? ⟨w.heap.size,15,none⟩=some (.string (Lx.ofS re.x.s)):=X2.out.zero 15 _ rfl
 have c16:w2.cell? ⟨w.heap.size,16,none⟩=some (.int .i64 re.op):=X2.out.zero 16 _ rfl
 have c17:w2.cell? ⟨w.heap.size,17,none⟩=some ((.slice ra re.args.length rc)):=X2.out.zero 17 _ rfl
 have c18:w2.cell? ⟨w.heap.size,18,none⟩=some (.int .i64 fn):=X2.out.zero 18 _ rfl
 have c19:w2.cell? ⟨w.heap.size,19,none⟩=some (.string av):=X2.out.zero 19 _ rfl
 have c20:w2.cell? ⟨w.heap.size,20,none⟩=some (.int .i64 of.k):=X2.out.zero 20 _ rfl
 have c21:w2.cell? ⟨w.heap.size,21,none⟩=some (.string of.v):=X2.out.zero 21 _ rfl
 have c22:w2.cell? ⟨w.heap.size,22,none⟩=some (.int .i64 of.x.k):=X2.out.zero 22 _ rfl
 have c23:w2.cell? ⟨w.heap.size,23,none⟩=some (.int .i64 of.x.n):=X2.out.zero 23 _ rfl
 have c24:w2.cell? ⟨w.heap.size,24,none⟩=some (.string (Lx.ofS of.x.s)):=X2.out.zero 24 _ rfl
 have c25:w2.cell? ⟨w.heap.size,25,none⟩=some (.int .i64 of.op):=X2.out.zero 25 _ rfl
 have c26:w2.cell? ⟨w.heap.size,26,none⟩=some ((.slice oa of.args.length oc)):=X2.out.zero 26 _ rfl
 have c27:w2.cell? ⟨w.heap.size,27,none⟩=some ((.slice ba body.length bc)):=X2.out.zero 27 _ rfl
 have c28:w2.cell? ⟨w.heap.size,28,none⟩=some (.int .i64 ln):=X2.out.zero 28 _ rfl
 have c29:w2.cell? ⟨w.heap.size,29,none⟩=some (.int .i64 cl):=X2.out.zero 29 _ rfl
 by_cases k1:k=1
 ·subst k1
  go_wp2_with fail
  refine (R2.out.atom a _ HT.out HG.out (by omega)).mono ?_
  rintro e3 w3 ⟨rfl,r3,k3⟩
  have R3:=Lib.hid r3
  clear r3 k3
  go_wp2_with fail
  go_end0
  exact (R3.out.of (by rw [tail1]) (by omega)).done
 ·by_cases k2:k=2
  ·subst k2
   clear k1
   go_wp2_with fail
   refine (R2.out.put [{ data:=#[110,111,116,32] }] rfl rfl (by simp) (by rw [fl_len];show _+(4+0)<=_;omega)).mono ?_
   rintro e3 w3 ⟨rfl,r3,k3⟩
   have R3:=Hxq (r3.of (o':=cat (mustO lk) (some [110,111,116,32])) (n':=4) rfl (by rw [fl_len];exact Nat.le_of_eq rfl))
   have c1:=k3.cell c1 (by simp);have c2:=k3.cell c2 (by simp)
   clear r3 k3
   go_wp2_with fail
   refine (R3.out.atom a _ HT.out HG.out (by omega)).mono ?_
   rintro e4 w4 ⟨rfl,r4,k4⟩
   have R4:=Lib.hid r4
   clear r4 k4
   go_wp2_with fail
   go_end0
   exact (R4.out.of (by rw [cat_assoc,tail2]) (by omega)).done
  ·by_cases k3:k=3
   ·subst k3
    clear k1 k2
    have M3:=Hxq ((Mod.refl [] w2).alloc (Obj.cells #[Value.string ⟨#[]⟩,Value.string { data:=#[32,61,32] },Value.string { data:=#[32,33,61,32] },Value.string { data:=#[32,60,32] },Value.string { data:=#[32,60,61,32] },Value.string { data:=#[32,62,32] },Value.string { data:=#[32,62,61,32] }] 153))
    have R3:=Hxq (R2.out.fresh M3.out (by simp))
    have hcell:=heap_alloc_new w2 (Obj.cells #[Value.string ⟨#[]⟩,Value.string { data:=#[32,61,32] },Value.string { data:=#[32,33,61,32] },Value.string { data:=#[32,60,32] },Value.string { data:=#[32,60,61,32] },Value.string { data:=#[32,62,32] },Value.string { data:=#[32,62,61,32] }] 153)
    have HSG:Hid (∀ n:Nat,1<=n->n<=6->(w2.alloc (Obj.cells #[Value.string ⟨#[]⟩,Value.string { data:=#[32,61,32] },Value.string { data:=#[32,33,61,32] },Value.string { data:=#[32,60,32] },Value.string { data:=#[32,60,61,32] },Value.string { data:=#[32,62,32] },Value.string { data:=#[32,62,61,32] }] 153)).cell? ⟨w2.heap.size,n,none⟩=some (.string (cmpS n))):=Hxq (fun n h1 h2=>by
     have:n=1\/n=2\/n=3\/n=4\/n=5\/n=6:=by omega
     rcases this with rfl | rfl | rfl | rfl | rfl | rfl <;> simp only [World.cell?,hcell] <;> rfl)
    clear hcell
    have c3:=M3.out.cell c3 (by simp)
    have c4:=M3.out.cell c4 (by simp)
    have c5:=M3.out.cell c5 (by simp)
    have c6:=M3.out.cell c6 (by simp)
    have c7:=M3.out.cell c7 (by simp)
    have c8:=M3.out.cell c8 (by simp)
    have c9:=M3.out.cell c9 (by simp)
    have c10:=M3.out.cell c10 (by simp)
    have c11:=M3.out.cell c11 (by simp)
    have c12:=M3.out.cell c12 (by simp)
    have c13:=M3.out.cell c13 (by simp)
    have c14:=M3.out.cell c14 (by simp)
    have c15:=M3.out.cell c15 (by simp)
    have c16:=M3.out.cell c16 (by simp)
    have c17:=M3.out.cell c17 (by simp)
    go_upto_region 10 with fail
    generalize w2.alloc (Obj.cells #[Value.string ⟨#[]⟩,Value.string { data:=#[32,61,32] },Value.string { data:=#[32,33,61,32] },Value.string { data:=#[32,60,32] },Value.string { data:=#[32,60,61,32] },Value.string { data:=#[32,62,32] },Value.string { data:=#[32,62,61,32] }] 153)=w3 at *
    clear M3
    go_wp2_with fail
    refine (R3.out.expr le _ HE1.out HG.out (by omega)).mono ?_
    rintro e4 w4 ⟨rfl,r4,k4⟩
    have R4:=Lib.hid r4
    have HS4:Hid (∀ n:Nat,1<=n->n<=6->w4.cell? ⟨w2.heap.size,n,none⟩=some (.string (cmpS n))):=Hxq (fun n h1 h2=>k4.cell (HSG.out n h1 h2) (by simp))
    have c3:=k4.cell c3 (by simp)
    have c11:=k4.cell c11 (by simp)
    have c12:=k4.cell c12 (by simp)
    have c13:=k4.cell c13 (by simp)
    have c14:=k4.cell c14 (by simp)
    have c15:=k4.cell c15 (by simp)
    have c16:=k4.cell c16 (by simp)
    have c17:=k4.cell c17 (by simp)
    clear r4 k4 HSG c4 c5 c6 c7 c8 c9 c10
    by_cases ho:1<=op/\op<=6
    ·obtain ⟨sg,hsg⟩:∃ sg,cmpS op=sg:=⟨_,rfl⟩
     have HSZ:Hid (sg.size<=4):=Hxq (hsg ▸ cmpS_len op)
     have HCO:Hid (cmpO op=some (Cod.str sg)):=Hxq (by unfold cmpO;rw [if_pos ho,<-hsg,cmpS_str])
     have s0:w4.cell? ⟨w2.heap.size,op.toNat,none⟩=some (.string sg):=by
      rw [<-hsg]
      have:=HS4.out op.toNat (by omega) (by omega)
      rwa [Int.toNat_of_nonneg (by omega)] at this
     clear hsg
     have hop:op=1\/op=2\/op=3\/op=4\/op=5\/op=6:=by omega
     clear ho
     rcases hop with rfl | rfl | rfl | rfl | rfl | rfl
     all_goals (
      simp only [show Int.toNat 1=1 from rfl,show Int.toNat 2=2 from rfl,show Int.toNat 3=3 from rfl,show Int.toNat 4=4 from rfl,show Int.toNat 5=5 from rfl,show Int.toNat 6=6 from rfl] at s0
      go_wp2_with fail
      refine (R4.out.put [sg] rfl rfl (by simp) (by rw [fl_len];show _+(sg.size+0)<=_;have:=HSZ.out;omega)).mono ?_
      rintro e5 w5 ⟨rfl,r5,k5⟩
      have R5:=Hxq (r5.of (o':=cat (cat (mustO lk) (Pr.pE 17 le)) (some (Cod.str sg))) (n':=exWt le+4) (by simp) (by rw [fl_len];show _+(sg.size+0)<=_;have:=HSZ.out;omega))
      have c11:=k5.cell c11 (by simp)
      have c12:=k5.cell c12 (by simp)
      have c13:=k5.cell c13 (by simp)
      have c14:=k5.cell c14 (by simp)
      have c15:=k5.cell c15 (by simp)
      have c16:=k5.cell c16 (by simp)
      have c17:=k5.cell c17 (by simp)
      clear r5 k5
      go_wp2_with fail
      refine (R5.out.expr re _ HE2.out HG.out (by omega)).mono ?_
      rintro e6 w6 ⟨rfl,r6,k6⟩
      have R6:=Lib.hid r6
      clear r6 k6
      go_wp2_with fail
      go_end0
      exact (R6.out.of (by rw [tail3,HCO.out];simp only [cat_assoc]) (by omega)).done)
    ·have HCO:Hid (cmpO op=none):=Hxq (by unfold cmpO;rw [if_neg ho])
     obtain ⟨q',v',bad',g0,g1,g2,g3,fz,-,-⟩:=R4.out.cells
     have HS:=Hxq (R4.out.setBad (cat (mustO lk) (tailO b 3 a op le re fn av of body)) (.inl (by rw [tail3,HCO.out];simp)))
     by_cases h1:op<1
     ·clear ho
      go_wp2_with fail
      go_end0
      exact (HS.out.1.of rfl (by omega)).done
     ·have h2:7<=op:=by omega
      clear ho
      go_wp2_with fail
      go_end0
      exact (HS.out.1.of rfl (by omega)).done
   ·by_cases k4:k=4
    ·subst k4
     clear k1 k2 k3
     go_wp2_with fail
     refine (R2.out.call (Nat.le_refl _) (fun q v l' bad h hl=>HAG.out fn av of body _ _ p q v l' bad _ h HEO.out HB.out HG.out (by omega))).mono ?_
     rintro e3 w3 ⟨rfl,r3,k3⟩
     have R3:=Lib.hid r3
     clear r3 k3
     go_wp2_with fail
     go_end0
     exact (R3.out.of (by rw [tail4]) (by omega)).done
    ·have k1B:(k == 1)=false:=by rw [beq_eq_false_iff_ne];exact k1
     have k2B:(k == 2)=false:=by rw [beq_eq_false_iff_ne];exact k2
     have k3B:(k == 3)=false:=by rw [beq_eq_false_iff_ne];exact k3
     have k4B:(k == 4)=false:=by rw [beq_eq_false_iff_ne];exact k4
     obtain ⟨q',v',bad',g0,g1,g2,g3,fz,-,-⟩:=R2.out.cells
     have HS:=Hxq (R2.out.setBad (cat (mustO lk) (tailO b k a op le re fn av of body)) (.inl (by rw [tailNP _ _ _ _ _ _ _ _ _ k1 k2 k3 k4];simp)))
     clear k1 k2 k3 k4
     go_wp2_with fail
     go_end0
     exact (HS.out.1.of rfl (by omega)).done
end Go.Proofs.YtbfaclljbbfknaaGreatDoor
