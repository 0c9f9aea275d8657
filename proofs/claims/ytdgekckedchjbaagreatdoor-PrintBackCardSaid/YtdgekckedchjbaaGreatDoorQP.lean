
/-
 When two trees are the same: the program's comparing of expressions and of statements, exactly. (Printed by wip/tools/genv17.py.) sameExpr, sameStmt, sameBlock: exactly. (Printed by wip/tools/genv18.py.) slices.Equal at numbers and at variables; syntax.Same at programs: exactly. (Printed by wip/tools/genv19.py.)
-/
import Derived.Laws.StructEq
import Derived.Deep.QuietTactic
import Derived.BigQuiet
import Derived.Test.YtdgekckedchjbaaGreatDoorQO
set_option maxHeartbeats 8000000
set_option maxRecDepth 100000
namespace Go.Proofs.YtdgekckedchjbaaGreatDoor
open Go.RowKit
variable {D:Nat->Prop} {w w':World} {len n:Nat} {A:Option Addr} {p:Px}
def EqTo(w:World)(P:Prop)(e:Ending)(w':World):Prop:=∃b:Bool,e=.returned (.bool b)∧(b=true↔P)∧Below w.heap.size w w'
theorem e93!{a b:ByteArray}(h:a.data.toList=b.data.toList):a=b:=by
 obtain⟨⟨a⟩⟩:=a
 obtain⟨⟨b⟩⟩:=b
 simpa using h
theorem x3!{α:Type}{l m:List α}{k:Nat}(hl:k<l.length)(hm:k<m.length):l.take (k+1)=m.take (k+1)↔l.take k=m.take k∧l[k]=m[k]:=by
 rw[List.take_succ_eq_append_getElem hl,List.take_succ_eq_append_getElem hm]
 constructor
 ·intro h
  have h1:(l.take k).length=(m.take k).length:=by simp;omega
  obtain⟨a,b⟩:=List.append_inj h h1;exact⟨a,by simpa using b⟩
 ·rintro⟨a,b⟩
  rw[a,b]
theorem b81!(Q:Cel Gx)(hqk:QKept Q)(hform:∀D w cs x,Q D w cs x->∃(op N:Int) (nm:ByteArray) (B:Option Addr) (lb cb:Nat),cs=[.I op,.I N,.string nm,.slice B lb cb])
 (HS:∀D D' W (op N:Int) (nm:ByteArray) (B:Option Addr) (lb cb:Nat) (op2 N2_:Int) (nm2:ByteArray) (B2_:Option Addr) (lb2 cb2:Nat) x y,Q D W [.I op,.I N,.string nm,.slice B lb cb] x->Q D' W [.I op2,.I N2_,.string nm2,.slice B2_ lb2 cb2] y->Calls Tryz.prog 109 #[.agg #[.I op,.I N,.string nm,.slice B lb cb],.agg #[.I op2,.I N2_,.string nm2,.slice B2_ lb2 cb2]] W (EqTo W (x=y)))
 (D D':Nat->Prop) (A A':Option Addr) (len len' c c':Nat) (l m:List Gx) (w:World) (h1:ElsG D w 4 1000000 (Q D w) A len l) (h2:ElsG D' w 4 1000000 (Q D' w) A' len' m):
 Calls Tryz.prog 108 #[.slice A len c,.slice A' len' c',.func (.func 109) #[] #[]] w (EqTo w (l=m)):=by
 obtain⟨xs,r1,-,m1,n1,e1⟩:=h1
 obtain⟨ys,r2,-,m2,n2,e2⟩:=h2
 have R1:=h! r1
 have R2:=h! r2
 have N1:=h! n1
 have N2:=h! n2
 have E1:=h! e1
 have E2:=h! e2
 have HHS:=h! HS
 have HQK:=h! hqk
 have HFM:=h! hform
 clear r1 r2 n1 n2 e1 e2 HS hqk hform
 by_cases hl:len=len'
 ·subst hl
  go_enter Tryz.func108,Tryz.ntmps108;go_wp2_with fail
  go_loopw [17] (λi wr=>∃k:Nat,k<=len∧i=.I k∧Hid (Below w.heap.size w wr∧l.take k=m.take k)) (λi _=>len-(intOf i).toNat)
  case atStart=>exact⟨0,by omega,rfl,Below.refl _ _,rfl⟩
  case round=>
   obtain⟨k,hk,rfl,hi⟩:=hrel
   by_cases hlt:k<len
   ·have hb:=hi.out.1
    have hkl:k<l.length:=by rw[N1.out];exact hlt
    have hkm:k<m.length:=by rw[N2.out];exact hlt
    have ec:=E1.out k hkl;have ed:=E2.out k hkm;have HTS:=h! (x3! hkl hkm);generalize l[k]=x at*;generalize m[k]=y at*;obtain⟨op,N,nm,B,lb,cb,hcs⟩:=HFM.out _ _ _ _ ec;obtain⟨op2,N2_,nm2,B2_,lb2,cb2,hcs'⟩:=HFM.out _ _ _ _ ed;rw[hcs]at ec;rw[hcs']at ed;obtain⟨b1,o1,rfl,hb1,q⟩:=R1.out.chunk (by omega) hlt hcs;obtain⟨b2,o2,rfl,hb2,p⟩:=R2.out.chunk (by omega) hlt hcs';have q0:=(hb.cell (p:=⟨b1,o1+k*4,none⟩) hb1).trans (q 0 _ rfl);have p0:=(hb.cell (p:=⟨b2,o2+k*4,none⟩) hb2).trans (p 0 _ rfl);have q1:=(hb.cell (p:=⟨b1,o1+k*4+1,none⟩) hb1).trans (q 1 _ rfl);have p1:=(hb.cell (p:=⟨b2,o2+k*4+1,none⟩) hb2).trans (p 1 _ rfl);have q2:=(hb.cell (p:=⟨b1,o1+k*4+2,none⟩) hb1).trans (q 2 _ rfl);have p2:=(hb.cell (p:=⟨b2,o2+k*4+2,none⟩) hb2).trans (p 2 _ rfl);have q3:=(hb.cell (p:=⟨b1,o1+k*4+3,none⟩) hb1).trans (q 3 _ rfl);have p3:=(hb.cell (p:=⟨b2,o2+k*4+3,none⟩) hb2).trans (p 3 _ rfl);obtain⟨W1,eW,f1,X1,-⟩:=n! wr 40 #[.I op,.I N,.string nm,.slice B lb cb];replace X1:=h! X1;have B1:=h! (hb.trans (f1.mono hb.size));have P1:=h! (bcell f1);have g1:(0:Int)<=(k:Int):=by omega
    have g2:(k:Int)<(len:Int):=by omega
    have hz2:b2<wr.heap.size:=Nat.lt_of_lt_of_le hb2 hb.size;have EC:=h! (λW (hW:Below w.heap.size w W)=>HQK.out D D (λ_=>False) w W _ x (Kept.of_below hW) (λ_ _ _ h=>h) (λ_ _ h=>h) ec);have ED:=h! (λW (hW:Below w.heap.size w W)=>HQK.out D' D' (λ_=>False) w W _ y (Kept.of_below hW) (λ_ _ _ h=>h) (λ_ _ h=>h) ed);clear q p hcs hcs' ec ed f1 hb;go_upto_region 6 with fail;have p0:W1.cell? ⟨b2,o2+k*4,none⟩=some (.I op2):=(P1.out.1 _ _ hz2).trans p0;have p1:W1.cell? ⟨b2,o2+k*4+1,none⟩=some (.I N2_):=(P1.out.1 _ _ hz2).trans p1;have p2:W1.cell? ⟨b2,o2+k*4+2,none⟩=some (.string nm2):=(P1.out.1 _ _ hz2).trans p2;have p3:W1.cell? ⟨b2,o2+k*4+3,none⟩=some (.slice B2_ lb2 cb2):=(P1.out.1 _ _ hz2).trans p3;clear q0 q1 q2 q3 P1;rw[eW.out];clear eW;obtain⟨W2,eW,f2,Y2,-⟩:=n! W1 40 #[.I op2,.I N2_,.string nm2,.slice B2_ lb2 cb2];replace Y2:=h! Y2;have X2:=b! X1 f2;have B2:=r! B1 f2;clear f2 X1 B1 hz2;go_upto_region 7 with fail;clear p0 p1 p2 p3;rw[eW.out];clear eW;have s0:=X2.out.c0;have t0:=Y2.out.c0;have s1:=X2.out.c1;have t1:=Y2.out.c1;have s2:=X2.out.c2;have t2:=Y2.out.c2;have s3:=X2.out.c3;have t3:=Y2.out.c3;have SM:=h! (HHS.out D D' W2 op N nm B lb cb op2 N2_ nm2 B2_ lb2 cb2 x y (EC.out _ B2.out) (ED.out _ B2.out));go_wp2_with fail;refine SM.out.mono ?_;rintro e w3⟨b,rfl,hbe,b3⟩;have B3:=r! B2 b3;have HBE:=h! hbe;clear b3 SM hbe s0 t0 s1 t1 s2 t2 s3 t3
    cases b with
    |true=>
     have NX:=h! (show Below w.heap.size w w3∧l.take (k+1)=m.take (k+1)from⟨B3.out,HTS.out.2 ⟨hi.out.2,HBE.out.1 rfl⟩⟩);go_wp2_with fail
     go_roundw
     case rel=>exact⟨k+1,by omega,by go_num,NX⟩
     case measure=>simp[intOf];omega
    |false=>
     go_wp2_with fail
     go_ret
     refine⟨false,rfl,⟨λe=>(by cases e),λe=>?_⟩,B3.out⟩;have:=(HTS.out.1 (by rw[e])).2;have:=HBE.out.2 this
     cases this
   ·obtain rfl:k=len:=by omega
    go_wp2_with fail
    go_ret
    refine⟨true,rfl,⟨λ_=>?_,λ_=>rfl⟩,hi.out.1⟩;have:=hi.out.2
    rwa[List.take_of_length_le (Nat.le_of_eq N1.out),List.take_of_length_le (Nat.le_of_eq N2.out)]at this
 ·have hl':((len:Int)==(len':Int))=false:=by simp;omega
  have HL:=h! hl;clear hl;go_enter Tryz.func108,Tryz.ntmps108;go_wp2_with fail
  go_ret
  refine⟨false,rfl,⟨λe=>(by cases e),λe=>?_⟩,Below.refl _ _⟩;exact absurd (by rw[<-N1.out,<-N2.out,e]) HL.out
theorem e94!(Q:Cel Sx)(hqk:QKept Q)(hform:∀D w cs x,Q D w cs x->∃(kd:Int) (nm:ByteArray) (B1:Option Addr) (l1 c1:Nat) (lo hi:Int) (B2:Option Addr) (l2 c2:Nat) (B3:Option Addr) (l3 c3:Nat),cs=[.I kd,.string nm,.slice B1 l1 c1,.I lo,.I hi,.slice B2 l2 c2,.slice B3 l3 c3])
 (HS:∀D D' W (kd:Int) (nm:ByteArray) (B1_:Option Addr) (lb1 cb1:Nat) (lo hi_:Int) (B2_:Option Addr) (lb2 cb2:Nat) (B3_:Option Addr) (lb3 cb3:Nat) (kd':Int) (nm':ByteArray) (C1_:Option Addr) (lc1 cc1:Nat) (lo' hi':Int) (C2_:Option Addr) (lc2 cc2:Nat) (C3_:Option Addr) (lc3 cc3:Nat) x y,Q D W [.I kd,.string nm,.slice B1_ lb1 cb1,.I lo,.I hi_,.slice B2_ lb2 cb2,.slice B3_ lb3 cb3] x->Q D' W [.I kd',.string nm',.slice C1_ lc1 cc1,.I lo',.I hi',.slice C2_ lc2 cc2,.slice C3_ lc3 cc3] y->Calls Tryz.prog 74 #[.agg #[.I kd,.string nm,.slice B1_ lb1 cb1,.I lo,.I hi_,.slice B2_ lb2 cb2,.slice B3_ lb3 cb3],.agg #[.I kd',.string nm',.slice C1_ lc1 cc1,.I lo',.I hi',.slice C2_ lc2 cc2,.slice C3_ lc3 cc3]] W (EqTo W (x=y)))
 (D D':Nat->Prop) (A A':Option Addr) (len len' c c':Nat) (l m:List Sx) (w:World) (h1:ElsG D w 7 1000000 (Q D w) A len l) (h2:ElsG D' w 7 1000000 (Q D' w) A' len' m):
 Calls Tryz.prog 73 #[.slice A len c,.slice A' len' c',.func (.func 74) #[] #[]] w (EqTo w (l=m)):=by
 obtain⟨xs,r1,-,m1,n1,e1⟩:=h1
 obtain⟨ys,r2,-,m2,n2,e2⟩:=h2
 have R1:=h! r1
 have R2:=h! r2
 have N1:=h! n1
 have N2:=h! n2
 have E1:=h! e1
 have E2:=h! e2
 have HHS:=h! HS
 have HQK:=h! hqk
 have HFM:=h! hform
 clear r1 r2 n1 n2 e1 e2 HS hqk hform
 by_cases hl:len=len'
 ·subst hl
  go_enter Tryz.func73,Tryz.ntmps73;go_wp2_with fail
  go_loopw [17] (λi wr=>∃k:Nat,k<=len∧i=.I k∧Hid (Below w.heap.size w wr∧l.take k=m.take k)) (λi _=>len-(intOf i).toNat)
  case atStart=>exact⟨0,by omega,rfl,Below.refl _ _,rfl⟩
  case round=>
   obtain⟨k,hk,rfl,hi⟩:=hrel
   by_cases hlt:k<len
   ·have hb:=hi.out.1
    have hkl:k<l.length:=by rw[N1.out];exact hlt
    have hkm:k<m.length:=by rw[N2.out];exact hlt
    have ec:=E1.out k hkl;have ed:=E2.out k hkm;have HTS:=h! (x3! hkl hkm);generalize l[k]=x at*;generalize m[k]=y at*;obtain⟨kd,nm,B1_,lb1,cb1,lo,hi_,B2_,lb2,cb2,B3_,lb3,cb3,hcs⟩:=HFM.out _ _ _ _ ec;obtain⟨kd',nm',C1_,lc1,cc1,lo',hi',C2_,lc2,cc2,C3_,lc3,cc3,hcs'⟩:=HFM.out _ _ _ _ ed;rw[hcs]at ec;rw[hcs']at ed;obtain⟨b1,o1,rfl,hb1,q⟩:=R1.out.chunk (by omega) hlt hcs;obtain⟨b2,o2,rfl,hb2,p⟩:=R2.out.chunk (by omega) hlt hcs';have q0:=(hb.cell (p:=⟨b1,o1+k*7,none⟩) hb1).trans (q 0 _ rfl);have p0:=(hb.cell (p:=⟨b2,o2+k*7,none⟩) hb2).trans (p 0 _ rfl);have q1:=(hb.cell (p:=⟨b1,o1+k*7+1,none⟩) hb1).trans (q 1 _ rfl);have p1:=(hb.cell (p:=⟨b2,o2+k*7+1,none⟩) hb2).trans (p 1 _ rfl);have q2:=(hb.cell (p:=⟨b1,o1+k*7+2,none⟩) hb1).trans (q 2 _ rfl);have p2:=(hb.cell (p:=⟨b2,o2+k*7+2,none⟩) hb2).trans (p 2 _ rfl);have q3:=(hb.cell (p:=⟨b1,o1+k*7+3,none⟩) hb1).trans (q 3 _ rfl);have p3:=(hb.cell (p:=⟨b2,o2+k*7+3,none⟩) hb2).trans (p 3 _ rfl);have q4:=(hb.cell (p:=⟨b1,o1+k*7+4,none⟩) hb1).trans (q 4 _ rfl);have p4:=(hb.cell (p:=⟨b2,o2+k*7+4,none⟩) hb2).trans (p 4 _ rfl);have q5:=(hb.cell (p:=⟨b1,o1+k*7+5,none⟩) hb1).trans (q 5 _ rfl);have p5:=(hb.cell (p:=⟨b2,o2+k*7+5,none⟩) hb2).trans (p 5 _ rfl);have q6:=(hb.cell (p:=⟨b1,o1+k*7+6,none⟩) hb1).trans (q 6 _ rfl);have p6:=(hb.cell (p:=⟨b2,o2+k*7+6,none⟩) hb2).trans (p 6 _ rfl);obtain⟨W1,eW,f1,X1,-⟩:=n! wr 95 #[.I kd,.string nm,.slice B1_ lb1 cb1,.I lo,.I hi_,.slice B2_ lb2 cb2,.slice B3_ lb3 cb3];replace X1:=h! X1;have B1:=h! (hb.trans (f1.mono hb.size));have P1:=h! (bcell f1);have g1:(0:Int)<=(k:Int):=by omega
    have g2:(k:Int)<(len:Int):=by omega
    have hz2:b2<wr.heap.size:=Nat.lt_of_lt_of_le hb2 hb.size;have EC:=h! (λW (hW:Below w.heap.size w W)=>HQK.out D D (λ_=>False) w W _ x (Kept.of_below hW) (λ_ _ _ h=>h) (λ_ _ h=>h) ec);have ED:=h! (λW (hW:Below w.heap.size w W)=>HQK.out D' D' (λ_=>False) w W _ y (Kept.of_below hW) (λ_ _ _ h=>h) (λ_ _ h=>h) ed);clear q p hcs hcs' ec ed f1 hb;go_upto_region 6 with fail;have p0:W1.cell? ⟨b2,o2+k*7,none⟩=some (.I kd'):=(P1.out.1 _ _ hz2).trans p0;have p1:W1.cell? ⟨b2,o2+k*7+1,none⟩=some (.string nm'):=(P1.out.1 _ _ hz2).trans p1;have p2:W1.cell? ⟨b2,o2+k*7+2,none⟩=some (.slice C1_ lc1 cc1):=(P1.out.1 _ _ hz2).trans p2;have p3:W1.cell? ⟨b2,o2+k*7+3,none⟩=some (.I lo'):=(P1.out.1 _ _ hz2).trans p3;have p4:W1.cell? ⟨b2,o2+k*7+4,none⟩=some (.I hi'):=(P1.out.1 _ _ hz2).trans p4;have p5:W1.cell? ⟨b2,o2+k*7+5,none⟩=some (.slice C2_ lc2 cc2):=(P1.out.1 _ _ hz2).trans p5;have p6:W1.cell? ⟨b2,o2+k*7+6,none⟩=some (.slice C3_ lc3 cc3):=(P1.out.1 _ _ hz2).trans p6;clear q0 q1 q2 q3 q4 q5 q6 P1;rw[eW.out];clear eW;obtain⟨W2,eW,f2,Y2,-⟩:=n! W1 95 #[.I kd',.string nm',.slice C1_ lc1 cc1,.I lo',.I hi',.slice C2_ lc2 cc2,.slice C3_ lc3 cc3];replace Y2:=h! Y2;have X2:=b! X1 f2;have B2:=r! B1 f2;clear f2 X1 B1 hz2;go_upto_region 7 with fail;clear p0 p1 p2 p3 p4 p5 p6;rw[eW.out];clear eW;have s0:=X2.out.c0;have t0:=Y2.out.c0;have s1:=X2.out.c1;have t1:=Y2.out.c1;have s2:=X2.out.c2;have t2:=Y2.out.c2;have s3:=X2.out.c3;have t3:=Y2.out.c3;have s4:=X2.out.c4;have t4:=Y2.out.c4;have s5:=X2.out.c5;have t5:=Y2.out.c5;have s6:=X2.out.c6;have t6:=Y2.out.c6;have SM:=h! (HHS.out D D' W2 kd nm B1_ lb1 cb1 lo hi_ B2_ lb2 cb2 B3_ lb3 cb3 kd' nm' C1_ lc1 cc1 lo' hi' C2_ lc2 cc2 C3_ lc3 cc3 x y (EC.out _ B2.out) (ED.out _ B2.out));go_wp2_with fail;refine SM.out.mono ?_;rintro e w3⟨b,rfl,hbe,b3⟩;have B3:=r! B2 b3;have HBE:=h! hbe;clear b3 SM hbe s0 t0 s1 t1 s2 t2 s3 t3 s4 t4 s5 t5 s6 t6
    cases b with
    |true=>
     have NX:=h! (show Below w.heap.size w w3∧l.take (k+1)=m.take (k+1)from⟨B3.out,HTS.out.2 ⟨hi.out.2,HBE.out.1 rfl⟩⟩);go_wp2_with fail
     go_roundw
     case rel=>exact⟨k+1,by omega,by go_num,NX⟩
     case measure=>simp[intOf];omega
    |false=>
     go_wp2_with fail
     go_ret
     refine⟨false,rfl,⟨λe=>(by cases e),λe=>?_⟩,B3.out⟩;have:=(HTS.out.1 (by rw[e])).2;have:=HBE.out.2 this
     cases this
   ·obtain rfl:k=len:=by omega
    go_wp2_with fail
    go_ret
    refine⟨true,rfl,⟨λ_=>?_,λ_=>rfl⟩,hi.out.1⟩;have:=hi.out.2
    rwa[List.take_of_length_le (Nat.le_of_eq N1.out),List.take_of_length_le (Nat.le_of_eq N2.out)]at this
 ·have hl':((len:Int)==(len':Int))=false:=by simp;omega
  have HL:=h! hl;clear hl;go_enter Tryz.func73,Tryz.ntmps73;go_wp2_with fail
  go_ret
  refine⟨false,rfl,⟨λe=>(by cases e),λe=>?_⟩,Below.refl _ _⟩;exact absurd (by rw[<-N1.out,<-N2.out,e]) HL.out
theorem i2!{s t:ByteArray}(h:s.toList=t.toList):s=t:=by
 refine e93! ?_
 rw[ByteArray.toList_eq,ByteArray.toList_eq]at h
 exact h
theorem e95!{a b:List UInt8}:str a=str b↔a=b:=⟨λh=>j3! h,λh=>by rw[h]⟩
def x4!(n:Nat):Prop:=∀(D D':Nat->Prop) (op N op2 N2:Int) (nm nm2:ByteArray) (A B:Option Addr) (la ca lb cb:Nat) (x y:Gx) (w:World),GC D w 1000000 n [.I op,.I N,.string nm,.slice A la ca] x->GC D' w 1000000 n [.I op2,.I N2,.string nm2,.slice B lb cb] y->
 Calls Tryz.prog 109 #[.agg #[.I op,.I N,.string nm,.slice A la ca],.agg #[.I op2,.I N2,.string nm2,.slice B lb cb]] w (EqTo w (x=y))
theorem e96!(n:Nat)(H:x4! n)(D D':Nat->Prop)(A A':Option Addr)(len len' c c':Nat)(l m:List Gx)(w:World)(h1:ElsG D w 4 1000000 (GC D w 1000000 n) A len l)(h2:ElsG D' w 4 1000000 (GC D' w 1000000 n) A' len' m):
 Calls Tryz.prog 108 #[.slice A len c,.slice A' len' c',.func (.func 109) #[] #[]] w (EqTo w (l=m)):=
 b81! (λD w cs x=>GC D w 1000000 n cs x) (λ_ _ _ _ _ cs x hk hs hE h=>GC.kept hk hs hE n cs x h) (λ_ _ _ _ h=>h.form) (λD D' W op N nm B lb cb op2 N2 nm2 B2 lb2 cb2 x y hx hy=>H D D' op N op2 N2 nm nm2 B B2 lb cb lb2 cb2 x y W hx hy) D D' A A' len len' c c' l m w h1 h2
theorem e97!(n:Nat)(H:x4! n):x4! (n+1):=by
 intro D D' op N op2 N2 nm nm2 A B la ca lb cb x y w hx hy
 obtain⟨xo,xN,xn,xl⟩:=x
 obtain⟨yo,yN,yn,yl⟩:=y
 obtain⟨rfl,rfl,rfl,-,q,hq,hel⟩:=hx.parts_
 obtain⟨rfl,rfl,rfl,-,q2,hq2,hel2⟩:=hy.parts_
 obtain rfl:q=n:=by omega
 obtain rfl:q2=q:=by omega
 have HE1:=h! hel
 have HE2:=h! hel2
 have HR:=h! H
 clear hx hy hel hel2 H hq hq2
 obtain⟨x0,y0⟩:=e0! w 40 40 #[.I op,.I N,.string nm,.slice A la ca] #[.I op2,.I N2,.string nm2,.slice B lb cb]
 have X0:=h! x0
 have Y0:=h! y0
 have F0:=h! (((Below.refl w.heap.size w).al (.cells #[.I op,.I N,.string nm,.slice A la ca] 40)).al (.cells #[.I op2,.I N2,.string nm2,.slice B lb cb] 40))
 clear x0 y0
 go_enter Tryz.func109,Tryz.ntmps109
 go_upto_region 1 with fail
 generalize (w.alloc (.cells #[.I op,.I N,.string nm,.slice A la ca] 40)).alloc (.cells #[.I op2,.I N2,.string nm2,.slice B lb cb] 40)=W0 at*
 have s0:=X0.out.c0
 have t0:=Y0.out.c0
 have s1:=X0.out.c1
 have t1:=Y0.out.c1
 have s2:=X0.out.c2
 have t2:=Y0.out.c2
 have s3:=X0.out.c3
 have t3:=Y0.out.c3
 by_cases ho:op=op2
 ·have ho':(op==op2)=true:=by simp[ho]
  by_cases hN:N=N2
  ·have hN':(N==N2)=true:=by simp[hN]
   by_cases hn:nm=nm2
   ·have hn':(nm.toList==nm2.toList)=true:=by simp[hn]
    have HEQ:=h! (show op=op2∧N=N2∧nm=nm2 from⟨ho,hN,hn⟩);have CL:=h! (e96! q2 HR.out D D' A B la lb ca cb xl yl W0 (HE1.out.below F0.out) (HE2.out.below F0.out));clear ho hN hn;go_wp2_with fail;refine CL.out.mono ?_;rintro e w1⟨b,rfl,hb,b1⟩;go_wp2_with fail
    go_ret
    obtain⟨e1,e2,e3⟩:=HEQ.out;refine⟨b,rfl,hb.trans ⟨λh=>by rw[e1,e2,e3,h],λh=>by injection h⟩,F0.out.trans (b1.mono F0.out.size)⟩
   ·have hn':(nm.toList==nm2.toList)=false:=by simpa using λe=>hn (i2! e)
    have HNE:=h! hn;clear hn ho hN;go_wp2_with fail
    go_ret
    exact⟨false,rfl,⟨λe=>(by cases e),λe=>absurd (by injection e) HNE.out⟩,F0.out⟩
  ·have hN':(N==N2)=false:=by simp[hN]
   have HNE:=h! hN;clear hN ho;go_wp2_with fail
   go_ret
   exact⟨false,rfl,⟨λe=>(by cases e),λe=>absurd (by injection e) HNE.out⟩,F0.out⟩
 ·have ho':(op==op2)=false:=by simp[ho]
  have HNE:=h! ho;clear ho;go_wp2_with fail
  go_ret
  exact⟨false,rfl,⟨λe=>(by cases e),λe=>absurd (by injection e) HNE.out⟩,F0.out⟩
theorem b82!:∀n,x4! n
 |0=>λ_ _ _ _ _ _ _ _ _ _ _ _ _ _ x _ _ hx _=>absurd hx (by cases x;exact id)
 |n+1=>e97! n (b82! n)
theorem e98!(D D':Nat->Prop)(A A':Option Addr)(len len' c c':Nat)(l m:List Gx)(w:World)(h1:ElsG D w 4 1000000 (GA D w) A len l)(h2:ElsG D' w 4 1000000 (GA D' w) A' len' m):
 Calls Tryz.prog 108 #[.slice A len c,.slice A' len' c',.func (.func 109) #[] #[]] w (EqTo w (l=m)):=
 b81! GA u9! (λ_ _ _ _ ⟨_,h,_⟩=>h.form) (λD D' W op N nm B lb cb op2 N2 nm2 B2 lb2 cb2 x y ⟨n1,hx,_⟩ ⟨n2,hy,_⟩=>b82! (max n1 n2) D D' op N op2 N2 nm nm2 B B2 lb cb lb2 cb2 x y W (hx.deeper (Nat.le_max_left _ _)) (hy.deeper (Nat.le_max_right _ _))) D D' A A' len len' c c' l m w h1 h2
def a32!(n:Nat):Prop:=∀(D D':Nat->Prop) (kd:Int) (nm:ByteArray) (A1:Option Addr) (l1 c1:Nat) (lo hi:Int) (A2:Option Addr) (l2 c2:Nat) (A3:Option Addr) (l3 c3:Nat) (kd':Int) (nm':ByteArray) (B1:Option Addr) (i1 d1:Nat) (lo' hi':Int) (B2:Option Addr) (i2 d2:Nat) (B3:Option Addr) (i3 d3:Nat) (x y:Sx) (w:World),
 XE D w n [.I kd,.string nm,.slice A1 l1 c1,.I lo,.I hi,.slice A2 l2 c2,.slice A3 l3 c3] x->XE D' w n [.I kd',.string nm',.slice B1 i1 d1,.I lo',.I hi',.slice B2 i2 d2,.slice B3 i3 d3] y->Calls Tryz.prog 74 #[.agg #[.I kd,.string nm,.slice A1 l1 c1,.I lo,.I hi,.slice A2 l2 c2,.slice A3 l3 c3],.agg #[.I kd',.string nm',.slice B1 i1 d1,.I lo',.I hi',.slice B2 i2 d2,.slice B3 i3 d3]] w (EqTo w (x=y))
def a33!(n:Nat):Prop:=∀(D D':Nat->Prop) (A A':Option Addr) (len len' c c':Nat) (l m:List Sx) (w:World),ElsG D w 7 1000000 (XE D w n) A len l->ElsG D' w 7 1000000 (XE D' w n) A' len' m->
 Calls Tryz.prog 36 #[.slice A len c,.slice A' len' c'] w (EqTo w (l=m))
theorem b83!{l:List Gx}(h:ElsG D w 4 1000000 (GA D w) A len l)(hb:Below w.heap.size w w'):ElsG D w' 4 1000000 (GA D w') A len l:=
 h.kept (Kept.of_below (S:=λ_=>False) hb) (λ_ _ _ h=>h) (λ_ _ h=>h) (λcs a h=>u9! D D _ w w' cs a (Kept.of_below (S:=λ_=>False) hb) (λ_ _ _ h=>h) (λ_ _ h=>h) h)
theorem f6!{l:List Sx}(h:ElsG D w 7 1000000 (XE D w n) A len l)(hb:Below w.heap.size w w'):ElsG D w' 7 1000000 (XE D w' n) A len l:=
 h.kept (Kept.of_below (S:=λ_=>False) hb) (λ_ _ _ h=>h) (λ_ _ h=>h) (XE.kept (Kept.of_below (S:=λ_=>False) hb) (λ_ _ _ h=>h) (λ_ _ h=>h) n)
theorem XE.form{cs:List Value}{s:Sx}(h:XE D w n cs s):∃(kd:Int) (nm:ByteArray) (B1:Option Addr) (l1 c1:Nat) (lo hi:Int) (B2:Option Addr) (l2 c2:Nat) (B3:Option Addr) (l3 c3:Nat),cs=[.I kd,.string nm,.slice B1 l1 c1,.I lo,.I hi,.slice B2 l2 c2,.slice B3 l3 c3]:=by
 cases n with
 |zero=>exact absurd h (by cases s;exact id)
 |succ n=>
  obtain⟨kd,nm,E,lo,hi,L,El⟩:=s;obtain⟨A1,l1,c1,A2,l2,c2,A3,l3,c3,h1,_⟩:=h;exact⟨kd,str nm,A1,l1,c1,lo,hi,A2,l2,c2,A3,l3,c3,h1⟩
theorem b84!(n:Nat)(H:a32! n):a33! n:=by
 intro D D' A A' len len' c c' l m w h1 h2
 have CL:=h! (e94! (QX n) (n8! n) (λ_ _ _ _ h=>XE.form h) (λD D' W kd nm B1 l1 c1 lo hi B2 l2 c2 B3 l3 c3 kd' nm' C1 i1 d1 lo' hi' C2 i2 d2 C3 i3 d3 x y hx hy=>H D D' kd nm B1 l1 c1 lo hi B2 l2 c2 B3 l3 c3 kd' nm' C1 i1 d1 lo' hi' C2 i2 d2 C3 i3 d3 x y W hx hy) D D' A A' len len' c c' l m w h1 h2)
 clear h1 h2 H
 go_enter Tryz.func36,Tryz.ntmps36
 go_wp2_with fail
 refine CL.out.mono ?_
 rintro e w1⟨b,rfl,hb,b1⟩
 go_wp2_with fail
 go_ret
 exact⟨b,rfl,hb,b1⟩
theorem e99!(n:Nat)(H:a33! n):a32! (n+1):=by
 intro D D' kd nm A1 l1 c1 lo hi A2 l2 c2 A3 l3 c3 kd' nm' B1 i1 d1 lo' hi' B2 i2 d2 B3 i3 d3 x y w hx hy
 obtain⟨k0,n0,E,lo0,hi0,L,El⟩:=x
 obtain⟨k1,n1,E',lo1,hi1,L',El'⟩:=y
 obtain⟨_,_,_,_,_,_,_,_,_,hcs,-,hE,hL,hEl⟩:=hx
 obtain⟨_,_,_,_,_,_,_,_,_,hcs',-,hE',hL',hEl'⟩:=hy
 simp only[List.cons.injEq,Value.int.injEq,Value.string.injEq,Value.slice.injEq,true_and,and_true]at hcs hcs'
 obtain⟨rfl,hA,⟨rfl,rfl,rfl⟩,rfl,rfl,⟨rfl,rfl,rfl⟩,rfl,rfl,rfl⟩:=hcs
 obtain⟨rfl,hB,⟨rfl,rfl,rfl⟩,rfl,rfl,⟨rfl,rfl,rfl⟩,rfl,rfl,rfl⟩:=hcs'
 have HA:=h! hA
 have HB:=h! hB
 have HE1:=h! hE
 have HE2:=h! hE'
 have HL1:=h! hL
 have HL2:=h! hL'
 have HS1:=h! hEl
 have HS2:=h! hEl'
 have HBk:=h! H
 clear hA hB hE hE' hL hL' hEl hEl' H
 obtain⟨x0,y0⟩:=e0! w 95 95 #[.I kd,.string nm,.slice A1 l1 c1,.I lo,.I hi,.slice A2 l2 c2,.slice A3 l3 c3] #[.I kd',.string nm',.slice B1 i1 d1,.I lo',.I hi',.slice B2 i2 d2,.slice B3 i3 d3]
 have X0:=h! x0
 have Y0:=h! y0
 have F0:=h! (((Below.refl w.heap.size w).al (.cells #[.I kd,.string nm,.slice A1 l1 c1,.I lo,.I hi,.slice A2 l2 c2,.slice A3 l3 c3] 95)).al (.cells #[.I kd',.string nm',.slice B1 i1 d1,.I lo',.I hi',.slice B2 i2 d2,.slice B3 i3 d3] 95))
 clear x0 y0
 go_enter Tryz.func74,Tryz.ntmps74
 go_upto_region 1 with fail
 generalize (w.alloc (.cells #[.I kd,.string nm,.slice A1 l1 c1,.I lo,.I hi,.slice A2 l2 c2,.slice A3 l3 c3] 95)).alloc (.cells #[.I kd',.string nm',.slice B1 i1 d1,.I lo',.I hi',.slice B2 i2 d2,.slice B3 i3 d3] 95)=W0 at*
 have s0:=X0.out.c0
 have t0:=Y0.out.c0
 have s1:=X0.out.c1
 have t1:=Y0.out.c1
 have s2:=X0.out.c2
 have t2:=Y0.out.c2
 have s3:=X0.out.c3
 have t3:=Y0.out.c3
 have s4:=X0.out.c4
 have t4:=Y0.out.c4
 have s5:=X0.out.c5
 have t5:=Y0.out.c5
 have s6:=X0.out.c6
 have t6:=Y0.out.c6
 by_cases h_kd:kd=kd'
 ·have g_kd:(kd==kd')=true:=by simp[h_kd]
  by_cases h_nm:nm=nm'
  ·have g_nm:(nm.toList==nm'.toList)=true:=by simp[h_nm]
   by_cases h_lo:lo=lo'
   ·have g_lo:(lo==lo')=true:=by simp[h_lo]
    by_cases h_hi:hi=hi'
    ·have g_hi:(hi==hi')=true:=by simp[h_hi]
     have HEQ:=h! (show kd=kd'∧nm=nm'∧lo=lo'∧hi=hi' from⟨h_kd,h_nm,h_lo,h_hi⟩);clear h_kd h_nm h_lo h_hi;have CE:=h! (e98! D D' A1 B1 l1 i1 c1 d1 E E' W0 (b83! HE1.out F0.out) (b83! HE2.out F0.out));go_wp2_with fail;refine CE.out.mono ?_;rintro e w1⟨b,rfl,hb,b1⟩;have B1_:=r! F0 b1;have HB1:=h! hb;have X1:=b! X0 b1;have Y1:=b! Y0 b1;clear b1 hb CE s0 t0 s1 t1 s2 t2 s3 t3 s4 t4 s5 t5 s6 t6;have s5:=X1.out.c5;have t5:=Y1.out.c5;obtain⟨q1,q2,q3,q4⟩:=HEQ.out
     cases b with
     |false=>
      clear q1 q2 q3 q4;go_wp2_with fail
      go_ret
      exact⟨false,rfl,⟨λe=>(by cases e),λe=>HB1.out.2 (by injection e)⟩,B1_.out⟩
     |true=>
      clear q1 q2 q3 q4;have C2:=h! (HBk.out D D' A2 B2 l2 i2 c2 d2 L L' w1 (f6! HL1.out B1_.out) (f6! HL2.out B1_.out));go_wp2_with fail;refine C2.out.mono ?_;rintro e w2⟨b,rfl,hb,b2⟩;have B2_:=r! B1_ b2;have HB2:=h! hb;have X2:=b! X1 b2;have Y2:=b! Y1 b2;clear b2 hb C2 s5 t5;have s6:=X2.out.c6;have t6:=Y2.out.c6
      cases b with
      |false=>
       go_wp2_with fail
       go_ret
       exact⟨false,rfl,⟨λe=>(by cases e),λe=>HB2.out.2 (by injection e)⟩,B2_.out⟩
      |true=>
       have C3:=h! (HBk.out D D' A3 B3 l3 i3 c3 d3 El El' w2 (f6! HS1.out B2_.out) (f6! HS2.out B2_.out));go_wp2_with fail;refine C3.out.mono ?_;rintro e w3⟨b,rfl,hb,b3⟩;go_wp2_with fail
       go_ret
       obtain⟨q1,q2,q3,q4⟩:=HEQ.out;refine⟨b,rfl,hb.trans ⟨λh=>?_,λh=>by injection h⟩,B2_.out.trans (b3.mono B2_.out.size)⟩;have q2':n0=n1:=j3! (by rw[<-HA.out,<-HB.out,q2]);rw[q1,q2',q3,q4,HB1.out.1 (by simp),HB2.out.1 (by simp),h]
    ·have g_hi:(hi==hi')=false:=by simp[h_hi]
     have HNE:=h! h_hi;clear h_kd h_nm h_lo h_hi;go_wp2_with fail
     go_ret
     exact⟨false,rfl,⟨λe=>(by cases e),λe=>absurd (by injection e) HNE.out⟩,F0.out⟩
   ·have g_lo:(lo==lo')=false:=by simp[h_lo]
    have HNE:=h! h_lo;clear h_kd h_nm h_lo;go_wp2_with fail
    go_ret
    exact⟨false,rfl,⟨λe=>(by cases e),λe=>absurd (by injection e) HNE.out⟩,F0.out⟩
  ·have g_nm:(nm.toList==nm'.toList)=false:=by simpa using λe=>h_nm (i2! e)
   have HNE:=h! h_nm;clear h_kd h_nm;go_wp2_with fail
   go_ret
   exact⟨false,rfl,⟨λe=>(by cases e),λe=>absurd (by rw[HA.out,HB.out];injection e with _ e;rw[e]) HNE.out⟩,F0.out⟩
 ·have g_kd:(kd==kd')=false:=by simp[h_kd]
  have HNE:=h! h_kd;clear h_kd;go_wp2_with fail
  go_ret
  exact⟨false,rfl,⟨λe=>(by cases e),λe=>absurd (by injection e) HNE.out⟩,F0.out⟩
theorem b85!:∀n,a32! n
 |0=>λ_ _ _ _ _ _ _ _ _ _ _ _ _ _ _ _ _ _ _ _ _ _ _ _ _ _ _ _ x _ _ hx _=>absurd hx (by cases x;exact id)
 |n+1=>e99! n (b84! n (b85! n))
theorem s8!(n:Nat):a33! n:=b84! n (b85! n)
theorem f00!(D D':Nat->Prop)(A A':Option Addr)(len len' c c':Nat)(l m:List Int)(w:World)(h1:ElsG D w 1 1000000 (QI D w) A len l)(h2:ElsG D' w 1 1000000 (QI D' w) A' len' m):
 Calls Tryz.prog 34 #[.slice A len c,.slice A' len' c'] w (EqTo w (l=m)):=by
 obtain⟨xs,r1,-,m1,n1,e1⟩:=h1
 obtain⟨ys,r2,-,m2,n2,e2⟩:=h2
 have R1:=h! r1
 have R2:=h! r2
 have N1:=h! n1
 have N2:=h! n2
 have E1:=h! e1
 have E2:=h! e2
 clear r1 r2 n1 n2 e1 e2
 by_cases hl:len=len'
 ·subst hl
  go_enter Tryz.func34,Tryz.ntmps34;go_wp2_with fail
  go_loopw [13] (λi wr=>∃k:Nat,k<=len∧i=.I k∧Hid (Below w.heap.size w wr∧l.take k=m.take k)) (λi _=>len-(intOf i).toNat)
  case atStart=>exact⟨0,by omega,rfl,Below.refl _ _,rfl⟩
  case round=>
   obtain⟨k,hk,rfl,hi⟩:=hrel
   by_cases hlt:k<len
   ·have hb:=hi.out.1
    have hkl:k<l.length:=by rw[N1.out];exact hlt
    have hkm:k<m.length:=by rw[N2.out];exact hlt
    have ec:=E1.out k hkl;have ed:=E2.out k hkm;have HTS:=h! (x3! hkl hkm);generalize l[k]=x at*;generalize m[k]=y at*;have hcs:(xs.drop (k*1)).take 1=[.I x]:=ec;have hcs':(ys.drop (k*1)).take 1=[.I y]:=ed;obtain⟨b1,o1,rfl,hb1,q⟩:=R1.out.chunk (by omega) hlt hcs;obtain⟨b2,o2,rfl,hb2,p⟩:=R2.out.chunk (by omega) hlt hcs';have q0:wr.cell? ⟨b1,o1+k,none⟩=some (.I x):=(hb.cell (p:=⟨b1,o1+k,none⟩) hb1).trans (by have:=q 0 _ rfl;simpa using this);have p0:wr.cell? ⟨b2,o2+k,none⟩=some (.I y):=(hb.cell (p:=⟨b2,o2+k,none⟩) hb2).trans (by have:=p 0 _ rfl;simpa using this);have g1:(0:Int)<=(k:Int):=by omega
    have g2:(k:Int)<(len:Int):=by omega
    clear q p hcs hcs' ec ed;go_upto_region 6 with fail
    by_cases h_x:x=y
    ·have g_x:(x==y)=true:=by simp[h_x]
     have NX:Hid (l.take (k+1)=m.take (k+1)):=HTS.out.2 ⟨hi.out.2,h_x⟩;clear h_x
     go_quiet (fail)
     go_wp2_with fail
     go_roundw
     case rel=>exact⟨k+1,by omega,by go_num,a5! hb _,NX.out⟩
     case measure=>simp[intOf];omega
    ·have g_x:(x==y)=false:=by simp[h_x]
     have NE:Hid (¬l=m):=λe=>h_x ((HTS.out.1 (by rw[e])).2)
     clear h_x
     go_quiet (fail)
     go_wp2_with fail
     go_ret
     exact⟨false,rfl,⟨λe=>(by cases e),λe=>absurd e NE.out⟩,a5! hb _⟩
   ·obtain rfl:k=len:=by omega
    go_wp2_with fail
    go_ret
    refine⟨true,rfl,⟨λ_=>?_,λ_=>rfl⟩,hi.out.1⟩;have:=hi.out.2
    rwa[List.take_of_length_le (Nat.le_of_eq N1.out),List.take_of_length_le (Nat.le_of_eq N2.out)]at this
 ·have hl':((len:Int)==(len':Int))=false:=by simp;omega
  have HL:=h! hl;clear hl;go_enter Tryz.func34,Tryz.ntmps34;go_wp2_with fail
  go_ret
  refine⟨false,rfl,⟨λe=>(by cases e),λe=>?_⟩,Below.refl _ _⟩;exact absurd (by rw[<-N1.out,<-N2.out,e]) HL.out
theorem b86!(D D':Nat->Prop)(A A':Option Addr)(len len' c c':Nat)(l m:List Va)(w:World)(h1:ElsG D w 4 1000000 (QV D w) A len l)(h2:ElsG D' w 4 1000000 (QV D' w) A' len' m):
 Calls Tryz.prog 35 #[.slice A len c,.slice A' len' c'] w (EqTo w (l=m)):=by
 obtain⟨xs,r1,-,m1,n1,e1⟩:=h1
 obtain⟨ys,r2,-,m2,n2,e2⟩:=h2
 have R1:=h! r1
 have R2:=h! r2
 have N1:=h! n1
 have N2:=h! n2
 have E1:=h! e1
 have E2:=h! e2
 clear r1 r2 n1 n2 e1 e2
 by_cases hl:len=len'
 ·subst hl
  go_enter Tryz.func35,Tryz.ntmps35;go_wp2_with fail
  go_loopw [13] (λi wr=>∃k:Nat,k<=len∧i=.I k∧Hid (Below w.heap.size w wr∧l.take k=m.take k)) (λi _=>len-(intOf i).toNat)
  case atStart=>exact⟨0,by omega,rfl,Below.refl _ _,rfl⟩
  case round=>
   obtain⟨k,hk,rfl,hi⟩:=hrel
   by_cases hlt:k<len
   ·have hb:=hi.out.1
    have hkl:k<l.length:=by rw[N1.out];exact hlt
    have hkm:k<m.length:=by rw[N2.out];exact hlt
    have ec:=E1.out k hkl;have ed:=E2.out k hkm;have HTS:=h! (x3! hkl hkm);generalize l[k]=x at*;generalize m[k]=y at*;obtain⟨nm,sz,lo,hi_⟩:=x;obtain⟨nm',sz',lo',hi'⟩:=y;obtain⟨S,hS⟩:∃S,str nm=S:=⟨_,rfl⟩
    obtain⟨S',hS'⟩:∃S,str nm'=S:=⟨_,rfl⟩
    have hcs:(xs.drop (k*4)).take 4=[.string S,.I sz,.I lo,.I hi_]:=by rw[<-hS];exact ec
    have hcs':(ys.drop (k*4)).take 4=[.string S',.I sz',.I lo',.I hi']:=by rw[<-hS'];exact ed
    have HS1:=h! hS;have HS2:=h! hS';clear hS hS';obtain⟨b1,o1,rfl,hb1,q⟩:=R1.out.chunk (by omega) hlt hcs;obtain⟨b2,o2,rfl,hb2,p⟩:=R2.out.chunk (by omega) hlt hcs';have q0:wr.cell? ⟨b1,o1+k*4,none⟩=some (.string S):=(hb.cell (p:=⟨b1,o1+k*4,none⟩) hb1).trans (by have:=q 0 _ rfl;simpa using this);have p0:wr.cell? ⟨b2,o2+k*4,none⟩=some (.string S'):=(hb.cell (p:=⟨b2,o2+k*4,none⟩) hb2).trans (by have:=p 0 _ rfl;simpa using this);have q1:wr.cell? ⟨b1,o1+k*4+1,none⟩=some (.I sz):=(hb.cell (p:=⟨b1,o1+k*4+1,none⟩) hb1).trans (by have:=q 1 _ rfl;simpa using this);have p1:wr.cell? ⟨b2,o2+k*4+1,none⟩=some (.I sz'):=(hb.cell (p:=⟨b2,o2+k*4+1,none⟩) hb2).trans (by have:=p 1 _ rfl;simpa using this);have q2:wr.cell? ⟨b1,o1+k*4+2,none⟩=some (.I lo):=(hb.cell (p:=⟨b1,o1+k*4+2,none⟩) hb1).trans (by have:=q 2 _ rfl;simpa using this);have p2:wr.cell? ⟨b2,o2+k*4+2,none⟩=some (.I lo'):=(hb.cell (p:=⟨b2,o2+k*4+2,none⟩) hb2).trans (by have:=p 2 _ rfl;simpa using this);have q3:wr.cell? ⟨b1,o1+k*4+3,none⟩=some (.I hi_):=(hb.cell (p:=⟨b1,o1+k*4+3,none⟩) hb1).trans (by have:=q 3 _ rfl;simpa using this);have p3:wr.cell? ⟨b2,o2+k*4+3,none⟩=some (.I hi'):=(hb.cell (p:=⟨b2,o2+k*4+3,none⟩) hb2).trans (by have:=p 3 _ rfl;simpa using this);have g1:(0:Int)<=(k:Int):=by omega
    have g2:(k:Int)<(len:Int):=by omega
    clear q p hcs hcs' ec ed;go_upto_region 6 with fail
    by_cases h_S:S=S'
    ·have g_S:(S.toList==S'.toList)=true:=by simp[h_S]
     by_cases h_sz:sz=sz'
     ·have g_sz:(sz==sz')=true:=by simp[h_sz]
      by_cases h_lo:lo=lo'
      ·have g_lo:(lo==lo')=true:=by simp[h_lo]
       by_cases h_hi_:hi_=hi'
       ·have g_hi_:(hi_==hi')=true:=by simp[h_hi_]
        have NX:Hid (l.take (k+1)=m.take (k+1)):=HTS.out.2 ⟨hi.out.2,by rw[e95!.1 (HS1.out.trans (h_S.trans HS2.out.symm)),h_sz,h_lo,h_hi_]⟩;clear h_S h_sz h_lo h_hi_
        go_quiet (fail)
        go_wp2_with fail
        go_roundw
        case rel=>exact⟨k+1,by omega,by go_num,a5! hb _,NX.out⟩
        case measure=>simp[intOf];omega
       ·have g_hi_:(hi_==hi')=false:=by simp[h_hi_]
        have NE:Hid (¬l=m):=λe=>h_hi_ (by have:=(HTS.out.1 (by rw[e])).2;injection this)
        clear h_S h_sz h_lo h_hi_
        go_quiet (fail)
        go_wp2_with fail
        go_ret
        exact⟨false,rfl,⟨λe=>(by cases e),λe=>absurd e NE.out⟩,a5! hb _⟩
      ·have g_lo:(lo==lo')=false:=by simp[h_lo]
       have NE:Hid (¬l=m):=λe=>h_lo (by have:=(HTS.out.1 (by rw[e])).2;injection this)
       clear h_S h_sz h_lo
       go_quiet (fail)
       go_wp2_with fail
       go_ret
       exact⟨false,rfl,⟨λe=>(by cases e),λe=>absurd e NE.out⟩,a5! hb _⟩
     ·have g_sz:(sz==sz')=false:=by simp[h_sz]
      have NE:Hid (¬l=m):=λe=>h_sz (by have:=(HTS.out.1 (by rw[e])).2;injection this)
      clear h_S h_sz
      go_quiet (fail)
      go_wp2_with fail
      go_ret
      exact⟨false,rfl,⟨λe=>(by cases e),λe=>absurd e NE.out⟩,a5! hb _⟩
    ·have g_S:(S.toList==S'.toList)=false:=by simpa using λe=>h_S (i2! e)
     have NE:Hid (¬l=m):=λe=>h_S (by have:=(HTS.out.1 (by rw[e])).2;injection this with z1 _ _ _;rw[<-HS1.out,<-HS2.out,z1])
     clear h_S
     go_quiet (fail)
     go_wp2_with fail
     go_ret
     exact⟨false,rfl,⟨λe=>(by cases e),λe=>absurd e NE.out⟩,a5! hb _⟩
   ·obtain rfl:k=len:=by omega
    go_wp2_with fail
    go_ret
    refine⟨true,rfl,⟨λ_=>?_,λ_=>rfl⟩,hi.out.1⟩;have:=hi.out.2
    rwa[List.take_of_length_le (Nat.le_of_eq N1.out),List.take_of_length_le (Nat.le_of_eq N2.out)]at this
 ·have hl':((len:Int)==(len':Int))=false:=by simp;omega
  have HL:=h! hl;clear hl;go_enter Tryz.func35,Tryz.ntmps35;go_wp2_with fail
  go_ret
  refine⟨false,rfl,⟨λe=>(by cases e),λe=>?_⟩,Below.refl _ _⟩;exact absurd (by rw[<-N1.out,<-N2.out,e]) HL.out
theorem f01!{q:Px}(h1:p.nm=q.nm)(h2:p.seats=q.seats)(h3:p.silent=q.silent)(u1:p.stakes=q.stakes)(u2:p.vars=q.vars)(u3:p.params=q.params)(u4:p.start=q.start)(u5:p.turn=q.turn)(u6:p.play=q.play)(u7:p.quiet=q.quiet)(u8:p.pays=q.pays):p=q:=by
 obtain⟨a1,a2,a3,a4,a5,a6,a7,a8,a9,a10,a11⟩:=p
 obtain⟨b1,b2,b3,b4,b5,b6,b7,b8,b9,b10,b11⟩:=q
 simp only at*
 subst h1 h2 h3 u1 u2 u3 u4 u5 u6 u7 u8
 rfl
theorem PX.cells_{d:Nat}{NM SIL:ByteArray}{seats:Int}{A1:Option Addr}{n1 c1:Nat}{A2:Option Addr}{n2 c2:Nat}{A3:Option Addr}{n3 c3:Nat}{A4:Option Addr}{n4 c4:Nat}{A5:Option Addr}{n5 c5:Nat}{A6:Option Addr}{n6 c6:Nat}{A7:Option Addr}{n7 c7:Nat}{A8:Option Addr}{n8 c8:Nat}(h:PX d D w [.string NM,.I seats,.slice A1 n1 c1,.slice A2 n2 c2,.slice A3 n3 c3,.slice A4 n4 c4,.slice A5 n5 c5,.slice A6 n6 c6,.string SIL,.slice A7 n7 c7,.slice A8 n8 c8] p):
 NM=str p.nm∧seats=p.seats∧SIL=str p.silent∧ElsG D w 1 1000000 (QI D w) A1 n1 p.stakes∧ElsG D w 4 1000000 (QV D w) A2 n2 p.vars∧ElsG D w 7 1000000 (QX d D w) A3 n3 p.start∧ElsG D w 7 1000000 (QX d D w) A4 n4 p.turn∧
  ElsG D w 4 1000000 (QV D w) A5 n5 p.params∧ElsG D w 7 1000000 (QX d D w) A6 n6 p.play∧ElsG D w 7 1000000 (QX d D w) A7 n7 p.quiet∧ElsG D w 7 1000000 (QX d D w) A8 n8 p.pays:=by
 obtain⟨-,v1,v2,v3,v4,v5,v6,v7,v8,hcs,k1,k2,k3,k4,k5,k6,k7,k8⟩:=h
 simp only[List.cons.injEq]at hcs
 obtain⟨e0,e1,rfl,rfl,rfl,rfl,rfl,rfl,e8,rfl,rfl,-⟩:=hcs
 injection e0 with e0
 injection e1 with _ e1
 injection e8 with e8
 have hr:∀{α:Type} {s:Nat} {Q:Cel α} {l:List α} {A:Option Addr} {n c:Nat},RowD D s Q w l (.slice A n c)->ElsG D w s 1000000 (Q D w) A n l:=by
  intro α s Q l A n c h
  obtain⟨A',n',c',q,h2⟩:=h;injection q with q1 q2 q3;subst q1 q2 q3;exact h2
 exact⟨e0,e1,e8,hr k1,hr k2,hr k3,hr k4,hr k5,hr k6,hr k7,hr k8⟩
theorem b87!{l:List Int}(h:ElsG D w 1 1000000 (QI D w) A len l)(hb:Below w.heap.size w w'):ElsG D w' 1 1000000 (QI D w') A len l:=
 h.kept (Kept.of_below (S:=λ_=>False) hb) (λ_ _ _ h=>h) (λ_ _ h=>h) (λ_ _ h=>h)
theorem x5!{l:List Va}(h:ElsG D w 4 1000000 (QV D w) A len l)(hb:Below w.heap.size w w'):ElsG D w' 4 1000000 (QV D w') A len l:=
 h.kept (Kept.of_below (S:=λ_=>False) hb) (λ_ _ _ h=>h) (λ_ _ h=>h) (λ_ _ h=>h)
theorem a34!(d:Nat)(D D':Nat->Prop)(NM SIL NM' SIL':ByteArray)(seats seats':Int)(A1:Option Addr)(n1 c1:Nat)(A2:Option Addr)(n2 c2:Nat)(A3:Option Addr)(n3 c3:Nat)(A4:Option Addr)(n4 c4:Nat)(A5:Option Addr)(n5 c5:Nat)(A6:Option Addr)(n6 c6:Nat)(A7:Option Addr)(n7 c7:Nat)(A8:Option Addr)(n8 c8:Nat)(B1:Option Addr)(m1 d1:Nat)(B2:Option Addr)(m2 d2:Nat)(B3:Option Addr)(m3 d3:Nat)(B4:Option Addr)(m4 d4:Nat)(B5:Option Addr)(m5 d5:Nat)(B6:Option Addr)(m6 d6:Nat)(B7:Option Addr)(m7 d7:Nat)(B8:Option Addr)(m8 d8:Nat)(p q:Px)(w:World)(hp:PX d D w [.string NM,.I seats,.slice A1 n1 c1,.slice A2 n2 c2,.slice A3 n3 c3,.slice A4 n4 c4,.slice A5 n5 c5,.slice A6 n6 c6,.string SIL,.slice A7 n7 c7,.slice A8 n8 c8] p)(hq:PX d D' w [.string NM',.I seats',.slice B1 m1 d1,.slice B2 m2 d2,.slice B3 m3 d3,.slice B4 m4 d4,.slice B5 m5 d5,.slice B6 m6 d6,.string SIL',.slice B7 m7 d7,.slice B8 m8 d8] q):
 Calls Tryz.prog 18 #[.agg #[.string NM,.I seats,.slice A1 n1 c1,.slice A2 n2 c2,.slice A3 n3 c3,.slice A4 n4 c4,.slice A5 n5 c5,.slice A6 n6 c6,.string SIL,.slice A7 n7 c7,.slice A8 n8 c8],.agg #[.string NM',.I seats',.slice B1 m1 d1,.slice B2 m2 d2,.slice B3 m3 d3,.slice B4 m4 d4,.slice B5 m5 d5,.slice B6 m6 d6,.string SIL',.slice B7 m7 d7,.slice B8 m8 d8]] w (EqTo w (p=q)):=by
 obtain⟨e1,e2,e3,k1,k2,k3,k4,k5,k6,k7,k8⟩:=hp.cells_
 obtain⟨f1,f2,f3,j1,j2,j3,j4,j5,j6,j7,j8⟩:=hq.cells_
 have K1:=h! k1
 have J1:=h! j1
 have K2:=h! k2
 have J2:=h! j2
 have K3:=h! k3
 have J3:=h! j3
 have K4:=h! k4
 have J4:=h! j4
 have K5:=h! k5
 have J5:=h! j5
 have K6:=h! k6
 have J6:=h! j6
 have K7:=h! k7
 have J7:=h! j7
 have K8:=h! k8
 have J8:=h! j8
 have EN:=h! (And.intro e1 (And.intro e2 e3))
 have FN:=h! (And.intro f1 (And.intro f2 f3))
 obtain⟨x0,y0⟩:=e0! w 48 48 #[.string NM,.I seats,.slice A1 n1 c1,.slice A2 n2 c2,.slice A3 n3 c3,.slice A4 n4 c4,.slice A5 n5 c5,.slice A6 n6 c6,.string SIL,.slice A7 n7 c7,.slice A8 n8 c8] #[.string NM',.I seats',.slice B1 m1 d1,.slice B2 m2 d2,.slice B3 m3 d3,.slice B4 m4 d4,.slice B5 m5 d5,.slice B6 m6 d6,.string SIL',.slice B7 m7 d7,.slice B8 m8 d8]
 have X0:=h! x0
 have Y0:=h! y0
 have F0:=h! (((Below.refl w.heap.size w).al (.cells #[.string NM,.I seats,.slice A1 n1 c1,.slice A2 n2 c2,.slice A3 n3 c3,.slice A4 n4 c4,.slice A5 n5 c5,.slice A6 n6 c6,.string SIL,.slice A7 n7 c7,.slice A8 n8 c8] 48)).al (.cells #[.string NM',.I seats',.slice B1 m1 d1,.slice B2 m2 d2,.slice B3 m3 d3,.slice B4 m4 d4,.slice B5 m5 d5,.slice B6 m6 d6,.string SIL',.slice B7 m7 d7,.slice B8 m8 d8] 48))
 clear x0 y0 hp hq e1 e2 e3 f1 f2 f3 k1 j1 k2 j2 k3 j3 k4 j4 k5 j5 k6 j6 k7 j7 k8 j8
 go_enter Tryz.func18,Tryz.ntmps18
 by_cases h_NM:NM=NM'
 ·have g_NM:(NM.toList==NM'.toList)=true:=by simp[h_NM]
  by_cases h_seats:seats=seats'
  ·have g_seats:(seats==seats')=true:=by simp[h_seats]
   by_cases h_SIL:SIL=SIL'
   ·have g_SIL:(SIL.toList==SIL'.toList)=true:=by simp[h_SIL]
    have HEQ:=h! (show NM=NM'∧seats=seats'∧SIL=SIL' from⟨h_NM,h_seats,h_SIL⟩);clear h_NM h_seats h_SIL;have s0:=X0.out.c0;have t0:=Y0.out.c0;have s1:=X0.out.c1;have t1:=Y0.out.c1;have s2:=X0.out.c2;have t2:=Y0.out.c2;have s8:=X0.out.c8;have t8:=Y0.out.c8;have C1:=h! (f00! D D' A1 B1 n1 m1 c1 d1 p.stakes q.stakes ((w.alloc (.cells #[.string NM,.I seats,.slice A1 n1 c1,.slice A2 n2 c2,.slice A3 n3 c3,.slice A4 n4 c4,.slice A5 n5 c5,.slice A6 n6 c6,.string SIL,.slice A7 n7 c7,.slice A8 n8 c8] 48)).alloc (.cells #[.string NM',.I seats',.slice B1 m1 d1,.slice B2 m2 d2,.slice B3 m3 d3,.slice B4 m4 d4,.slice B5 m5 d5,.slice B6 m6 d6,.string SIL',.slice B7 m7 d7,.slice B8 m8 d8] 48)) (b87! K1.out F0.out) (b87! J1.out F0.out));go_wp2_with fail;refine C1.out.mono ?_;rintro e w1⟨b,rfl,hb,b1⟩;have F1:=r! F0 b1;have HB1:=h! hb;have X1:=b! X0 b1;have Y1:=b! Y0 b1;clear b1 hb C1;have s3:=X1.out.c3;have t3:=Y1.out.c3
    cases b with
    |false=>
     go_wp2_with fail
     go_ret
     exact⟨false,rfl,⟨λe=>(by cases e),λe=>by have:=HB1.out.2 (by rw[e]);cases this⟩,F1.out⟩
    |true=>
     have C2:=h! (b86! D D' A2 B2 n2 m2 c2 d2 p.vars q.vars w1 (x5! K2.out F1.out) (x5! J2.out F1.out));go_wp2_with fail;refine C2.out.mono ?_;rintro e w2⟨b,rfl,hb,b2⟩;have F2:=r! F1 b2;have HB2:=h! hb;have X2:=b! X1 b2;have Y2:=b! Y1 b2;clear b2 hb C2;have s6:=X2.out.c6;have t6:=Y2.out.c6
     cases b with
     |false=>
      go_wp2_with fail
      go_ret
      exact⟨false,rfl,⟨λe=>(by cases e),λe=>by have:=HB2.out.2 (by rw[e]);cases this⟩,F2.out⟩
     |true=>
      have C3:=h! (b86! D D' A5 B5 n5 m5 c5 d5 p.params q.params w2 (x5! K5.out F2.out) (x5! J5.out F2.out));go_wp2_with fail;refine C3.out.mono ?_;rintro e w3⟨b,rfl,hb,b3⟩;have F3:=r! F2 b3;have HB3:=h! hb;have X3:=b! X2 b3;have Y3:=b! Y2 b3;clear b3 hb C3;have s4:=X3.out.c4;have t4:=Y3.out.c4
      cases b with
      |false=>
       go_wp2_with fail
       go_ret
       exact⟨false,rfl,⟨λe=>(by cases e),λe=>by have:=HB3.out.2 (by rw[e]);cases this⟩,F3.out⟩
      |true=>
       have C4:=h! (s8! d D D' A3 B3 n3 m3 c3 d3 p.start q.start w3 (f6! K3.out F3.out) (f6! J3.out F3.out));go_wp2_with fail;refine C4.out.mono ?_;rintro e w4⟨b,rfl,hb,b4⟩;have F4:=r! F3 b4;have HB4:=h! hb;have X4:=b! X3 b4;have Y4:=b! Y3 b4;clear b4 hb C4;have s5:=X4.out.c5;have t5:=Y4.out.c5
       cases b with
       |false=>
        go_wp2_with fail
        go_ret
        exact⟨false,rfl,⟨λe=>(by cases e),λe=>by have:=HB4.out.2 (by rw[e]);cases this⟩,F4.out⟩
       |true=>
        have C5:=h! (s8! d D D' A4 B4 n4 m4 c4 d4 p.turn q.turn w4 (f6! K4.out F4.out) (f6! J4.out F4.out));go_wp2_with fail;refine C5.out.mono ?_;rintro e w5⟨b,rfl,hb,b5⟩;have F5:=r! F4 b5;have HB5:=h! hb;have X5:=b! X4 b5;have Y5:=b! Y4 b5;clear b5 hb C5;have s7:=X5.out.c7;have t7:=Y5.out.c7
        cases b with
        |false=>
         go_wp2_with fail
         go_ret
         exact⟨false,rfl,⟨λe=>(by cases e),λe=>by have:=HB5.out.2 (by rw[e]);cases this⟩,F5.out⟩
        |true=>
         have C6:=h! (s8! d D D' A6 B6 n6 m6 c6 d6 p.play q.play w5 (f6! K6.out F5.out) (f6! J6.out F5.out));go_wp2_with fail;refine C6.out.mono ?_;rintro e w6⟨b,rfl,hb,b6⟩;have F6:=r! F5 b6;have HB6:=h! hb;have X6:=b! X5 b6;have Y6:=b! Y5 b6;clear b6 hb C6;have s9:=X6.out.c9;have t9:=Y6.out.c9
         cases b with
         |false=>
          go_wp2_with fail
          go_ret
          exact⟨false,rfl,⟨λe=>(by cases e),λe=>by have:=HB6.out.2 (by rw[e]);cases this⟩,F6.out⟩
         |true=>
          have C7:=h! (s8! d D D' A7 B7 n7 m7 c7 d7 p.quiet q.quiet w6 (f6! K7.out F6.out) (f6! J7.out F6.out));go_wp2_with fail;refine C7.out.mono ?_;rintro e w7⟨b,rfl,hb,b7⟩;have F7:=r! F6 b7;have HB7:=h! hb;have X7:=b! X6 b7;have Y7:=b! Y6 b7;clear b7 hb C7;have s10:=X7.out.c10;have t10:=Y7.out.c10
          cases b with
          |false=>
           go_wp2_with fail
           go_ret
           exact⟨false,rfl,⟨λe=>(by cases e),λe=>by have:=HB7.out.2 (by rw[e]);cases this⟩,F7.out⟩
          |true=>
           have C8:=h! (s8! d D D' A8 B8 n8 m8 c8 d8 p.pays q.pays w7 (f6! K8.out F7.out) (f6! J8.out F7.out));go_wp2_with fail;refine C8.out.mono ?_;rintro e w8⟨b,rfl,hb,b8⟩;have F8:=r! F7 b8;have HB8:=h! hb;have X8:=b! X7 b8;have Y8:=b! Y7 b8;clear b8 hb C8;go_wp2_with fail
           go_ret
           refine⟨b,rfl,HB8.out.trans ⟨λh=>?_,λh=>by rw[h]⟩,F8.out⟩;obtain⟨z1,z2,z3⟩:=HEQ.out;have y1:p.nm=q.nm:=j3! (by rw[<-EN.out.1,<-FN.out.1,z1]);have y2:p.seats=q.seats:=by rw[<-EN.out.2.1,<-FN.out.2.1,z2]
           have y3:p.silent=q.silent:=j3! (by rw[<-EN.out.2.2,<-FN.out.2.2,z3]);have u1:=HB1.out.1 (by simp);have u2:=HB2.out.1 (by simp);have u3:=HB3.out.1 (by simp);have u4:=HB4.out.1 (by simp);have u5:=HB5.out.1 (by simp);have u6:=HB6.out.1 (by simp);have u7:=HB7.out.1 (by simp);exact f01! y1 y2 y3 u1 u2 u3 u4 u5 u6 u7 h
   ·have g_SIL:(SIL.toList==SIL'.toList)=false:=by simpa using λe=>h_SIL (i2! e)
    have HNE:=h! h_SIL;clear h_NM h_seats h_SIL;have s0:=X0.out.c0;have t0:=Y0.out.c0;have s1:=X0.out.c1;have t1:=Y0.out.c1;have s8:=X0.out.c8;have t8:=Y0.out.c8;go_wp2_with fail
    go_ret
    exact⟨false,rfl,⟨λe=>(by cases e),λe=>absurd (by rw[EN.out.2.2,FN.out.2.2,e]) HNE.out⟩,F0.out⟩
  ·have g_seats:(seats==seats')=false:=by simp[h_seats]
   have HNE:=h! h_seats;clear h_NM h_seats;have s0:=X0.out.c0;have t0:=Y0.out.c0;have s1:=X0.out.c1;have t1:=Y0.out.c1;go_wp2_with fail
   go_ret
   exact⟨false,rfl,⟨λe=>(by cases e),λe=>absurd (by rw[EN.out.2.1,FN.out.2.1,e]) HNE.out⟩,F0.out⟩
 ·have g_NM:(NM.toList==NM'.toList)=false:=by simpa using λe=>h_NM (i2! e)
  have HNE:=h! h_NM;clear h_NM;have s0:=X0.out.c0;have t0:=Y0.out.c0;go_wp2_with fail
  go_ret
  exact⟨false,rfl,⟨λe=>(by cases e),λe=>absurd (by rw[EN.out.1,FN.out.1,e]) HNE.out⟩,F0.out⟩
end Go.Proofs.YtdgekckedchjbaaGreatDoor
