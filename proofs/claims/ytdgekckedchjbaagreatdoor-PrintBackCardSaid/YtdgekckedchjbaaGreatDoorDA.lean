
/-
 The document's SameExpr, exactly. (Printed by wip/tools/genda.py.)
-/
import Derived.Test.YtdgekckedchjbaaGreatDoorQP
import Derived.Deep.RegionHeld3
set_option maxHeartbeats 4000000
set_option maxRecDepth 100000
namespace Go.Proofs.YtdgekckedchjbaaGreatDoor
open Go.RowKit
variable {k:Nat}
def SmOk(n:Nat):Prop:=∀(D D':Nat->Prop) (op N op' N':Int) (nm nm':ByteArray) (A A':Option Addr) (l c l' c':Nat) (x y:Gx) (w:World),
 GC D w 2513169434843 n [.I op,.I N,.string nm,.slice A l c] x->GC D' w 2513169434843 n [.I op',.I N',.string nm',.slice A' l' c'] y->
 Calls Tryz.prog 25 #[.agg #[.I op,.I N,.string nm,.slice A l c],.agg #[.I op',.I N',.string nm',.slice A' l' c']] w (EqTo w (x=y))
def SmsOk(n:Nat):Prop:=∀(D D':Nat->Prop) (A A':Option Addr) (len len' c c':Nat) (l m:List Gx) (w:World),
 ElsG D w 4 2513169434843 (GC D w 2513169434843 n) A len l->ElsG D' w 4 2513169434843 (GC D' w 2513169434843 n) A' len' m->Calls Tryz.prog 50 #[.slice A len c,.slice A' len' c'] w (EqTo w (l=m))
theorem l3!{α:Type}{l:List α}(h:k<l.length):l.take (k+1)=l.take k++[l[k]'h]:=by
 rw[List.take_add_one,List.getElem?_eq_getElem h]
 rfl
theorem f02!{α:Type}{l m:List α}(h:k<l.length)(h9:k<m.length)(hne:¬l[k]'h=m[k]'h9):l≠m:=λe=>by
 subst e
 exact hne rfl
theorem b88!(n:Nat)(H:SmOk n):SmsOk n:=by
 intro D D' A A' len len' c c' l m w h1 h2
 obtain⟨xs,r1,-,m1,n1,e1⟩:=h1
 obtain⟨ys,r2,-,m2,n2,e2⟩:=h2
 have N1:=h! n1
 have N2:=h! n2
 by_cases hll:len=len'
 rotate_left
 ·have hE:((len:Int)==(len':Int))=false:=by simp;omega
  have HNE:Hid (l≠m):=λe=>hll (by rw[<-N1.out,<-N2.out,e])
  clear r1 r2 n1 n2 e1 e2 H m2 m1 hll;go_enter Tryz.func50,Tryz.ntmps50;go_wp2_with fail
  go_ret
  exact⟨false,rfl,⟨λe=>(by cases e),λe=>absurd e HNE.out⟩,Below.refl _ _⟩
 obtain rfl:=hll
 have R1:=h! r1
 have R2:=h! r2
 have E1:=h! e1
 have E2:=h! e2
 have HH:=h! H
 clear r1 r2 n1 n2 e1 e2 H m2
 go_enter Tryz.func50,Tryz.ntmps50
 go_wp2_with fail
 go_loopw [5] (λi wr=>∃k:Nat,k<=len∧i=.I k∧Hid (l.take k=m.take k)∧Hid (Below w.heap.size w wr)) (λi _=>len-(intOf i).toNat)
 case atStart=>exact⟨0,by omega,rfl,rfl,Below.refl _ _⟩
 case round=>
  obtain⟨k,hk,rfl,ht,hb⟩:=hrel
  by_cases hlt:k<len
  ·have hkk:k<l.length:=by rw[N1.out];exact hlt
   have hkm:k<m.length:=by rw[N2.out];exact hlt
   have ec:=E1.out k hkk;have ed:=E2.out k hkm;have HTK:Hid (l[k]=m[k]->l.take (k+1)=m.take (k+1)):=λh=>by rw[l3! hkk,l3! hkm,ht.out,h]
   have HNK:Hid (¬l[k]=m[k]->l≠m):=λh=>f02! hkk hkm h
   generalize l[k]=g at*;generalize m[k]=g' at*;obtain⟨op,N,nm,A1,l1,c1,hcs⟩:=ec.form;obtain⟨op',N',nm',A2,l2,c2,hcs'⟩:=ed.form;rw[hcs]at ec;rw[hcs']at ed;obtain⟨b1,o1,rfl,hb1,q⟩:=R1.out.chunk (by omega) hlt hcs;obtain⟨b2,o2,rfl,hb2,p⟩:=R2.out.chunk (by omega) hlt hcs';have q0:=(hb.out.cell (p:=⟨b1,o1+k*4,none⟩) hb1).trans (q 0 _ rfl);have q1:=(hb.out.cell (p:=⟨b1,o1+k*4+1,none⟩) hb1).trans (q 1 _ rfl);have q2:=(hb.out.cell (p:=⟨b1,o1+k*4+2,none⟩) hb1).trans (q 2 _ rfl);have q3:=(hb.out.cell (p:=⟨b1,o1+k*4+3,none⟩) hb1).trans (q 3 _ rfl);have p0:=(hb.out.cell (p:=⟨b2,o2+k*4,none⟩) hb2).trans (p 0 _ rfl);have p1:=(hb.out.cell (p:=⟨b2,o2+k*4+1,none⟩) hb2).trans (p 1 _ rfl);have p2:=(hb.out.cell (p:=⟨b2,o2+k*4+2,none⟩) hb2).trans (p 2 _ rfl);have p3:=(hb.out.cell (p:=⟨b2,o2+k*4+3,none⟩) hb2).trans (p 3 _ rfl);have SM:=h! (HH.out D D' op N op' N' nm nm' A1 A2 l1 c1 l2 c2 g g' wr.drew (ec.below hb.out.drew) (ed.below hb.out.drew));have g1:(0:Int)<=(k:Int):=by omega
   have g2:(k:Int)<(len:Int):=by omega
   clear q p hcs hcs' ec ed ht;go_upto_region 6 with fail;have qq:wr.cell? ⟨b1,o1+k*4,none⟩=some (.I op)∧wr.cell? ⟨b1,o1+k*4+1,none⟩=some (.I N)∧wr.cell? ⟨b1,o1+k*4+2,none⟩=some (.string nm)∧wr.cell? ⟨b1,o1+k*4+3,none⟩=some (.slice A1 l1 c1)∧wr.cell? ⟨b2,o2+k*4,none⟩=some (.I op')∧wr.cell? ⟨b2,o2+k*4+1,none⟩=some (.I N')∧wr.cell? ⟨b2,o2+k*4+2,none⟩=some (.string nm')∧wr.cell? ⟨b2,o2+k*4+3,none⟩=some (.slice A2 l2 c2):=⟨q0,q1,q2,q3,p0,p1,p2,p3⟩;have hz:=hb.out.size;have hz1:=Nat.lt_of_lt_of_le hb1 hz;have hz2:=Nat.lt_of_lt_of_le hb2 hz
   go_region_held3 (λw'=>w'.cell? ⟨b1,o1+k*4,none⟩=some (.I op)∧w'.cell? ⟨b1,o1+k*4+1,none⟩=some (.I N)∧w'.cell? ⟨b1,o1+k*4+2,none⟩=some (.string nm)∧w'.cell? ⟨b1,o1+k*4+3,none⟩=some (.slice A1 l1 c1)∧w'.cell? ⟨b2,o2+k*4,none⟩=some (.I op')∧w'.cell? ⟨b2,o2+k*4+1,none⟩=some (.I N')∧w'.cell? ⟨b2,o2+k*4+2,none⟩=some (.string nm')∧w'.cell? ⟨b2,o2+k*4+3,none⟩=some (.slice A2 l2 c2))
    (first|exact qq|exact q6)
    (first
    |(go_at_call 25;(with_reducible refine SM.out.mono ?_);rintro e w6⟨b,rfl,hb',b6⟩;have q6:w6.cell? ⟨b1,o1+k*4,none⟩=some (.I op)∧w6.cell? ⟨b1,o1+k*4+1,none⟩=some (.I N)∧w6.cell? ⟨b1,o1+k*4+2,none⟩=some (.string nm)∧w6.cell? ⟨b1,o1+k*4+3,none⟩=some (.slice A1 l1 c1)∧w6.cell? ⟨b2,o2+k*4,none⟩=some (.I op')∧w6.cell? ⟨b2,o2+k*4+1,none⟩=some (.I N')∧w6.cell? ⟨b2,o2+k*4+2,none⟩=some (.string nm')∧w6.cell? ⟨b2,o2+k*4+3,none⟩=some (.slice A2 l2 c2):=⟨(b6.cell (p:=⟨b1,o1+k*4,none⟩) hz1).trans q0,(b6.cell (p:=⟨b1,o1+k*4+1,none⟩) hz1).trans q1,(b6.cell (p:=⟨b1,o1+k*4+2,none⟩) hz1).trans q2,(b6.cell (p:=⟨b1,o1+k*4+3,none⟩) hz1).trans q3,(b6.cell (p:=⟨b2,o2+k*4,none⟩) hz2).trans p0,(b6.cell (p:=⟨b2,o2+k*4+1,none⟩) hz2).trans p1,(b6.cell (p:=⟨b2,o2+k*4+2,none⟩) hz2).trans p2,(b6.cell (p:=⟨b2,o2+k*4+3,none⟩) hz2).trans p3⟩))
   have HB:=h! (hb.out.drew.trans (b6.mono hz));have HBB:=h! hb';clear q6 qq b6 q0 q1 q2 q3 p0 p1 p2 p3 hb'
   cases b
   ·have HNE:=h! (HNK.out (λe=>absurd (HBB.out.2 e) (by decide)))
    go_wp2_with fail
    go_ret
    exact⟨false,rfl,⟨λe=>(by cases e),λe=>absurd e HNE.out⟩,HB.out⟩
   ·have HTT:=h! (HTK.out (HBB.out.1 rfl))
    go_wp2_with fail
    go_roundw
    case rel=>exact⟨k+1,by omega,by go_num,HTT,HB⟩
    case measure=>simp[intOf];omega
  ·obtain rfl:k=len:=by omega
   have HEQ:Hid (l=m):=by
    have:=ht.out;rw[List.take_of_length_le (by rw[N1.out];exact Nat.le_refl _),List.take_of_length_le (by rw[N2.out];exact Nat.le_refl _)]at this;exact this
   clear ht;go_wp2_with fail
   go_ret
   exact⟨true,rfl,⟨λ_=>HEQ.out,λ_=>rfl⟩,hb.out⟩
theorem f03!(n:Nat)(H:SmsOk n):SmOk (n+1):=by
 intro D D' op N op2 N2 nm nm2 A B la ca lb cb x y w hx hy
 obtain⟨xo,xN,xn,xl⟩:=x
 obtain⟨yo,yN,yn,yl⟩:=y
 obtain⟨rfl,rfl,rfl,-,q,hq,hel⟩:=hx.parts_
 obtain⟨rfl,rfl,rfl,-,q2,hq2,hel2⟩:=hy.parts_
 obtain rfl:q=n:=by omega
 obtain rfl:q2=q:=by omega
 have HE1:=h! hel
 have HE2:=h! hel2
 have HR:=h! H
 clear hx hy hel hel2 H hq hq2
 obtain⟨x0,y0⟩:=e0! w 24 24 #[.I op,.I N,.string nm,.slice A la ca] #[.I op2,.I N2,.string nm2,.slice B lb cb]
 have X0:=h! x0
 have Y0:=h! y0
 have F0:=h! (((Below.refl w.heap.size w).al (.cells #[.I op,.I N,.string nm,.slice A la ca] 24)).al (.cells #[.I op2,.I N2,.string nm2,.slice B lb cb] 24))
 clear x0 y0
 go_enter Tryz.func25,Tryz.ntmps25
 go_upto_region 1 with fail
 generalize (w.alloc (.cells #[.I op,.I N,.string nm,.slice A la ca] 24)).alloc (.cells #[.I op2,.I N2,.string nm2,.slice B lb cb] 24)=W0 at*
 have s0:=X0.out.cell 0
 have t0:=Y0.out.cell 0
 have s1:=X0.out.cell 1
 have t1:=Y0.out.cell 1
 have s2:=X0.out.cell 2
 have t2:=Y0.out.cell 2
 have s3:=X0.out.cell 3
 have t3:=Y0.out.cell 3
 by_cases ho:op=op2
 ·have ho':(op != op2)=false:=by simp[ho]
  by_cases hN:N=N2
  ·have hN':(N != N2)=false:=by simp[hN]
   by_cases hn:nm=nm2
   ·have hn':(nm.toList==nm2.toList)=true:=by simp[hn]
    have HEQ:=h! (show op=op2∧N=N2∧nm=nm2 from⟨ho,hN,hn⟩);have CL:=h! (HR.out D D' A B la lb ca cb xl yl W0 (HE1.out.below F0.out) (HE2.out.below F0.out));clear ho hN hn;go_wp2_with fail;refine CL.out.mono ?_;rintro e w1⟨b,rfl,hb,b1⟩;go_wp2_with fail
    go_ret
    obtain⟨e1,e2,e3⟩:=HEQ.out;refine⟨b,rfl,hb.trans ⟨λh=>by rw[e1,e2,e3,h],λh=>by injection h⟩,F0.out.trans (b1.mono F0.out.size)⟩
   ·have hn':(nm.toList==nm2.toList)=false:=by simpa using λe=>hn (i2! e)
    have HNE:=h! hn;clear hn ho hN;go_wp2_with fail
    go_ret
    exact⟨false,rfl,⟨λe=>(by cases e),λe=>absurd (by injection e) HNE.out⟩,F0.out⟩
  ·have hN':(N != N2)=true:=by simp[hN]
   have HNE:=h! hN;clear hN ho;go_wp2_with fail
   go_ret
   exact⟨false,rfl,⟨λe=>(by cases e),λe=>absurd (by injection e) HNE.out⟩,F0.out⟩
 ·have ho':(op != op2)=true:=by simp[ho]
  have HNE:=h! ho;clear ho;go_wp2_with fail
  go_ret
  exact⟨false,rfl,⟨λe=>(by cases e),λe=>absurd (by injection e) HNE.out⟩,F0.out⟩
theorem b89!:∀n,SmOk n
 |0=>λ_ _ _ _ _ _ _ _ _ _ _ _ _ _ x _ _ hx _=>absurd hx (by cases x;exact id)
 |n+1=>f03! n (b88! n (b89! n))
end Go.Proofs.YtdgekckedchjbaaGreatDoor
