
/-
 The document's SameVars: true of one row alone. (Printed by wip/tools/genf3.py.) The document's SameStmts: true of one tree alone. (Printed by wip/tools/genf4.py.) The document's Same of two programs. (Printed by wip/tools/genf5.py.)
-/
import Derived.Test.YtdgekckedchjbaaGreatDoorM9
import Derived.Test.YtdgekckedchjbaaGreatDoorDA
import Derived.BigQuiet
import Derived.Laws.StructEq
import Derived.Deep.DeepCutAuto
set_option maxHeartbeats 4000000
set_option maxRecDepth 100000
namespace Go.Proofs.YtdgekckedchjbaaGreatDoor
open Go.RowKit
def SayTo(w:World)(P:Prop)(e:Ending)(w':World):Prop:=∃b:Bool,e=.returned (.bool b)∧(b=true->P)∧Below w.heap.size w w'
theorem b90!(D D':Nat->Prop)(A A':Option Addr)(len len' c c':Nat)(l m:List Va)(w:World)(h1:ElsG D w 4 1000000 (QV D w) A len l)(h2:ElsG D' w 4 1000000 (QV D' w) A' len' m):
 Calls Tryz.prog 71 #[.slice A len c,.slice A' len' c'] w (SayTo w (l=m)):=by
 obtain⟨xs,r1,-,m1,n1,e1⟩:=h1
 obtain⟨ys,r2,-,m2,n2,e2⟩:=h2
 have N1:=h! n1
 have N2:=h! n2
 by_cases hll:len=len'
 rotate_left
 ·have hE:((len:Int)==(len':Int))=false:=by simp;omega
  clear r1 r2 n1 n2 e1 e2 m2 m1 hll;go_enter Tryz.func71,Tryz.ntmps71;go_wp2_with fail
  go_ret
  exact⟨false,rfl,λe=>(by cases e),Below.refl _ _⟩
 obtain rfl:=hll
 have R1:=h! r1
 have R2:=h! r2
 have E1:=h! e1
 have E2:=h! e2
 clear r1 r2 n1 n2 e1 e2 m2
 go_enter Tryz.func71,Tryz.ntmps71
 go_wp2_with fail
 go_loopw [5] (λi wr=>∃k:Nat,k<=len∧i=.I k∧Hid (l.take k=m.take k)∧Hid (Below w.heap.size w wr)) (λi _=>len-(intOf i).toNat)
 case atStart=>exact⟨0,by omega,rfl,rfl,Below.refl _ _⟩
 case round=>
  obtain⟨k,hk,rfl,ht,hb⟩:=hrel
  by_cases hlt:k<len
  ·have hkk:k<l.length:=by rw[N1.out];exact hlt
   have hkm:k<m.length:=by rw[N2.out];exact hlt
   have ec:=E1.out k hkk;have ed:=E2.out k hkm;have HTK:Hid (l[k]=m[k]->l.take (k+1)=m.take (k+1)):=λh=>by rw[l3! hkk,l3! hkm,ht.out,h]
   generalize l[k]=g at*;generalize m[k]=g' at*;obtain⟨nm,sz,lo,hi⟩:=g;obtain⟨nm2,sz2,lo2,hi2⟩:=g';obtain⟨S,hS⟩:∃S,str nm=S:=⟨_,rfl⟩
   obtain⟨S2,hS2⟩:∃S,str nm2=S:=⟨_,rfl⟩
   have hcs:(xs.drop (k*4)).take 4=[.string S,.I sz,.I lo,.I hi]:=by rw[<-hS];exact ec
   have hcs':(ys.drop (k*4)).take 4=[.string S2,.I sz2,.I lo2,.I hi2]:=by rw[<-hS2];exact ed
   have HEQ:Hid (S=S2->sz=sz2->lo=lo2->hi=hi2->l.take (k+1)=m.take (k+1)):=λa1 a2 a3 a4=>HTK.out (by
    rw[a2,a3,a4]
    congr 1
    rw[<-hS,<-hS2]at a1;exact j3! a1)
   obtain⟨b1,o1,rfl,hb1,q⟩:=R1.out.chunk (by omega) hlt hcs;obtain⟨b2,o2,rfl,hb2,p⟩:=R2.out.chunk (by omega) hlt hcs';have q0:=(hb.out.cell (p:=⟨b1,o1+k*4,none⟩) hb1).trans (q 0 _ rfl);have p0:=(hb.out.cell (p:=⟨b2,o2+k*4,none⟩) hb2).trans (p 0 _ rfl);have q1:=(hb.out.cell (p:=⟨b1,o1+k*4+1,none⟩) hb1).trans (q 1 _ rfl);have p1:=(hb.out.cell (p:=⟨b2,o2+k*4+1,none⟩) hb2).trans (p 1 _ rfl);have q2:=(hb.out.cell (p:=⟨b1,o1+k*4+2,none⟩) hb1).trans (q 2 _ rfl);have p2:=(hb.out.cell (p:=⟨b2,o2+k*4+2,none⟩) hb2).trans (p 2 _ rfl);have q3:=(hb.out.cell (p:=⟨b1,o1+k*4+3,none⟩) hb1).trans (q 3 _ rfl);have p3:=(hb.out.cell (p:=⟨b2,o2+k*4+3,none⟩) hb2).trans (p 3 _ rfl);have g1:(0:Int)<=(k:Int):=by omega
   have g2:(k:Int)<(len:Int):=by omega
   obtain⟨u1,hu1⟩:∃b,(S.toList==S2.toList)=b:=⟨_,rfl⟩
   obtain⟨u2,hu2⟩:∃b,(sz==sz2)=b:=⟨_,rfl⟩
   obtain⟨u3,hu3⟩:∃b,(lo==lo2)=b:=⟨_,rfl⟩
   obtain⟨u4,hu4⟩:∃b,(hi==hi2)=b:=⟨_,rfl⟩
   have HU:Hid (u1=true->u2=true->u3=true->u4=true->l.take (k+1)=m.take (k+1)):=λa1 a2 a3 a4=>HEQ.out (by rw[a1]at hu1;exact i2! (by simpa using hu1)) (by rw[a2]at hu2;simpa using hu2) (by rw[a3]at hu3;simpa using hu3) (by rw[a4]at hu4;simpa using hu4)
   clear q p hcs hcs' ec ed hS hS2 ht;go_upto_region 6 with fail
   cases u1
   ·go_quiet (fail)
    go_wp2_with fail
    go_ret
    exact⟨false,rfl,λe=>(by cases e),a5! hb.out _⟩
   ·skip
    cases u2
    ·go_quiet (fail)
     go_wp2_with fail
     go_ret
     exact⟨false,rfl,λe=>(by cases e),a5! hb.out _⟩
    ·skip
     cases u3
     ·go_quiet (fail)
      go_wp2_with fail
      go_ret
      exact⟨false,rfl,λe=>(by cases e),a5! hb.out _⟩
     ·skip
      cases u4
      ·go_quiet (fail)
       go_wp2_with fail
       go_ret
       exact⟨false,rfl,λe=>(by cases e),a5! hb.out _⟩
      ·skip
       go_quiet (fail)
       go_wp2_with fail
       go_roundw
       case rel=>exact⟨k+1,by omega,by go_num,HU.out rfl rfl rfl rfl,a5! hb.out _⟩
       case measure=>simp[intOf];omega
  ·obtain rfl:k=len:=by omega
   have HE:Hid (l=m):=by
    have:=ht.out;rw[List.take_of_length_le (by rw[N1.out];exact Nat.le_refl _),List.take_of_length_le (by rw[N2.out];exact Nat.le_refl _)]at this;exact this
   clear ht;go_wp2_with fail
   go_ret
   exact⟨true,rfl,λ_=>HE.out,hb.out⟩
end Go.Proofs.YtdgekckedchjbaaGreatDoor
set_option maxHeartbeats 8000000
set_option maxRecDepth 100000
namespace Go.Proofs.YtdgekckedchjbaaGreatDoor
open Go.RowKit
variable {D:Nat->Prop} {w w':World} {E:List Ex} {A:Option Addr} {len:Nat}
theorem GC.widen{M M':Nat}(hM:M<=M'):∀(n:Nat) (cs:List Value) (g:Gx),GC D w M n cs g->GC D w M' n cs g
 |0,_,_,h=>absurd h id
 |n+1,cs,.mk op N nm l,h=>by
  obtain⟨A,len,cap,h1,xs,h2,h3,h4,h5,h6⟩:=h;exact⟨A,len,cap,h1,xs,h2,h3,by omega,h5,λi hi=>GC.widen hM n _ _ (h6 i hi)⟩
theorem f04!{e:Ex}(h:e∈E):e.dep<=(E.map Ex.dep).sum:=by
 induction E with
 |nil=>cases h
 |cons a l ih=>
  rw[List.map_cons,List.sum_cons];rcases List.mem_cons.1 h with rfl|h
  ·omega
  ·have:=ih h
   omega
theorem b91!{n:Nat}(hn:(E.map Ex.dep).sum<=n)(h:ElsG D w 4 1000000 (QG D w) A len E):ElsG D w 4 2513169434843 (GC D w 2513169434843 n) A len (E.map Ex.gx):=by
 obtain⟨xs,h1,h2,h3,h4,h5⟩:=h
 refine⟨xs,h1,h2,by omega,by rw[List.length_map];exact h4,λi hi=>?_⟩
 have hi':i<E.length:=by rw[List.length_map]at hi;exact hi
 rw[List.getElem_map]
 exact GC.deeper (Nat.le_trans (f04! (List.getElem_mem hi')) hn) (GC.widen (by decide) _ _ _ (h5 i hi'))
theorem f05!{D':Nat->Prop}{A':Option Addr}{len' c c':Nat}{E':List Ex}(h:ElsG D w 4 1000000 (QG D w) A len E)(k:ElsG D' w 4 1000000 (QG D' w) A' len' E'):
 Calls Tryz.prog 50 #[.slice A len c,.slice A' len' c'] w (EqTo w (E.map Ex.gx=E'.map Ex.gx)):=
 b88! _ (b89! _) D D' A A' len len' c c' _ _ w (b91! (Nat.le_max_left _ _) h) (b91! (Nat.le_max_right ((E.map Ex.dep).sum) _) k)
theorem ElsG.belowQ{l:List Ex}(h:ElsG D w 4 1000000 (QG D w) A len l)(hb:Below w.heap.size w w'):ElsG D w' 4 1000000 (QG D w') A len l:=h.kept (Kept.of_below (S:=λ_=>False) hb) (λ_ _ _ h=>h) (λ_ _ h=>h) (λcs x h=>f5! D D _ w w' cs x (Kept.of_below (S:=λ_=>False) hb) (λ_ _ _ h=>h) (λ_ _ h=>h) h)
theorem ElsG.belowRE{d:Nat}{l:List St}(h:ElsG D w 7 1000000 (RE D w d) A len l)(hb:Below w.heap.size w w'):ElsG D w' 7 1000000 (RE D w' d) A len l:=h.kept (Kept.of_below (S:=λ_=>False) hb) (λ_ _ _ h=>h) (λ_ _ h=>h) (RE.kept (Kept.of_below (S:=λ_=>False) hb) (λ_ _ _ h=>h) (λ_ _ h=>h) d)
def a35!(d:Nat):Prop:=∀(D D':Nat->Prop) (A A':Option Addr) (len len' c c':Nat) (l m:List St) (w:World),ElsG D w 7 1000000 (RE D w d) A len l->ElsG D' w 7 1000000 (RE D' w d) A' len' m->
 Calls Tryz.prog 72 #[.slice A len c,.slice A' len' c'] w (SayTo w (l.map St.sx=m.map St.sx))
theorem b92!(n:Nat)(H:∀q,n=q+1->a35! q):a35! n:=by
 intro D D' A A' len len' c c' l m w h1 h2
 obtain⟨xs,r1,-,m1,n1,e1⟩:=h1
 obtain⟨ys,r2,-,m2,n2,e2⟩:=h2
 have N1:=h! n1
 have N2:=h! n2
 by_cases hll:len=len'
 rotate_left
 ·have hE:((len:Int)==(len':Int))=false:=by simp;omega
  clear r1 r2 n1 n2 e1 e2 m2 m1 hll H;go_enter Tryz.func72,Tryz.ntmps72;go_wp2_with fail
  go_ret
  exact⟨false,rfl,λe=>(by cases e),Below.refl _ _⟩
 obtain rfl:=hll
 have R1:=h! r1
 have R2:=h! r2
 have E1:=h! e1
 have E2:=h! e2
 have HH:=h! H
 clear r1 r2 n1 n2 e1 e2 m2 H
 go_enter Tryz.func72,Tryz.ntmps72
 go_wp2_with fail
 go_loopw [5] (λi wr=>∃k:Nat,k<=len∧i=.I k∧Hid ((l.map St.sx).take k=(m.map St.sx).take k)∧Hid (Below w.heap.size w wr)) (λi _=>len-(intOf i).toNat)
 case atStart=>exact⟨0,by omega,rfl,rfl,Below.refl _ _⟩
 case round=>
  obtain⟨k,hk,rfl,ht,hb⟩:=hrel
  by_cases hlt:k<len
  ·have hkk:k<l.length:=by rw[N1.out];exact hlt
   have hkm:k<m.length:=by rw[N2.out];exact hlt
   have ec:=E1.out k hkk;have ed:=E2.out k hkm;have HTK:Hid (l[k].sx=m[k].sx->(l.map St.sx).take (k+1)=(m.map St.sx).take (k+1)):=λh=>by
    rw[l3! (by rw[List.length_map];exact hkk),l3! (by rw[List.length_map];exact hkm),ht.out,List.getElem_map,List.getElem_map,h]
   obtain⟨q,rfl⟩:∃q,n=q+1:=by
    cases n with
    |zero=>exact absurd ec id
    |succ q=>exact⟨q,rfl⟩
   generalize l[k]=g at*;generalize m[k]=g' at*;obtain⟨kind,nm,E,lo,hi,L,El⟩:=g;obtain⟨kind2,nm2,E2',lo2,hi2,L2,El2⟩:=g';obtain⟨A1,l1,c1,A2,l2,c2,A3,l3,c3,hcs,heE,heL,heS⟩:=ec;obtain⟨B1,i1,d1,B2,i2,d2,B3,i3,d3,hcs',heE',heL',heS'⟩:=ed;obtain⟨S,hS⟩:∃S,str nm=S:=⟨_,rfl⟩
   obtain⟨S2,hS2⟩:∃S,str nm2=S:=⟨_,rfl⟩
   rw[hS]at hcs;rw[hS2]at hcs';have HEQ:Hid (kind=kind2->S=S2->lo=lo2->hi=hi2->E.map Ex.gx=E2'.map Ex.gx->L.map St.sx=L2.map St.sx->El.map St.sx=El2.map St.sx->(l.map St.sx).take (k+1)=(m.map St.sx).take (k+1)):=λa1 a2 a3 a4 a5 a6 a7=>HTK.out (by
    rw[<-hS,<-hS2]at a2;rw[St.sx,St.sx,sxs_map,sxs_map,sxs_map,sxs_map,a1,j3! a2,a3,a4,a5,a6,a7])
   have CE:=h! (λW (hW:Below w.heap.size w W)=>f05! (c:=c1) (c':=d1) (heE.belowQ hW) (heE'.belowQ hW));have CL:=h! (λW (hW:Below w.heap.size w W)=>HH.out q rfl D D' A2 B2 l2 i2 c2 d2 L L2 W (heL.belowRE hW) (heL'.belowRE hW));have CS:=h! (λW (hW:Below w.heap.size w W)=>HH.out q rfl D D' A3 B3 l3 i3 c3 d3 El El2 W (heS.belowRE hW) (heS'.belowRE hW));obtain⟨b1,o1,rfl,hb1,q⟩:=R1.out.chunk (by omega) hlt hcs;obtain⟨b2,o2,rfl,hb2,p⟩:=R2.out.chunk (by omega) hlt hcs';have q0:=(hb.out.cell (p:=⟨b1,o1+k*7,none⟩) hb1).trans (q 0 _ rfl);have p0:=(hb.out.cell (p:=⟨b2,o2+k*7,none⟩) hb2).trans (p 0 _ rfl);have q1:=(hb.out.cell (p:=⟨b1,o1+k*7+1,none⟩) hb1).trans (q 1 _ rfl);have p1:=(hb.out.cell (p:=⟨b2,o2+k*7+1,none⟩) hb2).trans (p 1 _ rfl);have q2:=(hb.out.cell (p:=⟨b1,o1+k*7+2,none⟩) hb1).trans (q 2 _ rfl);have p2:=(hb.out.cell (p:=⟨b2,o2+k*7+2,none⟩) hb2).trans (p 2 _ rfl);have q3:=(hb.out.cell (p:=⟨b1,o1+k*7+3,none⟩) hb1).trans (q 3 _ rfl);have p3:=(hb.out.cell (p:=⟨b2,o2+k*7+3,none⟩) hb2).trans (p 3 _ rfl);have q4:=(hb.out.cell (p:=⟨b1,o1+k*7+4,none⟩) hb1).trans (q 4 _ rfl);have p4:=(hb.out.cell (p:=⟨b2,o2+k*7+4,none⟩) hb2).trans (p 4 _ rfl);have q5:=(hb.out.cell (p:=⟨b1,o1+k*7+5,none⟩) hb1).trans (q 5 _ rfl);have p5:=(hb.out.cell (p:=⟨b2,o2+k*7+5,none⟩) hb2).trans (p 5 _ rfl);have q6:=(hb.out.cell (p:=⟨b1,o1+k*7+6,none⟩) hb1).trans (q 6 _ rfl);have p6:=(hb.out.cell (p:=⟨b2,o2+k*7+6,none⟩) hb2).trans (p 6 _ rfl);have hwz:=hb.out.size;have g1:(0:Int)<=(k:Int):=by omega
   have g2:(k:Int)<(len:Int):=by omega
   clear q p hcs hcs' heE heL heS heE' heL' heS' hS hS2 ht;go_upto_region 6 with fail
   go_cut [6,7] (λv6 v7 wc=>∃a b:Nat,v6=.pointer (some ⟨a,0,none⟩)∧v7=.pointer (some ⟨b,0,none⟩)∧Hid (Blk wc a 29 #[.I kind,.string S,.slice A1 l1 c1,.I lo,.I hi,.slice A2 l2 c2,.slice A3 l3 c3])∧Hid (Blk wc b 29 #[.I kind2,.string S2,.slice B1 i1 d1,.I lo2,.I hi2,.slice B2 i2 d2,.slice B3 i3 d3])∧Hid (Below wr.heap.size wr wc))
   case first=>
    have BW:=h! ((Below.refl wr.heap.size wr).drew);have KQ:Hid (∀W,Below wr.heap.size wr W->W.cell? ⟨b1,o1+k*7,none⟩=some (.I kind)∧W.cell? ⟨b1,o1+k*7+1,none⟩=some (.string S)∧W.cell? ⟨b1,o1+k*7+2,none⟩=some (.slice A1 l1 c1)∧W.cell? ⟨b1,o1+k*7+3,none⟩=some (.I lo)∧W.cell? ⟨b1,o1+k*7+4,none⟩=some (.I hi)∧W.cell? ⟨b1,o1+k*7+5,none⟩=some (.slice A2 l2 c2)∧W.cell? ⟨b1,o1+k*7+6,none⟩=some (.slice A3 l3 c3)∧W.cell? ⟨b2,o2+k*7,none⟩=some (.I kind2)∧W.cell? ⟨b2,o2+k*7+1,none⟩=some (.string S2)∧W.cell? ⟨b2,o2+k*7+2,none⟩=some (.slice B1 i1 d1)∧W.cell? ⟨b2,o2+k*7+3,none⟩=some (.I lo2)∧W.cell? ⟨b2,o2+k*7+4,none⟩=some (.I hi2)∧W.cell? ⟨b2,o2+k*7+5,none⟩=some (.slice B2 i2 d2)∧W.cell? ⟨b2,o2+k*7+6,none⟩=some (.slice B3 i3 d3)):=λW hW=>⟨(hW.cell (p:=⟨b1,_,none⟩) (by show b1<_;omega)).trans q0,(hW.cell (p:=⟨b1,_,none⟩) (by show b1<_;omega)).trans q1,(hW.cell (p:=⟨b1,_,none⟩) (by show b1<_;omega)).trans q2,(hW.cell (p:=⟨b1,_,none⟩) (by show b1<_;omega)).trans q3,(hW.cell (p:=⟨b1,_,none⟩) (by show b1<_;omega)).trans q4,(hW.cell (p:=⟨b1,_,none⟩) (by show b1<_;omega)).trans q5,(hW.cell (p:=⟨b1,_,none⟩) (by show b1<_;omega)).trans q6,(hW.cell (p:=⟨b2,_,none⟩) (by show b2<_;omega)).trans p0,(hW.cell (p:=⟨b2,_,none⟩) (by show b2<_;omega)).trans p1,(hW.cell (p:=⟨b2,_,none⟩) (by show b2<_;omega)).trans p2,(hW.cell (p:=⟨b2,_,none⟩) (by show b2<_;omega)).trans p3,(hW.cell (p:=⟨b2,_,none⟩) (by show b2<_;omega)).trans p4,(hW.cell (p:=⟨b2,_,none⟩) (by show b2<_;omega)).trans p5,(hW.cell (p:=⟨b2,_,none⟩) (by show b2<_;omega)).trans p6⟩
    refine wp_region_held_drew (S:=(λw'=>w'.cell? ⟨b1,o1+k*7,none⟩=some (.I kind)∧w'.cell? ⟨b1,o1+k*7+1,none⟩=some (.string S)∧w'.cell? ⟨b1,o1+k*7+2,none⟩=some (.slice A1 l1 c1)∧w'.cell? ⟨b1,o1+k*7+3,none⟩=some (.I lo)∧w'.cell? ⟨b1,o1+k*7+4,none⟩=some (.I hi)∧w'.cell? ⟨b1,o1+k*7+5,none⟩=some (.slice A2 l2 c2)∧w'.cell? ⟨b1,o1+k*7+6,none⟩=some (.slice A3 l3 c3)∧w'.cell? ⟨b2,o2+k*7,none⟩=some (.I kind2)∧w'.cell? ⟨b2,o2+k*7+1,none⟩=some (.string S2)∧w'.cell? ⟨b2,o2+k*7+2,none⟩=some (.slice B1 i1 d1)∧w'.cell? ⟨b2,o2+k*7+3,none⟩=some (.I lo2)∧w'.cell? ⟨b2,o2+k*7+4,none⟩=some (.I hi2)∧w'.cell? ⟨b2,o2+k*7+5,none⟩=some (.slice B2 i2 d2)∧w'.cell? ⟨b2,o2+k*7+6,none⟩=some (.slice B3 i3 d3))) (by kernel_rfl) (KQ.out _ BW.out) (λhHeld=>?_);generalize wr.drew=Wd at*;refine wpAnyH_take (i:=0) (oi:=_) (v:=?_) rfl (by kernel_rfl) (by kernel_rfl) (by kernel_rfl) (λ_ _ _ h=>h) (Or.inl ⟨by rfl,?_⟩) (by assumption) ?_;rotate_left
    ·intro w hSw
     (try dsimp only at hSw)
     go_simp
     (try with_reducible rfl)
    try simp only[Act.put,List.setIfInBounds_toArray,List.set_cons_zero,List.set_cons_succ,List.getElem_toArray,List.getElem_cons_zero]
    refine wpAnyH_take (i:=1) (oi:=_) (v:=?_) rfl (by kernel_rfl) (by kernel_rfl) (by kernel_rfl) (λ_ _ _ h=>h) (Or.inl ⟨by rfl,?_⟩) (by assumption) ?_;rotate_left
    ·intro w hSw
     (try dsimp only at hSw)
     go_simp
     (try with_reducible rfl)
    try simp only[Act.put,List.setIfInBounds_toArray,List.set_cons_zero,List.set_cons_succ,List.getElem_toArray,List.getElem_cons_succ,List.getElem_cons_zero]
    refine wpAnyH_take (i:=2) (oi:=_) (v:=?_) rfl (by kernel_rfl) (by kernel_rfl) (by kernel_rfl) (λ_ _ _ h=>h) (Or.inl ⟨by rfl,?_⟩) (by assumption) ?_;rotate_left
    ·intro w hSw
     (try dsimp only at hSw)
     go_simp
     (try with_reducible rfl)
    try simp only[Act.put,List.setIfInBounds_toArray,List.set_cons_zero,List.set_cons_succ,List.getElem_toArray,List.getElem_cons_succ,List.getElem_cons_zero]
    refine wpAnyH_take (i:=3) (oi:=_) (v:=?_) rfl (by kernel_rfl) (by kernel_rfl) (by kernel_rfl) (λ_ _ _ h=>h) (Or.inl ⟨by rfl,?_⟩) (by assumption) ?_;rotate_left
    ·intro w hSw
     (try dsimp only at hSw)
     go_simp
     (try with_reducible rfl)
    try simp only[Act.put,List.setIfInBounds_toArray,List.set_cons_zero,List.set_cons_succ,List.getElem_toArray,List.getElem_cons_succ,List.getElem_cons_zero]
    refine wpAnyH_take (i:=4) (oi:=_) (v:=?_) rfl (by kernel_rfl) (by kernel_rfl) (by kernel_rfl) (λ_ _ _ h=>h) (Or.inl ⟨by rfl,?_⟩) (by assumption) ?_;rotate_left
    ·intro w hSw
     (try dsimp only at hSw)
     go_simp
     (try with_reducible rfl)
    try simp only[Act.put,List.setIfInBounds_toArray,List.set_cons_zero,List.set_cons_succ,List.getElem_toArray,List.getElem_cons_succ,List.getElem_cons_zero]
    refine wpAnyH_take (i:=5) (oi:=_) (v:=?_) rfl (by kernel_rfl) (by kernel_rfl) (by kernel_rfl) (λ_ _ _ h=>h) (Or.inl ⟨by rfl,?_⟩) (by assumption) ?_;rotate_left
    ·intro w hSw
     (try dsimp only at hSw)
     go_simp
     (try with_reducible rfl)
    try simp only[Act.put,List.setIfInBounds_toArray,List.set_cons_zero,List.set_cons_succ,List.getElem_toArray,List.getElem_cons_succ,List.getElem_cons_zero]
    refine wpAnyH_take (i:=6) (oi:=_) (v:=?_) rfl (by kernel_rfl) (by kernel_rfl) (by kernel_rfl) (λ_ _ _ h=>h) (Or.inl ⟨by rfl,?_⟩) (by assumption) ?_;rotate_left
    ·intro w hSw
     (try dsimp only at hSw)
     go_simp
     (try with_reducible rfl)
    try simp only[Act.put,List.setIfInBounds_toArray,List.set_cons_zero,List.set_cons_succ,List.getElem_toArray,List.getElem_cons_succ,List.getElem_cons_zero]
    refine wpAnyH_take (i:=7) (oi:=_) (v:=?_) rfl (by kernel_rfl) (by kernel_rfl) (by kernel_rfl) (λ_ _ _ h=>h) (Or.inl ⟨by rfl,?_⟩) (by assumption) ?_;rotate_left
    ·intro w hSw
     (try dsimp only at hSw)
     go_simp
     (try with_reducible rfl)
    try simp only[Act.put,List.setIfInBounds_toArray,List.set_cons_zero,List.set_cons_succ,List.getElem_toArray,List.getElem_cons_succ,List.getElem_cons_zero]
    refine wpAnyH_ready (rs:=[8,9]) (by kernel_rfl) (by simp) ?_;refine AllReadyH.cons (o:=_) rfl (λK hK=>?_) (AllReadyH.cons (o:=_) rfl (λK hK=>?_) AllReadyH.nil)
    ·skip
     go_simp
     have bl1:Below wr.heap.size wr (Wd.alloc (.cells #[.I 0,.E,.N,.I 0,.I 0,.N,.N] 29)):=BW.out.alloc (by have:=BW.out.size;omega) _;refine hK.out _ _ (KQ.out _ bl1) (λhHeld=>?_);clear hK K
     try simp only[Act.put,List.setIfInBounds_toArray,List.set_cons_zero,List.set_cons_succ,List.getElem_toArray,List.getElem_cons_succ,List.getElem_cons_zero]
     have nb1:=Blk.new Wd 29 #[.I 0,.E,.N,.I 0,.I 0,.N,.N];have nz1:Wd.heap.size<(Wd.alloc (.cells #[.I 0,.E,.N,.I 0,.I 0,.N,.N] 29)).heap.size:=by simp
     have nl1:wr.heap.size<=Wd.heap.size:=BW.out.size;generalize (Wd.alloc (.cells #[.I 0,.E,.N,.I 0,.I 0,.N,.N] 29))=W1q at*;generalize Wd.heap.size=g1 at*;refine wpAnyH_ready (rs:=[9]) (by kernel_rfl) (by simp) ?_;refine AllReadyH.cons (o:=_) rfl (λK hK=>?_) AllReadyH.nil
     go_simp
     have bl2:Below wr.heap.size wr (W1q.alloc (.cells #[.I 0,.E,.N,.I 0,.I 0,.N,.N] 29)):=bl1.alloc (by have:=bl1.size;omega) _;refine hK.out _ _ (KQ.out _ bl2) (λhHeld=>?_);clear hK K
     try simp only[Act.put,List.setIfInBounds_toArray,List.set_cons_zero,List.set_cons_succ,List.getElem_toArray,List.getElem_cons_succ,List.getElem_cons_zero]
     have nb2:=Blk.new W1q 29 #[.I 0,.E,.N,.I 0,.I 0,.N,.N];have nc2:=nb1.alloc (.cells #[.I 0,.E,.N,.I 0,.I 0,.N,.N] 29);have nz2:W1q.heap.size<(W1q.alloc (.cells #[.I 0,.E,.N,.I 0,.I 0,.N,.N] 29)).heap.size:=by simp
     have nl2:wr.heap.size<=W1q.heap.size:=bl1.size;have nm2:g1<W1q.heap.size:=nb1.lt;generalize (W1q.alloc (.cells #[.I 0,.E,.N,.I 0,.I 0,.N,.N] 29))=W2q at*;generalize W1q.heap.size=g2 at*;refine wpAnyH_ready (rs:=[10]) (by kernel_rfl) (by simp) ?_;refine AllReadyH.cons (o:=_) rfl (λK hK=>?_) AllReadyH.nil;have v0:=nc2.c0;have y0:=nc2.frozen 0;have v1:=nc2.c1;have y1:=nc2.frozen 1;have v2:=nc2.c2;have y2:=nc2.frozen 2;have v3:=nc2.c3;have y3:=nc2.frozen 3;have v4:=nc2.c4;have y4:=nc2.frozen 4;have v5:=nc2.c5;have y5:=nc2.frozen 5;have v6:=nc2.c6;have y6:=nc2.frozen 6
     go_simp
     have bl3:Below wr.heap.size wr (((((((W2q.setCell ⟨g1,0,none⟩ (.I kind)).setCell ⟨g1,1,none⟩ (.string S)).setCell ⟨g1,2,none⟩ (.slice A1 l1 c1)).setCell ⟨g1,3,none⟩ (.I lo)).setCell ⟨g1,4,none⟩ (.I hi)).setCell ⟨g1,5,none⟩ (.slice A2 l2 c2)).setCell ⟨g1,6,none⟩ (.slice A3 l3 c3)):=((((((bl2.setCell (p:=⟨g1,0,none⟩) (by show wr.heap.size<=g1;omega) (.I kind)).setCell (p:=⟨g1,1,none⟩) (by show wr.heap.size<=g1;omega) (.string S)).setCell (p:=⟨g1,2,none⟩) (by show wr.heap.size<=g1;omega) (.slice A1 l1 c1)).setCell (p:=⟨g1,3,none⟩) (by show wr.heap.size<=g1;omega) (.I lo)).setCell (p:=⟨g1,4,none⟩) (by show wr.heap.size<=g1;omega) (.I hi)).setCell (p:=⟨g1,5,none⟩) (by show wr.heap.size<=g1;omega) (.slice A2 l2 c2)).setCell (p:=⟨g1,6,none⟩) (by show wr.heap.size<=g1;omega) (.slice A3 l3 c3);refine hK.out _ _ (KQ.out _ bl3) (λhHeld=>?_);clear hK K
     try simp only[Act.put,List.setIfInBounds_toArray,List.set_cons_zero,List.set_cons_succ,List.getElem_toArray,List.getElem_cons_succ,List.getElem_cons_zero]
     have nb3:=nc2.put7 (.I kind) (.string S) (.slice A1 l1 c1) (.I lo) (.I hi) (.slice A2 l2 c2) (.slice A3 l3 c3);have nk3:=Kept.put7 W2q g1 (.I kind) (.string S) (.slice A1 l1 c1) (.I lo) (.I hi) (.slice A2 l2 c2) (.slice A3 l3 c3);have nc3:=nb2.kept nk3 (by omega);clear v0 y0 v1 y1 v2 y2 v3 y3 v4 y4 v5 y5 v6 y6;have nz3:=nk3.size;clear nk3;generalize (((((((W2q.setCell ⟨g1,0,none⟩ (.I kind)).setCell ⟨g1,1,none⟩ (.string S)).setCell ⟨g1,2,none⟩ (.slice A1 l1 c1)).setCell ⟨g1,3,none⟩ (.I lo)).setCell ⟨g1,4,none⟩ (.I hi)).setCell ⟨g1,5,none⟩ (.slice A2 l2 c2)).setCell ⟨g1,6,none⟩ (.slice A3 l3 c3))=W3q at*;refine wpAnyH_ready (rs:=[11]) (by kernel_rfl) (by simp) ?_;refine AllReadyH.cons (o:=_) rfl (λK hK=>?_) AllReadyH.nil;have v0:=nc3.c0;have y0:=nc3.frozen 0;have v1:=nc3.c1;have y1:=nc3.frozen 1;have v2:=nc3.c2;have y2:=nc3.frozen 2;have v3:=nc3.c3;have y3:=nc3.frozen 3;have v4:=nc3.c4;have y4:=nc3.frozen 4;have v5:=nc3.c5;have y5:=nc3.frozen 5;have v6:=nc3.c6;have y6:=nc3.frozen 6
     go_simp
     have bl4:Below wr.heap.size wr (((((((W3q.setCell ⟨g2,0,none⟩ (.I kind2)).setCell ⟨g2,1,none⟩ (.string S2)).setCell ⟨g2,2,none⟩ (.slice B1 i1 d1)).setCell ⟨g2,3,none⟩ (.I lo2)).setCell ⟨g2,4,none⟩ (.I hi2)).setCell ⟨g2,5,none⟩ (.slice B2 i2 d2)).setCell ⟨g2,6,none⟩ (.slice B3 i3 d3)):=((((((bl3.setCell (p:=⟨g2,0,none⟩) (by show wr.heap.size<=g2;omega) (.I kind2)).setCell (p:=⟨g2,1,none⟩) (by show wr.heap.size<=g2;omega) (.string S2)).setCell (p:=⟨g2,2,none⟩) (by show wr.heap.size<=g2;omega) (.slice B1 i1 d1)).setCell (p:=⟨g2,3,none⟩) (by show wr.heap.size<=g2;omega) (.I lo2)).setCell (p:=⟨g2,4,none⟩) (by show wr.heap.size<=g2;omega) (.I hi2)).setCell (p:=⟨g2,5,none⟩) (by show wr.heap.size<=g2;omega) (.slice B2 i2 d2)).setCell (p:=⟨g2,6,none⟩) (by show wr.heap.size<=g2;omega) (.slice B3 i3 d3);refine hK.out _ _ (KQ.out _ bl4) (λhHeld=>?_);clear hK K
     try simp only[Act.put,List.setIfInBounds_toArray,List.set_cons_zero,List.set_cons_succ,List.getElem_toArray,List.getElem_cons_succ,List.getElem_cons_zero]
     have nb4:=nc3.put7 (.I kind2) (.string S2) (.slice B1 i1 d1) (.I lo2) (.I hi2) (.slice B2 i2 d2) (.slice B3 i3 d3);have nk4:=Kept.put7 W3q g2 (.I kind2) (.string S2) (.slice B1 i1 d1) (.I lo2) (.I hi2) (.slice B2 i2 d2) (.slice B3 i3 d3);have nc4:=nb3.kept nk4 (by omega);clear v0 y0 v1 y1 v2 y2 v3 y3 v4 y4 v5 y5 v6 y6;have nz4:=nk4.size;clear nk4;generalize (((((((W3q.setCell ⟨g2,0,none⟩ (.I kind2)).setCell ⟨g2,1,none⟩ (.string S2)).setCell ⟨g2,2,none⟩ (.slice B1 i1 d1)).setCell ⟨g2,3,none⟩ (.I lo2)).setCell ⟨g2,4,none⟩ (.I hi2)).setCell ⟨g2,5,none⟩ (.slice B2 i2 d2)).setCell ⟨g2,6,none⟩ (.slice B3 i3 d3))=W4q at*;refine wpAnyH_done (by kernel_rfl) ?_ _
     go_goals
     go_wp2_with fail;go_meet
     case rel=>exact⟨g1,g2,rfl,rfl,nc4,nb4,bl4⟩
    ·skip
     go_simp
     have bl5:Below wr.heap.size wr (Wd.alloc (.cells #[.I 0,.E,.N,.I 0,.I 0,.N,.N] 29)):=BW.out.alloc (by have:=BW.out.size;omega) _;refine hK.out _ _ (KQ.out _ bl5) (λhHeld=>?_);clear hK K
     try simp only[Act.put,List.setIfInBounds_toArray,List.set_cons_zero,List.set_cons_succ,List.getElem_toArray,List.getElem_cons_succ,List.getElem_cons_zero]
     have nb5:=Blk.new Wd 29 #[.I 0,.E,.N,.I 0,.I 0,.N,.N];have nz5:Wd.heap.size<(Wd.alloc (.cells #[.I 0,.E,.N,.I 0,.I 0,.N,.N] 29)).heap.size:=by simp
     have nl5:wr.heap.size<=Wd.heap.size:=BW.out.size;generalize (Wd.alloc (.cells #[.I 0,.E,.N,.I 0,.I 0,.N,.N] 29))=W5q at*;generalize Wd.heap.size=g5 at*;refine wpAnyH_ready (rs:=[8]) (by kernel_rfl) (by simp) ?_;refine AllReadyH.cons (o:=_) rfl (λK hK=>?_) AllReadyH.nil
     go_simp
     have bl6:Below wr.heap.size wr (W5q.alloc (.cells #[.I 0,.E,.N,.I 0,.I 0,.N,.N] 29)):=bl5.alloc (by have:=bl5.size;omega) _;refine hK.out _ _ (KQ.out _ bl6) (λhHeld=>?_);clear hK K
     try simp only[Act.put,List.setIfInBounds_toArray,List.set_cons_zero,List.set_cons_succ,List.getElem_toArray,List.getElem_cons_succ,List.getElem_cons_zero]
     have nb6:=Blk.new W5q 29 #[.I 0,.E,.N,.I 0,.I 0,.N,.N];have nc6:=nb5.alloc (.cells #[.I 0,.E,.N,.I 0,.I 0,.N,.N] 29);have nz6:W5q.heap.size<(W5q.alloc (.cells #[.I 0,.E,.N,.I 0,.I 0,.N,.N] 29)).heap.size:=by simp
     have nl6:wr.heap.size<=W5q.heap.size:=bl5.size;have nm6:g5<W5q.heap.size:=nb5.lt;generalize (W5q.alloc (.cells #[.I 0,.E,.N,.I 0,.I 0,.N,.N] 29))=W6q at*;generalize W5q.heap.size=g6 at*;refine wpAnyH_ready (rs:=[10]) (by kernel_rfl) (by simp) ?_;refine AllReadyH.cons (o:=_) rfl (λK hK=>?_) AllReadyH.nil;have v0:=nb6.c0;have y0:=nb6.frozen 0;have v1:=nb6.c1;have y1:=nb6.frozen 1;have v2:=nb6.c2;have y2:=nb6.frozen 2;have v3:=nb6.c3;have y3:=nb6.frozen 3;have v4:=nb6.c4;have y4:=nb6.frozen 4;have v5:=nb6.c5;have y5:=nb6.frozen 5;have v6:=nb6.c6;have y6:=nb6.frozen 6
     go_simp
     have bl7:Below wr.heap.size wr (((((((W6q.setCell ⟨g6,0,none⟩ (.I kind)).setCell ⟨g6,1,none⟩ (.string S)).setCell ⟨g6,2,none⟩ (.slice A1 l1 c1)).setCell ⟨g6,3,none⟩ (.I lo)).setCell ⟨g6,4,none⟩ (.I hi)).setCell ⟨g6,5,none⟩ (.slice A2 l2 c2)).setCell ⟨g6,6,none⟩ (.slice A3 l3 c3)):=((((((bl6.setCell (p:=⟨g6,0,none⟩) (by show wr.heap.size<=g6;omega) (.I kind)).setCell (p:=⟨g6,1,none⟩) (by show wr.heap.size<=g6;omega) (.string S)).setCell (p:=⟨g6,2,none⟩) (by show wr.heap.size<=g6;omega) (.slice A1 l1 c1)).setCell (p:=⟨g6,3,none⟩) (by show wr.heap.size<=g6;omega) (.I lo)).setCell (p:=⟨g6,4,none⟩) (by show wr.heap.size<=g6;omega) (.I hi)).setCell (p:=⟨g6,5,none⟩) (by show wr.heap.size<=g6;omega) (.slice A2 l2 c2)).setCell (p:=⟨g6,6,none⟩) (by show wr.heap.size<=g6;omega) (.slice A3 l3 c3);refine hK.out _ _ (KQ.out _ bl7) (λhHeld=>?_);clear hK K
     try simp only[Act.put,List.setIfInBounds_toArray,List.set_cons_zero,List.set_cons_succ,List.getElem_toArray,List.getElem_cons_succ,List.getElem_cons_zero]
     have nb7:=nb6.put7 (.I kind) (.string S) (.slice A1 l1 c1) (.I lo) (.I hi) (.slice A2 l2 c2) (.slice A3 l3 c3);have nk7:=Kept.put7 W6q g6 (.I kind) (.string S) (.slice A1 l1 c1) (.I lo) (.I hi) (.slice A2 l2 c2) (.slice A3 l3 c3);have nc7:=nc6.kept nk7 (by omega);clear v0 y0 v1 y1 v2 y2 v3 y3 v4 y4 v5 y5 v6 y6;have nz7:=nk7.size;clear nk7;generalize (((((((W6q.setCell ⟨g6,0,none⟩ (.I kind)).setCell ⟨g6,1,none⟩ (.string S)).setCell ⟨g6,2,none⟩ (.slice A1 l1 c1)).setCell ⟨g6,3,none⟩ (.I lo)).setCell ⟨g6,4,none⟩ (.I hi)).setCell ⟨g6,5,none⟩ (.slice A2 l2 c2)).setCell ⟨g6,6,none⟩ (.slice A3 l3 c3))=W7q at*;refine wpAnyH_ready (rs:=[11]) (by kernel_rfl) (by simp) ?_;refine AllReadyH.cons (o:=_) rfl (λK hK=>?_) AllReadyH.nil;have v0:=nc7.c0;have y0:=nc7.frozen 0;have v1:=nc7.c1;have y1:=nc7.frozen 1;have v2:=nc7.c2;have y2:=nc7.frozen 2;have v3:=nc7.c3;have y3:=nc7.frozen 3;have v4:=nc7.c4;have y4:=nc7.frozen 4;have v5:=nc7.c5;have y5:=nc7.frozen 5;have v6:=nc7.c6;have y6:=nc7.frozen 6
     go_simp
     have bl8:Below wr.heap.size wr (((((((W7q.setCell ⟨g5,0,none⟩ (.I kind2)).setCell ⟨g5,1,none⟩ (.string S2)).setCell ⟨g5,2,none⟩ (.slice B1 i1 d1)).setCell ⟨g5,3,none⟩ (.I lo2)).setCell ⟨g5,4,none⟩ (.I hi2)).setCell ⟨g5,5,none⟩ (.slice B2 i2 d2)).setCell ⟨g5,6,none⟩ (.slice B3 i3 d3)):=((((((bl7.setCell (p:=⟨g5,0,none⟩) (by show wr.heap.size<=g5;omega) (.I kind2)).setCell (p:=⟨g5,1,none⟩) (by show wr.heap.size<=g5;omega) (.string S2)).setCell (p:=⟨g5,2,none⟩) (by show wr.heap.size<=g5;omega) (.slice B1 i1 d1)).setCell (p:=⟨g5,3,none⟩) (by show wr.heap.size<=g5;omega) (.I lo2)).setCell (p:=⟨g5,4,none⟩) (by show wr.heap.size<=g5;omega) (.I hi2)).setCell (p:=⟨g5,5,none⟩) (by show wr.heap.size<=g5;omega) (.slice B2 i2 d2)).setCell (p:=⟨g5,6,none⟩) (by show wr.heap.size<=g5;omega) (.slice B3 i3 d3);refine hK.out _ _ (KQ.out _ bl8) (λhHeld=>?_);clear hK K
     try simp only[Act.put,List.setIfInBounds_toArray,List.set_cons_zero,List.set_cons_succ,List.getElem_toArray,List.getElem_cons_succ,List.getElem_cons_zero]
     have nb8:=nc7.put7 (.I kind2) (.string S2) (.slice B1 i1 d1) (.I lo2) (.I hi2) (.slice B2 i2 d2) (.slice B3 i3 d3);have nk8:=Kept.put7 W7q g5 (.I kind2) (.string S2) (.slice B1 i1 d1) (.I lo2) (.I hi2) (.slice B2 i2 d2) (.slice B3 i3 d3);have nc8:=nb7.kept nk8 (by omega);clear v0 y0 v1 y1 v2 y2 v3 y3 v4 y4 v5 y5 v6 y6;have nz8:=nk8.size;clear nk8;generalize (((((((W7q.setCell ⟨g5,0,none⟩ (.I kind2)).setCell ⟨g5,1,none⟩ (.string S2)).setCell ⟨g5,2,none⟩ (.slice B1 i1 d1)).setCell ⟨g5,3,none⟩ (.I lo2)).setCell ⟨g5,4,none⟩ (.I hi2)).setCell ⟨g5,5,none⟩ (.slice B2 i2 d2)).setCell ⟨g5,6,none⟩ (.slice B3 i3 d3))=W8q at*;refine wpAnyH_done (by kernel_rfl) ?_ _
     go_goals
     go_wp2_with fail;go_meet
     case rel=>exact⟨g6,g5,rfl,rfl,nc8,nb8,bl8⟩
   case rest=>
   obtain⟨a,b,rfl,rfl,ba,bb,bw⟩:=hcut;obtain⟨W2,rfl⟩:∃x,x=wc:=⟨_,rfl⟩
   have F2:=h! (hb.out.trans (bw.out.mono hwz));have xa:=ba.out;have xb:=bb.out;obtain⟨s0,s1,s2,s3,s4,s5,s6⟩:=xa.A7;obtain⟨t0,t1,t2,t3,t4,t5,t6⟩:=xb.A7;clear xa xb q0 p0 q1 p1 q2 p2 q3 p3 q4 p4 q5 p5 q6 p6
   by_cases hk:kind=kind2
   rotate_left
   ·have hkb:(kind != kind2)=true:=by simp[hk]
    go_wp2_with fail
    go_ret
    exact⟨false,rfl,λe=>(by cases e),F2.out⟩
   have hkb:(kind != kind2)=false:=by simp[hk]
   have Hhk:=h! hk;clear hk
   by_cases hn:S=S2
   rotate_left
   ·have hnb:(S.toList==S2.toList)=false:=by simpa using λe=>hn (i2! e)
    go_wp2_with fail
    go_ret
    exact⟨false,rfl,λe=>(by cases e),F2.out⟩
   have hnb:(S.toList==S2.toList)=true:=by simp[hn]
   have Hhn:=h! hn;clear hn
   by_cases hl:lo=lo2
   rotate_left
   ·have hlb:(lo != lo2)=true:=by simp[hl]
    go_wp2_with fail
    go_ret
    exact⟨false,rfl,λe=>(by cases e),F2.out⟩
   have hlb:(lo != lo2)=false:=by simp[hl]
   have Hhl:=h! hl;clear hl
   by_cases hh:hi=hi2
   rotate_left
   ·have hhb:(hi != hi2)=true:=by simp[hh]
    go_wp2_with fail
    go_ret
    exact⟨false,rfl,λe=>(by cases e),F2.out⟩
   have hhb:(hi != hi2)=false:=by simp[hh]
   have Hhh:=h! hh;clear hh;go_wp2_with fail;refine(CE.out _ F2.out).mono ?_;rintro e w3⟨bE,rfl,hE,b3⟩;have F3:=r! F2 b3;have X3:=h! (ba.out.below b3 ba.out.lt);have Y3:=h! (bb.out.below b3 bb.out.lt);have HE3:=h! hE.1;have s5:=X3.out.c5;have s6:=X3.out.c6;have t5:=Y3.out.c5;have t6:=Y3.out.c6;clear hE
   cases bE
   ·go_wp2_with fail
    go_ret
    exact⟨false,rfl,λe=>(by cases e),F3.out⟩
   go_wp2_with fail;refine(CL.out _ F3.out).mono ?_;rintro e w4⟨bL,rfl,hL,b4⟩;have F4:=r! F3 b4;have s6:=(X3.out.below b4 X3.out.lt).c6;have t6:=(Y3.out.below b4 Y3.out.lt).c6;have HL4:=h! hL;clear hL
   cases bL
   ·go_wp2_with fail
    go_ret
    exact⟨false,rfl,λe=>(by cases e),F4.out⟩
   go_wp2_with fail;refine(CS.out _ F4.out).mono ?_;rintro e w5⟨bS,rfl,hS5,b5⟩;have F5:=r! F4 b5;have HS5:=h! hS5;clear hS5
   cases bS
   ·go_wp2_with fail
    go_ret
    exact⟨false,rfl,λe=>(by cases e),F5.out⟩
   have HTT:=h! (HEQ.out Hhk.out Hhn.out Hhl.out Hhh.out (HE3.out (by trivial)) (HL4.out (by trivial)) (HS5.out (by trivial)));go_wp2_with fail
   go_roundw
   case rel=>exact⟨k+1,by omega,by go_num,HTT,F5⟩
   case measure=>simp[intOf];omega
  ·obtain rfl:k=len:=by omega
   have HE:Hid (l.map St.sx=m.map St.sx):=by
    have:=ht.out;rw[List.take_of_length_le (by rw[List.length_map,N1.out];exact Nat.le_refl _),List.take_of_length_le (by rw[List.length_map,N2.out];exact Nat.le_refl _)]at this;exact this
   clear ht;go_wp2_with fail
   go_ret
   exact⟨true,rfl,λ_=>HE.out,hb.out⟩
theorem o8!:∀n,a35! n
 |0=>b92! 0 (λq h=>absurd h (by omega))
 |n+1=>b92! (n+1) (λq h=>by
  obtain rfl:n=q:=by omega
  exact o8! n)
end Go.Proofs.YtdgekckedchjbaaGreatDoor
set_option maxHeartbeats 8000000
set_option maxRecDepth 100000
namespace Go.Proofs.YtdgekckedchjbaaGreatDoor
open Go.RowKit
theorem f20!(D D':Nat->Prop)(nm nm2:ByteArray)(seats seats2:Int)(sil sil2:ByteArray)(A1:Option Addr)(nA1 cA1:Nat)(A2:Option Addr)(nA2 cA2:Nat)(A3:Option Addr)(nA3 cA3:Nat)(A4:Option Addr)(nA4 cA4:Nat)(A5:Option Addr)(nA5 cA5:Nat)(A6:Option Addr)(nA6 cA6:Nat)(A7:Option Addr)(nA7 cA7:Nat)(A8:Option Addr)(nA8 cA8:Nat)(B1:Option Addr)(nB1 cB1:Nat)(B2:Option Addr)(nB2 cB2:Nat)(B3:Option Addr)(nB3 cB3:Nat)(B4:Option Addr)(nB4 cB4:Nat)(B5:Option Addr)(nB5 cB5:Nat)(B6:Option Addr)(nB6 cB6:Nat)(B7:Option Addr)(nB7 cB7:Nat)(B8:Option Addr)(nB8 cB8:Nat)(p p':Pg)(w:World)(h1:RPC D w [.string nm,.I seats,.slice A1 nA1 cA1,.slice A2 nA2 cA2,.slice A3 nA3 cA3,.slice A4 nA4 cA4,.slice A5 nA5 cA5,.slice A6 nA6 cA6,.string sil,.slice A7 nA7 cA7,.slice A8 nA8 cA8] p)(h2:RPC D' w [.string nm2,.I seats2,.slice B1 nB1 cB1,.slice B2 nB2 cB2,.slice B3 nB3 cB3,.slice B4 nB4 cB4,.slice B5 nB5 cB5,.slice B6 nB6 cB6,.string sil2,.slice B7 nB7 cB7,.slice B8 nB8 cB8] p'):
 Calls Tryz.prog 33 #[.agg #[.string nm,.I seats,.slice A1 nA1 cA1,.slice A2 nA2 cA2,.slice A3 nA3 cA3,.slice A4 nA4 cA4,.slice A5 nA5 cA5,.slice A6 nA6 cA6,.string sil,.slice A7 nA7 cA7,.slice A8 nA8 cA8],.agg #[.string nm2,.I seats2,.slice B1 nB1 cB1,.slice B2 nB2 cB2,.slice B3 nB3 cB3,.slice B4 nB4 cB4,.slice B5 nB5 cB5,.slice B6 nB6 cB6,.string sil2,.slice B7 nB7 cB7,.slice B8 nB8 cB8]] w (SayTo w (p.px=p'.px)):=by
 obtain⟨v1,v2,v3,v4,v5,v6,v7,v8,h0,r1,r2,r3,r4,r5,r6,r7,r8⟩:=h1
 obtain⟨u1,u2,u3,u4,u5,u6,u7,u8,g0,t1,t2,t3,t4,t5,t6,t7,t8⟩:=h2
 simp only[List.cons.injEq,and_true,Value.string.injEq,Value.int.injEq,true_and]at h0 g0
 obtain⟨e0,e1,rfl,rfl,rfl,rfl,rfl,rfl,e8,rfl,rfl⟩:=h0
 obtain⟨d0,d1,rfl,rfl,rfl,rfl,rfl,rfl,d8,rfl,rfl⟩:=g0
 have HP:Hid (nm=nm2->seats=seats2->sil=sil2->p.stakes=p'.stakes->p.vars=p'.vars->p.params=p'.params->p.start.map St.sx=p'.start.map St.sx->p.turn.map St.sx=p'.turn.map St.sx->p.play.map St.sx=p'.play.map St.sx->p.quiet.map St.sx=p'.quiet.map St.sx->p.pays.map St.sx=p'.pays.map St.sx->p.px=p'.px):=λa1 a2 a3 a4 a5 a6 a7 a8 a9 a10 a11=>by
  rw[e0,d0]at a1;rw[e1,d1]at a2;rw[e8,d8]at a3;unfold Pg.px;rw[j3! a1,a2,j3! a3,a4,a5,a6,sxs_map,sxs_map,sxs_map,sxs_map,sxs_map,sxs_map,sxs_map,sxs_map,sxs_map,sxs_map,a7,a8,a9,a10,a11]
 clear e0 e1 e8 d0 d1 d8
 have H2:=r2.elsR
 have G2:=t2.elsR
 have C2:=h! (λW (hW:Below w.heap.size w W)=>b90! D D' A2 B2 nA2 nB2 cA2 cB2 _ _ W (H2.belowC b3! hW) (G2.belowC b3! hW))
 have H3:=r3.elsR
 have G3:=t3.elsR
 have C3:=h! (λW (hW:Below w.heap.size w W)=>o8! 16 D D' A3 B3 nA3 nB3 cA3 cB3 _ _ W (H3.belowRE hW) (G3.belowRE hW))
 have H4:=r4.elsR
 have G4:=t4.elsR
 have C4:=h! (λW (hW:Below w.heap.size w W)=>o8! 16 D D' A4 B4 nA4 nB4 cA4 cB4 _ _ W (H4.belowRE hW) (G4.belowRE hW))
 have H5:=r5.elsR
 have G5:=t5.elsR
 have C5:=h! (λW (hW:Below w.heap.size w W)=>b90! D D' A5 B5 nA5 nB5 cA5 cB5 _ _ W (H5.belowC b3! hW) (G5.belowC b3! hW))
 have H6:=r6.elsR
 have G6:=t6.elsR
 have C6:=h! (λW (hW:Below w.heap.size w W)=>o8! 16 D D' A6 B6 nA6 nB6 cA6 cB6 _ _ W (H6.belowRE hW) (G6.belowRE hW))
 have H7:=r7.elsR
 have G7:=t7.elsR
 have C7:=h! (λW (hW:Below w.heap.size w W)=>o8! 16 D D' A7 B7 nA7 nB7 cA7 cB7 _ _ W (H7.belowRE hW) (G7.belowRE hW))
 have H8:=r8.elsR
 have G8:=t8.elsR
 have C8:=h! (λW (hW:Below w.heap.size w W)=>o8! 16 D D' A8 B8 nA8 nB8 cA8 cB8 _ _ W (H8.belowRE hW) (G8.belowRE hW))
 obtain⟨xs,R1,-,m1,n1,E1⟩:=r1.elsR
 obtain⟨ys,R2,-,m2,n2,E2⟩:=t1.elsR
 have R1:=h! R1
 have R2:=h! R2
 have N1:=h! n1
 have N2:=h! n2
 have E1:=h! E1
 have E2:=h! E2
 clear H2 G2 H3 G3 H4 G4 H5 G5 H6 G6 H7 G7 H8 G8 r1 r2 r3 r4 r5 r6 r7 r8 t1 t2 t3 t4 t5 t6 t7 t8 n1 n2
 have f0:Below w.heap.size w ((w.alloc (.cells #[.string nm,.I seats,.slice A1 nA1 cA1,.slice A2 nA2 cA2,.slice A3 nA3 cA3,.slice A4 nA4 cA4,.slice A5 nA5 cA5,.slice A6 nA6 cA6,.string sil,.slice A7 nA7 cA7,.slice A8 nA8 cA8] 33)).alloc (.cells #[.string nm2,.I seats2,.slice B1 nB1 cB1,.slice B2 nB2 cB2,.slice B3 nB3 cB3,.slice B4 nB4 cB4,.slice B5 nB5 cB5,.slice B6 nB6 cB6,.string sil2,.slice B7 nB7 cB7,.slice B8 nB8 cB8] 33)):=((Below.refl _ w).al _).alloc (by simp) _
 obtain⟨y1,y2⟩:=e0! w 33 33 #[.string nm,.I seats,.slice A1 nA1 cA1,.slice A2 nA2 cA2,.slice A3 nA3 cA3,.slice A4 nA4 cA4,.slice A5 nA5 cA5,.slice A6 nA6 cA6,.string sil,.slice A7 nA7 cA7,.slice A8 nA8 cA8] #[.string nm2,.I seats2,.slice B1 nB1 cB1,.slice B2 nB2 cB2,.slice B3 nB3 cB3,.slice B4 nB4 cB4,.slice B5 nB5 cB5,.slice B6 nB6 cB6,.string sil2,.slice B7 nB7 cB7,.slice B8 nB8 cB8]
 go_enter Tryz.func33,Tryz.ntmps33
 go_upto_region 1 with fail
 generalize (w.alloc (.cells #[.string nm,.I seats,.slice A1 nA1 cA1,.slice A2 nA2 cA2,.slice A3 nA3 cA3,.slice A4 nA4 cA4,.slice A5 nA5 cA5,.slice A6 nA6 cA6,.string sil,.slice A7 nA7 cA7,.slice A8 nA8 cA8] 33)).alloc (.cells #[.string nm2,.I seats2,.slice B1 nB1 cB1,.slice B2 nB2 cB2,.slice B3 nB3 cB3,.slice B4 nB4 cB4,.slice B5 nB5 cB5,.slice B6 nB6 cB6,.string sil2,.slice B7 nB7 cB7,.slice B8 nB8 cB8] 33)=W0 at*
 have F0:=h! f0
 have Y1:=h! y1
 have Y2:=h! y2
 clear f0 y1 y2
 have s0:=Y1.out.c0
 have t0:=Y2.out.c0
 have s1:=Y1.out.c1
 have t1:=Y2.out.c1
 have s8:=Y1.out.c8
 have t8:=Y2.out.c8
 have s2:=Y1.out.c2
 have t2:=Y2.out.c2
 have s3:=Y1.out.c3
 have t3:=Y2.out.c3
 have s6:=Y1.out.c6
 have t6:=Y2.out.c6
 by_cases ha:nm=nm2
 rotate_left
 ·have hab:(nm.toList==nm2.toList)=false:=by simpa using λe=>ha (i2! e)
  go_wp2_with fail
  go_ret
  exact⟨false,rfl,λe=>(by cases e),F0.out⟩
 have hab:(nm.toList==nm2.toList)=true:=by simp[ha]
 have Hha:=h! ha
 clear ha
 by_cases hb:seats=seats2
 rotate_left
 ·have hbb:((seats:Int) != (seats2:Int))=true:=by simp[hb]
  go_wp2_with fail
  go_ret
  exact⟨false,rfl,λe=>(by cases e),F0.out⟩
 have hbb:((seats:Int) != (seats2:Int))=false:=by simp[hb]
 have Hhb:=h! hb
 clear hb
 by_cases hc:sil=sil2
 rotate_left
 ·have hcb:(sil.toList==sil2.toList)=false:=by simpa using λe=>hc (i2! e)
  go_wp2_with fail
  go_ret
  exact⟨false,rfl,λe=>(by cases e),F0.out⟩
 have hcb:(sil.toList==sil2.toList)=true:=by simp[hc]
 have Hhc:=h! hc
 clear hc
 by_cases hd:nA1=nB1
 rotate_left
 ·have hdb:((nA1:Int) != (nB1:Int))=true:=by simp;omega
  go_wp2_with fail
  go_ret
  exact⟨false,rfl,λe=>(by cases e),F0.out⟩
 have hdb:((nA1:Int) != (nB1:Int))=false:=by simp[hd]
 have Hhd:=h! hd
 go_wp2_with fail
 refine(C2.out _ F0.out).mono ?_
 rintro e w1⟨bv,rfl,hbv,b1⟩
 have Hbv:=h! hbv
 have F1:=r! F0 b1
 have X1:=b! Y1 b1
 have X2:=b! Y2 b1
 clear s0 s1 s2 s3 s6 s8 t0 t1 t2 t3 t6 t8 b1 Y1 Y2 hbv
 have s6:=X1.out.c6
 have t6:=X2.out.c6
 cases bv
 ·go_wp2_with fail
  go_ret
  exact⟨false,rfl,λe=>(by cases e),F1.out⟩
 go_wp2_with fail
 refine(C5.out _ F1.out).mono ?_
 rintro e w2⟨bp,rfl,hbp,b2⟩
 have Hbp:=h! hbp
 have F2:=r! F1 b2
 have Z1:=b! X1 b2
 have Z2:=b! X2 b2
 have hz:=F2.out.size
 clear s6 t6 b2 X1 X2 hbp
 cases bp
 ·go_wp2_with fail
  go_ret
  exact⟨false,rfl,λe=>(by cases e),F2.out⟩
 go_wp2_with fail
 subst hd
 go_loopw [5] (λi wr=>∃k:Nat,k<=nA1∧i=.I k∧Hid (p.stakes.take k=p'.stakes.take k)∧Hid (Below w2.heap.size w2 wr)) (λi _=>nA1-(intOf i).toNat)
 case atStart=>exact⟨0,by omega,rfl,rfl,Below.refl _ _⟩
 case round=>
  obtain⟨k,hk,rfl,ht,hb⟩:=hrel;have zz1:=Z1.out.below hb.out Z1.out.lt;have zz2:=Z2.out.below hb.out Z2.out.lt;have s0:=zz1.c0;have t0:=zz2.c0;have s1:=zz1.c1;have t1:=zz2.c1;have s2:=zz1.c2;have t2:=zz2.c2;have s3:=zz1.c3;have t3:=zz2.c3;have s4:=zz1.c4;have t4:=zz2.c4;have s5:=zz1.c5;have t5:=zz2.c5;have s6:=zz1.c6;have t6:=zz2.c6;have s7:=zz1.c7;have t7:=zz2.c7;have s8:=zz1.c8;have t8:=zz2.c8;have s9:=zz1.c9;have t9:=zz2.c9;have s10:=zz1.c10;have t10:=zz2.c10
  by_cases hlt:k<nA1
  ·have hkk:k<p.stakes.length:=by rw[N1.out];exact hlt
   have hkm:k<p'.stakes.length:=by rw[N2.out];exact hlt
   have ec:(xs.drop (k*1)).take 1=[.I (p.stakes[k]'hkk)]:=E1.out k hkk;have ed:(ys.drop (k*1)).take 1=[.I (p'.stakes[k]'hkm)]:=E2.out k hkm;have HTK:Hid (p.stakes[k]=p'.stakes[k]->p.stakes.take (k+1)=p'.stakes.take (k+1)):=λh=>by rw[l3! hkk,l3! hkm,ht.out,h]
   generalize p.stakes[k]=sk at*;generalize p'.stakes[k]=sk2 at*;obtain⟨b1,o1,rfl,hb1,q⟩:=R1.out.chunk (by omega) hlt ec;obtain⟨b2,o2,rfl,hb2,r⟩:=R2.out.chunk (by omega) hlt ed;have q0:=(hb.out.cell (p:=⟨b1,o1+k*1,none⟩) (by show b1<_;omega)).trans ((F2.out.cell (p:=⟨b1,o1+k*1,none⟩) hb1).trans (q 0 _ rfl));have r0:=(hb.out.cell (p:=⟨b2,o2+k*1,none⟩) (by show b2<_;omega)).trans ((F2.out.cell (p:=⟨b2,o2+k*1,none⟩) hb2).trans (r 0 _ rfl));rw[Nat.mul_one]at q0 r0;have g1:(0:Int)<=(k:Int):=by omega
   have g2:(k:Int)<(nA1:Int):=by omega
   clear q r ec ed ht
   by_cases hs:sk=sk2
   ·have HSS:=h! (HTK.out hs)
    subst hs;go_upto_region 6 with fail
    go_quiet (fail)
    go_wp2_with fail
    go_roundw
    case rel=>exact⟨k+1,by omega,by go_num,HSS,a5! hb.out _⟩
    case measure=>simp[intOf];omega
   ·have hsb:(sk==sk2)=false:=by simp[hs]
    have FB:=h! (F2.out.trans (hb.out.mono F2.out.size));clear hs;go_upto_region 6 with fail
    go_quiet (fail)
    go_wp2_with fail
    go_ret
    exact⟨false,rfl,λe=>(by cases e),a5! FB.out _⟩
  ·obtain rfl:k=nA1:=by omega
   have HST:Hid (p.stakes=p'.stakes):=by
    have:=ht.out;rw[List.take_of_length_le (by rw[N1.out];exact Nat.le_refl _),List.take_of_length_le (by rw[N2.out];exact Nat.le_refl _)]at this;exact this
   have FF0:=h! (F2.out.trans (hb.out.mono F2.out.size));have P0:=h! zz1;have Q0:=h! zz2;clear zz1 zz2 ht;go_wp2_with fail;refine(C3.out _ FF0.out).mono ?_;rintro e v1⟨bs1,rfl,hs1,c1⟩;have HS1:=h! hs1;have FF1:=r! FF0 c1;have P1:=h! (P0.out.below c1 P0.out.lt);have Q1:=h! (Q0.out.below c1 Q0.out.lt);clear hs1 c1;have s5:=P1.out.c5;have t5:=Q1.out.c5
   cases bs1
   ·go_wp2_with fail
    go_ret
    exact⟨false,rfl,λe=>(by cases e),FF1.out⟩
   go_wp2_with fail;refine(C4.out _ FF1.out).mono ?_;rintro e v2⟨bs2,rfl,hs2,c2⟩;have HS2:=h! hs2;have FF2:=r! FF1 c2;have P2:=h! (P1.out.below c2 P1.out.lt);have Q2:=h! (Q1.out.below c2 Q1.out.lt);clear hs2 c2;have s7:=P2.out.c7;have t7:=Q2.out.c7
   cases bs2
   ·go_wp2_with fail
    go_ret
    exact⟨false,rfl,λe=>(by cases e),FF2.out⟩
   go_wp2_with fail;refine(C6.out _ FF2.out).mono ?_;rintro e v3⟨bs3,rfl,hs3,c3⟩;have HS3:=h! hs3;have FF3:=r! FF2 c3;have P3:=h! (P2.out.below c3 P2.out.lt);have Q3:=h! (Q2.out.below c3 Q2.out.lt);clear hs3 c3;have s9:=P3.out.c9;have t9:=Q3.out.c9
   cases bs3
   ·go_wp2_with fail
    go_ret
    exact⟨false,rfl,λe=>(by cases e),FF3.out⟩
   go_wp2_with fail;refine(C7.out _ FF3.out).mono ?_;rintro e v4⟨bs4,rfl,hs4,c4⟩;have HS4:=h! hs4;have FF4:=r! FF3 c4;have P4:=h! (P3.out.below c4 P3.out.lt);have Q4:=h! (Q3.out.below c4 Q3.out.lt);clear hs4 c4;have s10:=P4.out.c10;have t10:=Q4.out.c10
   cases bs4
   ·go_wp2_with fail
    go_ret
    exact⟨false,rfl,λe=>(by cases e),FF4.out⟩
   go_wp2_with fail;refine(C8.out _ FF4.out).mono ?_;rintro e v5⟨bs5,rfl,hs5,c5⟩;have HS5:=h! hs5;have FF5:=r! FF4 c5;have P5:=h! (P4.out.below c5 P4.out.lt);have Q5:=h! (Q4.out.below c5 Q4.out.lt);clear hs5 c5;go_wp2_with fail
   go_ret
   exact⟨bs5,rfl,λe=>HP.out Hha.out Hhb.out Hhc.out HST.out (Hbv.out (by trivial)) (Hbp.out (by trivial)) (HS1.out (by trivial)) (HS2.out (by trivial)) (HS3.out (by trivial)) (HS4.out (by trivial)) (HS5.out e),FF5.out⟩
end Go.Proofs.YtdgekckedchjbaaGreatDoor
