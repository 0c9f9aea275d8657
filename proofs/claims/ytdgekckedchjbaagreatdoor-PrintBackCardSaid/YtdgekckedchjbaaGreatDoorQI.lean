
/-
 The parser of programs: a statement that begins with a name. (Printed by wip/tools/gens25.py.) The parser of programs: what stands behind an if; a statement. (Printed by wip/tools/gens26.py.)
-/
import Derived.Test.YtdgekckedchjbaaGreatDoorQH
import Derived.Deep.AppendLies
set_option maxHeartbeats 4000000
set_option maxRecDepth 100000
namespace Go.Proofs.YtdgekckedchjbaaGreatDoor
open Go.RowKit
variable {b base c g n s:Nat} {A:Option Addr} {w:World} {t:TypeId} {D:Nat->Prop} {cs:List Value}
theorem y8!:(Tryz.prog.info? 40).map (λi=>(i.zero,i.size,i.bytes))=some (some (.agg #[.I 0,.I 0,.string ByteArray.empty,.N]),4,56):=by kernel_rfl
def putT(r:List Tk):PS (Int×List Ex):=(exprP r).bind λe r=>(mustP [93] r).bind λ_ r=>(mustP [61] r).bind λ_ r=>(exprP r).bind λe2 r=>.ok (1,[e,e2]) r
def setT(r:List Tk):PS (Int×List Ex):=(mustP [61] r).bind λ_ r=>(exprP r).bind λe r=>.ok (0,[e]) r
def bodyP(r:List Tk):PS (Int×List Ex):=if hasT [91] r then putT r.tail else setT r
theorem c95!(nm:List UInt8)(r:List Tk):((bodyP r).bind λb r=>PS.ok (St.mk b.1 nm b.2 0 0 [] []) r)=if hasT [91] r then
 (exprP r.tail).bind λe r=>(mustP [93] r).bind λ_ r=>(mustP [61] r).bind λ_ r=>(exprP r).bind λe2 r=>.ok (.mk 1 nm [e,e2] 0 0 [] []) r
 else (mustP [61] r).bind λ_ r=>(exprP r).bind λe r=>.ok (.mk 0 nm [e] 0 0 [] []) r:=by
 unfold bodyP putT setT
 split<;>simp only[PS.bind_assoc,PS.ok_bind]
theorem a83!(ts:List Tk)(i:Nat)(er:Int):stP h2! ts i er=((stP nameP ts i er).bind λa r=>(bodyP r).bind λb r=>.ok (a,b) r).bind λx r=>.ok ((λx:List UInt8×(Int×List Ex)=>St.mk x.2.1 x.1 x.2.2 0 0 [] []) x) r:=by
 by_cases he:er=0
 ·unfold stP
  rw[if_pos he,if_pos he];unfold h2!
  simp only[PS.bind_assoc,PS.ok_bind,c95!]
 ·unfold stP
  rw[if_neg he,if_neg he]
  rfl
def AppTo(W:World)(g c:Nat)(A:Option Addr)(m:Nat->Nat)(ts:List Tk)(dp:Int)(p:PS Ex)(base ya:Nat)(yc:Value->Array Value)(vo:Value)(n:Nat)(ys:List Value)(wc:World):Prop:=
 ∃(A8:Option Addr) (c8:Nat) (cs:List Value) (i':Nat) (er':Int) (zm:Nat),Blk wc ya 95 (yc (.slice A8 (n+1) c8))∧Par wc g A c m ts i' dp er'∧Kept (λz=>z=g∨z=ya∨vo.ownBlock=some z) W wc∧
  wc.ownsRow base 40 4 (.slice A8 (n+1) c8) (n+1) (ys++cs)∧cs.length=4∧PsAt ts i' er' p (λx=>TE (λk=>W.heap.size<=k∧k<zm) wc x cs)∧W.heap.size<=zm∧zm<=wc.heap.size∧
  ∀z,(Value.slice A8 (n+1) c8).ownBlock=some z->vo.ownBlock=some z∨zm<=z
theorem y9!{w0 W w5 w8:World}{i0:Nat}{er0:Int}{m:Nat->Nat}{ts:List Tk}{dp:Int}{p:PS Ex}{ya f:Nat}{yc:Value->Array Value}{vo:Value}{ys:List Value}{A8:Option Addr}{c8 i':Nat}{er':Int}{op N:Int}{nm:ByteArray}{B:Option Addr}{l q:Nat}
 (HH:Par w0 g A c m ts i0 dp er0) (K0:Kept (λz=>z=g) w0 W) (hb0:w0.heap.size<=base) (k5:Kept (λz=>z=g) W.drew w5) (p5:Par w5 g A c m ts i' dp er') (ps:PsAt ts i' er' p (λa=>IsEl QE W.drew.heap.size w5 a (.agg #[.I op,.I N,.string nm,.slice B l q])))
 (y5:Blk w5 ya 95 (yc vo)) (o8:w8.ownsRow base 40 4 (.slice A8 (n+1) c8) (n+1) (ys++[.I op,.I N,.string nm,.slice B l q]))
 (g8:(w5.alloc (.cells #[.I op,.I N,.string nm,.slice B l q] 40)).grownBy w8 vo.ownBlock)
 (at8:(Value.slice A8 (n+1) c8).ownBlock=vo.ownBlock∨(Value.slice A8 (n+1) c8).ownBlock=some (w5.alloc (.cells #[.I op,.I N,.string nm,.slice B l q] 40)).heap.size)
 (hv:∀z,vo.ownBlock=some z->base<z∧z<W.heap.size∧z≠ya) (hgb:g<base) (hby:base<=ya) (hyW:ya<W.heap.size) (hyc:∀v v',(yc v).setIfInBounds f v'=yc v'):
 AppTo W g c A m ts dp p base ya yc vo n ys (w8.setCell ⟨ya,f,none⟩ (.slice A8 (n+1) c8)):=by
 have zd:W.drew.heap.size=W.heap.size:=rfl
 have z5:=k5.size
 have k58:Kept (λz=>vo.ownBlock=some z) w5 w8:=((Kept.refl (λz=>vo.ownBlock=some z) w5).alloc _).then_ (Kept.of_grown g8 (λ_ e=>e)) (λ_ _ e=>e)
 have k89:=(Kept.refl (λz=>z=ya) w8).setCell (p:=⟨ya,f,none⟩) (λ_=>rfl) (.slice A8 (n+1) c8)
 have k59:Kept (λz=>z=ya∨vo.ownBlock=some z) w5 (w8.setCell ⟨ya,f,none⟩ (.slice A8 (n+1) c8)):=(k58.mono (T:=λz=>z=ya∨vo.ownBlock=some z) (λ_ _ e=>.inr e)).then_ k89 (λ_ _ e=>.inl e)
 have z8:=k58.size
 have z9:=k89.size
 have KW:Kept (λz=>z=g∨z=ya∨vo.ownBlock=some z) W (w8.setCell ⟨ya,f,none⟩ (.slice A8 (n+1) c8)):=(((Kept.refl (λz=>z=g∨z=ya∨vo.ownBlock=some z) W).drew).then_ k5 (λ_ _ e=>.inl e)).then_ k59 (λ_ _ e=>.inr e)
 refine⟨A8,c8,[.I op,.I N,.string nm,.slice B l q],i',er',w5.heap.size,?_,?_,KW,?_,rfl,?_,by omega,by omega,?_⟩
 ·have h:=(y5.kept k58 (λe=>(hv _ e).2.2 rfl)).set_ f (.slice A8 (n+1) c8)
  rw[hyc]at h;exact h
 ·exact HH.put p5.at_ (p5.blk.kept k59 (λe=>by rcases e with e|e<;>first|omega|(have:=hv _ e;omega))) (K0.then_ KW (λz hz e=>by rcases e with e|e|e<;>first|omega|(have:=hv _ e;omega)))
 ·refine a6! o8 k89 (λz hz e=>?_)
  rcases at8 with h|h
  ·exact(hv z (h▸hz)).2.2 e
  ·rw[h]at hz
   have:=Option.some.inj hz;have hs:=z! w5 (.cells #[.I op,.I N,.string nm,.slice B l q] 40)
   omega
 ·refine ps.mono λx hx=>?_
  obtain⟨cs,hcs,hT⟩:=hx;have:cs=[.I op,.I N,.string nm,.slice B l q]:=by
   injection hcs with hcs;have:=congrArg Array.toList hcs
   simpa using this.symm
  subst this;exact h5! _ _ _ w5 _ _ x k59 (λk hk hd e=>by rcases e with e|e<;>first|omega|(have:=hv _ e;omega)) (λk hk hd=>⟨by omega,hk⟩) hT
 ·intro z hz
  rcases at8 with h|h
  ·exact .inl (h▸hz)
  ·rw[h]at hz
   have:=Option.some.inj hz;have hs:=z! w5 (.cells #[.I op,.I N,.string nm,.slice B l q] 40);exact .inr (by omega)
theorem h6!{α:Type}{Q:Cel α}{xs:List Value}{l:List α}(h:w.ownsRow base t s (.slice A n c) n xs)(hn:n<=1000000)(hl:l.length=n)(hq:∀i (hi:i<l.length),Q (λk=>base<=k) w ((xs.drop (i*s)).take s) (l[i]'hi)):ElsG (λk=>base<=k) w s 1000000 (Q (λk=>base<=k) w) A n l:=by
 refine⟨xs,Reads.of_own h,λh0 a ha=>?_,hn,hl,hq⟩
 obtain⟨A',c',hv,hb⟩:=b2! h
 injection hv with hv _ _
 subst hv
 exact f2! h _ (hb a h0 ha)
theorem Blk.put7{a0 a1 a2 a3 a4 a5 a6:Value}(h:Blk w g t #[a0,a1,a2,a3,a4,a5,a6])(x0 x1 x2 x3 x4 x5 x6:Value):Blk (((((((w.setCell ⟨g,0,none⟩ x0).setCell ⟨g,1,none⟩ x1).setCell ⟨g,2,none⟩ x2).setCell ⟨g,3,none⟩ x3).setCell ⟨g,4,none⟩ x4).setCell ⟨g,5,none⟩ x5).setCell ⟨g,6,none⟩ x6) g t #[x0,x1,x2,x3,x4,x5,x6]:=by
 have h0:Blk (w.setCell ⟨g,0,none⟩ x0) g t #[x0,a1,a2,a3,a4,a5,a6]:=h.set_ 0 x0
 have h1:Blk ((w.setCell ⟨g,0,none⟩ x0).setCell ⟨g,1,none⟩ x1) g t #[x0,x1,a2,a3,a4,a5,a6]:=h0.set_ 1 x1
 have h2:Blk (((w.setCell ⟨g,0,none⟩ x0).setCell ⟨g,1,none⟩ x1).setCell ⟨g,2,none⟩ x2) g t #[x0,x1,x2,a3,a4,a5,a6]:=h1.set_ 2 x2
 have h3:Blk ((((w.setCell ⟨g,0,none⟩ x0).setCell ⟨g,1,none⟩ x1).setCell ⟨g,2,none⟩ x2).setCell ⟨g,3,none⟩ x3) g t #[x0,x1,x2,x3,a4,a5,a6]:=h2.set_ 3 x3
 have h4:Blk (((((w.setCell ⟨g,0,none⟩ x0).setCell ⟨g,1,none⟩ x1).setCell ⟨g,2,none⟩ x2).setCell ⟨g,3,none⟩ x3).setCell ⟨g,4,none⟩ x4) g t #[x0,x1,x2,x3,x4,a5,a6]:=h3.set_ 4 x4
 have h5:Blk ((((((w.setCell ⟨g,0,none⟩ x0).setCell ⟨g,1,none⟩ x1).setCell ⟨g,2,none⟩ x2).setCell ⟨g,3,none⟩ x3).setCell ⟨g,4,none⟩ x4).setCell ⟨g,5,none⟩ x5) g t #[x0,x1,x2,x3,x4,x5,a6]:=h4.set_ 5 x5
 have h6:Blk (((((((w.setCell ⟨g,0,none⟩ x0).setCell ⟨g,1,none⟩ x1).setCell ⟨g,2,none⟩ x2).setCell ⟨g,3,none⟩ x3).setCell ⟨g,4,none⟩ x4).setCell ⟨g,5,none⟩ x5).setCell ⟨g,6,none⟩ x6) g t #[x0,x1,x2,x3,x4,x5,x6]:=h5.set_ 6 x6
 exact h6
theorem Kept.put7(w:World)(g:Nat)(x0 x1 x2 x3 x4 x5 x6:Value):Kept (λk=>k=g) w (((((((w.setCell ⟨g,0,none⟩ x0).setCell ⟨g,1,none⟩ x1).setCell ⟨g,2,none⟩ x2).setCell ⟨g,3,none⟩ x3).setCell ⟨g,4,none⟩ x4).setCell ⟨g,5,none⟩ x5).setCell ⟨g,6,none⟩ x6):=(((((((Kept.refl (λk=>k=g) w).setCell (p:=⟨g,0,none⟩) (λ_=>rfl) x0).setCell (p:=⟨g,1,none⟩) (λ_=>rfl) x1).setCell (p:=⟨g,2,none⟩) (λ_=>rfl) x2).setCell (p:=⟨g,3,none⟩) (λ_=>rfl) x3).setCell (p:=⟨g,4,none⟩) (λ_=>rfl) x4).setCell (p:=⟨g,5,none⟩) (λ_=>rfl) x5).setCell (p:=⟨g,6,none⟩) (λ_=>rfl) x6
theorem Blk.e7{w:World}{g:Nat}{t:TypeId}{a0 a1 a2 a3 a4 a5 a6:Value}(h:Blk w g t #[a0,a1,a2,a3,a4,a5,a6])(x0 x1 x2 x3 x4 x5 x6:Value):∃w',((((((w.setCell ⟨g,0,none⟩ x0).setCell ⟨g,1,none⟩ x1).setCell ⟨g,2,none⟩ x2).setCell ⟨g,3,none⟩ x3).setCell ⟨g,4,none⟩ x4).setCell ⟨g,5,none⟩ x5).setCell ⟨g,6,none⟩ x6=w'∧Blk w' g t #[x0,x1,x2,x3,x4,x5,x6]∧Kept (λk=>k=g) w w':=⟨_,rfl,h.put7 x0 x1 x2 x3 x4 x5 x6,Kept.put7 w g x0 x1 x2 x3 x4 x5 x6⟩
theorem a84!(ts:List Tk)(i:Nat)(er:Int):stP putT ts i er=((((stP exprP ts i er).bind λa r=>((mustP [93]) r).bind λb r=>.ok (a,b) r).bind λa r=>((mustP [61]) r).bind λb r=>.ok (a,b) r).bind λa r=>(exprP r).bind λb r=>.ok (a,b) r).bind λx r=>.ok ((λx:((Ex×Unit)×Unit)×Ex=>((1:Int),[x.1.1.1,x.2])) x) r:=by
 by_cases he:er=0
 ·unfold stP
  rw[if_pos he,if_pos he];unfold putT
  simp only[PS.bind_assoc,PS.ok_bind]
  all_goals rfl
 ·unfold stP
  rw[if_neg he,if_neg he]
  rfl
theorem a85!(ts:List Tk)(i:Nat)(er:Int):stP setT ts i er=((stP (mustP [61]) ts i er).bind λa r=>(exprP r).bind λb r=>.ok (a,b) r).bind λx r=>.ok ((λx:Unit×Ex=>((0:Int),[x.2])) x) r:=by
 by_cases he:er=0
 ·unfold stP
  rw[if_pos he,if_pos he];unfold setT
  simp only[PS.bind_assoc,PS.ok_bind]
  all_goals rfl
 ·unfold stP
  rw[if_neg he,if_neg he]
  rfl
theorem c96!(g c:Nat)(A:Option Addr)(m:Nat->Nat)(ts:List Tk)(i:Nat)(dp er:Int)(w:World)(h:Par w g A c m ts i dp er):
 Calls Tryz.prog 129 #[.pointer (some ⟨g,0,none⟩)] w (a8! w g c A m ts dp (stP h2! ts i er) (IsEl (QS 1) w.heap.size) ShSt):=by
 obtain⟨W0,eW,f0,x0,z0⟩:=n! w 95 #[.I 0,.E,.N,.I 0,.I 0,.N,.N]
 have hgl:=h.blk.lt
 have HH:=h! h
 have P0:=h! (h.below f0)
 have F0:=h! f0
 have X0:=h! x0
 have K0:=o! g f0
 have NM:=h! (λi er w h=>n4! g c A m ts i dp er w h)
 have MB:=h! (λi er w h=>e1! g c A m ts i dp er [93] w h)
 have ME:=h! (λi er w h=>e1! g c A m ts i dp er [61] w h)
 have EX:=h! (λi er w h=>p5! g c A m ts i dp er w h)
 rw[a83!]
 clear h f0 x0
 go_enter Tryz.func129,Tryz.ntmps129
 go_wp2_with fail
 rw[eW.out]
 clear eW
 refine(NM.out i er W0 P0.out).mono ?_
 rintro e w1⟨v1,rfl,k1,⟨s1,rfl⟩,i1,er1,p1,ps1⟩
 have z1:=k1.size
 have X1:=k! X0 k1
 have K1:=q! K0 k1
 have P1:=h! p1
 have PS1:=h! ps1
 have J1:=h! k1
 clear p1 k1 ps1 K0 P0 X0
 go_wp2_with fail
 obtain⟨W2,eW,f2,Y2,z2⟩:=n! w1 95 #[.I 0,.string s1,.N,.I 0,.I 0,.N,.N]
 replace Y2:=h! Y2
 have P2:=h! (P1.out.below f2)
 have X2:=b! X1 f2
 have K2:=e! K1 f2
 have J2:=o! g f2
 have xl2:=X1.out.lt
 clear f2 K1 P1 X1
 rw[eW.out]
 clear eW
 obtain⟨t',ht'⟩:=ParS.at_some P2.out.at_
 have SK:=h! (l6! g c A m ts i1 dp er1 [91] W2 P2.out t' ht')
 have PT:=h! (u3! (er:=er1) ht' [91] bodyP putT setT (λr=>rfl))
 obtain⟨bb,hbb⟩:∃b,hasB t' er1 [91]=b:=⟨_,rfl⟩
 rw[hbb]at SK PT
 clear hbb ht'
 cases bb
 ·have PTT:=h! (PT.out.2 rfl)
  refine SK.out.mono ?_;rintro e w3⟨rfl,p3,k3⟩;have P3:Hid (Par w3 g A c m ts (i1) dp er1):=p3;have z3:=k3.size;have X3:=k! X2 k3;have Y3:=k! Y2 k3;have K3:=q! K2 k3;clear p3 k3 SK K2 P2 X2 Y2;go_wp2_with fail;refine(ME.out i1 er1 w3 P3.out).mono ?_;rintro e w4⟨v4,rfl,k4,rfl,i4,er4,p4,ps4⟩;have z4:=k4.size;have X4:=k! X3 k4;have Y4:=k! Y3 k4;have K4:=q! K3 k4;have P4:=h! p4;have PS4:=h! ps4;have J4:=h! k4;clear p4 k4 ps4 K3 P3 X3 Y3;go_upto_region 7 with fail;obtain⟨vo5,hvo5⟩:∃v:Value,v=.N:=⟨_,rfl⟩
  have OW5:Hid (w4.drew.ownsRow w.heap.size 40 4 vo5 (0) []):=by rw[hvo5];exact World.ownsRow.drew (World.ownsRow_nil w4 w.heap.size 40 4)
  have KD5:Hid (∀z,vo5.ownBlock=some z->¬z=g):=by rw[hvo5];exact λz hz _=>absurd (show (none:Option Nat)=some z from hz) (by simp)
  have fw5:w4.drew.frozen? ⟨w1.heap.size,2,none⟩=false:=Y4.out.frozen 2;have qw5:w4.drew.cell? ⟨w1.heap.size,2,none⟩=some vo5:=by rw[hvo5];exact Y4.out.cell 2
  have PD5:=h! (P4.out.below (Below.refl _ w4).drew);have CL5:=h! (EX.out i4 er4 w4.drew PD5.out);have zd5:w4.drew.heap.size=w4.heap.size:=rfl;have Q5:Hid (∀w',Blk w' (w1.heap.size) 95 #[.I 0,.string s1,.N,.I 0,.I 0,.N,.N]->w'.cell? ⟨w1.heap.size,2,none⟩=some vo5∧w'.frozen? ⟨w1.heap.size,2,none⟩=false):=by rw[hvo5];exact λ_ h=>⟨h.cell 2,h.frozen 2⟩
  have YD5:=h! (Y4.out.drew);have HVO5:=h! hvo5;clear hvo5;obtain⟨j0,hj0,hy0,hy1,hy2⟩:=info_parts y8!;have HV5:Hid (∀z,vo5.ownBlock=some z->w.heap.size<z∧z<w4.heap.size∧z≠w1.heap.size):=by rw[HVO5.out];exact λz hz=>absurd (show (none:Option Nat)=some z from hz) (by simp)
  go_cut [] (λwc=>Hid (AppTo w4 g c A m ts dp (stP exprP ts i4 er4) w.heap.size (w1.heap.size) (λv:Value=>#[.I 0,.string s1,v,.I 0,.I 0,.N,.N]) vo5 0 [] wc))
  case first=>
   go_region_law
    (first
     |(refine g5! _ (by rfl) (.tmp 22) (.tmp 25) _ (by rfl) w.heap.size 40 j0 _ 4 56 Tryz.underlying38 hj0 hy0 hy1 hy2 rfl (by omega) vo5 (0) [] (by rfl) o5.out _ _ 1 1 [.I op5,.I N5,.string nm5,.slice B5 l5 q5] (by rfl) RD5.out ON5.out (by unfold maxLen;omega) (by omega) (by simp;omega) ?_;intro u5 x5 r5 g5 t5;obtain⟨A5,c5,rfl,hb5⟩:=b2! r5;have yz5:=(y5.alloc (.cells #[.I op5,.I N5,.string nm5,.slice B5 l5 q5] 40)).kept (Kept.of_grown (S:=λz=>vo5.ownBlock=some z) g5 (λ_ e=>e)) (λe=>by rw[HVO5.out]at e;exact absurd (show (none:Option Nat)=some _ from e) (by simp));obtain⟨qz5,fz5⟩:=Q5.out _ yz5;have R5:=h! r5;have G5:=h! g5;have T5:=h! t5;clear r5 g5 t5)
     |(go_simp;go_at_call 40;(with_reducible refine CL5.out.mono ?_);rintro e w5⟨v5,rfl,k5,⟨op5,N5,nm5,B5,l5,q5,rfl⟩,i5,er5,p5,ps5⟩;have y5:=YD5.out.kept k5 (by omega);obtain⟨qy5,fy5⟩:=Q5.out _ y5;obtain⟨qx5,fx5⟩:=Q5.out _ (y5.alloc (.cells #[.I op5,.I N5,.string nm5,.slice B5 l5 q5] 40));have z5:=k5.size;have o5:=h! (World.ownsRow.alloc (a6! OW5.out k5 KD5.out) (.cells #[.I op5,.I N5,.string nm5,.slice B5 l5 q5] 40));have RD5:=h! (d1! w5 40 #[.I op5,.I N5,.string nm5,.slice B5 l5 q5] 4 rfl);have ON5:=h! (one4 op5 N5 nm5 B5 l5 q5);have K5:=h! k5;have P5:=h! p5;have PS5:=h! ps5;clear p5 ps5 k5))
   all_goals
    go_wp2_with fail;go_meet
    case rel=>exact y9! (yc:=(λv:Value=>#[.I 0,.string s1,v,.I 0,.I 0,.N,.N])) HH.out K4.out (Nat.le_refl _) K5.out P5.out PS5.out (by rw[HVO5.out];exact y5) R5.out G5.out T5.out HV5.out (by omega) (by omega) (by omega) (λ_ _=>rfl)
  case rest=>
  obtain⟨A5,c5,cs5,i5,er5,zm5,y5,p5,k5,o5,hl5,ps5,za5,zb5,hb5⟩:=hcut.out;obtain⟨w5,rfl⟩:∃x,x=wc:=⟨_,rfl⟩
  clear hcut CL5 PD5 Q5 YD5 OW5 fw5 qw5 hj0 hy0 hy1 hy2;have z5:=k5.size;have Y5:Hid (Blk w5 (w1.heap.size) 95 #[.I 0,.string s1,.slice A5 (0+1) c5,.I 0,.I 0,.N,.N]):=y5;have HW5:=h! HV5.out;have HZ5:Hid (∀z,vo5.ownBlock=some z->0<=z):=by rw[HVO5.out];exact λz _=>Nat.zero_le z
  have X5:=h! (X4.out.kept k5 (λe=>by rcases e with e|e|e<;>first|omega|(have:=HW5.out _ e;omega)));have K5:=h! (K4.out.then_ k5 (λz hz e=>by rcases e with e|e|e<;>first|omega|(have:=HW5.out _ e;omega)));have P5:=h! p5;have PS5:=h! (PS4.out.then_ ps5);have J5:=h! k5;have OO5:=h! o5;have HL5:=h! hl5;have HB5:=h! hb5;clear p5 k5 ps5 y5 o5 hl5 hb5 K4 P4 X4 Y4 PS4;have HBz5:Hid (∀z,(Value.slice A5 (0+1) c5).ownBlock=some z->zm5<=z):=λz hz=>(HB5.out z hz).resolve_left (by rw[HVO5.out];exact λh=>absurd (show (none:Option Nat)=some z from h) (by simp))
  have hol5:=h! (c2! OO5.out);go_upto_region 8 with fail;obtain⟨qc0,qc1,qc2,qc3,qc4,qc5,qc6⟩:=Y5.out.A7;have hx:=X5.out;obtain⟨sc0,sc1,sc2,sc3,sc4,sc5,sc6⟩:=hx.A7;obtain⟨tc0,tc1,tc2,tc3,tc4,tc5,tc6⟩:=hx.F7;go_wp2_with fail;obtain⟨W9,e9,X9,k9⟩:=hx.e7 (.I 0) (.string s1) (.slice A5 (0+1) c5) (.I 0) (.I 0) (.N) (.N);rw[e9];clear e9;clear sc0 sc1 sc2 sc3 sc4 sc5 sc6 qc0 qc1 qc2 qc3 qc4 qc5 qc6;obtain⟨sc0,sc1,sc2,sc3,sc4,sc5,sc6⟩:=X9.A7;have KK:Kept (λz=>z=g) w W9:=K5.out.then_ k9 (λz hz e=>by omega);have TA:Hid (Kept (λz=>z<w4.heap.size∨zm5<=z) w5 W9):=d! k9;have O9:W9.ownsRow w.heap.size 40 4 (.slice A5 (0+1) c5) (0+1) ([]++cs5):=a6! OO5.out k9 (λz hz e=>by have:=HBz5.out z hz;omega);have PSs:PsAt ts i5 er5 (stP bodyP ts i1 er1) (λb:Int×List Ex=>b.1=0∧ElsG (λk=>w.heap.size<=k) W9 4 1000000 (QE (λk=>w.heap.size<=k) W9) A5 (0+1) b.2):=by
   rw[PTT.out,a85!];refine PS5.out.map _ ?_;rintro⟨u1,x1⟩ ⟨-,h1⟩;refine⟨rfl,h6! (Q:=QE) O9 (by omega) rfl (λj hj=>?_)⟩
   match j,hj with
   |0,_=>
    rw[Nat.zero_mul,List.drop_zero,List.nil_append,List.take_of_length_le (by rw[HL5.out];omega)];exact h5! _ _ _ _ _ _ _ TA.out (λk _ hd e=>by omega) (λk _ hd=>by omega) h1
   |j+1,hj=>simp at hj
  refine bodyPost_ret (v:=.agg #[.I 0,.string s1,.slice A5 (0+1) c5,.I 0,.I 0,.N,.N]) (by simp[results,Tryz.results129,go_sem,sc0,sc1,sc2,sc3,sc4,sc5,sc6]) rfl ⟨_,rfl,KK,⟨_,_,_,_,_,_,_,_,_,_,_,_,_,rfl⟩,i5,er5,HH.out.put P5.out.at_ (P5.out.blk.kept k9 (by omega)) KK,(PS1.out.then_ PSs).map _ ?_⟩;rintro⟨a1,b⟩ ⟨h1,h2,h3⟩;injection h1 with h1;refine⟨_,rfl,A5,0+1,c5,none,0,0,none,0,0,?_,h3,ElsG.none_ _ _ _ _ _ _,ElsG.none_ _ _ _ _ _ _⟩;rw[h1,h2]
 ·have PTT:=h! (PT.out.1 rfl)
  refine SK.out.mono ?_;rintro e w3⟨rfl,p3,k3⟩;have P3:Hid (Par w3 g A c m ts (i1+1) dp er1):=p3;have z3:=k3.size;have X3:=k! X2 k3;have Y3:=k! Y2 k3;have K3:=q! K2 k3;clear p3 k3 SK K2 P2 X2 Y2;have fz:=Y3.out.frozen 0;have ez:=Y3.out.c0;go_upto_region 4 with fail;obtain⟨W4,e9,Y4,k4⟩:=Y3.out.u0 (.I 1);rw[e9];clear e9;have X4:=k! X3 k4;have K4:=t! K3 k4;have P4:=h! (HH.out.put P3.out.at_ (P3.out.blk.kept k4 (by omega)) K4.out);have J4:=h! k4;have z4:=k4.size;clear k4 Y3 X3 K3 P3;clear fz ez;go_upto_region 4 with fail;obtain⟨vo5,hvo5⟩:∃v:Value,v=.N:=⟨_,rfl⟩
  have OW5:Hid (W4.drew.ownsRow w.heap.size 40 4 vo5 (0) []):=by rw[hvo5];exact World.ownsRow.drew (World.ownsRow_nil W4 w.heap.size 40 4)
  have KD5:Hid (∀z,vo5.ownBlock=some z->¬z=g):=by rw[hvo5];exact λz hz _=>absurd (show (none:Option Nat)=some z from hz) (by simp)
  have fw5:W4.drew.frozen? ⟨w1.heap.size,2,none⟩=false:=Y4.out.frozen 2;have qw5:W4.drew.cell? ⟨w1.heap.size,2,none⟩=some vo5:=by rw[hvo5];exact Y4.out.cell 2
  have PD5:=h! (P4.out.below (Below.refl _ W4).drew);have CL5:=h! (EX.out (i1+1) er1 W4.drew PD5.out);have zd5:W4.drew.heap.size=W4.heap.size:=rfl;have Q5:Hid (∀w',Blk w' (w1.heap.size) 95 #[.I 1,.string s1,.N,.I 0,.I 0,.N,.N]->w'.cell? ⟨w1.heap.size,2,none⟩=some vo5∧w'.frozen? ⟨w1.heap.size,2,none⟩=false):=by rw[hvo5];exact λ_ h=>⟨h.cell 2,h.frozen 2⟩
  have YD5:=h! (Y4.out.drew);have HVO5:=h! hvo5;clear hvo5;obtain⟨j0,hj0,hy0,hy1,hy2⟩:=info_parts y8!;have HV5:Hid (∀z,vo5.ownBlock=some z->w.heap.size<z∧z<W4.heap.size∧z≠w1.heap.size):=by rw[HVO5.out];exact λz hz=>absurd (show (none:Option Nat)=some z from hz) (by simp)
  go_cut [] (λwc=>Hid (AppTo W4 g c A m ts dp (stP exprP ts (i1+1) er1) w.heap.size (w1.heap.size) (λv:Value=>#[.I 1,.string s1,v,.I 0,.I 0,.N,.N]) vo5 0 [] wc))
  case first=>
   go_region_law
    (first
     |(refine g5! _ (by rfl) (.tmp 11) (.tmp 14) _ (by rfl) w.heap.size 40 j0 _ 4 56 Tryz.underlying38 hj0 hy0 hy1 hy2 rfl (by omega) vo5 (0) [] (by rfl) o5.out _ _ 1 1 [.I op5,.I N5,.string nm5,.slice B5 l5 q5] (by rfl) RD5.out ON5.out (by unfold maxLen;omega) (by omega) (by simp;omega) ?_;intro u5 x5 r5 g5 t5;obtain⟨A5,c5,rfl,hb5⟩:=b2! r5;have yz5:=(y5.alloc (.cells #[.I op5,.I N5,.string nm5,.slice B5 l5 q5] 40)).kept (Kept.of_grown (S:=λz=>vo5.ownBlock=some z) g5 (λ_ e=>e)) (λe=>by rw[HVO5.out]at e;exact absurd (show (none:Option Nat)=some _ from e) (by simp));obtain⟨qz5,fz5⟩:=Q5.out _ yz5;have R5:=h! r5;have G5:=h! g5;have T5:=h! t5;clear r5 g5 t5)
     |(go_simp;go_at_call 40;(with_reducible refine CL5.out.mono ?_);rintro e w5⟨v5,rfl,k5,⟨op5,N5,nm5,B5,l5,q5,rfl⟩,i5,er5,p5,ps5⟩;have y5:=YD5.out.kept k5 (by omega);obtain⟨qy5,fy5⟩:=Q5.out _ y5;obtain⟨qx5,fx5⟩:=Q5.out _ (y5.alloc (.cells #[.I op5,.I N5,.string nm5,.slice B5 l5 q5] 40));have z5:=k5.size;have o5:=h! (World.ownsRow.alloc (a6! OW5.out k5 KD5.out) (.cells #[.I op5,.I N5,.string nm5,.slice B5 l5 q5] 40));have RD5:=h! (d1! w5 40 #[.I op5,.I N5,.string nm5,.slice B5 l5 q5] 4 rfl);have ON5:=h! (one4 op5 N5 nm5 B5 l5 q5);have K5:=h! k5;have P5:=h! p5;have PS5:=h! ps5;clear p5 ps5 k5))
   all_goals
    go_wp2_with fail;go_meet
    case rel=>exact y9! (yc:=(λv:Value=>#[.I 1,.string s1,v,.I 0,.I 0,.N,.N])) HH.out K4.out (Nat.le_refl _) K5.out P5.out PS5.out (by rw[HVO5.out];exact y5) R5.out G5.out T5.out HV5.out (by omega) (by omega) (by omega) (λ_ _=>rfl)
  case rest=>
  obtain⟨A5,c5,cs5,i5,er5,zm5,y5,p5,k5,o5,hl5,ps5,za5,zb5,hb5⟩:=hcut.out;obtain⟨w5,rfl⟩:∃x,x=wc:=⟨_,rfl⟩
  clear hcut CL5 PD5 Q5 YD5 OW5 fw5 qw5 hj0 hy0 hy1 hy2;have z5:=k5.size;have Y5:Hid (Blk w5 (w1.heap.size) 95 #[.I 1,.string s1,.slice A5 (0+1) c5,.I 0,.I 0,.N,.N]):=y5;have HW5:=h! HV5.out;have HZ5:Hid (∀z,vo5.ownBlock=some z->0<=z):=by rw[HVO5.out];exact λz _=>Nat.zero_le z
  have X5:=h! (X4.out.kept k5 (λe=>by rcases e with e|e|e<;>first|omega|(have:=HW5.out _ e;omega)));have K5:=h! (K4.out.then_ k5 (λz hz e=>by rcases e with e|e|e<;>first|omega|(have:=HW5.out _ e;omega)));have P5:=h! p5;have PS5:=h! ps5;have J5:=h! k5;have OO5:=h! o5;have HL5:=h! hl5;have HB5:=h! hb5;clear p5 k5 ps5 y5 o5 hl5 hb5 K4 P4 X4 Y4;have HBz5:Hid (∀z,(Value.slice A5 (0+1) c5).ownBlock=some z->zm5<=z):=λz hz=>(HB5.out z hz).resolve_left (by rw[HVO5.out];exact λh=>absurd (show (none:Option Nat)=some z from h) (by simp))
  have hol5:=h! (c2! OO5.out);go_wp2_with fail;refine(MB.out i5 er5 w5 P5.out).mono ?_;rintro e w6⟨v6,rfl,k6,rfl,i6,er6,p6,ps6⟩;have z6:=k6.size;have X6:=k! X5 k6;have Y6:=k! Y5 k6;have K6:=q! K5 k6;have P6:=h! p6;have PS6:=h! (PS5.out.then_ ps6);have J6:=h! k6;clear p6 k6 ps6 K5 P5 X5 Y5 PS5;go_wp2_with fail;refine(ME.out i6 er6 w6 P6.out).mono ?_;rintro e w7⟨v7,rfl,k7,rfl,i7,er7,p7,ps7⟩;have z7:=k7.size;have X7:=k! X6 k7;have Y7:=k! Y6 k7;have K7:=q! K6 k7;have P7:=h! p7;have PS7:=h! (PS6.out.then_ ps7);have J7:=h! k7;clear p7 k7 ps7 K6 P6 X6 Y6 PS6;have OZ:Hid (w7.ownsRow w.heap.size 40 4 (.slice A5 (0+1) c5) (0+1) ([]++cs5)):=a6! (a6! OO5.out J6.out (λz hz e=>by have:=HBz5.out z hz;omega)) J7.out (λz hz e=>by have:=HBz5.out z hz;omega);go_upto_region 7 with fail;obtain⟨vo8,hvo8⟩:∃v:Value,v=.slice A5 (0+1) c5:=⟨_,rfl⟩
  have OW8:Hid (w7.drew.ownsRow w.heap.size 40 4 vo8 ((0+1)) ([]++cs5)):=by rw[hvo8];exact World.ownsRow.drew OZ.out
  have KD8:Hid (∀z,vo8.ownBlock=some z->¬z=g):=by rw[hvo8];exact λz hz e=>by have:=HBz5.out z hz;omega
  have fw8:w7.drew.frozen? ⟨w1.heap.size,2,none⟩=false:=Y7.out.frozen 2;have qw8:w7.drew.cell? ⟨w1.heap.size,2,none⟩=some vo8:=by rw[hvo8];exact Y7.out.cell 2
  have PD8:=h! (P7.out.below (Below.refl _ w7).drew);have CL8:=h! (EX.out i7 er7 w7.drew PD8.out);have zd8:w7.drew.heap.size=w7.heap.size:=rfl;have Q8:Hid (∀w',Blk w' (w1.heap.size) 95 #[.I 1,.string s1,.slice A5 (0+1) c5,.I 0,.I 0,.N,.N]->w'.cell? ⟨w1.heap.size,2,none⟩=some vo8∧w'.frozen? ⟨w1.heap.size,2,none⟩=false):=by rw[hvo8];exact λ_ h=>⟨h.cell 2,h.frozen 2⟩
  have YD8:=h! (Y7.out.drew);have HVO8:=h! hvo8;clear hvo8;obtain⟨j0,hj0,hy0,hy1,hy2⟩:=info_parts y8!;have HV8:Hid (∀z,vo8.ownBlock=some z->w.heap.size<z∧z<w7.heap.size∧z≠w1.heap.size):=by rw[HVO8.out];exact λz hz=>⟨by have:=HBz5.out z hz;omega,by have:=hol5.out z hz;omega,by have:=HBz5.out z hz;omega⟩
  go_cut [] (λwc=>Hid (AppTo w7 g c A m ts dp (stP exprP ts i7 er7) w.heap.size (w1.heap.size) (λv:Value=>#[.I 1,.string s1,v,.I 0,.I 0,.N,.N]) vo8 (0+1) ([]++cs5) wc))
  case first=>
   go_region_law
    (first
     |(refine g5! _ (by rfl) (.tmp 22) (.tmp 25) _ (by rfl) w.heap.size 40 j0 _ 4 56 Tryz.underlying38 hj0 hy0 hy1 hy2 rfl (by omega) vo8 ((0+1)) ([]++cs5) (by rfl) o8.out _ _ 1 1 [.I op8,.I N8,.string nm8,.slice B8 l8 q8] (by rfl) RD8.out ON8.out (by unfold maxLen;omega) (by omega) (by simp;omega) ?_;intro u8 x8 r8 g8 t8;obtain⟨A8,c8,rfl,hb8⟩:=b2! r8;have yz8:=(y8.alloc (.cells #[.I op8,.I N8,.string nm8,.slice B8 l8 q8] 40)).kept (Kept.of_grown (S:=λz=>vo8.ownBlock=some z) g8 (λ_ e=>e)) (λe=>by rw[HVO8.out]at e;have:=HBz5.out _ e;omega);obtain⟨qz8,fz8⟩:=Q8.out _ yz8;have R8:=h! r8;have G8:=h! g8;have T8:=h! t8;clear r8 g8 t8)
     |(go_simp;go_at_call 40;(with_reducible refine CL8.out.mono ?_);rintro e w8⟨v8,rfl,k8,⟨op8,N8,nm8,B8,l8,q8,rfl⟩,i8,er8,p8,ps8⟩;have y8:=YD8.out.kept k8 (by omega);obtain⟨qy8,fy8⟩:=Q8.out _ y8;obtain⟨qx8,fx8⟩:=Q8.out _ (y8.alloc (.cells #[.I op8,.I N8,.string nm8,.slice B8 l8 q8] 40));have z8:=k8.size;have o8:=h! (World.ownsRow.alloc (a6! OW8.out k8 KD8.out) (.cells #[.I op8,.I N8,.string nm8,.slice B8 l8 q8] 40));have RD8:=h! (d1! w8 40 #[.I op8,.I N8,.string nm8,.slice B8 l8 q8] 4 rfl);have ON8:=h! (one4 op8 N8 nm8 B8 l8 q8);have K8:=h! k8;have P8:=h! p8;have PS8:=h! ps8;clear p8 ps8 k8))
   all_goals
    go_wp2_with fail;go_meet
    case rel=>exact y9! (yc:=(λv:Value=>#[.I 1,.string s1,v,.I 0,.I 0,.N,.N])) HH.out K7.out (Nat.le_refl _) K8.out P8.out PS8.out (by rw[HVO8.out];exact y8) R8.out G8.out T8.out HV8.out (by omega) (by omega) (by omega) (λ_ _=>rfl)
  case rest=>
  obtain⟨A8,c8,cs8,i8,er8,zm8,y8,p8,k8,o8,hl8,ps8,za8,zb8,hb8⟩:=hcut.out;obtain⟨w8,rfl⟩:∃x,x=wc:=⟨_,rfl⟩
  clear hcut CL8 PD8 Q8 YD8 OW8 fw8 qw8 hj0 hy0 hy1 hy2;have z8:=k8.size;have Y8:Hid (Blk w8 (w1.heap.size) 95 #[.I 1,.string s1,.slice A8 ((0+1)+1) c8,.I 0,.I 0,.N,.N]):=y8;have HW8:=h! HV8.out;have HZ8:Hid (∀z,vo8.ownBlock=some z->zm5<=z):=by rw[HVO8.out];exact HBz5.out
  have X8:=h! (X7.out.kept k8 (λe=>by rcases e with e|e|e<;>first|omega|(have:=HW8.out _ e;omega)));have K8:=h! (K7.out.then_ k8 (λz hz e=>by rcases e with e|e|e<;>first|omega|(have:=HW8.out _ e;omega)));have P8:=h! p8;have PS8:=h! (PS7.out.then_ ps8);have J8:=h! k8;have OO8:=h! o8;have HL8:=h! hl8;have HB8:=h! hb8;clear p8 k8 ps8 y8 o8 hl8 hb8 K7 P7 X7 Y7 PS7;go_upto_region 8 with fail;obtain⟨qc0,qc1,qc2,qc3,qc4,qc5,qc6⟩:=Y8.out.A7;have hx:=X8.out;obtain⟨sc0,sc1,sc2,sc3,sc4,sc5,sc6⟩:=hx.A7;obtain⟨tc0,tc1,tc2,tc3,tc4,tc5,tc6⟩:=hx.F7;go_wp2_with fail;obtain⟨W9,e9,X9,k9⟩:=hx.e7 (.I 1) (.string s1) (.slice A8 (0+1+1) c8) (.I 0) (.I 0) (.N) (.N);rw[e9];clear e9;clear sc0 sc1 sc2 sc3 sc4 sc5 sc6 qc0 qc1 qc2 qc3 qc4 qc5 qc6;obtain⟨sc0,sc1,sc2,sc3,sc4,sc5,sc6⟩:=X9.A7;have KK:Kept (λz=>z=g) w W9:=K8.out.then_ k9 (λz hz e=>by omega);have TA:Hid (Kept (λz=>z<W4.heap.size∨zm5<=z) w5 W9):=i! J6 (i! J7 (i! J8 (d! k9) (λz hz e=>by rcases e with e|e|e<;>first|omega|(have:=HW8.out _ e;have:=HZ8.out _ e;omega))));have TB:Hid (Kept (λz=>z<w7.heap.size∨zm8<=z) w8 W9):=d! k9;have O9:W9.ownsRow w.heap.size 40 4 (.slice A8 (0+1+1) c8) (0+1+1) ([]++cs5++cs8):=a6! OO8.out k9 (λz hz e=>by rcases HB8.out z hz with h|h<;>first|omega|(have:=HZ8.out z h;omega));have PSs:PsAt ts i8 er8 (stP bodyP ts i1 er1) (λb:Int×List Ex=>b.1=1∧ElsG (λk=>w.heap.size<=k) W9 4 1000000 (QE (λk=>w.heap.size<=k) W9) A8 (0+1+1) b.2):=by
   rw[PTT.out.2,a84!];refine PS8.out.map _ ?_;rintro⟨⟨⟨x1,u1⟩,u2⟩,x2⟩ ⟨⟨⟨h1,-⟩,-⟩,h2⟩;refine⟨rfl,h6! (Q:=QE) O9 (by omega) rfl (λj hj=>?_)⟩
   match j,hj with
   |0,_=>
    rw[Nat.zero_mul,List.drop_zero,List.nil_append,List.take_append_of_le_length (by rw[HL5.out];omega),List.take_of_length_le (by rw[HL5.out];omega)];exact h5! _ _ _ _ _ _ _ TA.out (λk _ hd e=>by omega) (λk _ hd=>by omega) h1
   |1,_=>
    rw[Nat.one_mul,List.nil_append,List.drop_append_of_le_length (by rw[HL5.out];omega),List.drop_of_length_le (by rw[HL5.out];omega),List.nil_append,List.take_of_length_le (by rw[HL8.out];omega)];exact h5! _ _ _ _ _ _ _ TB.out (λk _ hd e=>by omega) (λk _ hd=>by omega) h2
   |j+2,hj=>simp at hj;omega
  refine bodyPost_ret (v:=.agg #[.I 1,.string s1,.slice A8 (0+1+1) c8,.I 0,.I 0,.N,.N]) (by simp[results,Tryz.results129,go_sem,sc0,sc1,sc2,sc3,sc4,sc5,sc6]) rfl ⟨_,rfl,KK,⟨_,_,_,_,_,_,_,_,_,_,_,_,_,rfl⟩,i8,er8,HH.out.put P8.out.at_ (P8.out.blk.kept k9 (by omega)) KK,(PS1.out.then_ PSs).map _ ?_⟩;rintro⟨a1,b⟩ ⟨h1,h2,h3⟩;injection h1 with h1;refine⟨_,rfl,A8,0+1+1,c8,none,0,0,none,0,0,?_,h3,ElsG.none_ _ _ _ _ _ _,ElsG.none_ _ _ _ _ _ _⟩;rw[h1,h2]
def elP(d:Nat)(r:List Tk):PS (List St):=if hasT [101,108,115,101] r then g1! d r.tail else .ok [] r
def condP(d:Nat)(r:List Tk):PS St:=(exprP r).bind λe r=>(mustP [116,104,101,110] r).bind λ_ r=>(g1! d r).bind λl r=>(elP d r).bind λel r=>(mustP [101,110,100] r).bind λ_ r=>.ok (.mk 2 [] [e] 0 0 l el) r
def forP(d:Nat)(r:List Tk):PS St:=(nameP r).bind λnm r=>(b4! r).bind λlo r=>(b4! r).bind λhi r=>(mustP [100,111] r).bind λ_ r=>(g1! d r).bind λl r=>(mustP [101,110,100] r).bind λ_ r=>.ok (.mk 3 nm [] lo hi l []) r
def refP(r:List Tk):PS St:=.ok (.mk 4 [] [] 0 0 [] []) r
def rollP(r:List Tk):PS St:=(nameP r).bind λnm r=>(numP r).bind λn r=>.ok (.mk 5 nm [] n 0 [] []) r
def seatP(r:List Tk):PS St:=(exprP r).bind λe r=>.ok (.mk 6 [] [e] 0 0 [] []) r
def overP(r:List Tk):PS St:=.ok (.mk 7 [] [] 0 0 [] []) r
def payP(r:List Tk):PS St:=(exprP r).bind λe r=>(exprP r).bind λe2 r=>.ok (.mk 8 [] [e,e2] 0 0 [] []) r
def restP(r:List Tk):PS St:=(exprP r).bind λe r=>.ok (.mk 9 [] [e] 0 0 [] []) r
theorem f0!(d:Nat)(t:Tk)(r:List Tk)(hk:t.kind=3):stmtD (d+1) (t::r)=
 if t.text=[105,102]then condP d r else if t.text=[102,111,114]then forP d r else if t.text=[114,101,102,117,115,101]then refP r else if t.text=[114,111,108,108]then rollP r
 else if t.text=[115,101,97,116]then seatP r else if t.text=[111,118,101,114]then overP r else if t.text=[112,97,121]then payP r else restP r:=by
 have e1:kindT 1 (t::r)=false:=by simp[kindT,hk]
 have e2:wordP (t::r)=.ok t.text r:=by simp[wordP,takeP,hk,PS.bind]
 simp only[stmtD]
 rw[e1,if_neg (by decide),e2]
 rfl
theorem a86!(d:Nat)(r:List Tk)(hk:kindT 1 r=true):stmtD (d+1) r=h2! r:=by
 simp only[stmtD]
 rw[if_pos hk]
theorem SE.deep:∀(n:Nat) (cs:List Value) (s:St),SE D w n cs s->SE D w (n+1) cs s
 |0,_,_,h=>absurd h id
 |n+1,cs,.mk kind nm E lo hi L El,h=>by
  obtain⟨A1,l1,c1,A2,l2,c2,A3,l3,c3,h1,h2,h3,h4⟩:=h;exact⟨A1,l1,c1,A2,l2,c2,A3,l3,c3,h1,h2,h3.kept (Kept.refl (λ_=>False) _) (λ_ _ _ h=>h) (λ_ _ h=>h) (SE.deep n),h4.kept (Kept.refl (λ_=>False) _) (λ_ _ _ h=>h) (λ_ _ h=>h) (SE.deep n)⟩
theorem SE.deeper{m:Nat}(hm:n<=m){s:St}(h:SE D w n cs s):SE D w m cs s:=by
 obtain⟨d,rfl⟩:∃d,m=n+d:=⟨m-n,by omega⟩
 induction d with
 |zero=>exact h
 |succ d ih=>exact SE.deep _ _ _ (ih (by omega))
theorem u7!{x:Ex}(hb:Blk w b t (List.toArray cs))(hl:cs.length=4)(hB:base<=b)(h:QE (λk=>base<=k) w cs x):ElsG (λk=>base<=k) w 4 1000000 (QE (λk=>base<=k) w) (some ⟨b,0,none⟩) 1 [x]:=
 h6! (Q:=QE) (p8! hb hl hB) (by omega) rfl λi hi=>by
  match i,hi with
  |0,_=>
   rw[Nat.zero_mul,List.drop_zero,List.take_of_length_le (by omega)];exact h
  |i+1,hi=>simp at hi
theorem IsRow.els{α:Type}{Q:Cel α}{l:List α}(h:IsRow s Q b w l (.slice A n c)):ElsG (λk=>b<=k) w s 1000000 (Q (λk=>b<=k) w) A n l:=by
 obtain⟨A',n',c',hv,h⟩:=h
 injection hv with h1 h2 h3
 subst h1
 subst h2
 exact h
theorem IsEl.cells{α:Type}{Q:Cel α}{a:α}(h:IsEl Q b w a (.agg (List.toArray cs))):Q (λk=>b<=k) w cs a:=by
 obtain⟨cs',hv,h⟩:=h
 injection hv with hv
 have:=congrArg Array.toList hv
 simp only at this
 rw[this]
 exact h
theorem a87!(d:Nat)(ts:List Tk)(i:Nat)(er:Int):stP (condP d) ts i er=(((((stP exprP ts i er).bind λa r=>((mustP [116,104,101,110]) r).bind λb r=>.ok (a,b) r).bind λa r=>((g1! d) r).bind λb r=>.ok (a,b) r).bind λa r=>((elP d) r).bind λb r=>.ok (a,b) r).bind λa r=>((mustP [101,110,100]) r).bind λb r=>.ok (a,b) r).bind λx r=>.ok ((λx:(((Ex×Unit)×List St)×List St)×Unit=>St.mk 2 [] [x.1.1.1.1] 0 0 x.1.1.2 x.1.2) x) r:=by
 by_cases he:er=0
 ·unfold stP
  rw[if_pos he,if_pos he];unfold condP
  simp only[PS.bind_assoc,PS.ok_bind]
  all_goals rfl
 ·unfold stP
  rw[if_neg he,if_neg he]
  rfl
theorem a88!(d:Nat)(ts:List Tk)(i:Nat)(er:Int):stP (forP d) ts i er=((((((stP nameP ts i er).bind λa r=>(b4! r).bind λb r=>.ok (a,b) r).bind λa r=>(b4! r).bind λb r=>.ok (a,b) r).bind λa r=>((mustP [100,111]) r).bind λb r=>.ok (a,b) r).bind λa r=>((g1! d) r).bind λb r=>.ok (a,b) r).bind λa r=>((mustP [101,110,100]) r).bind λb r=>.ok (a,b) r).bind λx r=>.ok ((λx:((((List UInt8×Int)×Int)×Unit)×List St)×Unit=>St.mk 3 x.1.1.1.1.1 [] x.1.1.1.1.2 x.1.1.1.2 x.1.2 []) x) r:=by
 by_cases he:er=0
 ·unfold stP
  rw[if_pos he,if_pos he];unfold forP
  simp only[PS.bind_assoc,PS.ok_bind]
  all_goals rfl
 ·unfold stP
  rw[if_neg he,if_neg he]
  rfl
theorem a89!(ts:List Tk)(i:Nat)(er:Int):stP rollP ts i er=((stP nameP ts i er).bind λa r=>(numP r).bind λb r=>.ok (a,b) r).bind λx r=>.ok ((λx:List UInt8×Int=>St.mk 5 x.1 [] x.2 0 [] []) x) r:=by
 by_cases he:er=0
 ·unfold stP
  rw[if_pos he,if_pos he];unfold rollP
  simp only[PS.bind_assoc,PS.ok_bind]
  all_goals rfl
 ·unfold stP
  rw[if_neg he,if_neg he]
  rfl
theorem a90!(ts:List Tk)(i:Nat)(er:Int):stP seatP ts i er=(stP exprP ts i er).bind λx r=>.ok ((λx:Ex=>St.mk 6 [] [x] 0 0 [] []) x) r:=by
 by_cases he:er=0
 ·unfold stP
  rw[if_pos he,if_pos he];unfold seatP
  all_goals rfl
 ·unfold stP
  rw[if_neg he,if_neg he]
  rfl
theorem a91!(ts:List Tk)(i:Nat)(er:Int):stP restP ts i er=(stP exprP ts i er).bind λx r=>.ok ((λx:Ex=>St.mk 9 [] [x] 0 0 [] []) x) r:=by
 by_cases he:er=0
 ·unfold stP
  rw[if_pos he,if_pos he];unfold restP
  all_goals rfl
 ·unfold stP
  rw[if_neg he,if_neg he]
  rfl
theorem a92!(ts:List Tk)(i:Nat)(er:Int):stP payP ts i er=((stP exprP ts i er).bind λa r=>(exprP r).bind λb r=>.ok (a,b) r).bind λx r=>.ok ((λx:Ex×Ex=>St.mk 8 [] [x.1,x.2] 0 0 [] []) x) r:=by
 by_cases he:er=0
 ·unfold stP
  rw[if_pos he,if_pos he];unfold payP
  simp only[PS.bind_assoc,PS.ok_bind]
  all_goals rfl
 ·unfold stP
  rw[if_neg he,if_neg he]
  rfl
theorem c97!(g c:Nat)(A:Option Addr)(m:Nat->Nat)(ts:List Tk)(d:Nat)(H:l8! g c A m ts d)(dp:Int)(hd:dp+1+(d:Int)=16)(h0:0<=dp)(i:Nat)(er:Int)(w:World)(h:Par w g A c m ts i dp er):
 Calls Tryz.prog 130 #[.pointer (some ⟨g,0,none⟩)] w (a8! w g c A m ts dp (stP (condP d) ts i er) (IsEl (QS (d+1)) w.heap.size) ShSt):=by
 obtain⟨W0,eW,f0,x0,z0⟩:=n! w 95 #[.I 0,.E,.N,.I 0,.I 0,.N,.N]
 have hgl:=h.blk.lt
 have HH:=h! h
 have P0:=h! (h.below f0)
 have F0:=h! f0
 have X0:=h! x0
 have K0:=o! g f0
 have EX:=h! (λi er w h=>p5! g c A m ts i dp er w h)
 have MT:=h! (λi er w h=>e1! g c A m ts i dp er [116,104,101,110] w h)
 have MD:=h! (λi er w h=>e1! g c A m ts i dp er [101,110,100] w h)
 have INN:=h! (λi er w h=>a80! g c A m ts d H dp hd h0 i er w h)
 rw[a87!]
 clear H
 clear h f0 x0
 go_enter Tryz.func130,Tryz.ntmps130
 go_wp2_with fail
 rw[eW.out]
 clear eW
 refine(EX.out i er W0 P0.out).mono ?_
 rintro e w1⟨v1,rfl,k1,⟨op1,N1,nm1,B1,l1,q1,rfl⟩,i1,er1,p1,ps1⟩
 have z1:=k1.size
 have X1:=k! X0 k1
 have K1:=q! K0 k1
 have P1:=h! p1
 have PS1:=h! ps1
 have J1:=h! k1
 clear p1 k1 ps1 K0 P0 X0
 go_upto_region 2 with fail
 have f2:Below w1.heap.size w1 ((w1.alloc (.cells #[.I op1,.I N1,.string nm1,.slice B1 l1 q1] 40)).alloc (.cells #[.I 2,.E,.slice (some ⟨w1.heap.size,0,none⟩) 1 1,.I 0,.I 0,.N,.N] 95)):=((Below.refl _ _).al _).al _
 obtain⟨b2,y2⟩:=e0! w1 40 95 #[.I op1,.I N1,.string nm1,.slice B1 l1 q1] #[.I 2,.E,.slice (some ⟨w1.heap.size,0,none⟩) 1 1,.I 0,.I 0,.N,.N]
 have B2:=h! b2
 have Y2:=h! y2
 clear b2 y2
 have P2:=h! (P1.out.below f2)
 have X2:=b! X1 f2
 have K2:=e! K1 f2
 have J2:=o! g f2
 have z2:((w1.alloc (.cells #[.I op1,.I N1,.string nm1,.slice B1 l1 q1] 40)).alloc (.cells #[.I 2,.E,.slice (some ⟨w1.heap.size,0,none⟩) 1 1,.I 0,.I 0,.N,.N] 95)).heap.size=w1.heap.size+2:=by simp
 have xl2:=X1.out.lt
 clear f2 K1 P1 X1
 generalize (w1.alloc (.cells #[.I op1,.I N1,.string nm1,.slice B1 l1 q1] 40)).alloc (.cells #[.I 2,.E,.slice (some ⟨w1.heap.size,0,none⟩) 1 1,.I 0,.I 0,.N,.N] 95)=W2 at*
 go_wp2_with fail
 refine(MT.out i1 er1 W2 P2.out).mono ?_
 rintro e w3⟨v3,rfl,k3,rfl,i3,er3,p3,ps3⟩
 have z3:=k3.size
 have X3:=k! X2 k3
 have Y3:=k! Y2 k3
 have K3:=q! K2 k3
 have P3:=h! p3
 have PS3:=h! (PS1.out.then_ ps3)
 have J3:=h! k3
 clear p3 k3 ps3 K2 P2 X2 Y2 PS1
 go_wp2_with fail
 refine(INN.out i3 er3 w3 P3.out).mono ?_
 rintro e w4⟨v4,rfl,k4,⟨A4,l4,q4,rfl⟩,i4,er4,p4,ps4⟩
 have z4:=k4.size
 have X4:=k! X3 k4
 have Y4:=k! Y3 k4
 have K4:=q! K3 k4
 have P4:=h! p4
 have PS4:=h! (PS3.out.then_ ps4)
 have J4:=h! k4
 clear p4 k4 ps4 K3 P3 X3 Y3 PS3
 have fz:=Y4.out.frozen 5
 have ez:=Y4.out.c5
 go_wp2_with fail
 obtain⟨W5,e9,Y5,k5⟩:=Y4.out.u5 (.slice A4 l4 q4)
 rw[e9]
 clear e9
 have X5:=k! X4 k5
 have K5:=t! K4 k5
 have P5:=h! (HH.out.put P4.out.at_ (P4.out.blk.kept k5 (by omega)) K5.out)
 have J5:=h! k5
 have z5:=k5.size
 clear k5 Y4 X4 K4 P4
 clear fz ez
 obtain⟨t',ht'⟩:=ParS.at_some P5.out.at_
 have SK:=h! (l6! g c A m ts i4 dp er4 [101,108,115,101] W5 P5.out t' ht')
 have PT:=h! (u3! (er:=er4) ht' [101,108,115,101] (elP d) (g1! d) (λr=>.ok [] r) (λr=>rfl))
 obtain⟨bb,hbb⟩:∃b,hasB t' er4 [101,108,115,101]=b:=⟨_,rfl⟩
 rw[hbb]at SK PT
 clear hbb ht'
 cases bb
 ·have PTT:=h! (PT.out.2 rfl)
  refine SK.out.mono ?_;rintro e w6⟨rfl,p6,k6⟩;have P6:Hid (Par w6 g A c m ts (i4) dp er4):=p6;have z6:=k6.size;have X6:=k! X5 k6;have Y6:=k! Y5 k6;have K6:=q! K5 k6;have J6:=h! k6;clear p6 k6 SK K5 P5 X5 Y5;have PSsz:PsAt ts i4 er4 (stP (elP d) ts i4 er4) (λl=>l=[]):=by rw[PTT.out];exact PsAt.st rfl
  go_wp2_with fail;have PSz:=h! (PS4.out.then_ PSsz);clear PSsz PS4;refine(MD.out i4 er4 w6 P6.out).mono ?_;rintro e w7⟨v7,rfl,k7,rfl,i7,er7,p7,ps7⟩;have z7:=k7.size;have X7:=k! X6 k7;have Y7:=k! Y6 k7;have K7:=q! K6 k7;have P7:=h! p7;have PS7:=h! (PSz.out.then_ ps7);have J7:=h! k7;clear p7 k7 ps7 K6 P6 X6 Y6 PSz;go_upto_region 7 with fail;obtain⟨qc0,qc1,qc2,qc3,qc4,qc5,qc6⟩:=Y7.out.A7;have hx:=X7.out;obtain⟨sc0,sc1,sc2,sc3,sc4,sc5,sc6⟩:=hx.A7;obtain⟨tc0,tc1,tc2,tc3,tc4,tc5,tc6⟩:=hx.F7;go_wp2_with fail;obtain⟨W9,e9,X9,k9⟩:=hx.e7 (.I 2) (.E) (.slice (some ⟨w1.heap.size,0,none⟩) 1 1) (.I 0) (.I 0) (.slice A4 l4 q4) (.N);rw[e9];clear e9;clear sc0 sc1 sc2 sc3 sc4 sc5 sc6 qc0 qc1 qc2 qc3 qc4 qc5 qc6;obtain⟨sc0,sc1,sc2,sc3,sc4,sc5,sc6⟩:=X9.A7;have KK:Kept (λz=>z=g) w W9:=K7.out.then_ k9 (λz hz e=>by omega);have TA:Hid (Kept (λz=>z<W0.heap.size∨w1.heap.size<=z) w1 W9):=i! J2 (i! J3 (i! J4 (i! J5 (i! J6 (i! J7 (d! k9))))));have TB:Hid (Kept (λz=>z<w1.heap.size∨w1.heap.size+1<=z) W2 W9):=i! J3 (i! J4 (i! J5 (i! J6 (i! J7 (d! k9)))));have TC:Hid (Kept (λz=>z<w3.heap.size∨w4.heap.size<=z) w4 W9):=i! J5 (i! J6 (i! J7 (d! k9)));refine bodyPost_ret (v:=.agg #[.I 2,.E,.slice (some ⟨w1.heap.size,0,none⟩) 1 1,.I 0,.I 0,.slice A4 l4 q4,.N]) (by simp[results,Tryz.results130,go_sem,sc0,sc1,sc2,sc3,sc4,sc5,sc6]) rfl ⟨_,rfl,KK,⟨_,_,_,_,_,_,_,_,_,_,_,_,_,rfl⟩,i7,er7,HH.out.put P7.out.at_ (P7.out.blk.kept k9 (by omega)) KK,PS7.out.map _ ?_⟩;rintro⟨⟨⟨⟨x1,u1⟩,l⟩,el⟩,u2⟩ ⟨⟨⟨⟨h1,-⟩,h2⟩,h3⟩,-⟩;have hE:ElsG (λk=>w.heap.size<=k) W9 4 1000000 (QE (λk=>w.heap.size<=k) W9) (some ⟨w1.heap.size,0,none⟩) 1 [x1]:=u7! (cs:=[.I op1,.I N1,.string nm1,.slice B1 l1 q1]) (B2.out.kept TB.out (λe=>by omega)) rfl (by omega) ((h1.kept h5! (by omega) TA.out (λk _ hk e=>by omega)).cells (cs:=[.I op1,.I N1,.string nm1,.slice B1 l1 q1]));have h3:el=[]:=h3;subst h3;exact⟨_,rfl,_,_,_,_,_,_,none,0,0,rfl,hE,(h2.kept (c5! d) (by omega) TC.out (λk _ hk e=>by omega)).els,ElsG.none_ _ _ _ _ _ _⟩
 ·have PTT:=h! (PT.out.1 rfl)
  refine SK.out.mono ?_;rintro e w6⟨rfl,p6,k6⟩;have P6:Hid (Par w6 g A c m ts (i4+1) dp er4):=p6;have z6:=k6.size;have X6:=k! X5 k6;have Y6:=k! Y5 k6;have K6:=q! K5 k6;have J6:=h! k6;clear p6 k6 SK K5 P5 X5 Y5;go_wp2_with fail;refine(INN.out (i4+1) er4 w6 P6.out).mono ?_;rintro e w7⟨v7,rfl,k7,⟨A7,l7,q7,rfl⟩,i7,er7,p7,ps7⟩;have z7:=k7.size;have X7:=k! X6 k7;have Y7:=k! Y6 k7;have K7:=q! K6 k7;have P7:=h! p7;have J7:=h! k7;have psk:=h! ps7;clear p7 k7 ps7 K6 P6 X6 Y6;have PSsz:PsAt ts i7 er7 (stP (elP d) ts i4 er4) (λl=>IsRow 7 (QS d) w6.heap.size w7 l (.slice A7 l7 q7)):=by rw[PTT.out.2];exact psk.out
  have fz:=Y7.out.frozen 6;have ez:=Y7.out.c6;go_wp2_with fail;obtain⟨W8,e9,Y8,k8⟩:=Y7.out.u6 (.slice A7 l7 q7);rw[e9];clear e9;have X8:=k! X7 k8;have K8:=t! K7 k8;have P8:=h! (HH.out.put P7.out.at_ (P7.out.blk.kept k8 (by omega)) K8.out);have J8:=h! k8;have z8:=k8.size;clear k8 Y7 X7 K7 P7;clear fz ez;have PSz:=h! (PS4.out.then_ PSsz);clear PSsz PS4;refine(MD.out i7 er7 W8 P8.out).mono ?_;rintro e w9⟨v9,rfl,k9,rfl,i9,er9,p9,ps9⟩;have z9:=k9.size;have X9:=k! X8 k9;have Y9:=k! Y8 k9;have K9:=q! K8 k9;have P9:=h! p9;have PS9:=h! (PSz.out.then_ ps9);have J9:=h! k9;clear p9 k9 ps9 K8 P8 X8 Y8 PSz;go_upto_region 7 with fail;obtain⟨qc0,qc1,qc2,qc3,qc4,qc5,qc6⟩:=Y9.out.A7;have hx:=X9.out;obtain⟨sc0,sc1,sc2,sc3,sc4,sc5,sc6⟩:=hx.A7;obtain⟨tc0,tc1,tc2,tc3,tc4,tc5,tc6⟩:=hx.F7;go_wp2_with fail;obtain⟨W9,e9,X9,k9⟩:=hx.e7 (.I 2) (.E) (.slice (some ⟨w1.heap.size,0,none⟩) 1 1) (.I 0) (.I 0) (.slice A4 l4 q4) (.slice A7 l7 q7);rw[e9];clear e9;clear sc0 sc1 sc2 sc3 sc4 sc5 sc6 qc0 qc1 qc2 qc3 qc4 qc5 qc6;obtain⟨sc0,sc1,sc2,sc3,sc4,sc5,sc6⟩:=X9.A7;have KK:Kept (λz=>z=g) w W9:=K9.out.then_ k9 (λz hz e=>by omega);have TA:Hid (Kept (λz=>z<W0.heap.size∨w1.heap.size<=z) w1 W9):=i! J2 (i! J3 (i! J4 (i! J5 (i! J6 (i! J7 (i! J8 (i! J9 (d! k9))))))));have TB:Hid (Kept (λz=>z<w1.heap.size∨w1.heap.size+1<=z) W2 W9):=i! J3 (i! J4 (i! J5 (i! J6 (i! J7 (i! J8 (i! J9 (d! k9)))))));have TC:Hid (Kept (λz=>z<w3.heap.size∨w4.heap.size<=z) w4 W9):=i! J5 (i! J6 (i! J7 (i! J8 (i! J9 (d! k9)))));have TD:Hid (Kept (λz=>z<w6.heap.size∨w7.heap.size<=z) w7 W9):=i! J8 (i! J9 (d! k9));refine bodyPost_ret (v:=.agg #[.I 2,.E,.slice (some ⟨w1.heap.size,0,none⟩) 1 1,.I 0,.I 0,.slice A4 l4 q4,.slice A7 l7 q7]) (by simp[results,Tryz.results130,go_sem,sc0,sc1,sc2,sc3,sc4,sc5,sc6]) rfl ⟨_,rfl,KK,⟨_,_,_,_,_,_,_,_,_,_,_,_,_,rfl⟩,i9,er9,HH.out.put P9.out.at_ (P9.out.blk.kept k9 (by omega)) KK,PS9.out.map _ ?_⟩;rintro⟨⟨⟨⟨x1,u1⟩,l⟩,el⟩,u2⟩ ⟨⟨⟨⟨h1,-⟩,h2⟩,h3⟩,-⟩;have hE:ElsG (λk=>w.heap.size<=k) W9 4 1000000 (QE (λk=>w.heap.size<=k) W9) (some ⟨w1.heap.size,0,none⟩) 1 [x1]:=u7! (cs:=[.I op1,.I N1,.string nm1,.slice B1 l1 q1]) (B2.out.kept TB.out (λe=>by omega)) rfl (by omega) ((h1.kept h5! (by omega) TA.out (λk _ hk e=>by omega)).cells (cs:=[.I op1,.I N1,.string nm1,.slice B1 l1 q1]));exact⟨_,rfl,_,_,_,_,_,_,_,_,_,rfl,hE,(h2.kept (c5! d) (by omega) TC.out (λk _ hk e=>by omega)).els,(h3.kept (c5! d) (by omega) TD.out (λk _ hk e=>by omega)).els⟩
theorem c98!(g c:Nat)(A:Option Addr)(m:Nat->Nat)(ts:List Tk)(d:Nat)(H:l8! g c A m ts d)(dp:Int)(hd:dp+((d+1:Nat):Int)=16)(h0:0<=dp)(i:Nat)(w:World)(h:Par w g A c m ts i dp 0)(t:Tk)(ht:ts[i]?=some t)(hk:t.kind=3)(hx:t.text=[105,102]):
 Calls Tryz.prog 92 #[.pointer (some ⟨g,0,none⟩)] w (a8! w g c A m ts dp (stmtD (d+1) (ts.drop i)) (IsEl (QS (d+1)) w.heap.size) ShSt):=by
 obtain⟨WB,eW,f0,x0,z0⟩:=n! w 95 #[.I 0,.E,.N,.I 0,.I 0,.N,.N]
 have hgl:=h.blk.lt
 have HH:=h! h
 have PB0:=h! (h.below f0)
 have XB0:=h! x0
 have KB0:=o! g f0
 have hdd:dp<16:=by omega
 have N1:Hid (∀w',Par w' g A c m ts i dp 0->Calls Tryz.prog 53 #[.pointer (some ⟨g,0,none⟩),.I 1] w' (Still w' (.bool false))):=λw' h'=>by
  have:=c9! g c A m ts i dp 0 1 w' h' t ht
  rwa[show nextB t 0 1=false from by simp[nextB,hk]]at this
 have TK:Hid (∀w',Par w' g A c m ts i dp 0->Calls Tryz.prog 87 #[.pointer (some ⟨g,0,none⟩),.I 3] w' (ParTo w' g c A m ts dp (tkVal t) (i+1) 0)):=λw' h'=>by
  have:=e9! g c A m ts i dp 0 3 w' h' t ht (by decide)
  rwa[show nextB t 0 3=true from by simp[nextB,hk]]at this
 have CO:=h! (λi er w h=>c97! g c A m ts d H dp (by omega) h0 i er w h)
 have GO:stmtD (d+1) (ts.drop i)=stP (condP d) ts (i+1) 0:=by
  rw[a1! ht,f0! d t _ hk,hx];rw[if_pos rfl];unfold stP;rw[if_pos rfl]
 rw[GO]
 have e0:=w! [105,102] true hx
 clear h f0 x0 GO ht hk hx H
 go_enter Tryz.func92,Tryz.ntmps92
 go_upto_region 1 with fail
 rw[eW.out]
 clear eW
 have bp:=PB0.out.blk
 unfold a2! at bp
 have c2:=bp.c2
 clear bp
 go_wp2_with fail
 refine(N1.out _ PB0.out).mono ?_
 rintro e wq⟨rfl,q,rfl⟩
 have P0':=h! (PB0.out.drewN q)
 have X0':=h! (XB0.out.drewN q)
 have K0':=h! (KB0.out.drewN q)
 have zq:(WB.drewN q).heap.size=WB.heap.size:=rfl
 clear PB0 XB0 KB0 c2
 generalize WB.drewN q=WC at*
 go_wp2_with fail
 refine(TK.out _ P0'.out).mono ?_
 rintro e W0⟨rfl,pt,kt⟩
 have P0:=h! pt
 have X0:=k! X0' kt
 have K0:=q! K0' kt
 have zt:=kt.size
 clear pt kt P0' X0' K0' N1 TK
 go_wp2_with fail
 rw[j7!]
 go_wp2_with fail
 refine(CO.out (i+1) 0 W0 P0.out).mono ?_
 rintro e w1⟨v1,rfl,k1,⟨kd1,nm1,Aa1,la1,ca1,lo1,hi1,Ab1,lb1,cb1,Ac1,lc1,cc1,rfl⟩,i1,er1,p1,ps1⟩
 have z1:=k1.size
 have X1:=k! X0 k1
 have K1:=q! K0 k1
 have P1:=h! p1
 have PS1:=h! ps1
 have J1:=h! k1
 clear p1 k1 ps1 K0 P0 X0
 have hx:=X1.out
 obtain⟨sc0,sc1,sc2,sc3,sc4,sc5,sc6⟩:=hx.A7
 obtain⟨tc0,tc1,tc2,tc3,tc4,tc5,tc6⟩:=hx.F7
 go_wp2_with fail
 obtain⟨W9,e9,X9,k9⟩:=hx.e7 (.I kd1) (.string nm1) (.slice Aa1 la1 ca1) (.I lo1) (.I hi1) (.slice Ab1 lb1 cb1) (.slice Ac1 lc1 cc1)
 rw[e9]
 clear e9
 clear sc0 sc1 sc2 sc3 sc4 sc5 sc6
 obtain⟨sc0,sc1,sc2,sc3,sc4,sc5,sc6⟩:=X9.A7
 have KK:Kept (λz=>z=g) w W9:=K1.out.then_ k9 (λz hz e=>by omega)
 have TA:Hid (Kept (λz=>z<W0.heap.size∨w1.heap.size<=z) w1 W9):=d! k9
 refine bodyPost_ret (v:=.agg #[.I kd1,.string nm1,.slice Aa1 la1 ca1,.I lo1,.I hi1,.slice Ab1 lb1 cb1,.slice Ac1 lc1 cc1]) (by simp[results,Tryz.results92,go_sem,sc0,sc1,sc2,sc3,sc4,sc5,sc6]) rfl ⟨_,rfl,KK,⟨_,_,_,_,_,_,_,_,_,_,_,_,_,rfl⟩,i1,er1,HH.out.put P1.out.at_ (P1.out.blk.kept k9 (by omega)) KK,PS1.out.mono (λa ha=>ha.kept (c5! (d+1)) (by omega) TA.out (λk _ hk e=>by omega))⟩
theorem c99!(g c:Nat)(A:Option Addr)(m:Nat->Nat)(ts:List Tk)(d:Nat)(H:l8! g c A m ts d)(dp:Int)(hd:dp+((d+1:Nat):Int)=16)(h0:0<=dp)(i:Nat)(w:World)(h:Par w g A c m ts i dp 0)(t:Tk)(ht:ts[i]?=some t)(hk:t.kind=3)(hx:t.text=[102,111,114]):
 Calls Tryz.prog 92 #[.pointer (some ⟨g,0,none⟩)] w (a8! w g c A m ts dp (stmtD (d+1) (ts.drop i)) (IsEl (QS (d+1)) w.heap.size) ShSt):=by
 obtain⟨WB,eW,f0,x0,z0⟩:=n! w 95 #[.I 0,.E,.N,.I 0,.I 0,.N,.N]
 have hgl:=h.blk.lt
 have HH:=h! h
 have PB0:=h! (h.below f0)
 have XB0:=h! x0
 have KB0:=o! g f0
 have hdd:dp<16:=by omega
 have N1:Hid (∀w',Par w' g A c m ts i dp 0->Calls Tryz.prog 53 #[.pointer (some ⟨g,0,none⟩),.I 1] w' (Still w' (.bool false))):=λw' h'=>by
  have:=c9! g c A m ts i dp 0 1 w' h' t ht
  rwa[show nextB t 0 1=false from by simp[nextB,hk]]at this
 have TK:Hid (∀w',Par w' g A c m ts i dp 0->Calls Tryz.prog 87 #[.pointer (some ⟨g,0,none⟩),.I 3] w' (ParTo w' g c A m ts dp (tkVal t) (i+1) 0)):=λw' h'=>by
  have:=e9! g c A m ts i dp 0 3 w' h' t ht (by decide)
  rwa[show nextB t 0 3=true from by simp[nextB,hk]]at this
 have NM:=h! (λi er w h=>n4! g c A m ts i dp er w h)
 have SG:=h! (λi er w h=>y4! g c A m ts i dp er w h)
 have MT:=h! (λi er w h=>e1! g c A m ts i dp er [100,111] w h)
 have MD:=h! (λi er w h=>e1! g c A m ts i dp er [101,110,100] w h)
 have INN:=h! (λi er w h=>a80! g c A m ts d H dp (by omega) h0 i er w h)
 have GO:stmtD (d+1) (ts.drop i)=stP (forP d) ts (i+1) 0:=by
  rw[a1! ht,f0! d t _ hk,hx];rw[if_neg (by decide)];rw[if_pos rfl];unfold stP;rw[if_pos rfl]
 rw[GO,a88!]
 have e0:=w! [105,102] false hx
 have e1:=w! [102,111,114] true hx
 clear h f0 x0 GO ht hk hx H
 go_enter Tryz.func92,Tryz.ntmps92
 go_upto_region 1 with fail
 rw[eW.out]
 clear eW
 have bp:=PB0.out.blk
 unfold a2! at bp
 have c2:=bp.c2
 clear bp
 go_wp2_with fail
 refine(N1.out _ PB0.out).mono ?_
 rintro e wq⟨rfl,q,rfl⟩
 have P0':=h! (PB0.out.drewN q)
 have X0':=h! (XB0.out.drewN q)
 have K0':=h! (KB0.out.drewN q)
 have zq:(WB.drewN q).heap.size=WB.heap.size:=rfl
 clear PB0 XB0 KB0 c2
 generalize WB.drewN q=WC at*
 go_wp2_with fail
 refine(TK.out _ P0'.out).mono ?_
 rintro e W0⟨rfl,pt,kt⟩
 have P0:=h! pt
 have X0:=k! X0' kt
 have K0:=q! K0' kt
 have zt:=kt.size
 clear pt kt P0' X0' K0' N1 TK
 go_wp2_with fail
 rw[j7!]
 go_wp2_with fail
 refine(NM.out (i+1) 0 W0 P0.out).mono ?_
 rintro e w1⟨v1,rfl,k1,⟨s1,rfl⟩,i1,er1,p1,ps1⟩
 have z1:=k1.size
 have X1:=k! X0 k1
 have K1:=q! K0 k1
 have P1:=h! p1
 have PS1:=h! ps1
 have J1:=h! k1
 clear p1 k1 ps1 K0 P0 X0
 go_upto_region 11 with fail
 obtain⟨W2,eW,f2,Y2,z2⟩:=n! w1 95 #[.I 3,.string s1,.N,.I 0,.I 0,.N,.N]
 replace Y2:=h! Y2
 have P2:=h! (P1.out.below f2)
 have X2:=b! X1 f2
 have K2:=e! K1 f2
 have J2:=o! g f2
 have xl2:=X1.out.lt
 clear f2 K1 P1 X1
 rw[eW.out]
 clear eW
 go_wp2_with fail
 refine(SG.out i1 er1 W2 P2.out).mono ?_
 rintro e w3⟨v3,rfl,k3,⟨n3,rfl⟩,i3,er3,p3,ps3⟩
 have z3:=k3.size
 have X3:=k! X2 k3
 have Y3:=k! Y2 k3
 have K3:=q! K2 k3
 have P3:=h! p3
 have PS3:=h! (PS1.out.then_ ps3)
 have J3:=h! k3
 clear p3 k3 ps3 K2 P2 X2 Y2 PS1
 have fz:=Y3.out.frozen 3
 have ez:=Y3.out.c3
 go_wp2_with fail
 obtain⟨W4,e9,Y4,k4⟩:=Y3.out.u3 (.I n3)
 rw[e9]
 clear e9
 have X4:=k! X3 k4
 have K4:=t! K3 k4
 have P4:=h! (HH.out.put P3.out.at_ (P3.out.blk.kept k4 (by omega)) K4.out)
 have J4:=h! k4
 have z4:=k4.size
 clear k4 Y3 X3 K3 P3
 clear fz ez
 refine(SG.out i3 er3 W4 P4.out).mono ?_
 rintro e w5⟨v5,rfl,k5,⟨n5,rfl⟩,i5,er5,p5,ps5⟩
 have z5:=k5.size
 have X5:=k! X4 k5
 have Y5:=k! Y4 k5
 have K5:=q! K4 k5
 have P5:=h! p5
 have PS5:=h! (PS3.out.then_ ps5)
 have J5:=h! k5
 clear p5 k5 ps5 K4 P4 X4 Y4 PS3
 have fz:=Y5.out.frozen 4
 have ez:=Y5.out.c4
 go_wp2_with fail
 obtain⟨W6,e9,Y6,k6⟩:=Y5.out.u4 (.I n5)
 rw[e9]
 clear e9
 have X6:=k! X5 k6
 have K6:=t! K5 k6
 have P6:=h! (HH.out.put P5.out.at_ (P5.out.blk.kept k6 (by omega)) K6.out)
 have J6:=h! k6
 have z6:=k6.size
 clear k6 Y5 X5 K5 P5
 clear fz ez
 refine(MT.out i5 er5 W6 P6.out).mono ?_
 rintro e w7⟨v7,rfl,k7,rfl,i7,er7,p7,ps7⟩
 have z7:=k7.size
 have X7:=k! X6 k7
 have Y7:=k! Y6 k7
 have K7:=q! K6 k7
 have P7:=h! p7
 have PS7:=h! (PS5.out.then_ ps7)
 have J7:=h! k7
 clear p7 k7 ps7 K6 P6 X6 Y6 PS5
 go_wp2_with fail
 refine(INN.out i7 er7 w7 P7.out).mono ?_
 rintro e w8⟨v8,rfl,k8,⟨A8,l8,q8,rfl⟩,i8,er8,p8,ps8⟩
 have z8:=k8.size
 have X8:=k! X7 k8
 have Y8:=k! Y7 k8
 have K8:=q! K7 k8
 have P8:=h! p8
 have PS8:=h! (PS7.out.then_ ps8)
 have J8:=h! k8
 clear p8 k8 ps8 K7 P7 X7 Y7 PS7
 have fz:=Y8.out.frozen 5
 have ez:=Y8.out.c5
 go_wp2_with fail
 obtain⟨W9,e9,Y9,k9⟩:=Y8.out.u5 (.slice A8 l8 q8)
 rw[e9]
 clear e9
 have X9:=k! X8 k9
 have K9:=t! K8 k9
 have P9:=h! (HH.out.put P8.out.at_ (P8.out.blk.kept k9 (by omega)) K9.out)
 have J9:=h! k9
 have z9:=k9.size
 clear k9 Y8 X8 K8 P8
 clear fz ez
 refine(MD.out i8 er8 W9 P9.out).mono ?_
 rintro e w10⟨v10,rfl,k10,rfl,i10,er10,p10,ps10⟩
 have z10:=k10.size
 have X10:=k! X9 k10
 have Y10:=k! Y9 k10
 have K10:=q! K9 k10
 have P10:=h! p10
 have PS10:=h! (PS8.out.then_ ps10)
 have J10:=h! k10
 clear p10 k10 ps10 K9 P9 X9 Y9 PS8
 go_upto_region 16 with fail
 obtain⟨qc0,qc1,qc2,qc3,qc4,qc5,qc6⟩:=Y10.out.A7
 have hx:=X10.out
 obtain⟨sc0,sc1,sc2,sc3,sc4,sc5,sc6⟩:=hx.A7
 obtain⟨tc0,tc1,tc2,tc3,tc4,tc5,tc6⟩:=hx.F7
 go_wp2_with fail
 obtain⟨W9,e9,X9,k9⟩:=hx.e7 (.I 3) (.string s1) (.N) (.I n3) (.I n5) (.slice A8 l8 q8) (.N)
 rw[e9]
 clear e9
 clear sc0 sc1 sc2 sc3 sc4 sc5 sc6 qc0 qc1 qc2 qc3 qc4 qc5 qc6
 obtain⟨sc0,sc1,sc2,sc3,sc4,sc5,sc6⟩:=X9.A7
 have KK:Kept (λz=>z=g) w W9:=K10.out.then_ k9 (λz hz e=>by omega)
 have TC:Hid (Kept (λz=>z<w7.heap.size∨w8.heap.size<=z) w8 W9):=i! J9 (i! J10 (d! k9))
 refine bodyPost_ret (v:=.agg #[.I 3,.string s1,.N,.I n3,.I n5,.slice A8 l8 q8,.N]) (by simp[results,Tryz.results92,go_sem,sc0,sc1,sc2,sc3,sc4,sc5,sc6]) rfl ⟨_,rfl,KK,⟨_,_,_,_,_,_,_,_,_,_,_,_,_,rfl⟩,i10,er10,HH.out.put P10.out.at_ (P10.out.blk.kept k9 (by omega)) KK,PS10.out.map _ ?_⟩
 rintro⟨⟨⟨⟨⟨x1,lo⟩,hi⟩,u1⟩,l⟩,u2⟩ ⟨⟨⟨⟨⟨h1,h2⟩,h3⟩,-⟩,h4⟩,-⟩
 injection h1 with h1
 injection h2 with _ h2
 injection h3 with _ h3
 refine⟨_,rfl,none,0,0,A8,l8,q8,none,0,0,?_,ElsG.none_ _ _ _ _ _ _,(h4.kept (c5! d) (by omega) TC.out (λk _ hk e=>by omega)).els,ElsG.none_ _ _ _ _ _ _⟩
 rw[h1,h2,h3]
theorem d00!(g c:Nat)(A:Option Addr)(m:Nat->Nat)(ts:List Tk)(d:Nat)(dp:Int)(hd:dp+((d+1:Nat):Int)=16)(h0:0<=dp)(i:Nat)(w:World)(h:Par w g A c m ts i dp 0)(t:Tk)(ht:ts[i]?=some t)(hk:t.kind=3)(hx:t.text=[114,101,102,117,115,101]):
 Calls Tryz.prog 92 #[.pointer (some ⟨g,0,none⟩)] w (a8! w g c A m ts dp (stmtD (d+1) (ts.drop i)) (IsEl (QS (d+1)) w.heap.size) ShSt):=by
 obtain⟨WB,eW,f0,x0,z0⟩:=n! w 95 #[.I 0,.E,.N,.I 0,.I 0,.N,.N]
 have hgl:=h.blk.lt
 have HH:=h! h
 have PB0:=h! (h.below f0)
 have XB0:=h! x0
 have KB0:=o! g f0
 have hdd:dp<16:=by omega
 have N1:Hid (∀w',Par w' g A c m ts i dp 0->Calls Tryz.prog 53 #[.pointer (some ⟨g,0,none⟩),.I 1] w' (Still w' (.bool false))):=λw' h'=>by
  have:=c9! g c A m ts i dp 0 1 w' h' t ht
  rwa[show nextB t 0 1=false from by simp[nextB,hk]]at this
 have TK:Hid (∀w',Par w' g A c m ts i dp 0->Calls Tryz.prog 87 #[.pointer (some ⟨g,0,none⟩),.I 3] w' (ParTo w' g c A m ts dp (tkVal t) (i+1) 0)):=λw' h'=>by
  have:=e9! g c A m ts i dp 0 3 w' h' t ht (by decide)
  rwa[show nextB t 0 3=true from by simp[nextB,hk]]at this
 have GO:stmtD (d+1) (ts.drop i)=stP refP ts (i+1) 0:=by
  rw[a1! ht,f0! d t _ hk,hx];rw[if_neg (by decide)];rw[if_neg (by decide)];rw[if_pos rfl];unfold stP;rw[if_pos rfl]
 rw[GO]
 have e0:=w! [105,102] false hx
 have e1:=w! [102,111,114] false hx
 have e2:=w! [114,101,102,117,115,101] true hx
 clear h f0 x0 GO ht hk hx
 go_enter Tryz.func92,Tryz.ntmps92
 go_upto_region 1 with fail
 rw[eW.out]
 clear eW
 have bp:=PB0.out.blk
 unfold a2! at bp
 have c2:=bp.c2
 clear bp
 go_wp2_with fail
 refine(N1.out _ PB0.out).mono ?_
 rintro e wq⟨rfl,q,rfl⟩
 have P0':=h! (PB0.out.drewN q)
 have X0':=h! (XB0.out.drewN q)
 have K0':=h! (KB0.out.drewN q)
 have zq:(WB.drewN q).heap.size=WB.heap.size:=rfl
 clear PB0 XB0 KB0 c2
 generalize WB.drewN q=WC at*
 go_wp2_with fail
 refine(TK.out _ P0'.out).mono ?_
 rintro e W0⟨rfl,pt,kt⟩
 have P0:=h! pt
 have X0:=k! X0' kt
 have K0:=q! K0' kt
 have zt:=kt.size
 clear pt kt P0' X0' K0' N1 TK
 go_wp2_with fail
 rw[j7!]
 have PSR:Hid (PsAt ts (i+1) 0 (stP refP ts (i+1) 0) (λa=>a=.mk 4 [] [] 0 0 [] [])):=⟨rfl,rfl,rfl⟩
 go_upto_region 18 with fail
 have hx:=X0.out
 obtain⟨sc0,sc1,sc2,sc3,sc4,sc5,sc6⟩:=hx.A7
 obtain⟨tc0,tc1,tc2,tc3,tc4,tc5,tc6⟩:=hx.F7
 go_wp2_with fail
 obtain⟨W9,e9,X9,k9⟩:=hx.e7 (.I 4) (.E) (.N) (.I 0) (.I 0) (.N) (.N)
 rw[e9]
 clear e9
 clear sc0 sc1 sc2 sc3 sc4 sc5 sc6
 obtain⟨sc0,sc1,sc2,sc3,sc4,sc5,sc6⟩:=X9.A7
 have KK:Kept (λz=>z=g) w W9:=K0.out.then_ k9 (λz hz e=>by omega)
 refine bodyPost_ret (v:=.agg #[.I 4,.E,.N,.I 0,.I 0,.N,.N]) (by simp[results,Tryz.results92,go_sem,sc0,sc1,sc2,sc3,sc4,sc5,sc6]) rfl ⟨_,rfl,KK,⟨_,_,_,_,_,_,_,_,_,_,_,_,_,rfl⟩,(i+1),0,HH.out.put P0.out.at_ (P0.out.blk.kept k9 (by omega)) KK,PSR.out.mono ?_⟩
 rintro a ha
 have ha:a=_:=ha
 subst ha
 exact⟨_,rfl,none,0,0,none,0,0,none,0,0,rfl,ElsG.none_ _ _ _ _ _ _,ElsG.none_ _ _ _ _ _ _,ElsG.none_ _ _ _ _ _ _⟩
theorem d01!(g c:Nat)(A:Option Addr)(m:Nat->Nat)(ts:List Tk)(d:Nat)(dp:Int)(hd:dp+((d+1:Nat):Int)=16)(h0:0<=dp)(i:Nat)(w:World)(h:Par w g A c m ts i dp 0)(t:Tk)(ht:ts[i]?=some t)(hk:t.kind=3)(hx:t.text=[111,118,101,114]):
 Calls Tryz.prog 92 #[.pointer (some ⟨g,0,none⟩)] w (a8! w g c A m ts dp (stmtD (d+1) (ts.drop i)) (IsEl (QS (d+1)) w.heap.size) ShSt):=by
 obtain⟨WB,eW,f0,x0,z0⟩:=n! w 95 #[.I 0,.E,.N,.I 0,.I 0,.N,.N]
 have hgl:=h.blk.lt
 have HH:=h! h
 have PB0:=h! (h.below f0)
 have XB0:=h! x0
 have KB0:=o! g f0
 have hdd:dp<16:=by omega
 have N1:Hid (∀w',Par w' g A c m ts i dp 0->Calls Tryz.prog 53 #[.pointer (some ⟨g,0,none⟩),.I 1] w' (Still w' (.bool false))):=λw' h'=>by
  have:=c9! g c A m ts i dp 0 1 w' h' t ht
  rwa[show nextB t 0 1=false from by simp[nextB,hk]]at this
 have TK:Hid (∀w',Par w' g A c m ts i dp 0->Calls Tryz.prog 87 #[.pointer (some ⟨g,0,none⟩),.I 3] w' (ParTo w' g c A m ts dp (tkVal t) (i+1) 0)):=λw' h'=>by
  have:=e9! g c A m ts i dp 0 3 w' h' t ht (by decide)
  rwa[show nextB t 0 3=true from by simp[nextB,hk]]at this
 have GO:stmtD (d+1) (ts.drop i)=stP overP ts (i+1) 0:=by
  rw[a1! ht,f0! d t _ hk,hx];rw[if_neg (by decide)];rw[if_neg (by decide)];rw[if_neg (by decide)];rw[if_neg (by decide)];rw[if_neg (by decide)];rw[if_pos rfl];unfold stP;rw[if_pos rfl]
 rw[GO]
 have e0:=w! [105,102] false hx
 have e1:=w! [102,111,114] false hx
 have e2:=w! [114,101,102,117,115,101] false hx
 have e3:=w! [114,111,108,108] false hx
 have e4:=w! [115,101,97,116] false hx
 have e5:=w! [111,118,101,114] true hx
 clear h f0 x0 GO ht hk hx
 go_enter Tryz.func92,Tryz.ntmps92
 go_upto_region 1 with fail
 rw[eW.out]
 clear eW
 have bp:=PB0.out.blk
 unfold a2! at bp
 have c2:=bp.c2
 clear bp
 go_wp2_with fail
 refine(N1.out _ PB0.out).mono ?_
 rintro e wq⟨rfl,q,rfl⟩
 have P0':=h! (PB0.out.drewN q)
 have X0':=h! (XB0.out.drewN q)
 have K0':=h! (KB0.out.drewN q)
 have zq:(WB.drewN q).heap.size=WB.heap.size:=rfl
 clear PB0 XB0 KB0 c2
 generalize WB.drewN q=WC at*
 go_wp2_with fail
 refine(TK.out _ P0'.out).mono ?_
 rintro e W0⟨rfl,pt,kt⟩
 have P0:=h! pt
 have X0:=k! X0' kt
 have K0:=q! K0' kt
 have zt:=kt.size
 clear pt kt P0' X0' K0' N1 TK
 go_wp2_with fail
 rw[j7!]
 have PSR:Hid (PsAt ts (i+1) 0 (stP overP ts (i+1) 0) (λa=>a=.mk 7 [] [] 0 0 [] [])):=⟨rfl,rfl,rfl⟩
 go_upto_region 26 with fail
 have hx:=X0.out
 obtain⟨sc0,sc1,sc2,sc3,sc4,sc5,sc6⟩:=hx.A7
 obtain⟨tc0,tc1,tc2,tc3,tc4,tc5,tc6⟩:=hx.F7
 go_wp2_with fail
 obtain⟨W9,e9,X9,k9⟩:=hx.e7 (.I 7) (.E) (.N) (.I 0) (.I 0) (.N) (.N)
 rw[e9]
 clear e9
 clear sc0 sc1 sc2 sc3 sc4 sc5 sc6
 obtain⟨sc0,sc1,sc2,sc3,sc4,sc5,sc6⟩:=X9.A7
 have KK:Kept (λz=>z=g) w W9:=K0.out.then_ k9 (λz hz e=>by omega)
 refine bodyPost_ret (v:=.agg #[.I 7,.E,.N,.I 0,.I 0,.N,.N]) (by simp[results,Tryz.results92,go_sem,sc0,sc1,sc2,sc3,sc4,sc5,sc6]) rfl ⟨_,rfl,KK,⟨_,_,_,_,_,_,_,_,_,_,_,_,_,rfl⟩,(i+1),0,HH.out.put P0.out.at_ (P0.out.blk.kept k9 (by omega)) KK,PSR.out.mono ?_⟩
 rintro a ha
 have ha:a=_:=ha
 subst ha
 exact⟨_,rfl,none,0,0,none,0,0,none,0,0,rfl,ElsG.none_ _ _ _ _ _ _,ElsG.none_ _ _ _ _ _ _,ElsG.none_ _ _ _ _ _ _⟩
theorem d02!(g c:Nat)(A:Option Addr)(m:Nat->Nat)(ts:List Tk)(d:Nat)(dp:Int)(hd:dp+((d+1:Nat):Int)=16)(h0:0<=dp)(i:Nat)(w:World)(h:Par w g A c m ts i dp 0)(t:Tk)(ht:ts[i]?=some t)(hk:t.kind=3)(hx:t.text=[114,111,108,108]):
 Calls Tryz.prog 92 #[.pointer (some ⟨g,0,none⟩)] w (a8! w g c A m ts dp (stmtD (d+1) (ts.drop i)) (IsEl (QS (d+1)) w.heap.size) ShSt):=by
 obtain⟨WB,eW,f0,x0,z0⟩:=n! w 95 #[.I 0,.E,.N,.I 0,.I 0,.N,.N]
 have hgl:=h.blk.lt
 have HH:=h! h
 have PB0:=h! (h.below f0)
 have XB0:=h! x0
 have KB0:=o! g f0
 have hdd:dp<16:=by omega
 have N1:Hid (∀w',Par w' g A c m ts i dp 0->Calls Tryz.prog 53 #[.pointer (some ⟨g,0,none⟩),.I 1] w' (Still w' (.bool false))):=λw' h'=>by
  have:=c9! g c A m ts i dp 0 1 w' h' t ht
  rwa[show nextB t 0 1=false from by simp[nextB,hk]]at this
 have TK:Hid (∀w',Par w' g A c m ts i dp 0->Calls Tryz.prog 87 #[.pointer (some ⟨g,0,none⟩),.I 3] w' (ParTo w' g c A m ts dp (tkVal t) (i+1) 0)):=λw' h'=>by
  have:=e9! g c A m ts i dp 0 3 w' h' t ht (by decide)
  rwa[show nextB t 0 3=true from by simp[nextB,hk]]at this
 have NM:=h! (λi er w h=>n4! g c A m ts i dp er w h)
 have NU:=h! (λi er w h=>p3! g c A m ts i dp er w h)
 have GO:stmtD (d+1) (ts.drop i)=stP rollP ts (i+1) 0:=by
  rw[a1! ht,f0! d t _ hk,hx];rw[if_neg (by decide)];rw[if_neg (by decide)];rw[if_neg (by decide)];rw[if_pos rfl];unfold stP;rw[if_pos rfl]
 rw[GO,a89!]
 have e0:=w! [105,102] false hx
 have e1:=w! [102,111,114] false hx
 have e2:=w! [114,101,102,117,115,101] false hx
 have e3:=w! [114,111,108,108] true hx
 clear h f0 x0 GO ht hk hx
 go_enter Tryz.func92,Tryz.ntmps92
 go_upto_region 1 with fail
 rw[eW.out]
 clear eW
 have bp:=PB0.out.blk
 unfold a2! at bp
 have c2:=bp.c2
 clear bp
 go_wp2_with fail
 refine(N1.out _ PB0.out).mono ?_
 rintro e wq⟨rfl,q,rfl⟩
 have P0':=h! (PB0.out.drewN q)
 have X0':=h! (XB0.out.drewN q)
 have K0':=h! (KB0.out.drewN q)
 have zq:(WB.drewN q).heap.size=WB.heap.size:=rfl
 clear PB0 XB0 KB0 c2
 generalize WB.drewN q=WC at*
 go_wp2_with fail
 refine(TK.out _ P0'.out).mono ?_
 rintro e W0⟨rfl,pt,kt⟩
 have P0:=h! pt
 have X0:=k! X0' kt
 have K0:=q! K0' kt
 have zt:=kt.size
 clear pt kt P0' X0' K0' N1 TK
 go_wp2_with fail
 rw[j7!]
 go_wp2_with fail
 refine(NM.out (i+1) 0 W0 P0.out).mono ?_
 rintro e w1⟨v1,rfl,k1,⟨s1,rfl⟩,i1,er1,p1,ps1⟩
 have z1:=k1.size
 have X1:=k! X0 k1
 have K1:=q! K0 k1
 have P1:=h! p1
 have PS1:=h! ps1
 have J1:=h! k1
 clear p1 k1 ps1 K0 P0 X0
 go_upto_region 21 with fail
 obtain⟨W2,eW,f2,Y2,z2⟩:=n! w1 95 #[.I 5,.string s1,.N,.I 0,.I 0,.N,.N]
 replace Y2:=h! Y2
 have P2:=h! (P1.out.below f2)
 have X2:=b! X1 f2
 have K2:=e! K1 f2
 have J2:=o! g f2
 have xl2:=X1.out.lt
 clear f2 K1 P1 X1
 rw[eW.out]
 clear eW
 go_wp2_with fail
 refine(NU.out i1 er1 W2 P2.out).mono ?_
 rintro e w3⟨v3,rfl,k3,⟨n3,rfl⟩,i3,er3,p3,ps3⟩
 have z3:=k3.size
 have X3:=k! X2 k3
 have Y3:=k! Y2 k3
 have K3:=q! K2 k3
 have P3:=h! p3
 have PS3:=h! (PS1.out.then_ ps3)
 have J3:=h! k3
 clear p3 k3 ps3 K2 P2 X2 Y2 PS1
 have fz:=Y3.out.frozen 3
 have ez:=Y3.out.c3
 go_upto_region 22 with fail
 obtain⟨W4,e9,Y4,k4⟩:=Y3.out.u3 (.I n3)
 rw[e9]
 clear e9
 have X4:=k! X3 k4
 have K4:=t! K3 k4
 have P4:=h! (HH.out.put P3.out.at_ (P3.out.blk.kept k4 (by omega)) K4.out)
 have J4:=h! k4
 have z4:=k4.size
 clear k4 Y3 X3 K3 P3
 clear fz ez
 obtain⟨qc0,qc1,qc2,qc3,qc4,qc5,qc6⟩:=Y4.out.A7
 have hx:=X4.out
 obtain⟨sc0,sc1,sc2,sc3,sc4,sc5,sc6⟩:=hx.A7
 obtain⟨tc0,tc1,tc2,tc3,tc4,tc5,tc6⟩:=hx.F7
 go_wp2_with fail
 obtain⟨W9,e9,X9,k9⟩:=hx.e7 (.I 5) (.string s1) (.N) (.I n3) (.I 0) (.N) (.N)
 rw[e9]
 clear e9
 clear sc0 sc1 sc2 sc3 sc4 sc5 sc6 qc0 qc1 qc2 qc3 qc4 qc5 qc6
 obtain⟨sc0,sc1,sc2,sc3,sc4,sc5,sc6⟩:=X9.A7
 have KK:Kept (λz=>z=g) w W9:=K4.out.then_ k9 (λz hz e=>by omega)
 refine bodyPost_ret (v:=.agg #[.I 5,.string s1,.N,.I n3,.I 0,.N,.N]) (by simp[results,Tryz.results92,go_sem,sc0,sc1,sc2,sc3,sc4,sc5,sc6]) rfl ⟨_,rfl,KK,⟨_,_,_,_,_,_,_,_,_,_,_,_,_,rfl⟩,i3,er3,HH.out.put P4.out.at_ (P4.out.blk.kept k9 (by omega)) KK,PS3.out.map _ ?_⟩
 rintro⟨x1,n⟩ ⟨h1,h2⟩
 injection h1 with h1
 injection h2 with _ h2
 refine⟨_,rfl,none,0,0,none,0,0,none,0,0,?_,ElsG.none_ _ _ _ _ _ _,ElsG.none_ _ _ _ _ _ _,ElsG.none_ _ _ _ _ _ _⟩
 rw[h1,h2]
theorem d03!(g c:Nat)(A:Option Addr)(m:Nat->Nat)(ts:List Tk)(d:Nat)(dp:Int)(hd:dp+((d+1:Nat):Int)=16)(h0:0<=dp)(i:Nat)(w:World)(h:Par w g A c m ts i dp 0)(t:Tk)(ht:ts[i]?=some t)(hk:t.kind=3)(hx:t.text=[115,101,97,116]):
 Calls Tryz.prog 92 #[.pointer (some ⟨g,0,none⟩)] w (a8! w g c A m ts dp (stmtD (d+1) (ts.drop i)) (IsEl (QS (d+1)) w.heap.size) ShSt):=by
 obtain⟨WB,eW,f0,x0,z0⟩:=n! w 95 #[.I 0,.E,.N,.I 0,.I 0,.N,.N]
 have hgl:=h.blk.lt
 have HH:=h! h
 have PB0:=h! (h.below f0)
 have XB0:=h! x0
 have KB0:=o! g f0
 have hdd:dp<16:=by omega
 have N1:Hid (∀w',Par w' g A c m ts i dp 0->Calls Tryz.prog 53 #[.pointer (some ⟨g,0,none⟩),.I 1] w' (Still w' (.bool false))):=λw' h'=>by
  have:=c9! g c A m ts i dp 0 1 w' h' t ht
  rwa[show nextB t 0 1=false from by simp[nextB,hk]]at this
 have TK:Hid (∀w',Par w' g A c m ts i dp 0->Calls Tryz.prog 87 #[.pointer (some ⟨g,0,none⟩),.I 3] w' (ParTo w' g c A m ts dp (tkVal t) (i+1) 0)):=λw' h'=>by
  have:=e9! g c A m ts i dp 0 3 w' h' t ht (by decide)
  rwa[show nextB t 0 3=true from by simp[nextB,hk]]at this
 have EX:=h! (λi er w h=>p5! g c A m ts i dp er w h)
 have GO:stmtD (d+1) (ts.drop i)=stP seatP ts (i+1) 0:=by
  rw[a1! ht,f0! d t _ hk,hx];rw[if_neg (by decide)];rw[if_neg (by decide)];rw[if_neg (by decide)];rw[if_neg (by decide)];rw[if_pos rfl];unfold stP;rw[if_pos rfl]
 rw[GO,a90!]
 have e0:=w! [105,102] false hx
 have e1:=w! [102,111,114] false hx
 have e2:=w! [114,101,102,117,115,101] false hx
 have e3:=w! [114,111,108,108] false hx
 have e4:=w! [115,101,97,116] true hx
 clear h f0 x0 GO ht hk hx
 go_enter Tryz.func92,Tryz.ntmps92
 go_upto_region 1 with fail
 rw[eW.out]
 clear eW
 have bp:=PB0.out.blk
 unfold a2! at bp
 have c2:=bp.c2
 clear bp
 go_wp2_with fail
 refine(N1.out _ PB0.out).mono ?_
 rintro e wq⟨rfl,q,rfl⟩
 have P0':=h! (PB0.out.drewN q)
 have X0':=h! (XB0.out.drewN q)
 have K0':=h! (KB0.out.drewN q)
 have zq:(WB.drewN q).heap.size=WB.heap.size:=rfl
 clear PB0 XB0 KB0 c2
 generalize WB.drewN q=WC at*
 go_wp2_with fail
 refine(TK.out _ P0'.out).mono ?_
 rintro e W0⟨rfl,pt,kt⟩
 have P0:=h! pt
 have X0:=k! X0' kt
 have K0:=q! K0' kt
 have zt:=kt.size
 clear pt kt P0' X0' K0' N1 TK
 go_wp2_with fail
 rw[j7!]
 go_wp2_with fail
 refine(EX.out (i+1) 0 W0 P0.out).mono ?_
 rintro e w1⟨v1,rfl,k1,⟨op1,N1,nm1,B1,l1,q1,rfl⟩,i1,er1,p1,ps1⟩
 have z1:=k1.size
 have X1:=k! X0 k1
 have K1:=q! K0 k1
 have P1:=h! p1
 have PS1:=h! ps1
 have J1:=h! k1
 clear p1 k1 ps1 K0 P0 X0
 have f2:=a! w1 (.cells #[.I op1,.I N1,.string nm1,.slice B1 l1 q1] 40)
 have B2:=h! (Blk.new w1 40 #[.I op1,.I N1,.string nm1,.slice B1 l1 q1])
 have P2:=h! (P1.out.below f2)
 have X2:=b! X1 f2
 have hx:Blk (w1.alloc (.cells #[.I op1,.I N1,.string nm1,.slice B1 l1 q1] 40)) w.heap.size 95 #[.I 0,.E,.N,.I 0,.I 0,.N,.N]:=X2.out
 have K2:=e! K1 f2
 have J2:=o! g f2
 have z2:=z! w1 (.cells #[.I op1,.I N1,.string nm1,.slice B1 l1 q1] 40)
 clear f2 K1 P1 X1
 obtain⟨pc0,pc1,pc2,pc3,pc4,pc5,pc6⟩:=hx.A7
 obtain⟨pt0,pt1,pt2,pt3,pt4,pt5,pt6⟩:=hx.F7
 clear hx
 go_wp2_with fail
 clear pc0 pc1 pc2 pc3 pc4 pc5 pc6 pt0 pt1 pt2 pt3 pt4 pt5 pt6
 have hx:=X2.out
 obtain⟨sc0,sc1,sc2,sc3,sc4,sc5,sc6⟩:=hx.A7
 obtain⟨tc0,tc1,tc2,tc3,tc4,tc5,tc6⟩:=hx.F7
 skip
 obtain⟨W9,e9,X9,k9⟩:=hx.e7 (.I 6) (.E) (.slice (some ⟨w1.heap.size,0,none⟩) 1 1) (.I 0) (.I 0) (.N) (.N)
 rw[e9]
 clear e9
 clear sc0 sc1 sc2 sc3 sc4 sc5 sc6
 obtain⟨sc0,sc1,sc2,sc3,sc4,sc5,sc6⟩:=X9.A7
 have KK:Kept (λz=>z=g) w W9:=K2.out.then_ k9 (λz hz e=>by omega)
 have TA:Hid (Kept (λz=>z<W0.heap.size∨w1.heap.size<=z) w1 W9):=i! J2 (d! k9)
 have TB:Hid (Kept (λz=>z<w1.heap.size∨w1.heap.size+1<=z) (w1.alloc (.cells #[.I op1,.I N1,.string nm1,.slice B1 l1 q1] 40)) W9):=d! k9
 refine bodyPost_ret (v:=.agg #[.I 6,.E,.slice (some ⟨w1.heap.size,0,none⟩) 1 1,.I 0,.I 0,.N,.N]) (by simp[results,Tryz.results92,go_sem,sc0,sc1,sc2,sc3,sc4,sc5,sc6]) rfl ⟨_,rfl,KK,⟨_,_,_,_,_,_,_,_,_,_,_,_,_,rfl⟩,i1,er1,HH.out.put P2.out.at_ (P2.out.blk.kept k9 (by omega)) KK,PS1.out.map _ ?_⟩
 rintro x1 h1
 exact⟨_,rfl,_,_,_,none,0,0,none,0,0,rfl,u7! (cs:=[.I op1,.I N1,.string nm1,.slice B1 l1 q1]) (B2.out.kept TB.out (λe=>by omega)) rfl (by omega) ((h1.kept h5! (by omega) TA.out (λk _ hk e=>by omega)).cells (cs:=[.I op1,.I N1,.string nm1,.slice B1 l1 q1])),ElsG.none_ _ _ _ _ _ _,ElsG.none_ _ _ _ _ _ _⟩
theorem d04!(g c:Nat)(A:Option Addr)(m:Nat->Nat)(ts:List Tk)(d:Nat)(dp:Int)(hd:dp+((d+1:Nat):Int)=16)(h0:0<=dp)(i:Nat)(w:World)(h:Par w g A c m ts i dp 0)(t:Tk)(ht:ts[i]?=some t)(hk:t.kind=3)(hx:t.text=[114,101,115,116]):
 Calls Tryz.prog 92 #[.pointer (some ⟨g,0,none⟩)] w (a8! w g c A m ts dp (stmtD (d+1) (ts.drop i)) (IsEl (QS (d+1)) w.heap.size) ShSt):=by
 obtain⟨WB,eW,f0,x0,z0⟩:=n! w 95 #[.I 0,.E,.N,.I 0,.I 0,.N,.N]
 have hgl:=h.blk.lt
 have HH:=h! h
 have PB0:=h! (h.below f0)
 have XB0:=h! x0
 have KB0:=o! g f0
 have hdd:dp<16:=by omega
 have N1:Hid (∀w',Par w' g A c m ts i dp 0->Calls Tryz.prog 53 #[.pointer (some ⟨g,0,none⟩),.I 1] w' (Still w' (.bool false))):=λw' h'=>by
  have:=c9! g c A m ts i dp 0 1 w' h' t ht
  rwa[show nextB t 0 1=false from by simp[nextB,hk]]at this
 have TK:Hid (∀w',Par w' g A c m ts i dp 0->Calls Tryz.prog 87 #[.pointer (some ⟨g,0,none⟩),.I 3] w' (ParTo w' g c A m ts dp (tkVal t) (i+1) 0)):=λw' h'=>by
  have:=e9! g c A m ts i dp 0 3 w' h' t ht (by decide)
  rwa[show nextB t 0 3=true from by simp[nextB,hk]]at this
 have EX:=h! (λi er w h=>p5! g c A m ts i dp er w h)
 have GO:stmtD (d+1) (ts.drop i)=stP restP ts (i+1) 0:=by
  rw[a1! ht,f0! d t _ hk,hx];rw[if_neg (by decide)];rw[if_neg (by decide)];rw[if_neg (by decide)];rw[if_neg (by decide)];rw[if_neg (by decide)];rw[if_neg (by decide)];rw[if_neg (by decide)];unfold stP;rw[if_pos rfl]
 rw[GO,a91!]
 have e0:=w! [105,102] false hx
 have e1:=w! [102,111,114] false hx
 have e2:=w! [114,101,102,117,115,101] false hx
 have e3:=w! [114,111,108,108] false hx
 have e4:=w! [115,101,97,116] false hx
 have e5:=w! [111,118,101,114] false hx
 have e6:=w! [112,97,121] false hx
 clear h f0 x0 GO ht hk hx
 go_enter Tryz.func92,Tryz.ntmps92
 go_upto_region 1 with fail
 rw[eW.out]
 clear eW
 have bp:=PB0.out.blk
 unfold a2! at bp
 have c2:=bp.c2
 clear bp
 go_wp2_with fail
 refine(N1.out _ PB0.out).mono ?_
 rintro e wq⟨rfl,q,rfl⟩
 have P0':=h! (PB0.out.drewN q)
 have X0':=h! (XB0.out.drewN q)
 have K0':=h! (KB0.out.drewN q)
 have zq:(WB.drewN q).heap.size=WB.heap.size:=rfl
 clear PB0 XB0 KB0 c2
 generalize WB.drewN q=WC at*
 go_wp2_with fail
 refine(TK.out _ P0'.out).mono ?_
 rintro e W0⟨rfl,pt,kt⟩
 have P0:=h! pt
 have X0:=k! X0' kt
 have K0:=q! K0' kt
 have zt:=kt.size
 clear pt kt P0' X0' K0' N1 TK
 go_wp2_with fail
 rw[j7!]
 go_wp2_with fail
 refine(EX.out (i+1) 0 W0 P0.out).mono ?_
 rintro e w1⟨v1,rfl,k1,⟨op1,N1,nm1,B1,l1,q1,rfl⟩,i1,er1,p1,ps1⟩
 have z1:=k1.size
 have X1:=k! X0 k1
 have K1:=q! K0 k1
 have P1:=h! p1
 have PS1:=h! ps1
 have J1:=h! k1
 clear p1 k1 ps1 K0 P0 X0
 have f2:=a! w1 (.cells #[.I op1,.I N1,.string nm1,.slice B1 l1 q1] 40)
 have B2:=h! (Blk.new w1 40 #[.I op1,.I N1,.string nm1,.slice B1 l1 q1])
 have P2:=h! (P1.out.below f2)
 have X2:=b! X1 f2
 have hx:Blk (w1.alloc (.cells #[.I op1,.I N1,.string nm1,.slice B1 l1 q1] 40)) w.heap.size 95 #[.I 0,.E,.N,.I 0,.I 0,.N,.N]:=X2.out
 have K2:=e! K1 f2
 have J2:=o! g f2
 have z2:=z! w1 (.cells #[.I op1,.I N1,.string nm1,.slice B1 l1 q1] 40)
 clear f2 K1 P1 X1
 obtain⟨pc0,pc1,pc2,pc3,pc4,pc5,pc6⟩:=hx.A7
 obtain⟨pt0,pt1,pt2,pt3,pt4,pt5,pt6⟩:=hx.F7
 clear hx
 go_wp2_with fail
 clear pc0 pc1 pc2 pc3 pc4 pc5 pc6 pt0 pt1 pt2 pt3 pt4 pt5 pt6
 have hx:=X2.out
 obtain⟨sc0,sc1,sc2,sc3,sc4,sc5,sc6⟩:=hx.A7
 obtain⟨tc0,tc1,tc2,tc3,tc4,tc5,tc6⟩:=hx.F7
 skip
 obtain⟨W9,e9,X9,k9⟩:=hx.e7 (.I 9) (.E) (.slice (some ⟨w1.heap.size,0,none⟩) 1 1) (.I 0) (.I 0) (.N) (.N)
 rw[e9]
 clear e9
 clear sc0 sc1 sc2 sc3 sc4 sc5 sc6
 obtain⟨sc0,sc1,sc2,sc3,sc4,sc5,sc6⟩:=X9.A7
 have KK:Kept (λz=>z=g) w W9:=K2.out.then_ k9 (λz hz e=>by omega)
 have TA:Hid (Kept (λz=>z<W0.heap.size∨w1.heap.size<=z) w1 W9):=i! J2 (d! k9)
 have TB:Hid (Kept (λz=>z<w1.heap.size∨w1.heap.size+1<=z) (w1.alloc (.cells #[.I op1,.I N1,.string nm1,.slice B1 l1 q1] 40)) W9):=d! k9
 refine bodyPost_ret (v:=.agg #[.I 9,.E,.slice (some ⟨w1.heap.size,0,none⟩) 1 1,.I 0,.I 0,.N,.N]) (by simp[results,Tryz.results92,go_sem,sc0,sc1,sc2,sc3,sc4,sc5,sc6]) rfl ⟨_,rfl,KK,⟨_,_,_,_,_,_,_,_,_,_,_,_,_,rfl⟩,i1,er1,HH.out.put P2.out.at_ (P2.out.blk.kept k9 (by omega)) KK,PS1.out.map _ ?_⟩
 rintro x1 h1
 exact⟨_,rfl,_,_,_,none,0,0,none,0,0,rfl,u7! (cs:=[.I op1,.I N1,.string nm1,.slice B1 l1 q1]) (B2.out.kept TB.out (λe=>by omega)) rfl (by omega) ((h1.kept h5! (by omega) TA.out (λk _ hk e=>by omega)).cells (cs:=[.I op1,.I N1,.string nm1,.slice B1 l1 q1])),ElsG.none_ _ _ _ _ _ _,ElsG.none_ _ _ _ _ _ _⟩
end Go.Proofs.YtdgekckedchjbaaGreatDoor
