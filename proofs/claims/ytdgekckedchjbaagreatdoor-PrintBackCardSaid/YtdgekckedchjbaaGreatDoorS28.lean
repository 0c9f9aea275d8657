
/-
 The parser of programs: programs in memory; the parser's program. (Printed by wip/tools/gens28.py.)
-/
import Derived.Test.YtdgekckedchjbaaGreatDoorQJ
set_option maxHeartbeats 4000000
set_option maxRecDepth 100000
namespace Go.Proofs.YtdgekckedchjbaaGreatDoor
open Go.RowKit
variable {w:World} {g:Nat}
def RowD{α:Type}(D:Nat->Prop)(s:Nat)(Q:Cel α)(w:World)(l:List α)(v:Value):Prop:=∃(A:Option Addr) (n c:Nat),v=.slice A n c∧ElsG D w s 1000000 (Q D w) A n l
theorem RowD.kept{α:Type}{s:Nat}{Q:Cel α}(hq:QKept Q){D E S:Nat->Prop}{w':World}{l:List α}{v:Value}(hk:Kept S w w')(hs:∀k,k<w.heap.size->D k->¬S k)(hE:∀k,k<w.heap.size->D k->E k)(h:RowD D s Q w l v):RowD E s Q w' l v:=by
 obtain⟨A,n,c,h1,h2⟩:=h
 exact⟨A,n,c,h1,h2.kept hk hs hE (λcs a h=>hq D E S w w' cs a hk hs hE h)⟩
def PC:Cel Pg:=λD w cs p=>∃v1 v2 v3 v4 v5 v6 v7 v8:Value,cs=[.string (str p.nm),.I p.seats,v1,v2,v3,v4,v5,v6,.string (str p.silent),v7,v8]∧RowD D 1 QI w p.stakes v1∧RowD D 4 QV w p.vars v2∧RowD D 7 (QS 16) w p.start v3∧RowD D 7 (QS 16) w p.turn v4∧RowD D 4 QV w p.params v5∧RowD D 7 (QS 16) w p.play v6∧RowD D 7 (QS 16) w p.quiet v7∧RowD D 7 (QS 16) w p.pays v8
theorem p9!:QKept PC:=λD E S w w' cs p hk hs hE h=>by
 obtain⟨v1,v2,v3,v4,v5,v6,v7,v8,h0,h1,h2,h3,h4,h5,h6,h7,h8⟩:=h
 exact⟨v1,v2,v3,v4,v5,v6,v7,v8,h0,h1.kept n5! hk hs hE,h2.kept b3! hk hs hE,h3.kept (c5! 16) hk hs hE,h4.kept (c5! 16) hk hs hE,h5.kept b3! hk hs hE,h6.kept (c5! 16) hk hs hE,h7.kept (c5! 16) hk hs hE,h8.kept (c5! 16) hk hs hE⟩
def ShPg(_:World)(v:Value):Prop:=∃(nm:ByteArray) (seats:Int) (sil:ByteArray) (A1:Option Addr) (n1 c1:Nat) (A2:Option Addr) (n2 c2:Nat) (A3:Option Addr) (n3 c3:Nat) (A4:Option Addr) (n4 c4:Nat) (A5:Option Addr) (n5 c5:Nat) (A6:Option Addr) (n6 c6:Nat) (A7:Option Addr) (n7 c7:Nat) (A8:Option Addr) (n8 c8:Nat),v=.agg #[.string nm,.I seats,.slice A1 n1 c1,.slice A2 n2 c2,.slice A3 n3 c3,.slice A4 n4 c4,.slice A5 n5 c5,.slice A6 n6 c6,.string sil,.slice A7 n7 c7,.slice A8 n8 c8]
theorem Blk.put11{t:TypeId}{a0 a1 a2 a3 a4 a5 a6 a7 a8 a9 a10:Value}(h:Blk w g t #[a0,a1,a2,a3,a4,a5,a6,a7,a8,a9,a10])(x0 x1 x2 x3 x4 x5 x6 x7 x8 x9 x10:Value):Blk (((((((((((w.setCell ⟨g,0,none⟩ x0).setCell ⟨g,1,none⟩ x1).setCell ⟨g,2,none⟩ x2).setCell ⟨g,3,none⟩ x3).setCell ⟨g,4,none⟩ x4).setCell ⟨g,5,none⟩ x5).setCell ⟨g,6,none⟩ x6).setCell ⟨g,7,none⟩ x7).setCell ⟨g,8,none⟩ x8).setCell ⟨g,9,none⟩ x9).setCell ⟨g,10,none⟩ x10) g t #[x0,x1,x2,x3,x4,x5,x6,x7,x8,x9,x10]:=by
 have h0:Blk (w.setCell ⟨g,0,none⟩ x0) g t #[x0,a1,a2,a3,a4,a5,a6,a7,a8,a9,a10]:=h.set_ 0 x0
 have h1:Blk ((w.setCell ⟨g,0,none⟩ x0).setCell ⟨g,1,none⟩ x1) g t #[x0,x1,a2,a3,a4,a5,a6,a7,a8,a9,a10]:=h0.set_ 1 x1
 have h2:Blk (((w.setCell ⟨g,0,none⟩ x0).setCell ⟨g,1,none⟩ x1).setCell ⟨g,2,none⟩ x2) g t #[x0,x1,x2,a3,a4,a5,a6,a7,a8,a9,a10]:=h1.set_ 2 x2
 have h3:Blk ((((w.setCell ⟨g,0,none⟩ x0).setCell ⟨g,1,none⟩ x1).setCell ⟨g,2,none⟩ x2).setCell ⟨g,3,none⟩ x3) g t #[x0,x1,x2,x3,a4,a5,a6,a7,a8,a9,a10]:=h2.set_ 3 x3
 have h4:Blk (((((w.setCell ⟨g,0,none⟩ x0).setCell ⟨g,1,none⟩ x1).setCell ⟨g,2,none⟩ x2).setCell ⟨g,3,none⟩ x3).setCell ⟨g,4,none⟩ x4) g t #[x0,x1,x2,x3,x4,a5,a6,a7,a8,a9,a10]:=h3.set_ 4 x4
 have h5:Blk ((((((w.setCell ⟨g,0,none⟩ x0).setCell ⟨g,1,none⟩ x1).setCell ⟨g,2,none⟩ x2).setCell ⟨g,3,none⟩ x3).setCell ⟨g,4,none⟩ x4).setCell ⟨g,5,none⟩ x5) g t #[x0,x1,x2,x3,x4,x5,a6,a7,a8,a9,a10]:=h4.set_ 5 x5
 have h6:Blk (((((((w.setCell ⟨g,0,none⟩ x0).setCell ⟨g,1,none⟩ x1).setCell ⟨g,2,none⟩ x2).setCell ⟨g,3,none⟩ x3).setCell ⟨g,4,none⟩ x4).setCell ⟨g,5,none⟩ x5).setCell ⟨g,6,none⟩ x6) g t #[x0,x1,x2,x3,x4,x5,x6,a7,a8,a9,a10]:=h5.set_ 6 x6
 have h7:Blk ((((((((w.setCell ⟨g,0,none⟩ x0).setCell ⟨g,1,none⟩ x1).setCell ⟨g,2,none⟩ x2).setCell ⟨g,3,none⟩ x3).setCell ⟨g,4,none⟩ x4).setCell ⟨g,5,none⟩ x5).setCell ⟨g,6,none⟩ x6).setCell ⟨g,7,none⟩ x7) g t #[x0,x1,x2,x3,x4,x5,x6,x7,a8,a9,a10]:=h6.set_ 7 x7
 have h8:Blk (((((((((w.setCell ⟨g,0,none⟩ x0).setCell ⟨g,1,none⟩ x1).setCell ⟨g,2,none⟩ x2).setCell ⟨g,3,none⟩ x3).setCell ⟨g,4,none⟩ x4).setCell ⟨g,5,none⟩ x5).setCell ⟨g,6,none⟩ x6).setCell ⟨g,7,none⟩ x7).setCell ⟨g,8,none⟩ x8) g t #[x0,x1,x2,x3,x4,x5,x6,x7,x8,a9,a10]:=h7.set_ 8 x8
 have h9:Blk ((((((((((w.setCell ⟨g,0,none⟩ x0).setCell ⟨g,1,none⟩ x1).setCell ⟨g,2,none⟩ x2).setCell ⟨g,3,none⟩ x3).setCell ⟨g,4,none⟩ x4).setCell ⟨g,5,none⟩ x5).setCell ⟨g,6,none⟩ x6).setCell ⟨g,7,none⟩ x7).setCell ⟨g,8,none⟩ x8).setCell ⟨g,9,none⟩ x9) g t #[x0,x1,x2,x3,x4,x5,x6,x7,x8,x9,a10]:=h8.set_ 9 x9
 have h10:Blk (((((((((((w.setCell ⟨g,0,none⟩ x0).setCell ⟨g,1,none⟩ x1).setCell ⟨g,2,none⟩ x2).setCell ⟨g,3,none⟩ x3).setCell ⟨g,4,none⟩ x4).setCell ⟨g,5,none⟩ x5).setCell ⟨g,6,none⟩ x6).setCell ⟨g,7,none⟩ x7).setCell ⟨g,8,none⟩ x8).setCell ⟨g,9,none⟩ x9).setCell ⟨g,10,none⟩ x10) g t #[x0,x1,x2,x3,x4,x5,x6,x7,x8,x9,x10]:=h9.set_ 10 x10
 exact h10
theorem Kept.put11(w:World)(g:Nat)(x0 x1 x2 x3 x4 x5 x6 x7 x8 x9 x10:Value):Kept (λk=>k=g) w (((((((((((w.setCell ⟨g,0,none⟩ x0).setCell ⟨g,1,none⟩ x1).setCell ⟨g,2,none⟩ x2).setCell ⟨g,3,none⟩ x3).setCell ⟨g,4,none⟩ x4).setCell ⟨g,5,none⟩ x5).setCell ⟨g,6,none⟩ x6).setCell ⟨g,7,none⟩ x7).setCell ⟨g,8,none⟩ x8).setCell ⟨g,9,none⟩ x9).setCell ⟨g,10,none⟩ x10):=(((((((((((Kept.refl (λk=>k=g) w).setCell (p:=⟨g,0,none⟩) (λ_=>rfl) x0).setCell (p:=⟨g,1,none⟩) (λ_=>rfl) x1).setCell (p:=⟨g,2,none⟩) (λ_=>rfl) x2).setCell (p:=⟨g,3,none⟩) (λ_=>rfl) x3).setCell (p:=⟨g,4,none⟩) (λ_=>rfl) x4).setCell (p:=⟨g,5,none⟩) (λ_=>rfl) x5).setCell (p:=⟨g,6,none⟩) (λ_=>rfl) x6).setCell (p:=⟨g,7,none⟩) (λ_=>rfl) x7).setCell (p:=⟨g,8,none⟩) (λ_=>rfl) x8).setCell (p:=⟨g,9,none⟩) (λ_=>rfl) x9).setCell (p:=⟨g,10,none⟩) (λ_=>rfl) x10
theorem Blk.e11{w:World}{g:Nat}{t:TypeId}{a0 a1 a2 a3 a4 a5 a6 a7 a8 a9 a10:Value}(h:Blk w g t #[a0,a1,a2,a3,a4,a5,a6,a7,a8,a9,a10])(x0 x1 x2 x3 x4 x5 x6 x7 x8 x9 x10:Value):∃w',((((((((((w.setCell ⟨g,0,none⟩ x0).setCell ⟨g,1,none⟩ x1).setCell ⟨g,2,none⟩ x2).setCell ⟨g,3,none⟩ x3).setCell ⟨g,4,none⟩ x4).setCell ⟨g,5,none⟩ x5).setCell ⟨g,6,none⟩ x6).setCell ⟨g,7,none⟩ x7).setCell ⟨g,8,none⟩ x8).setCell ⟨g,9,none⟩ x9).setCell ⟨g,10,none⟩ x10=w'∧Blk w' g t #[x0,x1,x2,x3,x4,x5,x6,x7,x8,x9,x10]∧Kept (λk=>k=g) w w':=⟨_,rfl,h.put11 x0 x1 x2 x3 x4 x5 x6 x7 x8 x9 x10,Kept.put11 w g x0 x1 x2 x3 x4 x5 x6 x7 x8 x9 x10⟩
def intsP(r:List Tk):PS (List Int):=listP (kindT 2) numP r.length [] r
def varsP(r:List Tk):PS (List Va):=listP (hasT [118,97,114]) d8! r.length [] r
theorem d09!(ts:List Tk)(i:Nat)(er:Int):stP progP ts i er=((((((((((((((((((((stP (mustP [103,97,109,101]) ts i er).bind λa r=>(nameP r).bind λb r=>.ok (a,b) r).bind λa r=>((mustP [115,101,97,116,115]) r).bind λb r=>.ok (a,b) r).bind λa r=>(numP r).bind λb r=>.ok (a,b) r).bind λa r=>((mustP [115,116,97,107,101]) r).bind λb r=>.ok (a,b) r).bind λa r=>(numP r).bind λb r=>.ok (a,b) r).bind λa r=>(intsP r).bind λb r=>.ok (a,b) r).bind λa r=>(varsP r).bind λb r=>.ok (a,b) r).bind λa r=>((mustP [115,116,97,114,116]) r).bind λb r=>.ok (a,b) r).bind λa r=>(partP r).bind λb r=>.ok (a,b) r).bind λa r=>((mustP [116,117,114,110]) r).bind λb r=>.ok (a,b) r).bind λa r=>(partP r).bind λb r=>.ok (a,b) r).bind λa r=>((mustP [112,108,97,121]) r).bind λb r=>.ok (a,b) r).bind λa r=>(d9! r).bind λb r=>.ok (a,b) r).bind λa r=>(partP r).bind λb r=>.ok (a,b) r).bind λa r=>((mustP [115,105,108,101,110,116]) r).bind λb r=>.ok (a,b) r).bind λa r=>(nameP r).bind λb r=>.ok (a,b) r).bind λa r=>(partP r).bind λb r=>.ok (a,b) r).bind λa r=>((mustP [112,97,121]) r).bind λb r=>.ok (a,b) r).bind λa r=>(partP r).bind λb r=>.ok (a,b) r).bind λx r=>.ok ((λx:((((((((((((((((((((Unit)×List UInt8)×Unit)×Int)×Unit)×Int)×List Int)×List Va)×Unit)×List St)×Unit)×List St)×Unit)×List Va)×List St)×Unit)×List UInt8)×List St)×Unit)×List St)=>(⟨x.1.1.1.1.1.1.1.1.1.1.1.1.1.1.1.1.1.1.2,x.1.1.1.1.1.1.1.1.1.1.1.1.1.1.1.1.2,x.1.1.1.1.1.1.1.1.1.1.1.1.1.1.2::x.1.1.1.1.1.1.1.1.1.1.1.1.1.2,x.1.1.1.1.1.1.1.1.1.1.1.1.2,x.1.1.1.1.1.1.1.1.1.1.2,x.1.1.1.1.1.1.1.1.2,x.1.1.1.1.1.1.2,x.1.1.1.1.1.2,x.1.1.1.2,x.1.1.2,x.2⟩:Pg)) x) r:=by
 by_cases he:er=0
 ·unfold stP
  rw[if_pos he,if_pos he];unfold progP
  simp only[PS.bind_assoc,PS.ok_bind]
  all_goals rfl
 ·unfold stP
  rw[if_neg he,if_neg he]
  rfl
def StkTo(W:World)(g c:Nat)(A:Option Addr)(m:Nat->Nat)(ts:List Tk)(dp:Int)(p:PS (List Int))(base ya b:Nat)(yc:Value->Array Value)(n0:Int)(wc:World):Prop:=
 ∃(A8:Option Addr) (n8 c8:Nat) (zs:List Value) (i':Nat) (er':Int),Blk wc ya 48 (yc (.slice A8 (1+n8) c8))∧Par wc g A c m ts i' dp er'∧Kept (λz=>z=g∨z=ya∨z=b) W wc∧
  wc.ownsRow base 3 1 (.slice A8 (1+n8) c8) (1+n8) ([.I n0]++zs)∧n8<=100000∧PsAt ts i' er' p (λl=>l.length=n8∧∀j (h:j<l.length),(zs.drop (j*1)).take 1=[.I (l[j]'h)])∧
  ∀z,(Value.slice A8 (1+n8) c8).ownBlock=some z->ya<z
theorem d10!{w0 W w5 w8:World}{i0:Nat}{er0:Int}{c:Nat}{A:Option Addr}{m:Nat->Nat}{ts:List Tk}{dp:Int}{p:PS (List Int)}{base ya b:Nat}{yc:Value->Array Value}{n0:Int}{A8 A5:Option Addr}{n5 c5 c8 i':Nat}{er':Int}{xs5:List Value}
 (HH:Par w0 g A c m ts i0 dp er0) (K0:Kept (λz=>z=g) w0 W) (hb0:w0.heap.size<=base) (k5:Kept (λz=>z=g) W.drew w5) (p5:Par w5 g A c m ts i' dp er') (ps:PsAt ts i' er' p (λl=>IsRow 1 QI W.drew.heap.size w5 l (.slice A5 n5 c5)))
 (rd:Reads w5 w5.heap.size 1 A5 n5 xs5) (lm:n5<=100000) (y5:Blk w5 ya 48 (yc (.slice (some ⟨b,0,none⟩) 1 1))) (o8:w8.ownsRow base 3 1 (.slice A8 (1+n5) c8) (1+n5) ([.I n0]++xs5))
 (g8:w5.grownBy w8 (Value.slice (some ⟨b,0,none⟩) 1 1).ownBlock)
 (at8:(Value.slice A8 (1+n5) c8).ownBlock=(Value.slice (some ⟨b,0,none⟩) 1 1).ownBlock∨(Value.slice A8 (1+n5) c8).ownBlock=some w5.heap.size)
 (hgb:g<base) (hby:base<=ya) (hyb:ya<b) (hbW:b<W.heap.size) (hyc:∀v v',(yc v).setIfInBounds 2 v'=yc v'):
 StkTo W g c A m ts dp p base ya b yc n0 (w8.setCell ⟨ya,2,none⟩ (.slice A8 (1+n5) c8)):=by
 have zd:W.drew.heap.size=W.heap.size:=rfl
 have z5:=k5.size
 have k58:Kept (λz=>z=b) w5 w8:=Kept.of_grown g8 (λz e=>by
  have e:=Option.some.inj e
  simp only at e
  exact e.symm)
 have k89:=(Kept.refl (λz=>z=ya) w8).setCell (p:=⟨ya,2,none⟩) (λ_=>rfl) (.slice A8 (1+n5) c8)
 have k59:Kept (λz=>z=ya∨z=b) w5 (w8.setCell ⟨ya,2,none⟩ (.slice A8 (1+n5) c8)):=(k58.mono (T:=λz=>z=ya∨z=b) (λ_ _ e=>.inr e)).then_ k89 (λ_ _ e=>.inl e)
 have z8:=k58.size
 have KW:Kept (λz=>z=g∨z=ya∨z=b) W (w8.setCell ⟨ya,2,none⟩ (.slice A8 (1+n5) c8)):=(((Kept.refl (λz=>z=g∨z=ya∨z=b) W).drew).then_ k5 (λ_ _ e=>.inl e)).then_ k59 (λ_ _ e=>.inr e)
 have hown:∀z,(Value.slice A8 (1+n5) c8).ownBlock=some z->ya<z:=λz hz=>by
  rcases at8 with h|h
  ·rw[h]at hz
   have:=Option.some.inj hz
   simp only at this
   omega
  ·rw[h]at hz
   have:=Option.some.inj hz
   omega
 refine⟨A8,n5,c8,xs5,i',er',?_,?_,KW,?_,lm,?_,hown⟩
 ·have h:=(y5.kept k58 (λe=>by omega)).set_ 2 (.slice A8 (1+n5) c8)
  rw[hyc]at h;exact h
 ·exact HH.put p5.at_ (p5.blk.kept k59 (λe=>by rcases e with e|e<;>omega)) (K0.then_ KW (λz hz e=>by rcases e with e|e|e<;>omega))
 ·exact a6! o8 k89 (λz hz e=>by have:=hown z hz;omega)
 ·refine ps.mono λl hl=>?_
  obtain⟨A',n',c',hv,xs',hr,-,hM,hlen,hels⟩:=hl;injection hv with hv1 hv2 hv3;subst hv1;subst hv2;have:=hr.same rd;subst this;exact⟨hlen,hels⟩
theorem d11!(g c:Nat)(A:Option Addr)(m:Nat->Nat)(ts:List Tk)(i:Nat)(er:Int)(w:World)(h:Par w g A c m ts i 0 er):
 Calls Tryz.prog 28 #[.pointer (some ⟨g,0,none⟩)] w (a8! w g c A m ts 0 (stP progP ts i er) (IsEl PC w.heap.size) ShPg):=by
 obtain⟨W0,eW,f0,x0,z0⟩:=n! w 48 #[.E,.I 0,.N,.N,.N,.N,.N,.N,.E,.N,.N]
 have hgl:=h.blk.lt
 have HH:=h! h
 have P0:=h! (h.below f0)
 have F0:=h! f0
 have X0:=h! x0
 have K0:=o! g f0
 have Mgame:=h! (λi er w h=>e1! g c A m ts i 0 er [103,97,109,101] w h)
 have Mseats:=h! (λi er w h=>e1! g c A m ts i 0 er [115,101,97,116,115] w h)
 have Mstake:=h! (λi er w h=>e1! g c A m ts i 0 er [115,116,97,107,101] w h)
 have Mstart:=h! (λi er w h=>e1! g c A m ts i 0 er [115,116,97,114,116] w h)
 have Mturn:=h! (λi er w h=>e1! g c A m ts i 0 er [116,117,114,110] w h)
 have Mplay:=h! (λi er w h=>e1! g c A m ts i 0 er [112,108,97,121] w h)
 have Msilent:=h! (λi er w h=>e1! g c A m ts i 0 er [115,105,108,101,110,116] w h)
 have Mpay:=h! (λi er w h=>e1! g c A m ts i 0 er [112,97,121] w h)
 have NM:=h! (λi er w h=>n4! g c A m ts i 0 er w h)
 have NU:=h! (λi er w h=>p3! g c A m ts i 0 er w h)
 have LI:=h! (λi er w h=>c93! g c A m ts 0 i er w h)
 have LV:=h! (λi er w h=>c92! g c A m ts 0 i er w h)
 have PT:=h! (λi er w h=>c88! g c A m ts (a93! g c A m ts 16) i er w h)
 have PM:=h! (λi er w h=>c94! g c A m ts i 0 er w h)
 rw[d09!]
 clear h f0 x0
 go_enter Tryz.func28,Tryz.ntmps28
 go_upto_region 1 with fail
 rw[eW.out]
 clear eW
 have z0w:w.heap.size<W0.heap.size:=by omega
 clear z0
 go_upto_region 2 with fail
 obtain⟨W1,eW,f1,Y1,z1⟩:=n! W0 48 #[.E,.I 0,.N,.N,.N,.N,.N,.N,.E,.N,.N]
 replace Y1:=h! Y1
 have P1:=h! (P0.out.below f1)
 have X1:=b! X0 f1
 have K1:=e! K0 f1
 have J1:=o! g f1
 have xl1:=X0.out.lt
 clear f1 K0 P0 X0
 rw[eW.out]
 clear eW
 go_wp2_with fail
 refine(Mgame.out i er W1 P1.out).mono ?_
 rintro e w2⟨v2,rfl,k2,rfl,i2,er2,p2,ps2⟩
 have z2:=k2.size
 have X2:=k! X1 k2
 have Y2:=k! Y1 k2
 have K2:=q! K1 k2
 have P2:=h! p2
 have PS2:=h! ps2
 have J2:=h! k2
 clear p2 k2 ps2 K1 P1 X1 Y1
 go_wp2_with fail
 refine(NM.out i2 er2 w2 P2.out).mono ?_
 rintro e w3⟨v3,rfl,k3,⟨s3,rfl⟩,i3,er3,p3,ps3⟩
 have z3:=k3.size
 have X3:=k! X2 k3
 have Y3:=k! Y2 k3
 have K3:=q! K2 k3
 have P3:=h! p3
 have PS3:=h! (PS2.out.then_ ps3)
 have J3:=h! k3
 clear p3 k3 ps3 K2 P2 X2 Y2 PS2
 have fz:=Y3.out.frozen 0
 have ez:=Y3.out.c0
 go_wp2_with fail
 obtain⟨W4,e9,Y4,k4⟩:=Y3.out.u0 (.string s3)
 rw[e9]
 clear e9
 have X4:=k! X3 k4
 have K4:=t! K3 k4
 have P4:=h! (HH.out.put P3.out.at_ (P3.out.blk.kept k4 (by omega)) K4.out)
 have J4:=h! k4
 have z4:=k4.size
 clear k4 Y3 X3 K3 P3
 clear fz ez
 refine(Mseats.out i3 er3 W4 P4.out).mono ?_
 rintro e w5⟨v5,rfl,k5,rfl,i5,er5,p5,ps5⟩
 have z5:=k5.size
 have X5:=k! X4 k5
 have Y5:=k! Y4 k5
 have K5:=q! K4 k5
 have P5:=h! p5
 have PS5:=h! (PS3.out.then_ ps5)
 have J5:=h! k5
 clear p5 k5 ps5 K4 P4 X4 Y4 PS3
 go_wp2_with fail
 refine(NU.out i5 er5 w5 P5.out).mono ?_
 rintro e w6⟨v6,rfl,k6,⟨n6,rfl⟩,i6,er6,p6,ps6⟩
 have z6:=k6.size
 have X6:=k! X5 k6
 have Y6:=k! Y5 k6
 have K6:=q! K5 k6
 have P6:=h! p6
 have PS6:=h! (PS5.out.then_ ps6)
 have J6:=h! k6
 clear p6 k6 ps6 K5 P5 X5 Y5 PS5
 have fz:=Y6.out.frozen 1
 have ez:=Y6.out.c1
 go_wp2_with fail
 obtain⟨W7,e9,Y7,k7⟩:=Y6.out.u1 (.I n6)
 rw[e9]
 clear e9
 have X7:=k! X6 k7
 have K7:=t! K6 k7
 have P7:=h! (HH.out.put P6.out.at_ (P6.out.blk.kept k7 (by omega)) K7.out)
 have J7:=h! k7
 have z7:=k7.size
 clear k7 Y6 X6 K6 P6
 clear fz ez
 refine(Mstake.out i6 er6 W7 P7.out).mono ?_
 rintro e w8⟨v8,rfl,k8,rfl,i8,er8,p8,ps8⟩
 have z8:=k8.size
 have X8:=k! X7 k8
 have Y8:=k! Y7 k8
 have K8:=q! K7 k8
 have P8:=h! p8
 have PS8:=h! (PS6.out.then_ ps8)
 have J8:=h! k8
 clear p8 k8 ps8 K7 P7 X7 Y7 PS6
 go_wp2_with fail
 refine(NU.out i8 er8 w8 P8.out).mono ?_
 rintro e w9⟨v9,rfl,k9,⟨n9,rfl⟩,i9,er9,p9,ps9⟩
 have z9:=k9.size
 have X9:=k! X8 k9
 have Y9:=k! Y8 k9
 have K9:=q! K8 k9
 have P9:=h! p9
 have PS9:=h! (PS8.out.then_ ps9)
 have J9:=h! k9
 clear p9 k9 ps9 K8 P8 X8 Y8 PS8
 have fz:(w9.alloc (.cells #[.I n9] 3)).frozen? ⟨W0.heap.size,2,none⟩=false:=(Y9.out.alloc _).frozen 2
 have ez:(w9.alloc (.cells #[.I n9] 3)).cell? ⟨W0.heap.size,2,none⟩=some (.N):=(Y9.out.alloc _).cell 2
 go_upto_region 8 with fail
 change Code.wp _ _ _ _ ((w9.alloc (.cells #[.I n9] 3)).setCell ⟨W0.heap.size,2,none⟩ (.slice (some ⟨w9.heap.size,0,none⟩) 1 1))
 clear fz ez
 have ka10:=((Kept.refl (λz=>z=W0.heap.size) w9).alloc (.cells #[.I n9] 3)).setCell (p:=⟨W0.heap.size,2,none⟩) (λ_=>rfl) (.slice (some ⟨w9.heap.size,0,none⟩) 1 1)
 have yl10:=Y9.out.lt
 have B10:Hid (Blk ((w9.alloc (.cells #[.I n9] 3)).setCell ⟨W0.heap.size,2,none⟩ (.slice (some ⟨w9.heap.size,0,none⟩) 1 1)) (w9.heap.size) 3 #[.I n9]):=(Blk.new w9 3 #[.I n9]).far (by show w9.heap.size≠W0.heap.size;omega) _
 have Y10:Hid (Blk ((w9.alloc (.cells #[.I n9] 3)).setCell ⟨W0.heap.size,2,none⟩ (.slice (some ⟨w9.heap.size,0,none⟩) 1 1)) (W0.heap.size) 48 #[.string s3,.I n6,.slice (some ⟨w9.heap.size,0,none⟩) 1 1,.N,.N,.N,.N,.N,.E,.N,.N]):=(Y9.out.alloc _).set_ 2 (.slice (some ⟨w9.heap.size,0,none⟩) 1 1)
 have X10:=k! X9 ka10
 have K10:=t! K9 ka10
 have P10:=h! (HH.out.put P9.out.at_ (P9.out.blk.kept ka10 (by omega)) K10.out)
 have J10:=h! ka10
 have z10:((w9.alloc (.cells #[.I n9] 3)).setCell ⟨W0.heap.size,2,none⟩ (.slice (some ⟨w9.heap.size,0,none⟩) 1 1)).heap.size=w9.heap.size+1:=by simp[World.setCell]
 clear ka10 K9 P9 X9 Y9
 generalize ((w9.alloc (.cells #[.I n9] 3)).setCell ⟨W0.heap.size,2,none⟩ (.slice (some ⟨w9.heap.size,0,none⟩) 1 1))=W10 at*
 have O11:Hid (W10.drew.ownsRow w.heap.size 3 1 (.slice (some ⟨w9.heap.size,0,none⟩) 1 1) 1 [.I n9]):=p8! B10.out.drew rfl (by omega)
 have fw11:W10.drew.frozen? ⟨W0.heap.size,2,none⟩=false:=Y10.out.frozen 2
 have qw11:W10.drew.cell? ⟨W0.heap.size,2,none⟩=some (.slice (some ⟨w9.heap.size,0,none⟩) 1 1):=Y10.out.cell 2
 have PD11:=h! (P10.out.below (Below.refl _ W10).drew)
 have CL11:=h! (LI.out i9 er9 W10.drew PD11.out)
 have zd11:W10.drew.heap.size=W10.heap.size:=rfl
 have YD11:=h! (Y10.out.drew)
 obtain⟨j0,hj0,hy0,hy1,hy2⟩:=info_parts u4!
 go_cut [] (λwc=>Hid (StkTo W10 g c A m ts 0 (stP intsP ts i9 er9) w.heap.size (W0.heap.size) (w9.heap.size) (λv:Value=>#[.string s3,.I n6,v,.N,.N,.N,.N,.N,.E,.N,.N]) n9 wc))
 case first=>
  go_region_law
   (first
    |(refine g5! _ (by rfl) (.tmp 21) (.tmp 26) _ (by rfl) w.heap.size 3 j0 _ 1 8 Tryz.underlying30 hj0 hy0 hy1 hy2 rfl (by omega) (.slice (some ⟨w9.heap.size,0,none⟩) 1 1) 1 [.I n9] (by rfl) o11.out _ _ l11 q11 xs11 (by rfl) RD11.out ON11.out (by unfold maxLen;omega) (by omega) (by omega) ?_;intro u11 x11 r11 g11 t11;obtain⟨A8,c8,rfl,hb8⟩:=b2! r11;have yz11:=y11.kept (Kept.of_grown (S:=λz=>z=w9.heap.size) g11 (λz e=>by have e:=Option.some.inj e;simp only at e;omega)) (λe=>by omega);have qz11:=yz11.cell 2;have fz11:=yz11.frozen 2;have R11:=h! r11;have G11:=h! g11;have T11:=h! t11;clear r11 g11 t11)
    |(go_simp;go_at_call 58;(with_reducible refine CL11.out.mono ?_);rintro e w11⟨v11,rfl,k11,⟨A11,l11,q11,xs11,rfl,rd11,on11,lm11⟩,i11,er11,p11,ps11⟩;have y11:=YD11.out.kept k11 (by omega);have qy11:=y11.c2;have fy11:=y11.frozen 2;have z11:=k11.size;have o11:=h! (a6! O11.out k11 (λz e=>by have e:=Option.some.inj e;simp only at e;omega));have RD11:=h! rd11;have ON11:=h! on11;have K11:=h! k11;have P11:=h! p11;have PS11:=h! ps11;clear p11 ps11 k11 rd11 on11))
  all_goals
   go_wp2_with fail;go_meet
   case rel=>exact d10! (yc:=(λv:Value=>#[.string s3,.I n6,v,.N,.N,.N,.N,.N,.E,.N,.N])) HH.out K10.out (Nat.le_refl _) K11.out P11.out PS11.out RD11.out lm11 y11 R11.out G11.out T11.out (by omega) (by omega) (by omega) (by omega) (λ_ _=>rfl)
 case rest=>
 obtain⟨A11,l11,c11,zs11,i11,er11,y11,p11,k11,o11,lm11,ps11,hb11⟩:=hcut.out
 obtain⟨w11,rfl⟩:∃x,x=wc:=⟨_,rfl⟩
 clear hcut CL11 PD11 YD11 O11 fw11 qw11 hj0 hy0 hy1 hy2
 have z11:=k11.size
 have Y11:Hid (Blk w11 (W0.heap.size) 48 #[.string s3,.I n6,.slice A11 (1+l11) c11,.N,.N,.N,.N,.N,.E,.N,.N]):=y11
 have X11:=h! (X10.out.kept k11 (λe=>by rcases e with e|e|e<;>omega))
 have K11:=h! (K10.out.then_ k11 (λz hz e=>by rcases e with e|e|e<;>omega))
 have P11:=h! p11
 have PS11:=h! (PS9.out.then_ ps11)
 have J11:=h! k11
 have OS:=h! o11
 have HBS:=h! hb11
 have hols:=h! (c2! o11)
 clear p11 k11 ps11 y11 o11 hb11 K10 P10 X10 Y10 PS9
 go_wp2_with fail
 refine(LV.out i11 er11 w11 P11.out).mono ?_
 rintro e w12⟨v12,rfl,k12,⟨A12,l12,q12,xs12,rfl,rd12,on12,lm12⟩,i12,er12,p12,ps12⟩
 have z12:=k12.size
 have X12:=k! X11 k12
 have Y12:=k! Y11 k12
 have K12:=q! K11 k12
 have P12:=h! p12
 have PS12:=h! (PS11.out.then_ ps12)
 have J12:=h! k12
 clear p12 k12 ps12 K11 P11 X11 Y11 PS11
 clear rd12 on12
 have fz:=Y12.out.frozen 3
 have ez:=Y12.out.c3
 go_wp2_with fail
 obtain⟨W13,e9,Y13,k13⟩:=Y12.out.u3 (.slice A12 l12 q12)
 rw[e9]
 clear e9
 have X13:=k! X12 k13
 have K13:=t! K12 k13
 have P13:=h! (HH.out.put P12.out.at_ (P12.out.blk.kept k13 (by omega)) K13.out)
 have J13:=h! k13
 have z13:=k13.size
 clear k13 Y12 X12 K12 P12
 clear fz ez
 refine(Mstart.out i12 er12 W13 P13.out).mono ?_
 rintro e w14⟨v14,rfl,k14,rfl,i14,er14,p14,ps14⟩
 have z14:=k14.size
 have X14:=k! X13 k14
 have Y14:=k! Y13 k14
 have K14:=q! K13 k14
 have P14:=h! p14
 have PS14:=h! (PS12.out.then_ ps14)
 have J14:=h! k14
 clear p14 k14 ps14 K13 P13 X13 Y13 PS12
 go_wp2_with fail
 refine(PT.out i14 er14 w14 P14.out).mono ?_
 rintro e w15⟨v15,rfl,k15,⟨A15,l15,q15,rfl⟩,i15,er15,p15,ps15⟩
 have z15:=k15.size
 have X15:=k! X14 k15
 have Y15:=k! Y14 k15
 have K15:=q! K14 k15
 have P15:=h! p15
 have PS15:=h! (PS14.out.then_ ps15)
 have J15:=h! k15
 clear p15 k15 ps15 K14 P14 X14 Y14 PS14
 have fz:=Y15.out.frozen 4
 have ez:=Y15.out.c4
 go_wp2_with fail
 obtain⟨W16,e9,Y16,k16⟩:=Y15.out.u4 (.slice A15 l15 q15)
 rw[e9]
 clear e9
 have X16:=k! X15 k16
 have K16:=t! K15 k16
 have P16:=h! (HH.out.put P15.out.at_ (P15.out.blk.kept k16 (by omega)) K16.out)
 have J16:=h! k16
 have z16:=k16.size
 clear k16 Y15 X15 K15 P15
 clear fz ez
 refine(Mturn.out i15 er15 W16 P16.out).mono ?_
 rintro e w17⟨v17,rfl,k17,rfl,i17,er17,p17,ps17⟩
 have z17:=k17.size
 have X17:=k! X16 k17
 have Y17:=k! Y16 k17
 have K17:=q! K16 k17
 have P17:=h! p17
 have PS17:=h! (PS15.out.then_ ps17)
 have J17:=h! k17
 clear p17 k17 ps17 K16 P16 X16 Y16 PS15
 go_wp2_with fail
 refine(PT.out i17 er17 w17 P17.out).mono ?_
 rintro e w18⟨v18,rfl,k18,⟨A18,l18,q18,rfl⟩,i18,er18,p18,ps18⟩
 have z18:=k18.size
 have X18:=k! X17 k18
 have Y18:=k! Y17 k18
 have K18:=q! K17 k18
 have P18:=h! p18
 have PS18:=h! (PS17.out.then_ ps18)
 have J18:=h! k18
 clear p18 k18 ps18 K17 P17 X17 Y17 PS17
 have fz:=Y18.out.frozen 5
 have ez:=Y18.out.c5
 go_wp2_with fail
 obtain⟨W19,e9,Y19,k19⟩:=Y18.out.u5 (.slice A18 l18 q18)
 rw[e9]
 clear e9
 have X19:=k! X18 k19
 have K19:=t! K18 k19
 have P19:=h! (HH.out.put P18.out.at_ (P18.out.blk.kept k19 (by omega)) K19.out)
 have J19:=h! k19
 have z19:=k19.size
 clear k19 Y18 X18 K18 P18
 clear fz ez
 refine(Mplay.out i18 er18 W19 P19.out).mono ?_
 rintro e w20⟨v20,rfl,k20,rfl,i20,er20,p20,ps20⟩
 have z20:=k20.size
 have X20:=k! X19 k20
 have Y20:=k! Y19 k20
 have K20:=q! K19 k20
 have P20:=h! p20
 have PS20:=h! (PS18.out.then_ ps20)
 have J20:=h! k20
 clear p20 k20 ps20 K19 P19 X19 Y19 PS18
 go_wp2_with fail
 refine(PM.out i20 er20 w20 P20.out).mono ?_
 rintro e w21⟨v21,rfl,k21,⟨A21,l21,q21,rfl⟩,i21,er21,p21,ps21⟩
 have z21:=k21.size
 have X21:=k! X20 k21
 have Y21:=k! Y20 k21
 have K21:=q! K20 k21
 have P21:=h! p21
 have PS21:=h! (PS20.out.then_ ps21)
 have J21:=h! k21
 clear p21 k21 ps21 K20 P20 X20 Y20 PS20
 have fz:=Y21.out.frozen 6
 have ez:=Y21.out.c6
 go_wp2_with fail
 obtain⟨W22,e9,Y22,k22⟩:=Y21.out.u6 (.slice A21 l21 q21)
 rw[e9]
 clear e9
 have X22:=k! X21 k22
 have K22:=t! K21 k22
 have P22:=h! (HH.out.put P21.out.at_ (P21.out.blk.kept k22 (by omega)) K22.out)
 have J22:=h! k22
 have z22:=k22.size
 clear k22 Y21 X21 K21 P21
 clear fz ez
 refine(PT.out i21 er21 W22 P22.out).mono ?_
 rintro e w23⟨v23,rfl,k23,⟨A23,l23,q23,rfl⟩,i23,er23,p23,ps23⟩
 have z23:=k23.size
 have X23:=k! X22 k23
 have Y23:=k! Y22 k23
 have K23:=q! K22 k23
 have P23:=h! p23
 have PS23:=h! (PS21.out.then_ ps23)
 have J23:=h! k23
 clear p23 k23 ps23 K22 P22 X22 Y22 PS21
 have fz:=Y23.out.frozen 7
 have ez:=Y23.out.c7
 go_wp2_with fail
 obtain⟨W24,e9,Y24,k24⟩:=Y23.out.u7 (.slice A23 l23 q23)
 rw[e9]
 clear e9
 have X24:=k! X23 k24
 have K24:=t! K23 k24
 have P24:=h! (HH.out.put P23.out.at_ (P23.out.blk.kept k24 (by omega)) K24.out)
 have J24:=h! k24
 have z24:=k24.size
 clear k24 Y23 X23 K23 P23
 clear fz ez
 refine(Msilent.out i23 er23 W24 P24.out).mono ?_
 rintro e w25⟨v25,rfl,k25,rfl,i25,er25,p25,ps25⟩
 have z25:=k25.size
 have X25:=k! X24 k25
 have Y25:=k! Y24 k25
 have K25:=q! K24 k25
 have P25:=h! p25
 have PS25:=h! (PS23.out.then_ ps25)
 have J25:=h! k25
 clear p25 k25 ps25 K24 P24 X24 Y24 PS23
 go_wp2_with fail
 refine(NM.out i25 er25 w25 P25.out).mono ?_
 rintro e w26⟨v26,rfl,k26,⟨s26,rfl⟩,i26,er26,p26,ps26⟩
 have z26:=k26.size
 have X26:=k! X25 k26
 have Y26:=k! Y25 k26
 have K26:=q! K25 k26
 have P26:=h! p26
 have PS26:=h! (PS25.out.then_ ps26)
 have J26:=h! k26
 clear p26 k26 ps26 K25 P25 X25 Y25 PS25
 have fz:=Y26.out.frozen 8
 have ez:=Y26.out.c8
 go_wp2_with fail
 obtain⟨W27,e9,Y27,k27⟩:=Y26.out.u8 (.string s26)
 rw[e9]
 clear e9
 have X27:=k! X26 k27
 have K27:=t! K26 k27
 have P27:=h! (HH.out.put P26.out.at_ (P26.out.blk.kept k27 (by omega)) K27.out)
 have J27:=h! k27
 have z27:=k27.size
 clear k27 Y26 X26 K26 P26
 clear fz ez
 refine(PT.out i26 er26 W27 P27.out).mono ?_
 rintro e w28⟨v28,rfl,k28,⟨A28,l28,q28,rfl⟩,i28,er28,p28,ps28⟩
 have z28:=k28.size
 have X28:=k! X27 k28
 have Y28:=k! Y27 k28
 have K28:=q! K27 k28
 have P28:=h! p28
 have PS28:=h! (PS26.out.then_ ps28)
 have J28:=h! k28
 clear p28 k28 ps28 K27 P27 X27 Y27 PS26
 have fz:=Y28.out.frozen 9
 have ez:=Y28.out.c9
 go_wp2_with fail
 obtain⟨W29,e9,Y29,k29⟩:=Y28.out.u9 (.slice A28 l28 q28)
 rw[e9]
 clear e9
 have X29:=k! X28 k29
 have K29:=t! K28 k29
 have P29:=h! (HH.out.put P28.out.at_ (P28.out.blk.kept k29 (by omega)) K29.out)
 have J29:=h! k29
 have z29:=k29.size
 clear k29 Y28 X28 K28 P28
 clear fz ez
 refine(Mpay.out i28 er28 W29 P29.out).mono ?_
 rintro e w30⟨v30,rfl,k30,rfl,i30,er30,p30,ps30⟩
 have z30:=k30.size
 have X30:=k! X29 k30
 have Y30:=k! Y29 k30
 have K30:=q! K29 k30
 have P30:=h! p30
 have PS30:=h! (PS28.out.then_ ps30)
 have J30:=h! k30
 clear p30 k30 ps30 K29 P29 X29 Y29 PS28
 go_wp2_with fail
 refine(PT.out i30 er30 w30 P30.out).mono ?_
 rintro e w31⟨v31,rfl,k31,⟨A31,l31,q31,rfl⟩,i31,er31,p31,ps31⟩
 have z31:=k31.size
 have X31:=k! X30 k31
 have Y31:=k! Y30 k31
 have K31:=q! K30 k31
 have P31:=h! p31
 have PS31:=h! (PS30.out.then_ ps31)
 have J31:=h! k31
 clear p31 k31 ps31 K30 P30 X30 Y30 PS30
 have fz:=Y31.out.frozen 10
 have ez:=Y31.out.c10
 go_upto_region 22 with fail
 obtain⟨W32,e9,Y32,k32⟩:=Y31.out.u10 (.slice A31 l31 q31)
 rw[e9]
 clear e9
 have X32:=k! X31 k32
 have K32:=t! K31 k32
 have P32:=h! (HH.out.put P31.out.at_ (P31.out.blk.kept k32 (by omega)) K32.out)
 have J32:=h! k32
 have z32:=k32.size
 clear k32 Y31 X31 K31 P31
 clear fz ez
 obtain⟨qc0,qc1,qc2,qc3,qc4,qc5,qc6,qc7,qc8,qc9,qc10⟩:=Y32.out.A11
 have hx:=X32.out
 obtain⟨sc0,sc1,sc2,sc3,sc4,sc5,sc6,sc7,sc8,sc9,sc10⟩:=hx.A11
 obtain⟨tc0,tc1,tc2,tc3,tc4,tc5,tc6,tc7,tc8,tc9,tc10⟩:=hx.F11
 go_wp2_with fail
 obtain⟨W9,e9,X9,k9⟩:=hx.e11 (.string s3) (.I n6) (.slice A11 (1+l11) c11) (.slice A12 l12 q12) (.slice A15 l15 q15) (.slice A18 l18 q18) (.slice A21 l21 q21) (.slice A23 l23 q23) (.string s26) (.slice A28 l28 q28) (.slice A31 l31 q31)
 rw[e9]
 clear e9
 clear sc0 sc1 sc2 sc3 sc4 sc5 sc6 sc7 sc8 sc9 sc10 qc0 qc1 qc2 qc3 qc4 qc5 qc6 qc7 qc8 qc9 qc10
 obtain⟨sc0,sc1,sc2,sc3,sc4,sc5,sc6,sc7,sc8,sc9,sc10⟩:=X9.A11
 have KK:Kept (λz=>z=g) w W9:=K32.out.then_ k9 (λz hz e=>by omega)
 have TS:Hid (Kept (λz=>z<W0.heap.size+1∨w11.heap.size<=z) w11 W9):=i! J12 (i! J13 (i! J14 (i! J15 (i! J16 (i! J17 (i! J18 (i! J19 (i! J20 (i! J21 (i! J22 (i! J23 (i! J24 (i! J25 (i! J26 (i! J27 (i! J28 (i! J29 (i! J30 (i! J31 (i! J32 (d! k9)))))))))))))))))))))
 have T3:Hid (Kept (λz=>z<w11.heap.size∨w12.heap.size<=z) w12 W9):=i! J13 (i! J14 (i! J15 (i! J16 (i! J17 (i! J18 (i! J19 (i! J20 (i! J21 (i! J22 (i! J23 (i! J24 (i! J25 (i! J26 (i! J27 (i! J28 (i! J29 (i! J30 (i! J31 (i! J32 (d! k9))))))))))))))))))))
 have T4:Hid (Kept (λz=>z<w14.heap.size∨w15.heap.size<=z) w15 W9):=i! J16 (i! J17 (i! J18 (i! J19 (i! J20 (i! J21 (i! J22 (i! J23 (i! J24 (i! J25 (i! J26 (i! J27 (i! J28 (i! J29 (i! J30 (i! J31 (i! J32 (d! k9)))))))))))))))))
 have T5:Hid (Kept (λz=>z<w17.heap.size∨w18.heap.size<=z) w18 W9):=i! J19 (i! J20 (i! J21 (i! J22 (i! J23 (i! J24 (i! J25 (i! J26 (i! J27 (i! J28 (i! J29 (i! J30 (i! J31 (i! J32 (d! k9))))))))))))))
 have T6:Hid (Kept (λz=>z<w20.heap.size∨w21.heap.size<=z) w21 W9):=i! J22 (i! J23 (i! J24 (i! J25 (i! J26 (i! J27 (i! J28 (i! J29 (i! J30 (i! J31 (i! J32 (d! k9)))))))))))
 have T7:Hid (Kept (λz=>z<W22.heap.size∨w23.heap.size<=z) w23 W9):=i! J24 (i! J25 (i! J26 (i! J27 (i! J28 (i! J29 (i! J30 (i! J31 (i! J32 (d! k9)))))))))
 have T9:Hid (Kept (λz=>z<W27.heap.size∨w28.heap.size<=z) w28 W9):=i! J29 (i! J30 (i! J31 (i! J32 (d! k9))))
 have T10:Hid (Kept (λz=>z<w30.heap.size∨w31.heap.size<=z) w31 W9):=i! J32 (d! k9)
 refine bodyPost_ret (v:=.agg #[.string s3,.I n6,.slice A11 (1+l11) c11,.slice A12 l12 q12,.slice A15 l15 q15,.slice A18 l18 q18,.slice A21 l21 q21,.slice A23 l23 q23,.string s26,.slice A28 l28 q28,.slice A31 l31 q31]) (by simp[results,Tryz.results28,go_sem,sc0,sc1,sc2,sc3,sc4,sc5,sc6,sc7,sc8,sc9,sc10]) rfl ⟨_,rfl,KK,⟨_,_,_,_,_,_,_,_,_,_,_,_,_,_,_,_,_,_,_,_,_,_,_,_,_,_,_,rfl⟩,i31,er31,HH.out.put P32.out.at_ (P32.out.blk.kept k9 (by omega)) KK,PS31.out.map _ ?_⟩
 rintro⟨⟨⟨⟨⟨⟨⟨⟨⟨⟨⟨⟨⟨⟨⟨⟨⟨⟨⟨u0,x1⟩,u2⟩,x3⟩,u4⟩,x5⟩,x6⟩,x7⟩,u8⟩,x9⟩,u10⟩,x11⟩,u12⟩,x13⟩,x14⟩,u15⟩,x16⟩,x17⟩,u18⟩,x19⟩ ⟨⟨⟨⟨⟨⟨⟨⟨⟨⟨⟨⟨⟨⟨⟨⟨⟨⟨⟨-,h1⟩,-⟩,h3⟩,-⟩,h5⟩,h6⟩,h7⟩,-⟩,h9⟩,-⟩,h11⟩,-⟩,h13⟩,h14⟩,-⟩,h16⟩,h17⟩,-⟩,h19⟩
 injection h1 with h1
 injection h3 with _ h3
 injection h5 with _ h5
 injection h16 with h16
 obtain⟨hl6,hz6⟩:=h6
 have hl6:x6.length=l11:=hl6
 have O9:W9.ownsRow w.heap.size 3 1 (.slice A11 (1+l11) c11) (1+l11) ([.I n9]++zs11):=a6! OS.out TS.out (λz hz e=>by have h1:=HBS.out z hz;have h2:=hols.out z hz;omega)
 have hS:RowD (λk=>w.heap.size<=k) 1 QI W9 (x5::x6) (.slice A11 (1+l11) c11):=by
  refine⟨A11,1+l11,c11,rfl,h6! (Q:=QI) O9 (by omega) (by simp only[List.length_cons];omega) (λj hj=>?_)⟩
  match j,hj with
  |0,_=>
   show ([(.I n9:Value)]++zs11).take 1=_
   rw[List.take_append_of_le_length (by simp),h5]
   rfl
  |j+1,hj=>
   have hj':j<x6.length:=by simpa using hj
   show (([(.I n9:Value)]++zs11).drop ((j+1)*1)).take 1=[.I (x6[j]'hj')]
   rw[<-hz6 j hj',Nat.mul_one,Nat.mul_one]
   rfl
 refine⟨_,rfl,.slice A11 (1+l11) c11,.slice A12 l12 q12,.slice A15 l15 q15,.slice A18 l18 q18,.slice A21 l21 q21,.slice A23 l23 q23,.slice A28 l28 q28,.slice A31 l31 q31,?_,hS,?_⟩
 ·rw[h1,h3,h16]
 refine⟨h7.kept b3! (by omega) T3.out (λk _ hk e=>by omega),h9.kept (c5! 16) (by omega) T4.out (λk _ hk e=>by omega),h11.kept (c5! 16) (by omega) T5.out (λk _ hk e=>by omega),h13.kept b3! (by omega) T6.out (λk _ hk e=>by omega),h14.kept (c5! 16) (by omega) T7.out (λk _ hk e=>by omega),h17.kept (c5! 16) (by omega) T9.out (λk _ hk e=>by omega),h19.kept (c5! 16) (by omega) T10.out (λk _ hk e=>by omega)⟩
end Go.Proofs.YtdgekckedchjbaaGreatDoor
