
/-
 The document's stmt: a statement. (Printed by wip/tools/gene5.py.)
-/
import Derived.Test.YtdgekckedchjbaaGreatDoorM8
import Derived.Deep.RegionHeld3
import Derived.Deep.DeepCutAuto
import Derived.Deep.AppendLies
set_option maxHeartbeats 8000000
set_option maxRecDepth 100000
namespace Go.Proofs.YtdgekckedchjbaaGreatDoor
open Go.RowKit
variable {w:World} {base c g i i' j n:Nat} {A:Option Addr} {ts:List Tk} {er er':Int} {x:List UInt8} {t:TypeId} {cs:List Value}
theorem DP.putp{w':World}(h:DP w g A c ts i er)(hi:i'<ts.length)(hb:Blk w' g 105 #[.slice A ts.length c,.I i',.I er'])(hk:Kept (λz=>z=g) w w'):DP w' g A c ts i' er':=h.put hk (λ_ _ e=>e) hi hb
theorem DsAt.skip{α:Type}{f a b:List Tk->PS α}{Q:α->Prop}(hf:∀r,f r=if hasT x r then a r.tail else b r)(hx:hasT x (ts.drop i)=true)(h:DsAt ts j er' (stP a ts (i+1) er) Q):DsAt ts j er' (stP f ts i er) Q:=λhe=>by
 obtain⟨v,h1,h2⟩:=h he
 unfold stP at h1 ⊢
 by_cases h0:er=0
 ·rw[if_pos h0]at h1 ⊢
  rw[hf,if_pos hx,List.tail_drop];exact⟨v,h1,h2⟩
 ·rw[if_neg h0]at h1
  cases h1
theorem DsAt.noskip{α:Type}{f a b:List Tk->PS α}{Q:α->Prop}(hf:∀r,f r=if hasT x r then a r.tail else b r)(hx:hasT x (ts.drop i)=false)(h:DsAt ts j er' (stP b ts i er) Q):DsAt ts j er' (stP f ts i er) Q:=λhe=>by
 obtain⟨v,h1,h2⟩:=h he
 unfold stP at h1 ⊢
 by_cases h0:er=0
 ·rw[if_pos h0]at h1 ⊢
  rw[hf,if_neg (by rw[hx];decide)];exact⟨v,h1,h2⟩
 ·rw[if_neg h0]at h1
  cases h1
theorem l0!(w:World)(k n l c:Int)(s:ByteArray):Sem.run Tryz.prog (Instr.field 108 (.agg #[.I k,.string s,.I n,.I l,.I c]) 1) w=.ok (.string s) w:=by rfl
theorem w2!:(Tryz.prog.info? 24).map (λi=>(i.zero,i.size,i.bytes))=some (some (.agg #[.I 0,.I 0,.string ByteArray.empty,.N]),4,56):=by kernel_rfl
theorem r4!{b:Nat}{x:Ex}(hb:Blk w b t (List.toArray cs))(hl:cs.length=4)(hB:base<=b)(h:QG (λk=>base<=k) w cs x):ElsG (λk=>base<=k) w 4 1000000 (QG (λk=>base<=k) w) (some ⟨b,0,none⟩) 1 [x]:=
 h6! (Q:=QG) (p8! hb hl hB) (by omega) rfl λi hi=>by
  match i,hi with
  |0,_=>
   rw[Nat.zero_mul,List.drop_zero,List.take_of_length_le (by omega)];exact h
  |i+1,hi=>simp at hi
theorem e27!{ds:List Value}{x y:Ex}(ho:w.ownsRow base t 4 (.slice A n c) n (cs++ds))(hn:n=2)(hl:cs.length=4)(hl2:ds.length=4)(h:QG (λk=>base<=k) w cs x)(h2:QG (λk=>base<=k) w ds y):ElsG (λk=>base<=k) w 4 1000000 (QG (λk=>base<=k) w) A n [x,y]:=by
 refine h6! (Q:=QG) ho (by omega) (by rw[hn];rfl) λi hi=>?_
 match i,hi with
 |0,_=>
  rw[Nat.zero_mul,List.drop_zero,List.take_append_of_le_length (by omega),List.take_of_length_le (by omega)];exact h
 |1,_=>
  rw[Nat.one_mul,List.drop_append_of_le_length (by omega),List.drop_of_length_le (by omega),List.nil_append,List.take_of_length_le (by omega)];exact h2
 |i+2,hi=>simp at hi;omega
def w3!(W:World)(g c:Nat)(A:Option Addr)(ts:List Tk)(p:PS Ex)(base ya:Nat)(yc:Value->Array Value)(vo:Value)(n:Nat)(ys:List Value)(wc:World):Prop:=
 ∃(A8:Option Addr) (c8:Nat) (cs:List Value) (i':Nat) (er':Int) (zm:Nat),Blk wc ya 29 (yc (.slice A8 (n+1) c8))∧DP wc g A c ts i' er'∧Kept (λz=>z=g∨z=ya∨vo.ownBlock=some z) W wc∧
  wc.ownsRow base 24 4 (.slice A8 (n+1) c8) (n+1) (ys++cs)∧cs.length=4∧DsAt ts i' er' p (λx=>QG (λk=>W.heap.size<=k∧k<zm) wc cs x)∧W.heap.size<=zm∧zm<=wc.heap.size∧
  ∀z,(Value.slice A8 (n+1) c8).ownBlock=some z->vo.ownBlock=some z∨zm<=z
theorem w4!{w0 W w5 w8:World}{i0:Nat}{er0:Int}{p:PS Ex}{ya f:Nat}{yc:Value->Array Value}{vo:Value}{ys:List Value}{A8:Option Addr}{c8:Nat}{op N:Int}{nm:ByteArray}{B:Option Addr}{l q:Nat}
 (HH:DP w0 g A c ts i0 er0) (K0:Kept (λz=>z=g) w0 W) (hb0:w0.heap.size<=base) (k5:Kept (λz=>z=g) W.drew w5) (p5:DP w5 g A c ts i' er') (ps:DsAt ts i' er' p (λa=>IsEl QG W.drew.heap.size w5 a (.agg #[.I op,.I N,.string nm,.slice B l q])))
 (y5:Blk w5 ya 29 (yc vo)) (o8:w8.ownsRow base 24 4 (.slice A8 (n+1) c8) (n+1) (ys++[.I op,.I N,.string nm,.slice B l q]))
 (g8:(w5.alloc (.cells #[.I op,.I N,.string nm,.slice B l q] 24)).grownBy w8 vo.ownBlock)
 (at8:(Value.slice A8 (n+1) c8).ownBlock=vo.ownBlock∨(Value.slice A8 (n+1) c8).ownBlock=some (w5.alloc (.cells #[.I op,.I N,.string nm,.slice B l q] 24)).heap.size)
 (hv:∀z,vo.ownBlock=some z->base<z∧z<W.heap.size∧z≠ya) (hgb:g<base) (hby:base<=ya) (hyW:ya<W.heap.size) (hyc:∀v v',(yc v).setIfInBounds f v'=yc v'):
 w3! W g c A ts p base ya yc vo n ys (w8.setCell ⟨ya,f,none⟩ (.slice A8 (n+1) c8)):=by
 have zd:W.drew.heap.size=W.heap.size:=rfl
 have z5:=k5.size
 have k58:Kept (λz=>vo.ownBlock=some z) w5 w8:=((Kept.refl (λz=>vo.ownBlock=some z) w5).alloc _).then_ (Kept.of_grown g8 (λ_ e=>e)) (λ_ _ e=>e)
 have k89:=(Kept.refl (λz=>z=ya) w8).setCell (p:=⟨ya,f,none⟩) (λ_=>rfl) (.slice A8 (n+1) c8)
 have k59:Kept (λz=>z=ya∨vo.ownBlock=some z) w5 (w8.setCell ⟨ya,f,none⟩ (.slice A8 (n+1) c8)):=(k58.mono (T:=λz=>z=ya∨vo.ownBlock=some z) (λ_ _ e=>.inr e)).then_ k89 (λ_ _ e=>.inl e)
 have z8:=k58.size
 have z9:=k89.size
 have KW:Kept (λz=>z=g∨z=ya∨vo.ownBlock=some z) W (w8.setCell ⟨ya,f,none⟩ (.slice A8 (n+1) c8)):=(((Kept.refl (λz=>z=g∨z=ya∨vo.ownBlock=some z) W).drew).then_ k5 (λ_ _ e=>.inl e)).then_ k59 (λ_ _ e=>.inr e)
 refine⟨A8,c8,[.I op,.I N,.string nm,.slice B l q],i',er',w5.heap.size,?_,?_,KW,?_,rfl,?_,by omega,by omega,?_⟩
 ·have h:=(y5.kept k58 (λe=>(hv _ e).2.2 rfl)).set_ f (.slice A8 (n+1) c8)
  rw[hyc]at h;exact h
 ·exact HH.putp p5.at_ (p5.blk.kept k59 (λe=>by rcases e with e|e<;>first|omega|(have:=hv _ e;omega))) (K0.then_ KW (λz hz e=>by rcases e with e|e|e<;>first|omega|(have:=hv _ e;omega)))
 ·refine a6! o8 k89 (λz hz e=>?_)
  rcases at8 with h|h
  ·exact(hv z (h▸hz)).2.2 e
  ·rw[h]at hz
   have:=Option.some.inj hz;have hs:=z! w5 (.cells #[.I op,.I N,.string nm,.slice B l q] 24)
   omega
 ·refine ps.mono λx hx=>?_
  obtain⟨cs,hcs,hT⟩:=hx;have:cs=[.I op,.I N,.string nm,.slice B l q]:=by
   injection hcs with hcs;have:=congrArg Array.toList hcs
   simpa using this.symm
  subst this;exact f5! _ _ _ w5 _ _ x k59 (λk hk hd e=>by rcases e with e|e<;>first|omega|(have:=hv _ e;omega)) (λk hk hd=>⟨by omega,hk⟩) hT
 ·intro z hz
  rcases at8 with h|h
  ·exact .inl (h▸hz)
  ·rw[h]at hz
   have:=Option.some.inj hz;have hs:=z! w5 (.cells #[.I op,.I N,.string nm,.slice B l q] 24);exact .inr (by omega)
theorem e28!(g c:Nat)(A:Option Addr)(ts:List Tk)(d:Nat)(dp:Int)(i:Nat)(w:World)(h:DP w g A c ts i 0)(t:Tk)(ht:ts[i]?=some t)(hk:t.kind=3)(hx:t.text=[114,101,102,117,115,101]):
 Calls Tryz.prog 153 #[.pointer (some ⟨g,0,none⟩),.I dp] w (DStep w g c A ts (stmtD (d+1) (ts.drop i)) (IsEl (QR (d+1)) w.heap.size) ShSt):=by
 obtain⟨W0,eW,f0,x0,z0⟩:=n! w 29 #[.I 0,.E,.N,.I 0,.I 0,.N,.N]
 have hgl:=h.blk.lt
 have hlim:=h.lim
 have hat:=h.at_
 have HH:=h! h
 have P0:=h! (h.below f0)
 have X0:=h! x0
 have K0:=o! g f0
 have NW:=h! (λw' (h':DP w' g A c ts i 0)=>c3! g c A ts i 0 w' h' t ht)
 have GO:stmtD (d+1) (ts.drop i)=stP refP ts (i+1) 0:=by
  rw[a1! ht,f0! d t _ hk,hx];rw[if_neg (by decide)];rw[if_neg (by decide)];rw[if_pos rfl];unfold stP;rw[if_pos rfl]
 rw[GO]
 have e0:=w! [105,102] false hx
 have e1:=w! [102,111,114] false hx
 have e2:=w! [114,101,102,117,115,101] true hx
 have ek:((t.kind:Int)==1)=false:=by rw[hk];decide
 have hm:i+1<ts.length:=h.more t i ht (by rw[hk];decide)
 clear h f0 x0 GO ht hk hx
 go_enter Tryz.func153,Tryz.ntmps153
 go_upto_region 1 with fail
 rw[eW.out]
 clear eW
 have N1:=h! (NW.out W0 P0.out)
 go_wp2_with fail
 refine N1.out.mono ?_
 rintro e w1⟨rfl,b1⟩
 have z1:=b1.size
 have X1:=b! X0 b1
 have K1:=e! K0 b1
 have P1:=h! (P0.out.below b1)
 have J1:=o! g b1
 clear b1 K0 P0 X0
 go_wp2_with fail
 rw[c4!]
 have N2:=h! (NW.out w1 P1.out)
 go_wp2_with fail
 refine N2.out.mono ?_
 rintro e w2⟨rfl,b2⟩
 have z2:=b2.size
 have X2:=b! X1 b2
 have K2:=e! K1 b2
 have P2:=h! (P1.out.below b2)
 have J2:=o! g b2
 clear b2 K1 P1 X1
 go_wp2_with fail
 rw[l0!]
 have y1:=P2.out.blk.c1
 have u1:=P2.out.blk.frozen 1
 have wi:=y! ((i:Int)+1)
 obtain⟨d3,k3⟩:=P2.out.pass hm
 go_upto_region 13 with fail
 clear y1 u1 wi
 have X3:=k! X2 k3
 have K3:=q! K2 k3
 have P3:=h! d3
 have J3:=h! k3
 have z3:=k3.size
 clear d3 k3 K2 P2 hm X2
 generalize w2.setCell ⟨g,1,none⟩ (.I ((i:Int)+1))=W3 at*
 go_upto_region 14 with fail
 obtain⟨W4,eW,f4,Y4,z4⟩:=n! W3 29 #[.I 0,.E,.N,.I 0,.I 0,.N,.N]
 replace Y4:=h! Y4
 have P4:=h! (P3.out.below f4)
 have X4:=b! X3 f4
 have K4:=e! K3 f4
 have J4:=o! g f4
 have xl4:=X3.out.lt
 clear f4 K3 P3 X3
 rw[eW.out]
 clear eW
 clear NW N1 N2
 have PSR:Hid (DsAt ts (i+1) 0 (stP refP ts (i+1) 0) (λa=>a=.mk 4 [] [] 0 0 [] [])):=λ_=>⟨_,rfl,rfl⟩
 go_upto_region 35 with fail
 have fz:=Y4.out.frozen 0
 have ez:=Y4.out.c0
 go_upto_region 49 with fail
 obtain⟨W5,e9,Y5,k5⟩:=Y4.out.u0 (.I 4)
 rw[e9]
 clear e9
 have X5:=k! X4 k5
 have K5:=t! K4 k5
 have P5:=h! (HH.out.putp P4.out.at_ (P4.out.blk.kept k5 (by omega)) K5.out)
 have J5:=h! k5
 have z5:=k5.size
 clear k5 Y4 X4 K4 P4
 clear fz ez
 obtain⟨qc0,qc1,qc2,qc3,qc4,qc5,qc6⟩:=Y5.out.A7
 have hx:=X5.out
 obtain⟨sc0,sc1,sc2,sc3,sc4,sc5,sc6⟩:=hx.A7
 obtain⟨tc0,tc1,tc2,tc3,tc4,tc5,tc6⟩:=hx.F7
 go_wp2_with fail
 obtain⟨W9,e9,X9,k9⟩:=hx.e7 (.I 4) (.E) (.N) (.I 0) (.I 0) (.N) (.N)
 rw[e9]
 clear e9
 clear sc0 sc1 sc2 sc3 sc4 sc5 sc6 qc0 qc1 qc2 qc3 qc4 qc5 qc6
 obtain⟨sc0,sc1,sc2,sc3,sc4,sc5,sc6⟩:=X9.A7
 have KK:Kept (λz=>z=g) w W9:=K5.out.then_ k9 (λz hz e=>by omega)
 refine bodyPost_ret (v:=.agg #[.I 4,.E,.N,.I 0,.I 0,.N,.N]) (by simp[results,Tryz.results153,go_sem,sc0,sc1,sc2,sc3,sc4,sc5,sc6]) rfl ⟨_,rfl,KK,⟨_,_,_,_,_,_,_,_,_,_,_,_,_,rfl⟩,(i+1),0,HH.out.putp P5.out.at_ (P5.out.blk.kept k9 (by omega)) KK,PSR.out.mono ?_⟩
 rintro a ha
 have ha:a=_:=ha
 subst ha
 exact⟨_,rfl,none,0,0,none,0,0,none,0,0,rfl,ElsG.none_ _ _ _ _ _ _,ElsG.none_ _ _ _ _ _ _,ElsG.none_ _ _ _ _ _ _⟩
theorem e29!(g c:Nat)(A:Option Addr)(ts:List Tk)(d:Nat)(dp:Int)(i:Nat)(w:World)(h:DP w g A c ts i 0)(t:Tk)(ht:ts[i]?=some t)(hk:t.kind=3)(hx:t.text=[111,118,101,114]):
 Calls Tryz.prog 153 #[.pointer (some ⟨g,0,none⟩),.I dp] w (DStep w g c A ts (stmtD (d+1) (ts.drop i)) (IsEl (QR (d+1)) w.heap.size) ShSt):=by
 obtain⟨W0,eW,f0,x0,z0⟩:=n! w 29 #[.I 0,.E,.N,.I 0,.I 0,.N,.N]
 have hgl:=h.blk.lt
 have hlim:=h.lim
 have hat:=h.at_
 have HH:=h! h
 have P0:=h! (h.below f0)
 have X0:=h! x0
 have K0:=o! g f0
 have NW:=h! (λw' (h':DP w' g A c ts i 0)=>c3! g c A ts i 0 w' h' t ht)
 have GO:stmtD (d+1) (ts.drop i)=stP overP ts (i+1) 0:=by
  rw[a1! ht,f0! d t _ hk,hx];rw[if_neg (by decide)];rw[if_neg (by decide)];rw[if_neg (by decide)];rw[if_neg (by decide)];rw[if_neg (by decide)];rw[if_pos rfl];unfold stP;rw[if_pos rfl]
 rw[GO]
 have e0:=w! [105,102] false hx
 have e1:=w! [102,111,114] false hx
 have e2:=w! [114,101,102,117,115,101] false hx
 have e3:=w! [114,111,108,108] false hx
 have e4:=w! [115,101,97,116] false hx
 have e5:=w! [111,118,101,114] true hx
 have ek:((t.kind:Int)==1)=false:=by rw[hk];decide
 have hm:i+1<ts.length:=h.more t i ht (by rw[hk];decide)
 clear h f0 x0 GO ht hk hx
 go_enter Tryz.func153,Tryz.ntmps153
 go_upto_region 1 with fail
 rw[eW.out]
 clear eW
 have N1:=h! (NW.out W0 P0.out)
 go_wp2_with fail
 refine N1.out.mono ?_
 rintro e w1⟨rfl,b1⟩
 have z1:=b1.size
 have X1:=b! X0 b1
 have K1:=e! K0 b1
 have P1:=h! (P0.out.below b1)
 have J1:=o! g b1
 clear b1 K0 P0 X0
 go_wp2_with fail
 rw[c4!]
 have N2:=h! (NW.out w1 P1.out)
 go_wp2_with fail
 refine N2.out.mono ?_
 rintro e w2⟨rfl,b2⟩
 have z2:=b2.size
 have X2:=b! X1 b2
 have K2:=e! K1 b2
 have P2:=h! (P1.out.below b2)
 have J2:=o! g b2
 clear b2 K1 P1 X1
 go_wp2_with fail
 rw[l0!]
 have y1:=P2.out.blk.c1
 have u1:=P2.out.blk.frozen 1
 have wi:=y! ((i:Int)+1)
 obtain⟨d3,k3⟩:=P2.out.pass hm
 go_upto_region 13 with fail
 clear y1 u1 wi
 have X3:=k! X2 k3
 have K3:=q! K2 k3
 have P3:=h! d3
 have J3:=h! k3
 have z3:=k3.size
 clear d3 k3 K2 P2 hm X2
 generalize w2.setCell ⟨g,1,none⟩ (.I ((i:Int)+1))=W3 at*
 go_upto_region 14 with fail
 obtain⟨W4,eW,f4,Y4,z4⟩:=n! W3 29 #[.I 0,.E,.N,.I 0,.I 0,.N,.N]
 replace Y4:=h! Y4
 have P4:=h! (P3.out.below f4)
 have X4:=b! X3 f4
 have K4:=e! K3 f4
 have J4:=o! g f4
 have xl4:=X3.out.lt
 clear f4 K3 P3 X3
 rw[eW.out]
 clear eW
 clear NW N1 N2
 have PSR:Hid (DsAt ts (i+1) 0 (stP overP ts (i+1) 0) (λa=>a=.mk 7 [] [] 0 0 [] [])):=λ_=>⟨_,rfl,rfl⟩
 go_upto_region 44 with fail
 have fz:=Y4.out.frozen 0
 have ez:=Y4.out.c0
 go_upto_region 49 with fail
 obtain⟨W5,e9,Y5,k5⟩:=Y4.out.u0 (.I 7)
 rw[e9]
 clear e9
 have X5:=k! X4 k5
 have K5:=t! K4 k5
 have P5:=h! (HH.out.putp P4.out.at_ (P4.out.blk.kept k5 (by omega)) K5.out)
 have J5:=h! k5
 have z5:=k5.size
 clear k5 Y4 X4 K4 P4
 clear fz ez
 obtain⟨qc0,qc1,qc2,qc3,qc4,qc5,qc6⟩:=Y5.out.A7
 have hx:=X5.out
 obtain⟨sc0,sc1,sc2,sc3,sc4,sc5,sc6⟩:=hx.A7
 obtain⟨tc0,tc1,tc2,tc3,tc4,tc5,tc6⟩:=hx.F7
 go_wp2_with fail
 obtain⟨W9,e9,X9,k9⟩:=hx.e7 (.I 7) (.E) (.N) (.I 0) (.I 0) (.N) (.N)
 rw[e9]
 clear e9
 clear sc0 sc1 sc2 sc3 sc4 sc5 sc6 qc0 qc1 qc2 qc3 qc4 qc5 qc6
 obtain⟨sc0,sc1,sc2,sc3,sc4,sc5,sc6⟩:=X9.A7
 have KK:Kept (λz=>z=g) w W9:=K5.out.then_ k9 (λz hz e=>by omega)
 refine bodyPost_ret (v:=.agg #[.I 7,.E,.N,.I 0,.I 0,.N,.N]) (by simp[results,Tryz.results153,go_sem,sc0,sc1,sc2,sc3,sc4,sc5,sc6]) rfl ⟨_,rfl,KK,⟨_,_,_,_,_,_,_,_,_,_,_,_,_,rfl⟩,(i+1),0,HH.out.putp P5.out.at_ (P5.out.blk.kept k9 (by omega)) KK,PSR.out.mono ?_⟩
 rintro a ha
 have ha:a=_:=ha
 subst ha
 exact⟨_,rfl,none,0,0,none,0,0,none,0,0,rfl,ElsG.none_ _ _ _ _ _ _,ElsG.none_ _ _ _ _ _ _,ElsG.none_ _ _ _ _ _ _⟩
theorem e30!(g c:Nat)(A:Option Addr)(ts:List Tk)(d:Nat)(dp:Int)(i:Nat)(w:World)(h:DP w g A c ts i 0)(t:Tk)(ht:ts[i]?=some t)(hk:t.kind=3)(hx:t.text=[114,111,108,108]):
 Calls Tryz.prog 153 #[.pointer (some ⟨g,0,none⟩),.I dp] w (DStep w g c A ts (stmtD (d+1) (ts.drop i)) (IsEl (QR (d+1)) w.heap.size) ShSt):=by
 obtain⟨W0,eW,f0,x0,z0⟩:=n! w 29 #[.I 0,.E,.N,.I 0,.I 0,.N,.N]
 have hgl:=h.blk.lt
 have hlim:=h.lim
 have hat:=h.at_
 have HH:=h! h
 have P0:=h! (h.below f0)
 have X0:=h! x0
 have K0:=o! g f0
 have NW:=h! (λw' (h':DP w' g A c ts i 0)=>c3! g c A ts i 0 w' h' t ht)
 have NM:=h! (λi er w h=>k2! g c A ts i er w h)
 have NU:=h! (λi er w h=>m5! g c A ts i er w h)
 have GO:stmtD (d+1) (ts.drop i)=stP rollP ts (i+1) 0:=by
  rw[a1! ht,f0! d t _ hk,hx];rw[if_neg (by decide)];rw[if_neg (by decide)];rw[if_neg (by decide)];rw[if_pos rfl];unfold stP;rw[if_pos rfl]
 rw[GO,a89!]
 have e0:=w! [105,102] false hx
 have e1:=w! [102,111,114] false hx
 have e2:=w! [114,101,102,117,115,101] false hx
 have e3:=w! [114,111,108,108] true hx
 have ek:((t.kind:Int)==1)=false:=by rw[hk];decide
 have hm:i+1<ts.length:=h.more t i ht (by rw[hk];decide)
 clear h f0 x0 GO ht hk hx
 go_enter Tryz.func153,Tryz.ntmps153
 go_upto_region 1 with fail
 rw[eW.out]
 clear eW
 have N1:=h! (NW.out W0 P0.out)
 go_wp2_with fail
 refine N1.out.mono ?_
 rintro e w1⟨rfl,b1⟩
 have z1:=b1.size
 have X1:=b! X0 b1
 have K1:=e! K0 b1
 have P1:=h! (P0.out.below b1)
 have J1:=o! g b1
 clear b1 K0 P0 X0
 go_wp2_with fail
 rw[c4!]
 have N2:=h! (NW.out w1 P1.out)
 go_wp2_with fail
 refine N2.out.mono ?_
 rintro e w2⟨rfl,b2⟩
 have z2:=b2.size
 have X2:=b! X1 b2
 have K2:=e! K1 b2
 have P2:=h! (P1.out.below b2)
 have J2:=o! g b2
 clear b2 K1 P1 X1
 go_wp2_with fail
 rw[l0!]
 have y1:=P2.out.blk.c1
 have u1:=P2.out.blk.frozen 1
 have wi:=y! ((i:Int)+1)
 obtain⟨d3,k3⟩:=P2.out.pass hm
 go_upto_region 13 with fail
 clear y1 u1 wi
 have X3:=k! X2 k3
 have K3:=q! K2 k3
 have P3:=h! d3
 have J3:=h! k3
 have z3:=k3.size
 clear d3 k3 K2 P2 hm X2
 generalize w2.setCell ⟨g,1,none⟩ (.I ((i:Int)+1))=W3 at*
 go_upto_region 14 with fail
 obtain⟨W4,eW,f4,Y4,z4⟩:=n! W3 29 #[.I 0,.E,.N,.I 0,.I 0,.N,.N]
 replace Y4:=h! Y4
 have P4:=h! (P3.out.below f4)
 have X4:=b! X3 f4
 have K4:=e! K3 f4
 have J4:=o! g f4
 have xl4:=X3.out.lt
 clear f4 K3 P3 X3
 rw[eW.out]
 clear eW
 clear NW N1 N2
 go_upto_region 37 with fail
 have fz:=Y4.out.frozen 0
 have ez:=Y4.out.c0
 go_upto_region 38 with fail
 obtain⟨W5,e9,Y5,k5⟩:=Y4.out.u0 (.I 5)
 rw[e9]
 clear e9
 have X5:=k! X4 k5
 have K5:=t! K4 k5
 have P5:=h! (HH.out.putp P4.out.at_ (P4.out.blk.kept k5 (by omega)) K5.out)
 have J5:=h! k5
 have z5:=k5.size
 clear k5 Y4 X4 K4 P4
 clear fz ez
 go_wp2_with fail
 refine(NM.out (i+1) 0 W5 P5.out).mono ?_
 rintro e w6⟨v6,rfl,k6,⟨s6,rfl⟩,i6,er6,p6,ps6⟩
 have z6:=k6.size
 have X6:=k! X5 k6
 have Y6:=k! Y5 k6
 have K6:=q! K5 k6
 have P6:=h! p6
 have PS6:=h! ps6
 have J6:=h! k6
 clear p6 k6 ps6 K5 P5 X5 Y5
 have fz:=Y6.out.frozen 1
 have ez:=Y6.out.c1
 go_wp2_with fail
 obtain⟨W7,e9,Y7,k7⟩:=Y6.out.u1 (.string s6)
 rw[e9]
 clear e9
 have X7:=k! X6 k7
 have K7:=t! K6 k7
 have P7:=h! (HH.out.putp P6.out.at_ (P6.out.blk.kept k7 (by omega)) K7.out)
 have J7:=h! k7
 have z7:=k7.size
 clear k7 Y6 X6 K6 P6
 clear fz ez
 refine(NU.out i6 er6 W7 P7.out).mono ?_
 rintro e w8⟨v8,rfl,k8,⟨n8,rfl⟩,i8,er8,p8,ps8⟩
 have z8:=k8.size
 have X8:=k! X7 k8
 have Y8:=k! Y7 k8
 have K8:=q! K7 k8
 have P8:=h! p8
 have PS8:=h! (PS6.out.then_ ps8)
 have J8:=h! k8
 clear p8 k8 ps8 K7 P7 X7 Y7 PS6
 have fz:=Y8.out.frozen 3
 have ez:=Y8.out.c3
 go_upto_region 49 with fail
 obtain⟨W9,e9,Y9,k9⟩:=Y8.out.u3 (.I n8)
 rw[e9]
 clear e9
 have X9:=k! X8 k9
 have K9:=t! K8 k9
 have P9:=h! (HH.out.putp P8.out.at_ (P8.out.blk.kept k9 (by omega)) K9.out)
 have J9:=h! k9
 have z9:=k9.size
 clear k9 Y8 X8 K8 P8
 clear fz ez
 obtain⟨qc0,qc1,qc2,qc3,qc4,qc5,qc6⟩:=Y9.out.A7
 have hx:=X9.out
 obtain⟨sc0,sc1,sc2,sc3,sc4,sc5,sc6⟩:=hx.A7
 obtain⟨tc0,tc1,tc2,tc3,tc4,tc5,tc6⟩:=hx.F7
 go_wp2_with fail
 obtain⟨W9,e9,X9,k9⟩:=hx.e7 (.I 5) (.string s6) (.N) (.I n8) (.I 0) (.N) (.N)
 rw[e9]
 clear e9
 clear sc0 sc1 sc2 sc3 sc4 sc5 sc6 qc0 qc1 qc2 qc3 qc4 qc5 qc6
 obtain⟨sc0,sc1,sc2,sc3,sc4,sc5,sc6⟩:=X9.A7
 have KK:Kept (λz=>z=g) w W9:=K9.out.then_ k9 (λz hz e=>by omega)
 refine bodyPost_ret (v:=.agg #[.I 5,.string s6,.N,.I n8,.I 0,.N,.N]) (by simp[results,Tryz.results153,go_sem,sc0,sc1,sc2,sc3,sc4,sc5,sc6]) rfl ⟨_,rfl,KK,⟨_,_,_,_,_,_,_,_,_,_,_,_,_,rfl⟩,i8,er8,HH.out.putp P9.out.at_ (P9.out.blk.kept k9 (by omega)) KK,PS8.out.map _ ?_⟩
 rintro⟨x1,n⟩ ⟨h1,h2⟩
 injection h1 with h1
 injection h2 with _ h2
 refine⟨_,rfl,none,0,0,none,0,0,none,0,0,?_,ElsG.none_ _ _ _ _ _ _,ElsG.none_ _ _ _ _ _ _,ElsG.none_ _ _ _ _ _ _⟩
 rw[h1,h2]
theorem e31!(g c:Nat)(A:Option Addr)(ts:List Tk)(d:Nat)(dp:Int)(i:Nat)(w:World)(h:DP w g A c ts i 0)(t:Tk)(ht:ts[i]?=some t)(hk:t.kind=3)(hx:t.text=[115,101,97,116]):
 Calls Tryz.prog 153 #[.pointer (some ⟨g,0,none⟩),.I dp] w (DStep w g c A ts (stmtD (d+1) (ts.drop i)) (IsEl (QR (d+1)) w.heap.size) ShSt):=by
 obtain⟨W0,eW,f0,x0,z0⟩:=n! w 29 #[.I 0,.E,.N,.I 0,.I 0,.N,.N]
 have hgl:=h.blk.lt
 have hlim:=h.lim
 have hat:=h.at_
 have HH:=h! h
 have P0:=h! (h.below f0)
 have X0:=h! x0
 have K0:=o! g f0
 have NW:=h! (λw' (h':DP w' g A c ts i 0)=>c3! g c A ts i 0 w' h' t ht)
 have EX:=h! (λi er w h=>r1! g c A ts i er w h)
 have GO:stmtD (d+1) (ts.drop i)=stP seatP ts (i+1) 0:=by
  rw[a1! ht,f0! d t _ hk,hx];rw[if_neg (by decide)];rw[if_neg (by decide)];rw[if_neg (by decide)];rw[if_neg (by decide)];rw[if_pos rfl];unfold stP;rw[if_pos rfl]
 rw[GO,a90!]
 have e0:=w! [105,102] false hx
 have e1:=w! [102,111,114] false hx
 have e2:=w! [114,101,102,117,115,101] false hx
 have e3:=w! [114,111,108,108] false hx
 have e4:=w! [115,101,97,116] true hx
 have ek:((t.kind:Int)==1)=false:=by rw[hk];decide
 have hm:i+1<ts.length:=h.more t i ht (by rw[hk];decide)
 clear h f0 x0 GO ht hk hx
 go_enter Tryz.func153,Tryz.ntmps153
 go_upto_region 1 with fail
 rw[eW.out]
 clear eW
 have N1:=h! (NW.out W0 P0.out)
 go_wp2_with fail
 refine N1.out.mono ?_
 rintro e w1⟨rfl,b1⟩
 have z1:=b1.size
 have X1:=b! X0 b1
 have K1:=e! K0 b1
 have P1:=h! (P0.out.below b1)
 have J1:=o! g b1
 clear b1 K0 P0 X0
 go_wp2_with fail
 rw[c4!]
 have N2:=h! (NW.out w1 P1.out)
 go_wp2_with fail
 refine N2.out.mono ?_
 rintro e w2⟨rfl,b2⟩
 have z2:=b2.size
 have X2:=b! X1 b2
 have K2:=e! K1 b2
 have P2:=h! (P1.out.below b2)
 have J2:=o! g b2
 clear b2 K1 P1 X1
 go_wp2_with fail
 rw[l0!]
 have y1:=P2.out.blk.c1
 have u1:=P2.out.blk.frozen 1
 have wi:=y! ((i:Int)+1)
 obtain⟨d3,k3⟩:=P2.out.pass hm
 go_upto_region 13 with fail
 clear y1 u1 wi
 have X3:=k! X2 k3
 have K3:=q! K2 k3
 have P3:=h! d3
 have J3:=h! k3
 have z3:=k3.size
 clear d3 k3 K2 P2 hm X2
 generalize w2.setCell ⟨g,1,none⟩ (.I ((i:Int)+1))=W3 at*
 go_upto_region 14 with fail
 obtain⟨W4,eW,f4,Y4,z4⟩:=n! W3 29 #[.I 0,.E,.N,.I 0,.I 0,.N,.N]
 replace Y4:=h! Y4
 have P4:=h! (P3.out.below f4)
 have X4:=b! X3 f4
 have K4:=e! K3 f4
 have J4:=o! g f4
 have xl4:=X3.out.lt
 clear f4 K3 P3 X3
 rw[eW.out]
 clear eW
 clear NW N1 N2
 go_upto_region 41 with fail
 have fz:=Y4.out.frozen 0
 have ez:=Y4.out.c0
 go_upto_region 42 with fail
 obtain⟨W5,e9,Y5,k5⟩:=Y4.out.u0 (.I 6)
 rw[e9]
 clear e9
 have X5:=k! X4 k5
 have K5:=t! K4 k5
 have P5:=h! (HH.out.putp P4.out.at_ (P4.out.blk.kept k5 (by omega)) K5.out)
 have J5:=h! k5
 have z5:=k5.size
 clear k5 Y4 X4 K4 P4
 clear fz ez
 go_wp2_with fail
 refine(EX.out (i+1) 0 W5 P5.out).mono ?_
 rintro e w6⟨v6,rfl,k6,⟨op6,N6,nm6,B6,l6,q6,rfl⟩,i6,er6,p6,ps6⟩
 have z6:=k6.size
 have X6:=k! X5 k6
 have Y6:=k! Y5 k6
 have K6:=q! K5 k6
 have P6:=h! p6
 have PS6:=h! ps6
 have J6:=h! k6
 clear p6 k6 ps6 K5 P5 X5 Y5
 have fz:(w6.alloc (.cells #[.I op6,.I N6,.string nm6,.slice B6 l6 q6] 24)).frozen? ⟨W3.heap.size,2,none⟩=false:=(Y6.out.alloc _).frozen 2
 have ez:(w6.alloc (.cells #[.I op6,.I N6,.string nm6,.slice B6 l6 q6] 24)).cell? ⟨W3.heap.size,2,none⟩=some (.N):=(Y6.out.alloc _).cell 2
 go_upto_region 49 with fail
 change Code.wp _ _ _ _ ((w6.alloc (.cells #[.I op6,.I N6,.string nm6,.slice B6 l6 q6] 24)).setCell ⟨W3.heap.size,2,none⟩ (.slice (some ⟨w6.heap.size,0,none⟩) 1 1))
 clear fz ez
 have ka7:=((Kept.refl (λz=>z=W3.heap.size) w6).alloc (.cells #[.I op6,.I N6,.string nm6,.slice B6 l6 q6] 24)).setCell (p:=⟨W3.heap.size,2,none⟩) (λ_=>rfl) (.slice (some ⟨w6.heap.size,0,none⟩) 1 1)
 have yl7:=Y6.out.lt
 have B7:Hid (Blk ((w6.alloc (.cells #[.I op6,.I N6,.string nm6,.slice B6 l6 q6] 24)).setCell ⟨W3.heap.size,2,none⟩ (.slice (some ⟨w6.heap.size,0,none⟩) 1 1)) (w6.heap.size) 24 #[.I op6,.I N6,.string nm6,.slice B6 l6 q6]):=(Blk.new w6 24 #[.I op6,.I N6,.string nm6,.slice B6 l6 q6]).far (by show w6.heap.size≠W3.heap.size;omega) _
 have Y7:Hid (Blk ((w6.alloc (.cells #[.I op6,.I N6,.string nm6,.slice B6 l6 q6] 24)).setCell ⟨W3.heap.size,2,none⟩ (.slice (some ⟨w6.heap.size,0,none⟩) 1 1)) (W3.heap.size) 29 #[.I 6,.E,.slice (some ⟨w6.heap.size,0,none⟩) 1 1,.I 0,.I 0,.N,.N]):=(Y6.out.alloc _).set_ 2 (.slice (some ⟨w6.heap.size,0,none⟩) 1 1)
 have X7:=k! X6 ka7
 have K7:=t! K6 ka7
 have P7:=h! (HH.out.putp P6.out.at_ (P6.out.blk.kept ka7 (by omega)) K7.out)
 have J7:=h! ka7
 have z7:((w6.alloc (.cells #[.I op6,.I N6,.string nm6,.slice B6 l6 q6] 24)).setCell ⟨W3.heap.size,2,none⟩ (.slice (some ⟨w6.heap.size,0,none⟩) 1 1)).heap.size=w6.heap.size+1:=by simp[World.setCell]
 clear ka7 K6 P6 X6 Y6
 generalize ((w6.alloc (.cells #[.I op6,.I N6,.string nm6,.slice B6 l6 q6] 24)).setCell ⟨W3.heap.size,2,none⟩ (.slice (some ⟨w6.heap.size,0,none⟩) 1 1))=W7 at*
 obtain⟨qc0,qc1,qc2,qc3,qc4,qc5,qc6⟩:=Y7.out.A7
 have hx:=X7.out
 obtain⟨sc0,sc1,sc2,sc3,sc4,sc5,sc6⟩:=hx.A7
 obtain⟨tc0,tc1,tc2,tc3,tc4,tc5,tc6⟩:=hx.F7
 go_wp2_with fail
 obtain⟨W9,e9,X9,k9⟩:=hx.e7 (.I 6) (.E) (.slice (some ⟨w6.heap.size,0,none⟩) 1 1) (.I 0) (.I 0) (.N) (.N)
 rw[e9]
 clear e9
 clear sc0 sc1 sc2 sc3 sc4 sc5 sc6 qc0 qc1 qc2 qc3 qc4 qc5 qc6
 obtain⟨sc0,sc1,sc2,sc3,sc4,sc5,sc6⟩:=X9.A7
 have KK:Kept (λz=>z=g) w W9:=K7.out.then_ k9 (λz hz e=>by omega)
 have TA:Hid (Kept (λz=>z<W5.heap.size∨w6.heap.size<=z) w6 W9):=i! J7 (d! k9)
 have TB:Hid (Kept (λz=>z<w6.heap.size∨w6.heap.size+1<=z) W7 W9):=d! k9
 refine bodyPost_ret (v:=.agg #[.I 6,.E,.slice (some ⟨w6.heap.size,0,none⟩) 1 1,.I 0,.I 0,.N,.N]) (by simp[results,Tryz.results153,go_sem,sc0,sc1,sc2,sc3,sc4,sc5,sc6]) rfl ⟨_,rfl,KK,⟨_,_,_,_,_,_,_,_,_,_,_,_,_,rfl⟩,i6,er6,HH.out.putp P7.out.at_ (P7.out.blk.kept k9 (by omega)) KK,PS6.out.map _ ?_⟩
 rintro x1 h1
 exact⟨_,rfl,_,_,_,none,0,0,none,0,0,rfl,r4! (cs:=[.I op6,.I N6,.string nm6,.slice B6 l6 q6]) (B7.out.kept TB.out (λe=>by omega)) rfl (by omega) ((h1.kept f5! (by omega) TA.out (λk _ hk e=>by omega)).cells (cs:=[.I op6,.I N6,.string nm6,.slice B6 l6 q6])),ElsG.none_ _ _ _ _ _ _,ElsG.none_ _ _ _ _ _ _⟩
theorem e32!(g c:Nat)(A:Option Addr)(ts:List Tk)(d:Nat)(dp:Int)(i:Nat)(w:World)(h:DP w g A c ts i 0)(t:Tk)(ht:ts[i]?=some t)(hk:t.kind=3)(hx:t.text=[114,101,115,116]):
 Calls Tryz.prog 153 #[.pointer (some ⟨g,0,none⟩),.I dp] w (DStep w g c A ts (stmtD (d+1) (ts.drop i)) (IsEl (QR (d+1)) w.heap.size) ShSt):=by
 obtain⟨W0,eW,f0,x0,z0⟩:=n! w 29 #[.I 0,.E,.N,.I 0,.I 0,.N,.N]
 have hgl:=h.blk.lt
 have hlim:=h.lim
 have hat:=h.at_
 have HH:=h! h
 have P0:=h! (h.below f0)
 have X0:=h! x0
 have K0:=o! g f0
 have NW:=h! (λw' (h':DP w' g A c ts i 0)=>c3! g c A ts i 0 w' h' t ht)
 have EX:=h! (λi er w h=>r1! g c A ts i er w h)
 have GO:stmtD (d+1) (ts.drop i)=stP restP ts (i+1) 0:=by
  rw[a1! ht,f0! d t _ hk,hx];rw[if_neg (by decide)];rw[if_neg (by decide)];rw[if_neg (by decide)];rw[if_neg (by decide)];rw[if_neg (by decide)];rw[if_neg (by decide)];rw[if_neg (by decide)];unfold stP;rw[if_pos rfl]
 rw[GO,a91!]
 have e0:=w! [105,102] false hx
 have e1:=w! [102,111,114] false hx
 have e2:=w! [114,101,102,117,115,101] false hx
 have e3:=w! [114,111,108,108] false hx
 have e4:=w! [115,101,97,116] false hx
 have e5:=w! [111,118,101,114] false hx
 have e6:=w! [112,97,121] false hx
 have ek:((t.kind:Int)==1)=false:=by rw[hk];decide
 have hm:i+1<ts.length:=h.more t i ht (by rw[hk];decide)
 clear h f0 x0 GO ht hk hx
 go_enter Tryz.func153,Tryz.ntmps153
 go_upto_region 1 with fail
 rw[eW.out]
 clear eW
 have N1:=h! (NW.out W0 P0.out)
 go_wp2_with fail
 refine N1.out.mono ?_
 rintro e w1⟨rfl,b1⟩
 have z1:=b1.size
 have X1:=b! X0 b1
 have K1:=e! K0 b1
 have P1:=h! (P0.out.below b1)
 have J1:=o! g b1
 clear b1 K0 P0 X0
 go_wp2_with fail
 rw[c4!]
 have N2:=h! (NW.out w1 P1.out)
 go_wp2_with fail
 refine N2.out.mono ?_
 rintro e w2⟨rfl,b2⟩
 have z2:=b2.size
 have X2:=b! X1 b2
 have K2:=e! K1 b2
 have P2:=h! (P1.out.below b2)
 have J2:=o! g b2
 clear b2 K1 P1 X1
 go_wp2_with fail
 rw[l0!]
 have y1:=P2.out.blk.c1
 have u1:=P2.out.blk.frozen 1
 have wi:=y! ((i:Int)+1)
 obtain⟨d3,k3⟩:=P2.out.pass hm
 go_upto_region 13 with fail
 clear y1 u1 wi
 have X3:=k! X2 k3
 have K3:=q! K2 k3
 have P3:=h! d3
 have J3:=h! k3
 have z3:=k3.size
 clear d3 k3 K2 P2 hm X2
 generalize w2.setCell ⟨g,1,none⟩ (.I ((i:Int)+1))=W3 at*
 go_upto_region 14 with fail
 obtain⟨W4,eW,f4,Y4,z4⟩:=n! W3 29 #[.I 0,.E,.N,.I 0,.I 0,.N,.N]
 replace Y4:=h! Y4
 have P4:=h! (P3.out.below f4)
 have X4:=b! X3 f4
 have K4:=e! K3 f4
 have J4:=o! g f4
 have xl4:=X3.out.lt
 clear f4 K3 P3 X3
 rw[eW.out]
 clear eW
 clear NW N1 N2
 go_upto_region 15 with fail
 have fz:=Y4.out.frozen 0
 have ez:=Y4.out.c0
 go_upto_region 16 with fail
 obtain⟨W5,e9,Y5,k5⟩:=Y4.out.u0 (.I 9)
 rw[e9]
 clear e9
 have X5:=k! X4 k5
 have K5:=t! K4 k5
 have P5:=h! (HH.out.putp P4.out.at_ (P4.out.blk.kept k5 (by omega)) K5.out)
 have J5:=h! k5
 have z5:=k5.size
 clear k5 Y4 X4 K4 P4
 clear fz ez
 go_wp2_with fail
 refine(EX.out (i+1) 0 W5 P5.out).mono ?_
 rintro e w6⟨v6,rfl,k6,⟨op6,N6,nm6,B6,l6,q6,rfl⟩,i6,er6,p6,ps6⟩
 have z6:=k6.size
 have X6:=k! X5 k6
 have Y6:=k! Y5 k6
 have K6:=q! K5 k6
 have P6:=h! p6
 have PS6:=h! ps6
 have J6:=h! k6
 clear p6 k6 ps6 K5 P5 X5 Y5
 have fz:(w6.alloc (.cells #[.I op6,.I N6,.string nm6,.slice B6 l6 q6] 24)).frozen? ⟨W3.heap.size,2,none⟩=false:=(Y6.out.alloc _).frozen 2
 have ez:(w6.alloc (.cells #[.I op6,.I N6,.string nm6,.slice B6 l6 q6] 24)).cell? ⟨W3.heap.size,2,none⟩=some (.N):=(Y6.out.alloc _).cell 2
 go_upto_region 49 with fail
 change Code.wp _ _ _ _ ((w6.alloc (.cells #[.I op6,.I N6,.string nm6,.slice B6 l6 q6] 24)).setCell ⟨W3.heap.size,2,none⟩ (.slice (some ⟨w6.heap.size,0,none⟩) 1 1))
 clear fz ez
 have ka7:=((Kept.refl (λz=>z=W3.heap.size) w6).alloc (.cells #[.I op6,.I N6,.string nm6,.slice B6 l6 q6] 24)).setCell (p:=⟨W3.heap.size,2,none⟩) (λ_=>rfl) (.slice (some ⟨w6.heap.size,0,none⟩) 1 1)
 have yl7:=Y6.out.lt
 have B7:Hid (Blk ((w6.alloc (.cells #[.I op6,.I N6,.string nm6,.slice B6 l6 q6] 24)).setCell ⟨W3.heap.size,2,none⟩ (.slice (some ⟨w6.heap.size,0,none⟩) 1 1)) (w6.heap.size) 24 #[.I op6,.I N6,.string nm6,.slice B6 l6 q6]):=(Blk.new w6 24 #[.I op6,.I N6,.string nm6,.slice B6 l6 q6]).far (by show w6.heap.size≠W3.heap.size;omega) _
 have Y7:Hid (Blk ((w6.alloc (.cells #[.I op6,.I N6,.string nm6,.slice B6 l6 q6] 24)).setCell ⟨W3.heap.size,2,none⟩ (.slice (some ⟨w6.heap.size,0,none⟩) 1 1)) (W3.heap.size) 29 #[.I 9,.E,.slice (some ⟨w6.heap.size,0,none⟩) 1 1,.I 0,.I 0,.N,.N]):=(Y6.out.alloc _).set_ 2 (.slice (some ⟨w6.heap.size,0,none⟩) 1 1)
 have X7:=k! X6 ka7
 have K7:=t! K6 ka7
 have P7:=h! (HH.out.putp P6.out.at_ (P6.out.blk.kept ka7 (by omega)) K7.out)
 have J7:=h! ka7
 have z7:((w6.alloc (.cells #[.I op6,.I N6,.string nm6,.slice B6 l6 q6] 24)).setCell ⟨W3.heap.size,2,none⟩ (.slice (some ⟨w6.heap.size,0,none⟩) 1 1)).heap.size=w6.heap.size+1:=by simp[World.setCell]
 clear ka7 K6 P6 X6 Y6
 generalize ((w6.alloc (.cells #[.I op6,.I N6,.string nm6,.slice B6 l6 q6] 24)).setCell ⟨W3.heap.size,2,none⟩ (.slice (some ⟨w6.heap.size,0,none⟩) 1 1))=W7 at*
 obtain⟨qc0,qc1,qc2,qc3,qc4,qc5,qc6⟩:=Y7.out.A7
 have hx:=X7.out
 obtain⟨sc0,sc1,sc2,sc3,sc4,sc5,sc6⟩:=hx.A7
 obtain⟨tc0,tc1,tc2,tc3,tc4,tc5,tc6⟩:=hx.F7
 go_wp2_with fail
 obtain⟨W9,e9,X9,k9⟩:=hx.e7 (.I 9) (.E) (.slice (some ⟨w6.heap.size,0,none⟩) 1 1) (.I 0) (.I 0) (.N) (.N)
 rw[e9]
 clear e9
 clear sc0 sc1 sc2 sc3 sc4 sc5 sc6 qc0 qc1 qc2 qc3 qc4 qc5 qc6
 obtain⟨sc0,sc1,sc2,sc3,sc4,sc5,sc6⟩:=X9.A7
 have KK:Kept (λz=>z=g) w W9:=K7.out.then_ k9 (λz hz e=>by omega)
 have TA:Hid (Kept (λz=>z<W5.heap.size∨w6.heap.size<=z) w6 W9):=i! J7 (d! k9)
 have TB:Hid (Kept (λz=>z<w6.heap.size∨w6.heap.size+1<=z) W7 W9):=d! k9
 refine bodyPost_ret (v:=.agg #[.I 9,.E,.slice (some ⟨w6.heap.size,0,none⟩) 1 1,.I 0,.I 0,.N,.N]) (by simp[results,Tryz.results153,go_sem,sc0,sc1,sc2,sc3,sc4,sc5,sc6]) rfl ⟨_,rfl,KK,⟨_,_,_,_,_,_,_,_,_,_,_,_,_,rfl⟩,i6,er6,HH.out.putp P7.out.at_ (P7.out.blk.kept k9 (by omega)) KK,PS6.out.map _ ?_⟩
 rintro x1 h1
 exact⟨_,rfl,_,_,_,none,0,0,none,0,0,rfl,r4! (cs:=[.I op6,.I N6,.string nm6,.slice B6 l6 q6]) (B7.out.kept TB.out (λe=>by omega)) rfl (by omega) ((h1.kept f5! (by omega) TA.out (λk _ hk e=>by omega)).cells (cs:=[.I op6,.I N6,.string nm6,.slice B6 l6 q6])),ElsG.none_ _ _ _ _ _ _,ElsG.none_ _ _ _ _ _ _⟩
theorem e33!(g c:Nat)(A:Option Addr)(ts:List Tk)(d:Nat)(hdd:d<=15)(hw:TW ts)(H:d≠0->r2! g c A ts d)(dp:Int)(hd:dp+((d+1:Nat):Int)=17)(i:Nat)(w:World)(h:DP w g A c ts i 0)(t:Tk)(ht:ts[i]?=some t)(hk:t.kind=3)(hx:t.text=[102,111,114]):
 Calls Tryz.prog 153 #[.pointer (some ⟨g,0,none⟩),.I dp] w (DStep w g c A ts (stmtD (d+1) (ts.drop i)) (IsEl (QR (d+1)) w.heap.size) ShSt):=by
 obtain⟨W0,eW,f0,x0,z0⟩:=n! w 29 #[.I 0,.E,.N,.I 0,.I 0,.N,.N]
 have hgl:=h.blk.lt
 have hlim:=h.lim
 have hat:=h.at_
 have HH:=h! h
 have P0:=h! (h.below f0)
 have X0:=h! x0
 have K0:=o! g f0
 have NW:=h! (λw' (h':DP w' g A c ts i 0)=>c3! g c A ts i 0 w' h' t ht)
 have NM:=h! (λi er w h=>k2! g c A ts i er w h)
 have SG:=h! (λi er w h=>m6! g c A ts i er w h)
 have MT:=h! (λi er w h=>a4! g c A ts i er [100,111] w h)
 have MD:=h! (λi er w h=>a4! g c A ts i er [101,110,100] w h)
 have INN:=h! (λi er w h=>a23! g c A ts hw d (by omega) H (dp+1) (by omega) i er w h)
 have GO:stmtD (d+1) (ts.drop i)=stP (forP d) ts (i+1) 0:=by
  rw[a1! ht,f0! d t _ hk,hx];rw[if_neg (by decide)];rw[if_pos rfl];unfold stP;rw[if_pos rfl]
 rw[GO,a88!]
 have e0:=w! [105,102] false hx
 have e1:=w! [102,111,114] true hx
 have ek:((t.kind:Int)==1)=false:=by rw[hk];decide
 have hm:i+1<ts.length:=h.more t i ht (by rw[hk];decide)
 clear h f0 x0 GO ht hk hx H hw
 go_enter Tryz.func153,Tryz.ntmps153
 go_upto_region 1 with fail
 rw[eW.out]
 clear eW
 have N1:=h! (NW.out W0 P0.out)
 go_wp2_with fail
 refine N1.out.mono ?_
 rintro e w1⟨rfl,b1⟩
 have z1:=b1.size
 have X1:=b! X0 b1
 have K1:=e! K0 b1
 have P1:=h! (P0.out.below b1)
 have J1:=o! g b1
 clear b1 K0 P0 X0
 go_wp2_with fail
 rw[c4!]
 have N2:=h! (NW.out w1 P1.out)
 go_wp2_with fail
 refine N2.out.mono ?_
 rintro e w2⟨rfl,b2⟩
 have z2:=b2.size
 have X2:=b! X1 b2
 have K2:=e! K1 b2
 have P2:=h! (P1.out.below b2)
 have J2:=o! g b2
 clear b2 K1 P1 X1
 go_wp2_with fail
 rw[l0!]
 have y1:=P2.out.blk.c1
 have u1:=P2.out.blk.frozen 1
 have wi:=y! ((i:Int)+1)
 obtain⟨d3,k3⟩:=P2.out.pass hm
 go_upto_region 13 with fail
 clear y1 u1 wi
 have X3:=k! X2 k3
 have K3:=q! K2 k3
 have P3:=h! d3
 have J3:=h! k3
 have z3:=k3.size
 clear d3 k3 K2 P2 hm X2
 generalize w2.setCell ⟨g,1,none⟩ (.I ((i:Int)+1))=W3 at*
 go_upto_region 14 with fail
 obtain⟨W4,eW,f4,Y4,z4⟩:=n! W3 29 #[.I 0,.E,.N,.I 0,.I 0,.N,.N]
 replace Y4:=h! Y4
 have P4:=h! (P3.out.below f4)
 have X4:=b! X3 f4
 have K4:=e! K3 f4
 have J4:=o! g f4
 have xl4:=X3.out.lt
 clear f4 K3 P3 X3
 rw[eW.out]
 clear eW
 clear NW N1 N2
 have wd:=y! (dp+1)
 go_upto_region 27 with fail
 have fz:=Y4.out.frozen 0
 have ez:=Y4.out.c0
 go_upto_region 28 with fail
 obtain⟨W5,e9,Y5,k5⟩:=Y4.out.u0 (.I 3)
 rw[e9]
 clear e9
 have X5:=k! X4 k5
 have K5:=t! K4 k5
 have P5:=h! (HH.out.putp P4.out.at_ (P4.out.blk.kept k5 (by omega)) K5.out)
 have J5:=h! k5
 have z5:=k5.size
 clear k5 Y4 X4 K4 P4
 clear fz ez
 go_wp2_with fail
 refine(NM.out (i+1) 0 W5 P5.out).mono ?_
 rintro e w6⟨v6,rfl,k6,⟨s6,rfl⟩,i6,er6,p6,ps6⟩
 have z6:=k6.size
 have X6:=k! X5 k6
 have Y6:=k! Y5 k6
 have K6:=q! K5 k6
 have P6:=h! p6
 have PS6:=h! ps6
 have J6:=h! k6
 clear p6 k6 ps6 K5 P5 X5 Y5
 have fz:=Y6.out.frozen 1
 have ez:=Y6.out.c1
 go_wp2_with fail
 obtain⟨W7,e9,Y7,k7⟩:=Y6.out.u1 (.string s6)
 rw[e9]
 clear e9
 have X7:=k! X6 k7
 have K7:=t! K6 k7
 have P7:=h! (HH.out.putp P6.out.at_ (P6.out.blk.kept k7 (by omega)) K7.out)
 have J7:=h! k7
 have z7:=k7.size
 clear k7 Y6 X6 K6 P6
 clear fz ez
 refine(SG.out i6 er6 W7 P7.out).mono ?_
 rintro e w8⟨v8,rfl,k8,⟨n8,rfl⟩,i8,er8,p8,ps8⟩
 have z8:=k8.size
 have X8:=k! X7 k8
 have Y8:=k! Y7 k8
 have K8:=q! K7 k8
 have P8:=h! p8
 have PS8:=h! (PS6.out.then_ ps8)
 have J8:=h! k8
 clear p8 k8 ps8 K7 P7 X7 Y7 PS6
 have fz:=Y8.out.frozen 3
 have ez:=Y8.out.c3
 go_wp2_with fail
 obtain⟨W9,e9,Y9,k9⟩:=Y8.out.u3 (.I n8)
 rw[e9]
 clear e9
 have X9:=k! X8 k9
 have K9:=t! K8 k9
 have P9:=h! (HH.out.putp P8.out.at_ (P8.out.blk.kept k9 (by omega)) K9.out)
 have J9:=h! k9
 have z9:=k9.size
 clear k9 Y8 X8 K8 P8
 clear fz ez
 refine(SG.out i8 er8 W9 P9.out).mono ?_
 rintro e w10⟨v10,rfl,k10,⟨n10,rfl⟩,i10,er10,p10,ps10⟩
 have z10:=k10.size
 have X10:=k! X9 k10
 have Y10:=k! Y9 k10
 have K10:=q! K9 k10
 have P10:=h! p10
 have PS10:=h! (PS8.out.then_ ps10)
 have J10:=h! k10
 clear p10 k10 ps10 K9 P9 X9 Y9 PS8
 have fz:=Y10.out.frozen 4
 have ez:=Y10.out.c4
 go_wp2_with fail
 obtain⟨W11,e9,Y11,k11⟩:=Y10.out.u4 (.I n10)
 rw[e9]
 clear e9
 have X11:=k! X10 k11
 have K11:=t! K10 k11
 have P11:=h! (HH.out.putp P10.out.at_ (P10.out.blk.kept k11 (by omega)) K11.out)
 have J11:=h! k11
 have z11:=k11.size
 clear k11 Y10 X10 K10 P10
 clear fz ez
 refine(MT.out i10 er10 W11 P11.out).mono ?_
 rintro e w12⟨v12,rfl,k12,rfl,i12,er12,p12,ps12⟩
 have z12:=k12.size
 have X12:=k! X11 k12
 have Y12:=k! Y11 k12
 have K12:=q! K11 k12
 have P12:=h! p12
 have PS12:=h! (PS10.out.then_ ps12)
 have J12:=h! k12
 clear p12 k12 ps12 K11 P11 X11 Y11 PS10
 go_wp2_with fail
 refine(INN.out i12 er12 w12 P12.out).mono ?_
 rintro e w13⟨v13,rfl,k13,⟨A13,l13,q13,rfl⟩,i13,er13,p13,ps13⟩
 have z13:=k13.size
 have X13:=k! X12 k13
 have Y13:=k! Y12 k13
 have K13:=q! K12 k13
 have P13:=h! p13
 have PS13:=h! (PS12.out.then_ ps13)
 have J13:=h! k13
 clear p13 k13 ps13 K12 P12 X12 Y12 PS12
 have fz:=Y13.out.frozen 5
 have ez:=Y13.out.c5
 go_wp2_with fail
 obtain⟨W14,e9,Y14,k14⟩:=Y13.out.u5 (.slice A13 l13 q13)
 rw[e9]
 clear e9
 have X14:=k! X13 k14
 have K14:=t! K13 k14
 have P14:=h! (HH.out.putp P13.out.at_ (P13.out.blk.kept k14 (by omega)) K14.out)
 have J14:=h! k14
 have z14:=k14.size
 clear k14 Y13 X13 K13 P13
 clear fz ez
 refine(MD.out i13 er13 W14 P14.out).mono ?_
 rintro e w15⟨v15,rfl,k15,rfl,i15,er15,p15,ps15⟩
 have z15:=k15.size
 have X15:=k! X14 k15
 have Y15:=k! Y14 k15
 have K15:=q! K14 k15
 have P15:=h! p15
 have PS15:=h! (PS13.out.then_ ps15)
 have J15:=h! k15
 clear p15 k15 ps15 K14 P14 X14 Y14 PS13
 go_upto_region 49 with fail
 obtain⟨qc0,qc1,qc2,qc3,qc4,qc5,qc6⟩:=Y15.out.A7
 have hx:=X15.out
 obtain⟨sc0,sc1,sc2,sc3,sc4,sc5,sc6⟩:=hx.A7
 obtain⟨tc0,tc1,tc2,tc3,tc4,tc5,tc6⟩:=hx.F7
 go_wp2_with fail
 obtain⟨W9,e9,X9,k9⟩:=hx.e7 (.I 3) (.string s6) (.N) (.I n8) (.I n10) (.slice A13 l13 q13) (.N)
 rw[e9]
 clear e9
 clear sc0 sc1 sc2 sc3 sc4 sc5 sc6 qc0 qc1 qc2 qc3 qc4 qc5 qc6
 obtain⟨sc0,sc1,sc2,sc3,sc4,sc5,sc6⟩:=X9.A7
 have KK:Kept (λz=>z=g) w W9:=K15.out.then_ k9 (λz hz e=>by omega)
 have TC:Hid (Kept (λz=>z<w12.heap.size∨w13.heap.size<=z) w13 W9):=i! J14 (i! J15 (d! k9))
 refine bodyPost_ret (v:=.agg #[.I 3,.string s6,.N,.I n8,.I n10,.slice A13 l13 q13,.N]) (by simp[results,Tryz.results153,go_sem,sc0,sc1,sc2,sc3,sc4,sc5,sc6]) rfl ⟨_,rfl,KK,⟨_,_,_,_,_,_,_,_,_,_,_,_,_,rfl⟩,i15,er15,HH.out.putp P15.out.at_ (P15.out.blk.kept k9 (by omega)) KK,PS15.out.map _ ?_⟩
 rintro⟨⟨⟨⟨⟨x1,lo⟩,hi⟩,u1⟩,l⟩,u2⟩ ⟨⟨⟨⟨⟨h1,h2⟩,h3⟩,-⟩,h4⟩,-⟩
 injection h1 with h1
 injection h2 with _ h2
 injection h3 with _ h3
 refine⟨_,rfl,none,0,0,A13,l13,q13,none,0,0,?_,ElsG.none_ _ _ _ _ _ _,(h4.kept (c7! d) (by omega) TC.out (λk _ hk e=>by omega)).els,ElsG.none_ _ _ _ _ _ _⟩
 rw[h1,h2,h3]
theorem e34!(g c:Nat)(A:Option Addr)(ts:List Tk)(d:Nat)(dp:Int)(i:Nat)(w:World)(h:DP w g A c ts i 0)(t:Tk)(ht:ts[i]?=some t)(hk:t.kind=3)(hx:t.text=[112,97,121]):
 Calls Tryz.prog 153 #[.pointer (some ⟨g,0,none⟩),.I dp] w (DStep w g c A ts (stmtD (d+1) (ts.drop i)) (IsEl (QR (d+1)) w.heap.size) ShSt):=by
 obtain⟨W0,eW,f0,x0,z0⟩:=n! w 29 #[.I 0,.E,.N,.I 0,.I 0,.N,.N]
 have hgl:=h.blk.lt
 have hlim:=h.lim
 have hat:=h.at_
 have HH:=h! h
 have P0:=h! (h.below f0)
 have X0:=h! x0
 have K0:=o! g f0
 have NW:=h! (λw' (h':DP w' g A c ts i 0)=>c3! g c A ts i 0 w' h' t ht)
 have EX:=h! (λi er w h=>r1! g c A ts i er w h)
 have GO:stmtD (d+1) (ts.drop i)=stP payP ts (i+1) 0:=by
  rw[a1! ht,f0! d t _ hk,hx];rw[if_neg (by decide)];rw[if_neg (by decide)];rw[if_neg (by decide)];rw[if_neg (by decide)];rw[if_neg (by decide)];rw[if_neg (by decide)];rw[if_pos rfl];unfold stP;rw[if_pos rfl]
 rw[GO,a92!]
 have e0:=w! [105,102] false hx
 have e1:=w! [102,111,114] false hx
 have e2:=w! [114,101,102,117,115,101] false hx
 have e3:=w! [114,111,108,108] false hx
 have e4:=w! [115,101,97,116] false hx
 have e5:=w! [111,118,101,114] false hx
 have e6:=w! [112,97,121] true hx
 have ek:((t.kind:Int)==1)=false:=by rw[hk];decide
 have hm:i+1<ts.length:=h.more t i ht (by rw[hk];decide)
 clear h f0 x0 GO ht hk hx
 go_enter Tryz.func153,Tryz.ntmps153
 go_upto_region 1 with fail
 rw[eW.out]
 clear eW
 have N1:=h! (NW.out W0 P0.out)
 go_wp2_with fail
 refine N1.out.mono ?_
 rintro e w1⟨rfl,b1⟩
 have z1:=b1.size
 have X1:=b! X0 b1
 have K1:=e! K0 b1
 have P1:=h! (P0.out.below b1)
 have J1:=o! g b1
 clear b1 K0 P0 X0
 go_wp2_with fail
 rw[c4!]
 have N2:=h! (NW.out w1 P1.out)
 go_wp2_with fail
 refine N2.out.mono ?_
 rintro e w2⟨rfl,b2⟩
 have z2:=b2.size
 have X2:=b! X1 b2
 have K2:=e! K1 b2
 have P2:=h! (P1.out.below b2)
 have J2:=o! g b2
 clear b2 K1 P1 X1
 go_wp2_with fail
 rw[l0!]
 have y1:=P2.out.blk.c1
 have u1:=P2.out.blk.frozen 1
 have wi:=y! ((i:Int)+1)
 obtain⟨d3,k3⟩:=P2.out.pass hm
 go_upto_region 13 with fail
 clear y1 u1 wi
 have X3:=k! X2 k3
 have K3:=q! K2 k3
 have P3:=h! d3
 have J3:=h! k3
 have z3:=k3.size
 clear d3 k3 K2 P2 hm X2
 generalize w2.setCell ⟨g,1,none⟩ (.I ((i:Int)+1))=W3 at*
 go_upto_region 14 with fail
 obtain⟨W4,eW,f4,Y4,z4⟩:=n! W3 29 #[.I 0,.E,.N,.I 0,.I 0,.N,.N]
 replace Y4:=h! Y4
 have P4:=h! (P3.out.below f4)
 have X4:=b! X3 f4
 have K4:=e! K3 f4
 have J4:=o! g f4
 have xl4:=X3.out.lt
 clear f4 K3 P3 X3
 rw[eW.out]
 clear eW
 clear NW N1 N2
 go_upto_region 46 with fail
 have fz:=Y4.out.frozen 0
 have ez:=Y4.out.c0
 go_upto_region 47 with fail
 obtain⟨W5,e9,Y5,k5⟩:=Y4.out.u0 (.I 8)
 rw[e9]
 clear e9
 have X5:=k! X4 k5
 have K5:=t! K4 k5
 have P5:=h! (HH.out.putp P4.out.at_ (P4.out.blk.kept k5 (by omega)) K5.out)
 have J5:=h! k5
 have z5:=k5.size
 clear k5 Y4 X4 K4 P4
 clear fz ez
 go_wp2_with fail
 refine(EX.out (i+1) 0 W5 P5.out).mono ?_
 rintro e w6⟨v6,rfl,k6,⟨op6,N6,nm6,B6,l6,q6,rfl⟩,i6,er6,p6,ps6⟩
 have z6:=k6.size
 have X6:=k! X5 k6
 have Y6:=k! Y5 k6
 have K6:=q! K5 k6
 have P6:=h! p6
 have PS6:=h! ps6
 have J6:=h! k6
 clear p6 k6 ps6 K5 P5 X5 Y5
 have fz:(w6.alloc (.cells #[.I op6,.I N6,.string nm6,.slice B6 l6 q6] 24)).frozen? ⟨W3.heap.size,2,none⟩=false:=(Y6.out.alloc _).frozen 2
 have ez:(w6.alloc (.cells #[.I op6,.I N6,.string nm6,.slice B6 l6 q6] 24)).cell? ⟨W3.heap.size,2,none⟩=some (.N):=(Y6.out.alloc _).cell 2
 go_upto_region 48 with fail
 change Code.wp _ _ _ _ ((w6.alloc (.cells #[.I op6,.I N6,.string nm6,.slice B6 l6 q6] 24)).setCell ⟨W3.heap.size,2,none⟩ (.slice (some ⟨w6.heap.size,0,none⟩) 1 1))
 clear fz ez
 have ka7:=((Kept.refl (λz=>z=W3.heap.size) w6).alloc (.cells #[.I op6,.I N6,.string nm6,.slice B6 l6 q6] 24)).setCell (p:=⟨W3.heap.size,2,none⟩) (λ_=>rfl) (.slice (some ⟨w6.heap.size,0,none⟩) 1 1)
 have yl7:=Y6.out.lt
 have B7:Hid (Blk ((w6.alloc (.cells #[.I op6,.I N6,.string nm6,.slice B6 l6 q6] 24)).setCell ⟨W3.heap.size,2,none⟩ (.slice (some ⟨w6.heap.size,0,none⟩) 1 1)) (w6.heap.size) 24 #[.I op6,.I N6,.string nm6,.slice B6 l6 q6]):=(Blk.new w6 24 #[.I op6,.I N6,.string nm6,.slice B6 l6 q6]).far (by show w6.heap.size≠W3.heap.size;omega) _
 have Y7:Hid (Blk ((w6.alloc (.cells #[.I op6,.I N6,.string nm6,.slice B6 l6 q6] 24)).setCell ⟨W3.heap.size,2,none⟩ (.slice (some ⟨w6.heap.size,0,none⟩) 1 1)) (W3.heap.size) 29 #[.I 8,.E,.slice (some ⟨w6.heap.size,0,none⟩) 1 1,.I 0,.I 0,.N,.N]):=(Y6.out.alloc _).set_ 2 (.slice (some ⟨w6.heap.size,0,none⟩) 1 1)
 have X7:=k! X6 ka7
 have K7:=t! K6 ka7
 have P7:=h! (HH.out.putp P6.out.at_ (P6.out.blk.kept ka7 (by omega)) K7.out)
 have J7:=h! ka7
 have z7:((w6.alloc (.cells #[.I op6,.I N6,.string nm6,.slice B6 l6 q6] 24)).setCell ⟨W3.heap.size,2,none⟩ (.slice (some ⟨w6.heap.size,0,none⟩) 1 1)).heap.size=w6.heap.size+1:=by simp[World.setCell]
 clear ka7 K6 P6 X6 Y6
 generalize ((w6.alloc (.cells #[.I op6,.I N6,.string nm6,.slice B6 l6 q6] 24)).setCell ⟨W3.heap.size,2,none⟩ (.slice (some ⟨w6.heap.size,0,none⟩) 1 1))=W7 at*
 have OZ:Hid (W7.ownsRow w.heap.size 24 4 (.slice (some ⟨w6.heap.size,0,none⟩) 1 1) 1 [.I op6,.I N6,.string nm6,.slice B6 l6 q6]):=p8! B7.out rfl (by omega)
 have HBo:Hid (∀z,(Value.slice (some ⟨w6.heap.size,0,none⟩) 1 1).ownBlock=some z->z=w6.heap.size):=λz e=>by have e:=Option.some.inj e;simp only at e;omega
 go_upto_region 48 with fail
 obtain⟨vo8,hvo8⟩:∃v:Value,v=.slice (some ⟨w6.heap.size,0,none⟩) 1 1:=⟨_,rfl⟩
 have OW8:Hid (W7.drew.ownsRow w.heap.size 24 4 vo8 (1) [.I op6,.I N6,.string nm6,.slice B6 l6 q6]):=by rw[hvo8];exact World.ownsRow.drew OZ.out
 have KD8:Hid (∀z,vo8.ownBlock=some z->¬z=g):=by rw[hvo8];exact λz hz e=>by have:=HBo.out z hz;omega
 have fw8:W7.drew.frozen? ⟨W3.heap.size,2,none⟩=false:=Y7.out.frozen 2
 have qw8:W7.drew.cell? ⟨W3.heap.size,2,none⟩=some vo8:=by rw[hvo8];exact Y7.out.cell 2
 have PD8:=h! (P7.out.below (Below.refl _ W7).drew)
 have CL8:=h! (EX.out i6 er6 W7.drew PD8.out)
 have zd8:W7.drew.heap.size=W7.heap.size:=rfl
 have Q8:Hid (∀w',Blk w' (W3.heap.size) 29 #[.I 8,.E,.slice (some ⟨w6.heap.size,0,none⟩) 1 1,.I 0,.I 0,.N,.N]->w'.cell? ⟨W3.heap.size,2,none⟩=some vo8∧w'.frozen? ⟨W3.heap.size,2,none⟩=false):=by rw[hvo8];exact λ_ h=>⟨h.cell 2,h.frozen 2⟩
 have YD8:=h! (Y7.out.drew)
 have HVO8:=h! hvo8
 clear hvo8
 obtain⟨j0,hj0,hy0,hy1,hy2⟩:=info_parts w2!
 have HV8:Hid (∀z,vo8.ownBlock=some z->w.heap.size<z∧z<W7.heap.size∧z≠W3.heap.size):=by rw[HVO8.out];exact λz hz=>by have:=HBo.out z hz;omega
 go_region_law
  (first
   |(refine g5! _ (by rfl) (.tmp 152) (.tmp 155) _ (by rfl) w.heap.size 24 j0 _ 4 56 Tryz.underlying22 hj0 hy0 hy1 hy2 rfl (by omega) vo8 (1) [.I op6,.I N6,.string nm6,.slice B6 l6 q6] (by rfl) o8.out _ _ 1 1 [.I op8,.I N8,.string nm8,.slice B8 l8 q8] (by rfl) RD8.out ON8.out (by unfold maxLen;omega) (by omega) (by simp;omega) ?_;intro u8 x8 r8 g8 t8;obtain⟨A8,c8,rfl,hb8⟩:=b2! r8;have yz8:=(y8.alloc (.cells #[.I op8,.I N8,.string nm8,.slice B8 l8 q8] 24)).kept (Kept.of_grown (S:=λz=>vo8.ownBlock=some z) g8 (λ_ e=>e)) (λe=>by rw[HVO8.out]at e;have:=HBo.out _ e;omega);obtain⟨qz8,fz8⟩:=Q8.out _ yz8;have R8:=h! r8;have G8:=h! g8;have T8:=h! t8;clear r8 g8 t8)
   |(go_simp;go_at_call 47;(with_reducible refine CL8.out.mono ?_);rintro e w8⟨v8,rfl,k8,⟨op8,N8,nm8,B8,l8,q8,rfl⟩,i8,er8,p8,ps8⟩;have y8:=YD8.out.kept k8 (by omega);obtain⟨qy8,fy8⟩:=Q8.out _ y8;obtain⟨qx8,fx8⟩:=Q8.out _ (y8.alloc (.cells #[.I op8,.I N8,.string nm8,.slice B8 l8 q8] 24));have z8:=k8.size;have o8:=h! (World.ownsRow.alloc (a6! OW8.out k8 KD8.out) (.cells #[.I op8,.I N8,.string nm8,.slice B8 l8 q8] 24));have RD8:=h! (d1! w8 24 #[.I op8,.I N8,.string nm8,.slice B8 l8 q8] 4 rfl);have ON8:=h! (one4 op8 N8 nm8 B8 l8 q8);have K8:=h! k8;have P8:=h! p8;have PS8:=h! ps8;clear p8 ps8 k8))
 all_goals
  go_upto_region 49 with fail;have HC8:=w4! (f:=2) (yc:=(λv:Value=>#[.I 8,.E,v,.I 0,.I 0,.N,.N])) HH.out K7.out (Nat.le_refl _) K8.out P8.out PS8.out (by rw[HVO8.out];exact y8) R8.out G8.out T8.out HV8.out (by omega) (by omega) (by omega) (λ_ _=>rfl);obtain⟨wz8,hwz8⟩:∃z,x8.setCell ⟨W3.heap.size,2,none⟩ (.slice A8 (1+1) c8)=z:=⟨_,rfl⟩
  rw[hwz8]at HC8 ⊢;clear hwz8;obtain⟨A8,c8,cs8,i8,er8,zm8,y8,p8,k8,o8,hl8,ps8,za8,zb8,hb8⟩:=HC8;obtain⟨w8,rfl⟩:∃x,x=wz8:=⟨_,rfl⟩
  clear CL8 PD8 Q8 YD8 OW8 fw8 qw8 hj0 hy0 hy1 hy2;have z8:=k8.size;have Y8:Hid (Blk w8 (W3.heap.size) 29 #[.I 8,.E,.slice A8 (1+1) c8,.I 0,.I 0,.N,.N]):=y8;have HW8:=h! HV8.out;have HZ8:Hid (∀z,vo8.ownBlock=some z->w6.heap.size<=z):=by rw[HVO8.out];exact λz hz=>by have:=HBo.out z hz;omega
  have X8:=h! (X7.out.kept k8 (λe=>by rcases e with e|e|e<;>first|omega|(have:=HW8.out _ e;omega)));have K8:=h! (K7.out.then_ k8 (λz hz e=>by rcases e with e|e|e<;>first|omega|(have:=HW8.out _ e;omega)));have P8:=h! p8;have PS8:=h! (PS6.out.then_ ps8);have J8:=h! k8;have OO8:=h! o8;have HL8:=h! hl8;have HB8:=h! hb8;clear p8 k8 ps8 y8 o8 hl8 hb8 K7 P7 X7 Y7 PS6;obtain⟨qc0,qc1,qc2,qc3,qc4,qc5,qc6⟩:=Y8.out.A7;have hx:=X8.out;obtain⟨sc0,sc1,sc2,sc3,sc4,sc5,sc6⟩:=hx.A7;obtain⟨tc0,tc1,tc2,tc3,tc4,tc5,tc6⟩:=hx.F7;go_wp2_with fail;obtain⟨W9,e9,X9,k9⟩:=hx.e7 (.I 8) (.E) (.slice A8 (1+1) c8) (.I 0) (.I 0) (.N) (.N);rw[e9];clear e9;clear sc0 sc1 sc2 sc3 sc4 sc5 sc6 qc0 qc1 qc2 qc3 qc4 qc5 qc6;obtain⟨sc0,sc1,sc2,sc3,sc4,sc5,sc6⟩:=X9.A7;have KK:Kept (λz=>z=g) w W9:=K8.out.then_ k9 (λz hz e=>by omega);have TA:Hid (Kept (λz=>z<W5.heap.size∨w6.heap.size<=z) w6 W9):=i! J7 (i! J8 (d! k9) (λz hz e=>by rcases e with e|e|e<;>first|omega|(have:=HW8.out _ e;have:=HZ8.out _ e;omega)));have TB:Hid (Kept (λz=>z<W7.heap.size∨zm8<=z) w8 W9):=d! k9;have O9:W9.ownsRow w.heap.size 24 4 (.slice A8 (1+1) c8) (1+1) ([.I op6,.I N6,.string nm6,.slice B6 l6 q6]++cs8):=a6! OO8.out k9 (λz hz e=>by rcases HB8.out z hz with h|h<;>first|omega|(have:=HZ8.out z h;omega));refine bodyPost_ret (v:=.agg #[.I 8,.E,.slice A8 (1+1) c8,.I 0,.I 0,.N,.N]) (by simp[results,Tryz.results153,go_sem,sc0,sc1,sc2,sc3,sc4,sc5,sc6]) rfl ⟨_,rfl,KK,⟨_,_,_,_,_,_,_,_,_,_,_,_,_,rfl⟩,i8,er8,HH.out.putp P8.out.at_ (P8.out.blk.kept k9 (by omega)) KK,PS8.out.map _ ?_⟩;rintro⟨x1,x2⟩ ⟨h1,h2⟩;refine⟨_,rfl,_,_,_,none,0,0,none,0,0,rfl,e27! (cs:=[.I op6,.I N6,.string nm6,.slice B6 l6 q6]) (ds:=cs8) O9 rfl rfl HL8.out ((h1.kept f5! (by omega) TA.out (λk _ hk e=>by omega)).cells (cs:=[.I op6,.I N6,.string nm6,.slice B6 l6 q6])) (f5! _ _ _ _ _ _ _ TB.out (λk _ hd e=>by omega) (λk _ hd=>by omega) h2),ElsG.none_ _ _ _ _ _ _,ElsG.none_ _ _ _ _ _ _⟩
theorem e35!(g c:Nat)(A:Option Addr)(ts:List Tk)(d:Nat)(hdd:d<=15)(hw:TW ts)(H:d≠0->r2! g c A ts d)(dp:Int)(hd:dp+((d+1:Nat):Int)=17)(i:Nat)(w:World)(h:DP w g A c ts i 0)(t:Tk)(ht:ts[i]?=some t)(hk:t.kind=3)(hx:t.text=[105,102]):
 Calls Tryz.prog 153 #[.pointer (some ⟨g,0,none⟩),.I dp] w (DStep w g c A ts (stmtD (d+1) (ts.drop i)) (IsEl (QR (d+1)) w.heap.size) ShSt):=by
 obtain⟨W0,eW,f0,x0,z0⟩:=n! w 29 #[.I 0,.E,.N,.I 0,.I 0,.N,.N]
 have hgl:=h.blk.lt
 have hlim:=h.lim
 have hat:=h.at_
 have HH:=h! h
 have P0:=h! (h.below f0)
 have X0:=h! x0
 have K0:=o! g f0
 have NW:=h! (λw' (h':DP w' g A c ts i 0)=>c3! g c A ts i 0 w' h' t ht)
 have EX:=h! (λi er w h=>r1! g c A ts i er w h)
 have MT:=h! (λi er w h=>a4! g c A ts i er [116,104,101,110] w h)
 have MD:=h! (λi er w h=>a4! g c A ts i er [101,110,100] w h)
 have INN:=h! (λi er w h=>a23! g c A ts hw d (by omega) H (dp+1) (by omega) i er w h)
 have GO:stmtD (d+1) (ts.drop i)=stP (condP d) ts (i+1) 0:=by
  rw[a1! ht,f0! d t _ hk,hx];rw[if_pos rfl];unfold stP;rw[if_pos rfl]
 rw[GO,a87!]
 have e0:=w! [105,102] true hx
 have ek:((t.kind:Int)==1)=false:=by rw[hk];decide
 have hm:i+1<ts.length:=h.more t i ht (by rw[hk];decide)
 clear h f0 x0 GO ht hk hx H hw
 go_enter Tryz.func153,Tryz.ntmps153
 go_upto_region 1 with fail
 rw[eW.out]
 clear eW
 have N1:=h! (NW.out W0 P0.out)
 go_wp2_with fail
 refine N1.out.mono ?_
 rintro e w1⟨rfl,b1⟩
 have z1:=b1.size
 have X1:=b! X0 b1
 have K1:=e! K0 b1
 have P1:=h! (P0.out.below b1)
 have J1:=o! g b1
 clear b1 K0 P0 X0
 go_wp2_with fail
 rw[c4!]
 have N2:=h! (NW.out w1 P1.out)
 go_wp2_with fail
 refine N2.out.mono ?_
 rintro e w2⟨rfl,b2⟩
 have z2:=b2.size
 have X2:=b! X1 b2
 have K2:=e! K1 b2
 have P2:=h! (P1.out.below b2)
 have J2:=o! g b2
 clear b2 K1 P1 X1
 go_wp2_with fail
 rw[l0!]
 have y1:=P2.out.blk.c1
 have u1:=P2.out.blk.frozen 1
 have wi:=y! ((i:Int)+1)
 obtain⟨d3,k3⟩:=P2.out.pass hm
 go_upto_region 13 with fail
 clear y1 u1 wi
 have X3:=k! X2 k3
 have K3:=q! K2 k3
 have P3:=h! d3
 have J3:=h! k3
 have z3:=k3.size
 clear d3 k3 K2 P2 hm X2
 generalize w2.setCell ⟨g,1,none⟩ (.I ((i:Int)+1))=W3 at*
 go_upto_region 14 with fail
 obtain⟨W4,eW,f4,Y4,z4⟩:=n! W3 29 #[.I 0,.E,.N,.I 0,.I 0,.N,.N]
 replace Y4:=h! Y4
 have P4:=h! (P3.out.below f4)
 have X4:=b! X3 f4
 have K4:=e! K3 f4
 have J4:=o! g f4
 have xl4:=X3.out.lt
 clear f4 K3 P3 X3
 rw[eW.out]
 clear eW
 clear NW N1 N2
 have wd:=y! (dp+1)
 go_upto_region 18 with fail
 have fz:=Y4.out.frozen 0
 have ez:=Y4.out.c0
 go_upto_region 19 with fail
 obtain⟨W5,e9,Y5,k5⟩:=Y4.out.u0 (.I 2)
 rw[e9]
 clear e9
 have X5:=k! X4 k5
 have K5:=t! K4 k5
 have P5:=h! (HH.out.putp P4.out.at_ (P4.out.blk.kept k5 (by omega)) K5.out)
 have J5:=h! k5
 have z5:=k5.size
 clear k5 Y4 X4 K4 P4
 clear fz ez
 go_wp2_with fail
 refine(EX.out (i+1) 0 W5 P5.out).mono ?_
 rintro e w6⟨v6,rfl,k6,⟨op6,N6,nm6,B6,l6,q6,rfl⟩,i6,er6,p6,ps6⟩
 have z6:=k6.size
 have X6:=k! X5 k6
 have Y6:=k! Y5 k6
 have K6:=q! K5 k6
 have P6:=h! p6
 have PS6:=h! ps6
 have J6:=h! k6
 clear p6 k6 ps6 K5 P5 X5 Y5
 have fz:(w6.alloc (.cells #[.I op6,.I N6,.string nm6,.slice B6 l6 q6] 24)).frozen? ⟨W3.heap.size,2,none⟩=false:=(Y6.out.alloc _).frozen 2
 have ez:(w6.alloc (.cells #[.I op6,.I N6,.string nm6,.slice B6 l6 q6] 24)).cell? ⟨W3.heap.size,2,none⟩=some (.N):=(Y6.out.alloc _).cell 2
 go_upto_region 20 with fail
 change Code.wp _ _ _ _ ((w6.alloc (.cells #[.I op6,.I N6,.string nm6,.slice B6 l6 q6] 24)).setCell ⟨W3.heap.size,2,none⟩ (.slice (some ⟨w6.heap.size,0,none⟩) 1 1))
 clear fz ez
 have ka7:=((Kept.refl (λz=>z=W3.heap.size) w6).alloc (.cells #[.I op6,.I N6,.string nm6,.slice B6 l6 q6] 24)).setCell (p:=⟨W3.heap.size,2,none⟩) (λ_=>rfl) (.slice (some ⟨w6.heap.size,0,none⟩) 1 1)
 have yl7:=Y6.out.lt
 have B7:Hid (Blk ((w6.alloc (.cells #[.I op6,.I N6,.string nm6,.slice B6 l6 q6] 24)).setCell ⟨W3.heap.size,2,none⟩ (.slice (some ⟨w6.heap.size,0,none⟩) 1 1)) (w6.heap.size) 24 #[.I op6,.I N6,.string nm6,.slice B6 l6 q6]):=(Blk.new w6 24 #[.I op6,.I N6,.string nm6,.slice B6 l6 q6]).far (by show w6.heap.size≠W3.heap.size;omega) _
 have Y7:Hid (Blk ((w6.alloc (.cells #[.I op6,.I N6,.string nm6,.slice B6 l6 q6] 24)).setCell ⟨W3.heap.size,2,none⟩ (.slice (some ⟨w6.heap.size,0,none⟩) 1 1)) (W3.heap.size) 29 #[.I 2,.E,.slice (some ⟨w6.heap.size,0,none⟩) 1 1,.I 0,.I 0,.N,.N]):=(Y6.out.alloc _).set_ 2 (.slice (some ⟨w6.heap.size,0,none⟩) 1 1)
 have X7:=k! X6 ka7
 have K7:=t! K6 ka7
 have P7:=h! (HH.out.putp P6.out.at_ (P6.out.blk.kept ka7 (by omega)) K7.out)
 have J7:=h! ka7
 have z7:((w6.alloc (.cells #[.I op6,.I N6,.string nm6,.slice B6 l6 q6] 24)).setCell ⟨W3.heap.size,2,none⟩ (.slice (some ⟨w6.heap.size,0,none⟩) 1 1)).heap.size=w6.heap.size+1:=by simp[World.setCell]
 clear ka7 K6 P6 X6 Y6
 generalize ((w6.alloc (.cells #[.I op6,.I N6,.string nm6,.slice B6 l6 q6] 24)).setCell ⟨W3.heap.size,2,none⟩ (.slice (some ⟨w6.heap.size,0,none⟩) 1 1))=W7 at*
 go_wp2_with fail
 refine(MT.out i6 er6 W7 P7.out).mono ?_
 rintro e w8⟨v8,rfl,k8,rfl,i8,er8,p8,ps8⟩
 have z8:=k8.size
 have X8:=k! X7 k8
 have Y8:=k! Y7 k8
 have K8:=q! K7 k8
 have P8:=h! p8
 have PS8:=h! (PS6.out.then_ ps8)
 have J8:=h! k8
 clear p8 k8 ps8 K7 P7 X7 Y7 PS6
 go_wp2_with fail
 refine(INN.out i8 er8 w8 P8.out).mono ?_
 rintro e w9⟨v9,rfl,k9,⟨A9,l9,q9,rfl⟩,i9,er9,p9,ps9⟩
 have z9:=k9.size
 have X9:=k! X8 k9
 have Y9:=k! Y8 k9
 have K9:=q! K8 k9
 have P9:=h! p9
 have PS9:=h! (PS8.out.then_ ps9)
 have J9:=h! k9
 clear p9 k9 ps9 K8 P8 X8 Y8 PS8
 have fz:=Y9.out.frozen 5
 have ez:=Y9.out.c5
 go_upto_region 22 with fail
 obtain⟨W10,e9,Y10,k10⟩:=Y9.out.u5 (.slice A9 l9 q9)
 rw[e9]
 clear e9
 have X10:=k! X9 k10
 have K10:=t! K9 k10
 have P10:=h! (HH.out.putp P9.out.at_ (P9.out.blk.kept k10 (by omega)) K10.out)
 have J10:=h! k10
 have z10:=k10.size
 clear k10 Y9 X9 K9 P9
 clear fz ez
 have c2:=P10.out.blk.c2
 have IS:=h! (d3! g c A ts i9 er9 (str [101,108,115,101]) W10 P10.out)
 rw[k8!]at IS
 have HM:=h! (λhx=>h8! P10.out (x:=[101,108,115,101]) hx)
 obtain⟨bb,hbb⟩:∃b,hasT [101,108,115,101] (ts.drop i9)=b:=⟨_,rfl⟩
 rw[hbb]at IS HM
 have HBB:=h! hbb
 clear hbb
 by_cases h0:er9=0
 ·have h0b:((er9:Int)==0)=true:=by simp[h0]
  have H0:=h! h0;clear h0
  cases bb
  ·have PSsz:DsAt ts i9 er9 (stP (elP d) ts i9 er9) (λl=>l=[]):=DsAt.noskip (x:=[101,108,115,101]) (f:=elP d) (a:=g1! d) (b:=λr=>.ok [] r) (λr=>rfl) HBB.out (DsAt.st rfl)
   have PSz:=h! (PS9.out.then_ PSsz);clear PSsz PS9;clear HM;go_wp2_with fail;refine IS.out.mono ?_;rintro e w11⟨rfl,b11⟩;have z11:=b11.size;have X11:=b! X10 b11;have Y11:=b! Y10 b11;have K11:=e! K10 b11;have P11:=h! (P10.out.below b11);have J11:=o! g b11;clear b11 K10 P10 X10 Y10;clear c2;go_wp2_with fail;refine(MD.out i9 er9 w11 P11.out).mono ?_;rintro e w12⟨v12,rfl,k12,rfl,i12,er12,p12,ps12⟩;have z12:=k12.size;have X12:=k! X11 k12;have Y12:=k! Y11 k12;have K12:=q! K11 k12;have P12:=h! p12;have PS12:=h! (PSz.out.then_ ps12);have J12:=h! k12;clear p12 k12 ps12 K11 P11 X11 Y11 PSz;go_upto_region 49 with fail;obtain⟨qc0,qc1,qc2,qc3,qc4,qc5,qc6⟩:=Y12.out.A7;have hx:=X12.out;obtain⟨sc0,sc1,sc2,sc3,sc4,sc5,sc6⟩:=hx.A7;obtain⟨tc0,tc1,tc2,tc3,tc4,tc5,tc6⟩:=hx.F7;go_wp2_with fail;obtain⟨W9,e9,X9,k9⟩:=hx.e7 (.I 2) (.E) (.slice (some ⟨w6.heap.size,0,none⟩) 1 1) (.I 0) (.I 0) (.slice A9 l9 q9) (.N);rw[e9];clear e9;clear sc0 sc1 sc2 sc3 sc4 sc5 sc6 qc0 qc1 qc2 qc3 qc4 qc5 qc6;obtain⟨sc0,sc1,sc2,sc3,sc4,sc5,sc6⟩:=X9.A7;have KK:Kept (λz=>z=g) w W9:=K12.out.then_ k9 (λz hz e=>by omega);have TA:Hid (Kept (λz=>z<W5.heap.size∨w6.heap.size<=z) w6 W9):=i! J7 (i! J8 (i! J9 (i! J10 (i! J11 (i! J12 (d! k9))))));have TB:Hid (Kept (λz=>z<w6.heap.size∨w6.heap.size+1<=z) W7 W9):=i! J8 (i! J9 (i! J10 (i! J11 (i! J12 (d! k9)))));have TC:Hid (Kept (λz=>z<w8.heap.size∨w9.heap.size<=z) w9 W9):=i! J10 (i! J11 (i! J12 (d! k9)));refine bodyPost_ret (v:=.agg #[.I 2,.E,.slice (some ⟨w6.heap.size,0,none⟩) 1 1,.I 0,.I 0,.slice A9 l9 q9,.N]) (by simp[results,Tryz.results153,go_sem,sc0,sc1,sc2,sc3,sc4,sc5,sc6]) rfl ⟨_,rfl,KK,⟨_,_,_,_,_,_,_,_,_,_,_,_,_,rfl⟩,i12,er12,HH.out.putp P12.out.at_ (P12.out.blk.kept k9 (by omega)) KK,PS12.out.map _ ?_⟩;rintro⟨⟨⟨⟨x1,u1⟩,l⟩,el⟩,u2⟩ ⟨⟨⟨⟨h1,-⟩,h2⟩,h3⟩,-⟩;have hE:ElsG (λk=>w.heap.size<=k) W9 4 1000000 (QG (λk=>w.heap.size<=k) W9) (some ⟨w6.heap.size,0,none⟩) 1 [x1]:=r4! (cs:=[.I op6,.I N6,.string nm6,.slice B6 l6 q6]) (B7.out.kept TB.out (λe=>by omega)) rfl (by omega) ((h1.kept f5! (by omega) TA.out (λk _ hk e=>by omega)).cells (cs:=[.I op6,.I N6,.string nm6,.slice B6 l6 q6]));have h3:el=[]:=h3;subst h3;exact⟨_,rfl,_,_,_,_,_,_,none,0,0,rfl,hE,(h2.kept (c7! d) (by omega) TC.out (λk _ hk e=>by omega)).els,ElsG.none_ _ _ _ _ _ _⟩
  ·have hm:=HM.out rfl
   go_wp2_with fail;refine IS.out.mono ?_;rintro e w11⟨rfl,b11⟩;have z11:=b11.size;have X11:=b! X10 b11;have Y11:=b! Y10 b11;have K11:=e! K10 b11;have P11:=h! (P10.out.below b11);have J11:=o! g b11;clear b11 K10 P10 X10 Y10;clear c2;have y1:=P11.out.blk.c1;have u1:=P11.out.blk.frozen 1;have wi:=y! ((i9:Int)+1);obtain⟨d12,k12⟩:=P11.out.pass hm;go_upto_region 24 with fail;clear y1 u1 wi;have X12:=k! X11 k12;have Y12:=k! Y11 k12;have K12:=q! K11 k12;have P12:=h! d12;have J12:=h! k12;have z12:=k12.size;clear d12 k12 K11 P11 hm X11 Y11;generalize w11.setCell ⟨g,1,none⟩ (.I ((i9:Int)+1))=W12 at*;go_wp2_with fail;refine(INN.out (i9+1) er9 W12 P12.out).mono ?_;rintro e w13⟨v13,rfl,k13,⟨A13,l13,q13,rfl⟩,i13,er13,p13,ps13⟩;have z13:=k13.size;have X13:=k! X12 k13;have Y13:=k! Y12 k13;have K13:=q! K12 k13;have P13:=h! p13;have J13:=h! k13;have psk:=h! ps13;clear p13 k13 ps13 K12 P12 X12 Y12;have PSsz:DsAt ts i13 er13 (stP (elP d) ts i9 er9) (λl=>IsRow 7 (QR d) W12.heap.size w13 l (.slice A13 l13 q13)):=DsAt.skip (x:=[101,108,115,101]) (f:=elP d) (a:=g1! d) (b:=λr=>.ok [] r) (λr=>rfl) HBB.out psk.out;have PSz:=h! (PS9.out.then_ PSsz);clear PSsz PS9;have fz:=Y13.out.frozen 6;have ez:=Y13.out.c6;go_wp2_with fail;obtain⟨W14,e9,Y14,k14⟩:=Y13.out.u6 (.slice A13 l13 q13);rw[e9];clear e9;have X14:=k! X13 k14;have K14:=t! K13 k14;have P14:=h! (HH.out.putp P13.out.at_ (P13.out.blk.kept k14 (by omega)) K14.out);have J14:=h! k14;have z14:=k14.size;clear k14 Y13 X13 K13 P13;clear fz ez;refine(MD.out i13 er13 W14 P14.out).mono ?_;rintro e w15⟨v15,rfl,k15,rfl,i15,er15,p15,ps15⟩;have z15:=k15.size;have X15:=k! X14 k15;have Y15:=k! Y14 k15;have K15:=q! K14 k15;have P15:=h! p15;have PS15:=h! (PSz.out.then_ ps15);have J15:=h! k15;clear p15 k15 ps15 K14 P14 X14 Y14 PSz;go_upto_region 49 with fail;obtain⟨qc0,qc1,qc2,qc3,qc4,qc5,qc6⟩:=Y15.out.A7;have hx:=X15.out;obtain⟨sc0,sc1,sc2,sc3,sc4,sc5,sc6⟩:=hx.A7;obtain⟨tc0,tc1,tc2,tc3,tc4,tc5,tc6⟩:=hx.F7;go_wp2_with fail;obtain⟨W9,e9,X9,k9⟩:=hx.e7 (.I 2) (.E) (.slice (some ⟨w6.heap.size,0,none⟩) 1 1) (.I 0) (.I 0) (.slice A9 l9 q9) (.slice A13 l13 q13);rw[e9];clear e9;clear sc0 sc1 sc2 sc3 sc4 sc5 sc6 qc0 qc1 qc2 qc3 qc4 qc5 qc6;obtain⟨sc0,sc1,sc2,sc3,sc4,sc5,sc6⟩:=X9.A7;have KK:Kept (λz=>z=g) w W9:=K15.out.then_ k9 (λz hz e=>by omega);have TA:Hid (Kept (λz=>z<W5.heap.size∨w6.heap.size<=z) w6 W9):=i! J7 (i! J8 (i! J9 (i! J10 (i! J11 (i! J12 (i! J13 (i! J14 (i! J15 (d! k9)))))))));have TB:Hid (Kept (λz=>z<w6.heap.size∨w6.heap.size+1<=z) W7 W9):=i! J8 (i! J9 (i! J10 (i! J11 (i! J12 (i! J13 (i! J14 (i! J15 (d! k9))))))));have TC:Hid (Kept (λz=>z<w8.heap.size∨w9.heap.size<=z) w9 W9):=i! J10 (i! J11 (i! J12 (i! J13 (i! J14 (i! J15 (d! k9))))));have TD:Hid (Kept (λz=>z<W12.heap.size∨w13.heap.size<=z) w13 W9):=i! J14 (i! J15 (d! k9));refine bodyPost_ret (v:=.agg #[.I 2,.E,.slice (some ⟨w6.heap.size,0,none⟩) 1 1,.I 0,.I 0,.slice A9 l9 q9,.slice A13 l13 q13]) (by simp[results,Tryz.results153,go_sem,sc0,sc1,sc2,sc3,sc4,sc5,sc6]) rfl ⟨_,rfl,KK,⟨_,_,_,_,_,_,_,_,_,_,_,_,_,rfl⟩,i15,er15,HH.out.putp P15.out.at_ (P15.out.blk.kept k9 (by omega)) KK,PS15.out.map _ ?_⟩;rintro⟨⟨⟨⟨x1,u1⟩,l⟩,el⟩,u2⟩ ⟨⟨⟨⟨h1,-⟩,h2⟩,h3⟩,-⟩;have hE:ElsG (λk=>w.heap.size<=k) W9 4 1000000 (QG (λk=>w.heap.size<=k) W9) (some ⟨w6.heap.size,0,none⟩) 1 [x1]:=r4! (cs:=[.I op6,.I N6,.string nm6,.slice B6 l6 q6]) (B7.out.kept TB.out (λe=>by omega)) rfl (by omega) ((h1.kept f5! (by omega) TA.out (λk _ hk e=>by omega)).cells (cs:=[.I op6,.I N6,.string nm6,.slice B6 l6 q6]));exact⟨_,rfl,_,_,_,_,_,_,_,_,_,rfl,hE,(h2.kept (c7! d) (by omega) TC.out (λk _ hk e=>by omega)).els,(h3.kept (c7! d) (by omega) TD.out (λk _ hk e=>by omega)).els⟩
 ·have h0b:((er9:Int)==0)=false:=by simp[h0]
  have PSsz:DsAt ts i9 er9 (stP (elP d) ts i9 er9) (λl=>l=[]):=DsAt.no h0;have PSz:=h! (PS9.out.then_ PSsz);clear PSsz PS9;clear IS HM HBB h0;go_wp2_with fail;refine(MD.out i9 er9 W10 P10.out).mono ?_;rintro e w11⟨v11,rfl,k11,rfl,i11,er11,p11,ps11⟩;have z11:=k11.size;have X11:=k! X10 k11;have Y11:=k! Y10 k11;have K11:=q! K10 k11;have P11:=h! p11;have PS11:=h! (PSz.out.then_ ps11);have J11:=h! k11;clear p11 k11 ps11 K10 P10 X10 Y10 PSz;go_upto_region 49 with fail;obtain⟨qc0,qc1,qc2,qc3,qc4,qc5,qc6⟩:=Y11.out.A7;have hx:=X11.out;obtain⟨sc0,sc1,sc2,sc3,sc4,sc5,sc6⟩:=hx.A7;obtain⟨tc0,tc1,tc2,tc3,tc4,tc5,tc6⟩:=hx.F7;go_wp2_with fail;obtain⟨W9,e9,X9,k9⟩:=hx.e7 (.I 2) (.E) (.slice (some ⟨w6.heap.size,0,none⟩) 1 1) (.I 0) (.I 0) (.slice A9 l9 q9) (.N);rw[e9];clear e9;clear sc0 sc1 sc2 sc3 sc4 sc5 sc6 qc0 qc1 qc2 qc3 qc4 qc5 qc6;obtain⟨sc0,sc1,sc2,sc3,sc4,sc5,sc6⟩:=X9.A7;have KK:Kept (λz=>z=g) w W9:=K11.out.then_ k9 (λz hz e=>by omega);have TA:Hid (Kept (λz=>z<W5.heap.size∨w6.heap.size<=z) w6 W9):=i! J7 (i! J8 (i! J9 (i! J10 (i! J11 (d! k9)))));have TB:Hid (Kept (λz=>z<w6.heap.size∨w6.heap.size+1<=z) W7 W9):=i! J8 (i! J9 (i! J10 (i! J11 (d! k9))));have TC:Hid (Kept (λz=>z<w8.heap.size∨w9.heap.size<=z) w9 W9):=i! J10 (i! J11 (d! k9));refine bodyPost_ret (v:=.agg #[.I 2,.E,.slice (some ⟨w6.heap.size,0,none⟩) 1 1,.I 0,.I 0,.slice A9 l9 q9,.N]) (by simp[results,Tryz.results153,go_sem,sc0,sc1,sc2,sc3,sc4,sc5,sc6]) rfl ⟨_,rfl,KK,⟨_,_,_,_,_,_,_,_,_,_,_,_,_,rfl⟩,i11,er11,HH.out.putp P11.out.at_ (P11.out.blk.kept k9 (by omega)) KK,PS11.out.map _ ?_⟩;rintro⟨⟨⟨⟨x1,u1⟩,l⟩,el⟩,u2⟩ ⟨⟨⟨⟨h1,-⟩,h2⟩,h3⟩,-⟩;have hE:ElsG (λk=>w.heap.size<=k) W9 4 1000000 (QG (λk=>w.heap.size<=k) W9) (some ⟨w6.heap.size,0,none⟩) 1 [x1]:=r4! (cs:=[.I op6,.I N6,.string nm6,.slice B6 l6 q6]) (B7.out.kept TB.out (λe=>by omega)) rfl (by omega) ((h1.kept f5! (by omega) TA.out (λk _ hk e=>by omega)).cells (cs:=[.I op6,.I N6,.string nm6,.slice B6 l6 q6]));have h3:el=[]:=h3;subst h3;exact⟨_,rfl,_,_,_,_,_,_,none,0,0,rfl,hE,(h2.kept (c7! d) (by omega) TC.out (λk _ hk e=>by omega)).els,ElsG.none_ _ _ _ _ _ _⟩
end Go.Proofs.YtdgekckedchjbaaGreatDoor
