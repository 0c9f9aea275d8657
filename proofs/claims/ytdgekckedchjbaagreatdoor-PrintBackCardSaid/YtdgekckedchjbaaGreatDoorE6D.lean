
/-
 The document's program: a part of its walk. (Printed by wip/tools/gene6s.py.)
-/
import Derived.Test.YtdgekckedchjbaaGreatDoorE6E
set_option maxHeartbeats 16000000
set_option maxRecDepth 100000
namespace Go.Proofs.YtdgekckedchjbaaGreatDoor
open Go.RowKit
theorem e48!(g c:Nat)(A:Option Addr)(ts:List Tk)(hw:TW ts)(i:Nat)(er:Int)(w:World)(hh:DP w g A c ts i er)(W0:World)(z0w:w.heap.size<W0.heap.size)(P:PS Pg)(s3:ByteArray)(n6:Int)(iQ:Nat)(erQ:Int)(wQ:World)(pQ:DP wQ g A c ts iQ erQ)(Wp:World)(kp:Kept (λz=>z=g) w Wp)(xp:Blk Wp w.heap.size 33 #[.E,.I 0,.N,.N,.N,.N,.N,.N,.E,.N,.N])(zyp:W0.heap.size<Wp.heap.size)(kQ:Kept (λz=>z=g∨z=W0.heap.size) Wp wQ)(AS:Option Addr)(nS cS:Nat)(AV:Option Addr)(nV cV:Nat)(A4:Option Addr)(n4 c4:Nat)(A5:Option Addr)(n5 c5:Nat)(Aq:Option Addr)(nq cq:Nat)(hnq:nq<=100000)(yQ:Blk wQ W0.heap.size 33 #[.string s3,.I n6,.slice AS nS cS,.slice AV nV cV,.slice A4 n4 c4,.slice A5 n5 c5,.slice Aq nq cq,.N,.E,.N,.N])
 (PG:PS (List Va)) (psQ:DsAt ts iQ erQ PG (λl=>IsRow 4 QV Wp.heap.size wQ l (.slice Aq nq cq))) (Rs:List Int->Prop) (Rv:List Va->Prop) (R4 R5:List St->Prop) (ri:RowIn W0.heap.size w.heap.size Wp 1 QI Rs (.slice AS nS cS)) (rv:RowIn W0.heap.size w.heap.size Wp 4 QV Rv (.slice AV nV cV)) (r4:RowIn W0.heap.size w.heap.size Wp 7 (QR 16) R4 (.slice A4 n4 c4)) (r5:RowIn W0.heap.size w.heap.size Wp 7 (QR 16) R5 (.slice A5 n5 c5))
 (hb:∀(iR:Nat) (erR:Int) (Qp:List Va->Prop),DsAt ts iR erR PG Qp->∀(j:Nat) (e:Int) (Q:TyE->Prop),DsAt ts j e (stP restE ts iR erR) Q->DsAt ts j e P (λa=>∃(n:List UInt8) (st:List Int) (vs:List Va) (l4 l5:List St) (pr:List Va) (x:TyE),(str n=s3∧Rs st∧Rv vs∧R4 l4∧R5 l5∧Qp pr)∧Q x∧a=⟨n,n6,st,vs,l4,l5,pr,x.1,x.2.1,x.2.2.1,x.2.2.2⟩))
 (a:Act) (ha:FrIs g w.heap.size W0.heap.size a):
 Code.wp Tryz.prog (tlC 16 w9!) (bodyPost Tryz.prog Tryz.f70 (RPTo w g c A ts P)) a wQ:=by
 conv=>arg 2;whnf
 unfold FrIs at ha
 iterate 228 (obtain⟨_,ha⟩:=ha)
 subst ha
 have hgl:=hh.blk.lt
 have hlim:=hh.lim
 have HH:=h! hh
 have HTW:=h! hw
 have Mgame:=h! (λi er w h=>a4! g c A ts i er [103,97,109,101] w h)
 have Mseats:=h! (λi er w h=>a4! g c A ts i er [115,101,97,116,115] w h)
 have Mstake:=h! (λi er w h=>a4! g c A ts i er [115,116,97,107,101] w h)
 have Mstart:=h! (λi er w h=>a4! g c A ts i er [115,116,97,114,116] w h)
 have Mturn:=h! (λi er w h=>a4! g c A ts i er [116,117,114,110] w h)
 have Mplay:=h! (λi er w h=>a4! g c A ts i er [112,108,97,121] w h)
 have Msilent:=h! (λi er w h=>a4! g c A ts i er [115,105,108,101,110,116] w h)
 have Mpay:=h! (λi er w h=>a4! g c A ts i er [112,97,121] w h)
 have NM:=h! (λi er w h=>k2! g c A ts i er w h)
 have NU:=h! (λi er w h=>m5! g c A ts i er w h)
 have SG:=h! (λi er w h=>m6! g c A ts i er w h)
 have MB:=h! (λi er w h=>a4! g c A ts i er [93] w h)
 have PT:=h! (λi er w h=>r5! g c A ts hw i er w h)
 have PM:=h! (λi er w h=>r6! g c A ts i er w h)
 have NWW:=h! (λ(i:Nat) (er:Int) (w:World) (h:DP w g A c ts i er) (t:Tk) (ht:ts[i]?=some t)=>c3! g c A ts i er w h t ht)
 have ISS:=h! (λ(i:Nat) (er:Int) (x:List UInt8) (w:World) (h:DP w g A c ts i er)=>d3! g c A ts i er (str x) w h)
 have FLL:=h! (λ(i:Nat) (w:World) (h:DP w g A c ts i 0)=>i8! g c A ts i w h)
 clear hh hw
 have KPk:=h! kp
 have XPk:=h! xp
 have RI:=h! ri
 have RV:=h! rv
 have RP4:=h! r4
 have RP5:=h! r5
 have HB:=h! hb
 have zQ:=kQ.size
 have zwp:=kp.size
 have wplim:=pQ.lim
 have XQ:=h! (XPk.out.kept kQ (λe=>by rcases e with e|e<;>omega))
 have KQ:=h! (KPk.out.then_ kQ (λz hz e=>by rcases e with e|e<;>omega))
 have PQ:=h! pQ
 have YQ:=h! yQ
 have JQ:=h! kQ
 have SQ:=h! psQ
 have hnQ:=h! hnq
 clear kp xp ri rv r4 r5 hb yQ pQ kQ psQ hnq
 obtain⟨tq,htq⟩:=PQ.out.one
 have HTQ:=h! htq
 have NW:=h! (NWW.out iQ erQ wQ PQ.out tq htq)
 have c2:=PQ.out.blk.c2
 have xlQ:=XQ.out.lt
 have ylQ:=YQ.out.lt
 clear htq
 go_upto_region 29 with fail
 go_cut [165] (λcv wc=>∃bb:Bool,cv=.bool bb∧Hid (Below wQ.heap.size wQ wc)∧Hid (bb=true->erQ=0∧tq.kind=1))
 case first=>as_aux_lemma=>
  by_cases he:erQ=0
  ·have he':((erQ:Int)==0)=true:=by simp[he]
   obtain⟨bk,hbk⟩:∃b,((tq.kind:Int)==1)=b:=⟨_,rfl⟩
   have HBK:=h! hbk;have HE:=h! he;clear he;go_wp2_with fail;refine NW.out.mono ?_;rintro e w1⟨rfl,b1⟩;have B1:=h! b1;have y6:=(YQ.out.below b1 YQ.out.lt).c6;clear b1 NW
   cases bk
   ·go_wp2_with fail
    rw[c4!];go_wp2_with fail;go_meet
    case rel=>exact⟨false,rfl,B1.out,λh=>absurd h (by decide)⟩
   ·have HK:Hid (tq.kind=1):=h! (by
     have h:=HBK.out
     simpa using h)
    by_cases hn0:nq=0
    ·have sn:((nq:Int)==0)=true:=by simp[hn0]
     have HN0:=h! hn0;clear hn0;go_wp2_with fail;rw[c4!];go_wp2_with fail;go_meet
     case rel=>exact⟨true,rfl,B1.out,λ_=>⟨HE.out,HK.out⟩⟩
    ·have sn:((nq:Int)==0)=false:=by simp[hn0]
     go_wp2_with fail;rw[c4!];go_wp2_with fail;go_meet
     case rel=>exact⟨false,rfl,B1.out,λh=>absurd h (by decide)⟩
  ·have he':((erQ:Int)==0)=false:=by simp[he]
   go_wp2_with fail;go_meet
   case rel=>exact⟨false,rfl,Below.refl _ _,λh=>absurd h (by decide)⟩
 case rest=>
 obtain⟨bb,rfl,hB,hbb⟩:=hcut
 obtain⟨wU,rfl⟩:∃x,x=wc:=⟨_,rfl⟩
 clear c2 NW
 have zU:=hB.out.size
 have XU:=h! (XQ.out.below hB.out XQ.out.lt)
 have YU:=h! (YQ.out.below hB.out YQ.out.lt)
 have KU:=h! (KQ.out.below_ hB.out)
 have PU:=h! (PQ.out.below hB.out)
 have JU:=h! (JQ.out.then_ (Kept.of_below (S:=λz=>z=g∨z=W0.heap.size) hB.out) (λ_ _ e=>e))
 have SU:Hid (DsAt ts iQ erQ PG (λl=>IsRow 4 QV Wp.heap.size wU l (.slice Aq nq cq))):=SQ.out.mono λl hl=>hl.kept b3! (Nat.le_refl _) (Kept.of_below (S:=λ_=>False) hB.out) (λ_ _ _ h=>h)
 clear XQ YQ KQ PQ JQ SQ
 go_upto_if 165 with fail
 go_cut [] (λwc=>Hid (ParJ Wp g c A ts (W0.heap.size) (λv:Value=>#[.string s3,.I n6,.slice AS nS cS,.slice AV nV cV,.slice A4 n4 c4,.slice A5 n5 c5,v,.N,.E,.N,.N]) PG wc))
 case first=>as_aux_lemma=>
  cases bb
  ·go_wp2_with fail
   go_meet
   case rel=>exact⟨Aq,nq,cq,iQ,erQ,YU.out,PU.out,JU.out,hnQ.out,SU.out⟩
  ·obtain⟨he0,hk1⟩:=hbb.out rfl
   have hm:=PU.out.more tq iQ HTQ.out (by rw[hk1];decide);subst he0;clear hk1 hbb;go_upto_region 30 with fail;obtain⟨t2,bk,ob,ht2,hAe,hbk,hbg,q0,q1,q2,q3,q4⟩:=PU.out.tok2 hm;have bp:=PU.out.blk;rw[hAe]at bp;obtain⟨nn,hnn⟩:∃n,ts.length=n:=⟨_,rfl⟩
   rw[hnn]at bp hm wplim;obtain⟨c0,c1⟩:=bp.A2;have g1:(0:Int)<=(iQ:Int)+1:=by omega
   have g2:(iQ:Int)+1<(nn:Int):=by omega
   have g3:((iQ:Int)+1).toNat=iQ+1:=by omega
   have g4:=y! ((iQ:Int)+1);have HT2:=h! ht2;have HNN:=h! hnn;have fz:=a! wU (.cells #[.I 0,.E,.I 0,.I 0,.I 0] 108);have bz:=(PU.out.below fz).blk;rw[hAe,hnn]at bz;obtain⟨d0,d1⟩:=bz.A2;have d2:=(fz.cell (p:=⟨bk,ob+(iQ+1)*5,none⟩) hbk).trans q0;have d3:=(fz.cell (p:=⟨bk,ob+(iQ+1)*5+1,none⟩) hbk).trans q1;have d4:=(fz.cell (p:=⟨bk,ob+(iQ+1)*5+2,none⟩) hbk).trans q2;have d5:=(fz.cell (p:=⟨bk,ob+(iQ+1)*5+3,none⟩) hbk).trans q3;have d6:=(fz.cell (p:=⟨bk,ob+(iQ+1)*5+4,none⟩) hbk).trans q4;clear bp ht2 hAe hnn bz fz
   go_region
   clear d0 d1 d2 d3 d4 d5 d6;have b41:Below wU.heap.size wU ((wU.alloc (.cells #[.I t2.kind,.string (str t2.text),.I t2.n,.I t2.line,.I t2.col] 108)).drew):=((Below.refl _ wU).al _).drew;have tb41:Blk ((wU.alloc (.cells #[.I t2.kind,.string (str t2.text),.I t2.n,.I t2.line,.I t2.col] 108)).drew) wU.heap.size 108 #[.I t2.kind,.string (str t2.text),.I t2.n,.I t2.line,.I t2.col]:=(Blk.new wU _ _).drew;have BC41:=h! b41;have P41:=h! (PU.out.below b41);have K41:=e! KU b41;have e0:((wU.alloc (.cells #[.I t2.kind,.string (str t2.text),.I t2.n,.I t2.line,.I t2.col] 108)).drew).cell? ⟨wU.heap.size,0,none⟩=some (.I t2.kind):=tb41.cell 0;have e1:((wU.alloc (.cells #[.I t2.kind,.string (str t2.text),.I t2.n,.I t2.line,.I t2.col] 108)).drew).cell? ⟨wU.heap.size,1,none⟩=some (.string (str t2.text)):=tb41.cell 1;have Y41:=b! YU b41;have z41:=b41.size;clear b41 tb41 q0 q1 q2 q3 q4 c0 c1 PU KU;generalize (wU.alloc (.cells #[.I t2.kind,.string (str t2.text),.I t2.n,.I t2.line,.I t2.col] 108)).drew=W41 at*;have JB:=h! (JU.out.then_ (Kept.of_below (S:=λz=>z=g∨z=W0.heap.size) BC41.out) (λ_ _ e=>e));have SB:Hid (DsAt ts iQ 0 PG (λl=>IsRow 4 QV Wp.heap.size W41 l (.slice Aq nq cq))):=SU.out.mono λl hl=>hl.kept b3! (Nat.le_refl _) (Kept.of_below (S:=λ_=>False) BC41.out) (λ_ _ _ h=>h)
   obtain⟨b6,s6⟩:∃b,((str t2.text).toList==[61])=b:=⟨_,rfl⟩
   obtain⟨b9,s9⟩:∃b,((str t2.text).toList==[91])=b:=⟨_,rfl⟩
   obtain⟨b4,s4⟩:∃b,((t2.kind:Int)==4)=b:=⟨_,rfl⟩
   clear HNN
   cases b4
   ·have hm:iQ+1<ts.length:=(List.getElem?_eq_some_iff.1 HT2.out).1
    have wplim2:=P41.out.lim;have y1:=P41.out.blk.c1;have u1:=P41.out.blk.frozen 1;have wi:=y! ((iQ:Int)+1);obtain⟨d42,k42⟩:=P41.out.pass hm;go_upto_region 33 with fail;clear y1 u1 wi;have Y42:=k! Y41 k42;have K42:=q! K41 k42;have P42:=h! d42;have J42:=h! k42;have z42:=k42.size;clear d42 k42 K41 P41 hm Y41;generalize W41.setCell ⟨g,1,none⟩ (.I ((iQ:Int)+1))=W42 at*;have FC:=h! (FLL.out (iQ+1) W42 P42.out);go_wp2_with fail;refine FC.out.mono ?_;rintro e w9⟨er9,her,rfl,d9,k9⟩;have DF:=h! d9;have YF:=k! Y42 k9;have JF:=h! ((JB.out.then_ J42.out (λ_ _ e=>.inl e)).then_ k9 (λ_ _ e=>.inl e));have HER:=h! her;clear d9 k9 her FC;go_wp2_with fail;go_meet
    case rel=>exact⟨Aq,nq,cq,iQ+1,er9,YF.out,DF.out,JF.out,hnQ.out,DsAt.no HER.out⟩
   ·cases b6
    ·cases b9
     ·have hm:iQ+1<ts.length:=(List.getElem?_eq_some_iff.1 HT2.out).1
      have wplim2:=P41.out.lim;have y1:=P41.out.blk.c1;have u1:=P41.out.blk.frozen 1;have wi:=y! ((iQ:Int)+1);obtain⟨d42,k42⟩:=P41.out.pass hm;go_upto_region 33 with fail;clear y1 u1 wi;have Y42:=k! Y41 k42;have K42:=q! K41 k42;have P42:=h! d42;have J42:=h! k42;have z42:=k42.size;clear d42 k42 K41 P41 hm Y41;generalize W41.setCell ⟨g,1,none⟩ (.I ((iQ:Int)+1))=W42 at*;have FC:=h! (FLL.out (iQ+1) W42 P42.out);go_wp2_with fail;refine FC.out.mono ?_;rintro e w9⟨er9,her,rfl,d9,k9⟩;have DF:=h! d9;have YF:=k! Y42 k9;have JF:=h! ((JB.out.then_ J42.out (λ_ _ e=>.inl e)).then_ k9 (λ_ _ e=>.inl e));have HER:=h! her;clear d9 k9 her FC;go_wp2_with fail;go_meet
      case rel=>exact⟨Aq,nq,cq,iQ+1,er9,YF.out,DF.out,JF.out,hnQ.out,DsAt.no HER.out⟩
     ·go_wp2_with fail
      go_meet
      case rel=>exact⟨Aq,nq,cq,iQ,0,Y41.out,P41.out,JB.out,hnQ.out,SB.out⟩
    ·go_wp2_with fail
     go_meet
     case rel=>exact⟨Aq,nq,cq,iQ,0,Y41.out,P41.out,JB.out,hnQ.out,SB.out⟩
 case rest=>
 obtain⟨Ar,nr,cr,iR,erR,yR,pR,kR,hnr,psR⟩:=hcut.out
 obtain⟨wR,rfl⟩:∃x,x=wc:=⟨_,rfl⟩
 clear hcut
 have zR:=kR.size
 have XR:=h! (XPk.out.kept kR (λe=>by rcases e with e|e<;>omega))
 have KR:=h! (KPk.out.then_ kR (λz hz e=>by rcases e with e|e<;>omega))
 have PR:=h! pR
 have YR:=h! yR
 have JR:=h! kR
 have HC:∀(j:Nat) (e:Int) (Q:TyE->Prop),DsAt ts j e (stP restE ts iR erR) Q->DsAt ts j e P (λa=>∃(n:List UInt8) (st:List Int) (vs:List Va) (l4 l5:List St) (pr:List Va) (x:TyE),(str n=s3∧Rs st∧Rv vs∧R4 l4∧R5 l5∧IsRow 4 QV Wp.heap.size wR pr (.slice Ar nr cr))∧Q x∧a=⟨n,n6,st,vs,l4,l5,pr,x.1,x.2.1,x.2.2.1,x.2.2.2⟩):=λj e Q h=>HB.out _ _ _ psR j e Q h
 have TB:Kept (λz=>z<W0.heap.size+1∨Wp.heap.size<=z) Wp wR:=kR.mono (λz _ e=>by rcases e with e|e<;>omega)
 have R6:RowIn W0.heap.size w.heap.size wR 4 QV (λl=>IsRow 4 QV Wp.heap.size wR l (.slice Ar nr cr)) (.slice Ar nr cr):=λW l hk hR=>hR.kept b3! (by omega) hk (λk _ hk e=>by omega)
 apply_assumption
 exact e47! g c A ts HTW.out i er w HH.out W0 z0w _ _ _ _ _ wR PR.out KR.out XR.out AS nS cS AV nV cV A4 n4 c4 A5 n5 c5 Ar nr cr yR _ _ _ _ _ (RI.out.move TB) (RV.out.move TB) (RP4.out.move TB) (RP5.out.move TB) R6 HC _ (by unfold FrIs;(iterate 228 (apply Exists.intro));rfl)
end Go.Proofs.YtdgekckedchjbaaGreatDoor
