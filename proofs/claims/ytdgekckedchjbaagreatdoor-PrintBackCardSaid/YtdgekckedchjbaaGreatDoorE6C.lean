
/-
 The document's program: a part of its walk. (Printed by wip/tools/gene6s.py.)
-/
import Derived.Test.YtdgekckedchjbaaGreatDoorE6D
set_option maxHeartbeats 16000000
set_option maxRecDepth 100000
namespace Go.Proofs.YtdgekckedchjbaaGreatDoor
open Go.RowKit
theorem e49!(g c:Nat)(A:Option Addr)(ts:List Tk)(hw:TW ts)(i:Nat)(er:Int)(w:World)(hh:DP w g A c ts i er)(W0:World)(z0w:w.heap.size<W0.heap.size)(P:PS Pg)(s3:ByteArray)(n6:Int)(jV:Nat)(erV:Int)(wV:World)(dv:DP wV g A c ts jV erV)(kv:Kept (λz=>z=g) w wV)(xv:Blk wV w.heap.size 33 #[.E,.I 0,.N,.N,.N,.N,.N,.N,.E,.N,.N])(AS:Option Addr)(nS cS:Nat)(AV:Option Addr)(nV cV:Nat)(yv:Blk wV W0.heap.size 33 #[.string s3,.I n6,.slice AS nS cS,.slice AV nV cV,.N,.N,.N,.N,.E,.N,.N])
 (Rs:List Int->Prop) (Rv:List Va->Prop) (ri:RowIn W0.heap.size w.heap.size wV 1 QI Rs (.slice AS nS cS)) (rv:RowIn W0.heap.size w.heap.size wV 4 QV Rv (.slice AV nV cV)) (hb:∀(j:Nat) (e:Int) (Q:TyC->Prop),DsAt ts j e (stP restC ts jV erV) Q->DsAt ts j e P (λa=>∃(n:List UInt8) (st:List Int) (vs:List Va) (x:TyC),(str n=s3∧Rs st∧Rv vs)∧Q x∧a=⟨n,n6,st,vs,x.1,x.2.1,x.2.2.1,x.2.2.2.1,x.2.2.2.2.1,x.2.2.2.2.2.1,x.2.2.2.2.2.2⟩))
 (a:Act) (ha:FrIs g w.heap.size W0.heap.size a):
 Code.wp Tryz.prog (tlC 10 w9!) (bodyPost Tryz.prog Tryz.f70 (RPTo w g c A ts P)) a wV:=by
 conv=>arg 2;whnf
 unfold FrIs at ha
 iterate 228 (obtain⟨_,ha⟩:=ha)
 subst ha
 have hgl:=hh.blk.lt
 have hlim:=hh.lim
 have HH:=h! hh
 have HTW:=h! hw
 have Mgame:=h! (λi er w h=>a4! g c A ts i er [103,97,109,101] w h)
 have Mseats:=h! (λi er w h=>a4! g c A ts i er [115,101,97,116,115] w h)
 have Mstake:=h! (λi er w h=>a4! g c A ts i er [115,116,97,107,101] w h)
 have Mstart:=h! (λi er w h=>a4! g c A ts i er [115,116,97,114,116] w h)
 have Mturn:=h! (λi er w h=>a4! g c A ts i er [116,117,114,110] w h)
 have Mplay:=h! (λi er w h=>a4! g c A ts i er [112,108,97,121] w h)
 have Msilent:=h! (λi er w h=>a4! g c A ts i er [115,105,108,101,110,116] w h)
 have Mpay:=h! (λi er w h=>a4! g c A ts i er [112,97,121] w h)
 have NM:=h! (λi er w h=>k2! g c A ts i er w h)
 have NU:=h! (λi er w h=>m5! g c A ts i er w h)
 have SG:=h! (λi er w h=>m6! g c A ts i er w h)
 have MB:=h! (λi er w h=>a4! g c A ts i er [93] w h)
 have PT:=h! (λi er w h=>r5! g c A ts hw i er w h)
 have PM:=h! (λi er w h=>r6! g c A ts i er w h)
 have NWW:=h! (λ(i:Nat) (er:Int) (w:World) (h:DP w g A c ts i er) (t:Tk) (ht:ts[i]?=some t)=>c3! g c A ts i er w h t ht)
 have ISS:=h! (λ(i:Nat) (er:Int) (x:List UInt8) (w:World) (h:DP w g A c ts i er)=>d3! g c A ts i er (str x) w h)
 have FLL:=h! (λ(i:Nat) (w:World) (h:DP w g A c ts i 0)=>i8! g c A ts i w h)
 clear hh hw
 have DV:=h! dv
 have KV:=h! kv
 have XV:=h! xv
 have YV:=h! yv
 have RI:=h! ri
 have RV:=h! rv
 have HB:=h! hb
 have zwV:=kv.size
 have zyV:=yv.lt
 clear dv kv xv yv ri rv hb
 go_wp2_with fail
 refine(Mstart.out jV erV wV DV.out).mono ?_
 rintro e w101⟨v101,rfl,k101,rfl,i101,er101,p101,ps101⟩
 have z101:=k101.size
 have X101:=k! XV k101
 have Y101:=k! YV k101
 have K101:=q! KV k101
 have P101:=h! p101
 have PS101:=h! ps101
 have J101:=h! k101
 clear p101 k101 ps101 KV DV XV YV
 go_wp2_with fail
 refine(PT.out i101 er101 w101 P101.out).mono ?_
 rintro e w102⟨v102,rfl,k102,⟨A102,l102,q102,rfl⟩,i102,er102,p102,ps102⟩
 have z102:=k102.size
 have X102:=k! X101 k102
 have Y102:=k! Y101 k102
 have K102:=q! K101 k102
 have P102:=h! p102
 have PS102:=h! (PS101.out.then_ ps102)
 have J102:=h! k102
 clear p102 k102 ps102 K101 P101 X101 Y101 PS101
 have fz:=Y102.out.frozen 4
 have ez:=Y102.out.c4
 go_wp2_with fail
 obtain⟨W103,e9,Y103,k103⟩:=Y102.out.u4 (.slice A102 l102 q102)
 rw[e9]
 clear e9
 have X103:=k! X102 k103
 have K103:=t! K102 k103
 have P103:=h! (HH.out.putp P102.out.at_ (P102.out.blk.kept k103 (by omega)) K103.out)
 have J103:=h! k103
 have z103:=k103.size
 clear k103 Y102 X102 K102 P102
 clear fz ez
 refine(Mturn.out i102 er102 W103 P103.out).mono ?_
 rintro e w104⟨v104,rfl,k104,rfl,i104,er104,p104,ps104⟩
 have z104:=k104.size
 have X104:=k! X103 k104
 have Y104:=k! Y103 k104
 have K104:=q! K103 k104
 have P104:=h! p104
 have PS104:=h! (PS102.out.then_ ps104)
 have J104:=h! k104
 clear p104 k104 ps104 K103 P103 X103 Y103 PS102
 go_wp2_with fail
 refine(PT.out i104 er104 w104 P104.out).mono ?_
 rintro e w105⟨v105,rfl,k105,⟨A105,l105,q105,rfl⟩,i105,er105,p105,ps105⟩
 have z105:=k105.size
 have X105:=k! X104 k105
 have Y105:=k! Y104 k105
 have K105:=q! K104 k105
 have P105:=h! p105
 have PS105:=h! (PS104.out.then_ ps105)
 have J105:=h! k105
 clear p105 k105 ps105 K104 P104 X104 Y104 PS104
 have fz:=Y105.out.frozen 5
 have ez:=Y105.out.c5
 go_wp2_with fail
 obtain⟨W106,e9,Y106,k106⟩:=Y105.out.u5 (.slice A105 l105 q105)
 rw[e9]
 clear e9
 have X106:=k! X105 k106
 have K106:=t! K105 k106
 have P106:=h! (HH.out.putp P105.out.at_ (P105.out.blk.kept k106 (by omega)) K106.out)
 have J106:=h! k106
 have z106:=k106.size
 clear k106 Y105 X105 K105 P105
 clear fz ez
 refine(Mplay.out i105 er105 W106 P106.out).mono ?_
 rintro e w107⟨v107,rfl,k107,rfl,i107,er107,p107,ps107⟩
 have z107:=k107.size
 have X107:=k! X106 k107
 have Y107:=k! Y106 k107
 have K107:=q! K106 k107
 have P107:=h! p107
 have PS107:=h! (PS105.out.then_ ps107)
 have J107:=h! k107
 clear p107 k107 ps107 K106 P106 X106 Y106 PS105
 have wplim:=P107.out.lim
 obtain⟨PG,hPG⟩:∃p,stP d9! ts i107 er107=p:=⟨_,rfl⟩
 have HPG:=h! hPG
 clear hPG
 have XPk:=h! X107.out
 have KPk:=h! K107.out
 go_upto_region 25 with fail
 obtain⟨t108,ht108⟩:=P107.out.one
 obtain⟨bq108,hbq108⟩:∃b,stB (kindT 1) ts i107 er107=b:=⟨_,rfl⟩
 have HBQ108:=h! hbq108
 have HTK108:=h! ht108
 clear ht108
 have c2:=P107.out.blk.c2
 go_cut [121] (λcv wc=>cv=.bool bq108∧Hid (Below w107.heap.size w107 wc))
 case first=>as_aux_lemma=>
  by_cases he:er107=0
  ·have he':((er107:Int)==0)=true:=by simp[he]
   have ek:((t108.kind:Int)==1)=bq108:=by rw[<-b56! HTK108.out,<-hbq108,he]
   have NW:=h! (NWW.out i107 er107 w107 P107.out t108 HTK108.out);clear he hbq108;go_wp2_with fail;refine NW.out.mono ?_;rintro e w1⟨rfl,b1⟩;have B1:=h! b1;clear b1 NW;go_wp2_with fail;rw[c4!];go_wp2_with fail;go_meet
   case rel=>exact⟨rfl,B1.out⟩
  ·have he':((er107:Int)==0)=false:=by simp[he]
   rw[w7! he]at hbq108;subst hbq108;go_wp2_with fail;go_meet
   case rel=>exact⟨rfl,Below.refl _ _⟩
 case rest=>
 obtain⟨rfl,hbw⟩:=hcut
 obtain⟨w108,rfl⟩:∃x,x=wc:=⟨_,rfl⟩
 clear c2 hbq108
 have b108:=hbw.out
 have BB108:=h! b108
 have z108:=b108.size
 have X108:=b! X107 b108
 have Y108:=b! Y107 b108
 have K108:=e! K107 b108
 have P108:=h! (P107.out.below b108)
 have J108:=o! g b108
 clear b108 K107 P107 X107 Y107
 clear hbw
 have JA:=h! (Kept.of_below (S:=λz=>z=g∨z=W0.heap.size) BB108.out)
 go_upto_if 121 with fail
 go_cut [] (λwc=>Hid (ParJ w107 g c A ts (W0.heap.size) (λv:Value=>#[.string s3,.I n6,.slice AS nS cS,.slice AV nV cV,.slice A102 l102 q102,.slice A105 l105 q105,v,.N,.E,.N,.N]) PG wc))
 case first=>as_aux_lemma=>
  cases bq108
  ·have HN:Hid (DsAt ts i107 er107 PG (λl=>IsRow 4 QV w107.heap.size w108 l (.N))):=by
    rw[<-HPG.out];exact a26! λhe=>.inl (by have h:=HBQ108.out;rw[he]at h;unfold stB at h;simpa using h)
   go_wp2_with fail;go_meet
   case rel=>exact⟨none,0,0,i107,er107,Y108.out,P108.out,JA.out,by omega,HN.out⟩
  ·obtain⟨he0,hk1⟩:=w8! HBQ108.out
   have HE0:=h! he0;have HK1:=h! hk1;have hk1t:t108.kind=1:=by
    have h:=hk1;rw[a1! HTK108.out]at h
    simpa[kindT]using h
   have hm:=P108.out.more t108 i107 HTK108.out (by rw[hk1t];decide);clear he0 hk1 hk1t;go_upto_region 26 with fail;obtain⟨t2,bk,ob,ht2,hAe,hbk,hbg,q0,q1,q2,q3,q4⟩:=P108.out.tok2 hm;have bp:=P108.out.blk;rw[hAe]at bp;obtain⟨nn,hnn⟩:∃n,ts.length=n:=⟨_,rfl⟩
   rw[hnn]at bp hm wplim;obtain⟨c0,c1⟩:=bp.A2;have g1:(0:Int)<=(i107:Int)+1:=by omega
   have g2:(i107:Int)+1<(nn:Int):=by omega
   have g3:((i107:Int)+1).toNat=i107+1:=by omega
   have g4:=y! ((i107:Int)+1);have HT2:=h! ht2;have HNN:=h! hnn;have fz:=a! w108 (.cells #[.I 0,.E,.I 0,.I 0,.I 0] 108);have bz:=(P108.out.below fz).blk;rw[hAe,hnn]at bz;obtain⟨d0,d1⟩:=bz.A2;have d2:=(fz.cell (p:=⟨bk,ob+(i107+1)*5,none⟩) hbk).trans q0;have d3:=(fz.cell (p:=⟨bk,ob+(i107+1)*5+1,none⟩) hbk).trans q1;have d4:=(fz.cell (p:=⟨bk,ob+(i107+1)*5+2,none⟩) hbk).trans q2;have d5:=(fz.cell (p:=⟨bk,ob+(i107+1)*5+3,none⟩) hbk).trans q3;have d6:=(fz.cell (p:=⟨bk,ob+(i107+1)*5+4,none⟩) hbk).trans q4;clear bp ht2 hAe hnn bz fz
   go_region
   clear d0 d1 d2 d3 d4 d5 d6;have b109:Below w108.heap.size w108 ((w108.alloc (.cells #[.I t2.kind,.string (str t2.text),.I t2.n,.I t2.line,.I t2.col] 108)).drew):=((Below.refl _ w108).al _).drew;have tb109:Blk ((w108.alloc (.cells #[.I t2.kind,.string (str t2.text),.I t2.n,.I t2.line,.I t2.col] 108)).drew) w108.heap.size 108 #[.I t2.kind,.string (str t2.text),.I t2.n,.I t2.line,.I t2.col]:=(Blk.new w108 _ _).drew;have BC109:=h! b109;have P109:=h! (P108.out.below b109);have K109:=e! K108 b109;have e0:((w108.alloc (.cells #[.I t2.kind,.string (str t2.text),.I t2.n,.I t2.line,.I t2.col] 108)).drew).cell? ⟨w108.heap.size,0,none⟩=some (.I t2.kind):=tb109.cell 0;have e1:((w108.alloc (.cells #[.I t2.kind,.string (str t2.text),.I t2.n,.I t2.line,.I t2.col] 108)).drew).cell? ⟨w108.heap.size,1,none⟩=some (.string (str t2.text)):=tb109.cell 1;have Y109:=b! Y108 b109;have z109:=b109.size;clear b109 tb109 q0 q1 q2 q3 q4 c0 c1 P108 K108;generalize (w108.alloc (.cells #[.I t2.kind,.string (str t2.text),.I t2.n,.I t2.line,.I t2.col] 108)).drew=W109 at*;have s1:((str t2.text).toList==[45])=decide (t2.text=[45]):=h4! _ _;have HBH:Hid (g6! (ts.drop i107)=(decide (t2.kind=2)||decide (t2.text=[45]))):=a82! HT2.out;have HDA:Hid (t2.text=[45]->t2.kind=4):=HTW.out.dash t2 (List.mem_of_getElem? HT2.out);have JB:=h! (JA.out.then_ (Kept.of_below (S:=λz=>z=g∨z=W0.heap.size) BC109.out) (λ_ _ e=>e));obtain⟨bt,hbt⟩:∃b,decide (t2.text=[45])=b:=⟨_,rfl⟩
   rw[hbt]at s1 HBH;have HBT:=h! hbt;clear hbt
   by_cases h2:t2.kind=2
   ·have s2:((t2.kind:Int)==2)=true:=by simp[h2]
    have HB1:Hid (g6! (ts.drop i107)=true):=by rw[Hid,HBH.out];simp[h2]
    go_wp2_with fail;refine(PM.out i107 er107 W109 P109.out).mono ?_;rintro e w110⟨v110,rfl,k110,⟨A110,l110,q110,xs110,rfl,rd110,on110,lm110⟩,i110,er110,p110,ps110⟩;have z110:=k110.size;have Y110:=k! Y109 k110;have K110:=q! K109 k110;have P110:=h! p110;have PS110:=h! ps110;have J110:=h! k110;clear p110 k110 ps110 K109 P109 Y109;clear rd110 on110;have fz:=Y110.out.frozen 6;have ez:=Y110.out.c6;go_wp2_with fail;obtain⟨W111,e9,Y111,k111⟩:=Y110.out.u6 (.slice A110 l110 q110);rw[e9];clear e9;have K111:=t! K110 k111;have P111:=h! (HH.out.putp P110.out.at_ (P110.out.blk.kept k111 (by omega)) K111.out);have J111:=h! k111;have z111:=k111.size;clear k111 Y110 K110 P110;clear fz ez;have HS:Hid (DsAt ts i110 er110 PG (λl=>IsRow 4 QV w107.heap.size W111 l (.slice A110 l110 q110))):=by
     rw[<-HPG.out];refine b57! HE0.out HK1.out HB1.out (PS110.out.mono λl hl=>hl.kept b3! (by omega) J111.out (λz _ hz e=>by omega))
    have JC:=h! ((JB.out.then_ J110.out (λ_ _ e=>.inl e)).then_ J111.out (λ_ _ e=>.inr e));go_meet
    case rel=>exact⟨_,_,_,i110,er110,Y111.out,P111.out,JC.out,by omega,HS.out⟩
   have s2:((t2.kind:Int)==2)=false:=by simp[h2]
   by_cases h4:t2.kind=4
   ·have s4:((t2.kind:Int)==4)=true:=by simp[h4]
    clear h4
    cases bt
    ·have HN:Hid (DsAt ts i107 er107 PG (λl=>IsRow 4 QV w107.heap.size W109 l (.N))):=by
      rw[<-HPG.out];exact a26! λ_=>.inr (by rw[HBH.out];simp[h2])
     go_wp2_with fail;go_meet
     case rel=>exact⟨none,0,0,i107,er107,Y109.out,P109.out,JB.out,by omega,HN.out⟩
    ·have HB1:Hid (g6! (ts.drop i107)=true):=by rw[Hid,HBH.out];simp
     go_wp2_with fail;refine(PM.out i107 er107 W109 P109.out).mono ?_;rintro e w110⟨v110,rfl,k110,⟨A110,l110,q110,xs110,rfl,rd110,on110,lm110⟩,i110,er110,p110,ps110⟩;have z110:=k110.size;have Y110:=k! Y109 k110;have K110:=q! K109 k110;have P110:=h! p110;have PS110:=h! ps110;have J110:=h! k110;clear p110 k110 ps110 K109 P109 Y109;clear rd110 on110;have fz:=Y110.out.frozen 6;have ez:=Y110.out.c6;go_wp2_with fail;obtain⟨W111,e9,Y111,k111⟩:=Y110.out.u6 (.slice A110 l110 q110);rw[e9];clear e9;have K111:=t! K110 k111;have P111:=h! (HH.out.putp P110.out.at_ (P110.out.blk.kept k111 (by omega)) K111.out);have J111:=h! k111;have z111:=k111.size;clear k111 Y110 K110 P110;clear fz ez;have HS:Hid (DsAt ts i110 er110 PG (λl=>IsRow 4 QV w107.heap.size W111 l (.slice A110 l110 q110))):=by
      rw[<-HPG.out];refine b57! HE0.out HK1.out HB1.out (PS110.out.mono λl hl=>hl.kept b3! (by omega) J111.out (λz _ hz e=>by omega))
     have JC:=h! ((JB.out.then_ J110.out (λ_ _ e=>.inl e)).then_ J111.out (λ_ _ e=>.inr e));go_meet
     case rel=>exact⟨_,_,_,i110,er110,Y111.out,P111.out,JC.out,by omega,HS.out⟩
   ·have s4:((t2.kind:Int)==4)=false:=by simp[h4]
    have hbf:bt=false:=by
     have h5:=HBT.out;have h6:=HDA.out
     cases bt
     ·rfl
     ·exact absurd (h6 (of_decide_eq_true h5)) h4
    clear h4;have HN:Hid (DsAt ts i107 er107 PG (λl=>IsRow 4 QV w107.heap.size W109 l (.N))):=by
     rw[<-HPG.out];exact a26! λ_=>.inr (by rw[HBH.out,hbf];simp[h2])
    go_wp2_with fail;go_meet
    case rel=>exact⟨none,0,0,i107,er107,Y109.out,P109.out,JB.out,by omega,HN.out⟩
 case rest=>
 obtain⟨Aq,nq,cq,iQ,erQ,yQ,pQ,kQ,hnq,psQ⟩:=hcut.out
 obtain⟨wQ,rfl⟩:∃x,x=wc:=⟨_,rfl⟩
 clear hcut
 have TB:Kept (λz=>z<W0.heap.size+1∨wV.heap.size<=z) wV w107:=((J101.out.mono (T:=(λz=>z<W0.heap.size+1∨wV.heap.size<=z)) (λz hz e=>by omega)).then_ ((J102.out.mono (T:=(λz=>z<W0.heap.size+1∨wV.heap.size<=z)) (λz hz e=>by omega)).then_ ((J103.out.mono (T:=(λz=>z<W0.heap.size+1∨wV.heap.size<=z)) (λz hz e=>by omega)).then_ ((J104.out.mono (T:=(λz=>z<W0.heap.size+1∨wV.heap.size<=z)) (λz hz e=>by omega)).then_ ((J105.out.mono (T:=(λz=>z<W0.heap.size+1∨wV.heap.size<=z)) (λz hz e=>by omega)).then_ ((J106.out.mono (T:=(λz=>z<W0.heap.size+1∨wV.heap.size<=z)) (λz hz e=>by omega)).then_ (J107.out.mono (T:=(λz=>z<W0.heap.size+1∨wV.heap.size<=z)) (λz hz e=>by omega)) (λ_ _ e=>e.imp (λe=>e) (λe=>e))) (λ_ _ e=>e.imp (λe=>e) (λe=>e))) (λ_ _ e=>e.imp (λe=>e) (λe=>e))) (λ_ _ e=>e.imp (λe=>e) (λe=>e))) (λ_ _ e=>e.imp (λe=>e) (λe=>e))) (λ_ _ e=>e.imp (λe=>e) (λe=>e)))
 have T4:Kept (λz=>z<w101.heap.size∨w102.heap.size<=z) w102 w107:=((J103.out.mono (T:=(λz=>z<w101.heap.size∨w102.heap.size<=z)) (λz hz e=>by omega)).then_ ((J104.out.mono (T:=(λz=>z<w101.heap.size∨w102.heap.size<=z)) (λz hz e=>by omega)).then_ ((J105.out.mono (T:=(λz=>z<w101.heap.size∨w102.heap.size<=z)) (λz hz e=>by omega)).then_ ((J106.out.mono (T:=(λz=>z<w101.heap.size∨w102.heap.size<=z)) (λz hz e=>by omega)).then_ (J107.out.mono (T:=(λz=>z<w101.heap.size∨w102.heap.size<=z)) (λz hz e=>by omega)) (λ_ _ e=>e.imp (λe=>e) (λe=>e))) (λ_ _ e=>e.imp (λe=>e) (λe=>e))) (λ_ _ e=>e.imp (λe=>e) (λe=>e))) (λ_ _ e=>e.imp (λe=>e) (λe=>e)))
 have T5:Kept (λz=>z<w104.heap.size∨w105.heap.size<=z) w105 w107:=((J106.out.mono (T:=(λz=>z<w104.heap.size∨w105.heap.size<=z)) (λz hz e=>by omega)).then_ (J107.out.mono (T:=(λz=>z<w104.heap.size∨w105.heap.size<=z)) (λz hz e=>by omega)) (λ_ _ e=>e.imp (λe=>e) (λe=>e)))
 have HC:∀(iR:Nat) (erR:Int) (Qp:List Va->Prop),DsAt ts iR erR PG Qp->∀(j:Nat) (e:Int) (Q:TyE->Prop),DsAt ts j e (stP restE ts iR erR) Q->DsAt ts j e P (λa=>∃(n:List UInt8) (st:List Int) (vs:List Va) (l4 l5:List St) (pr:List Va) (x:TyE),(str n=s3∧Rs st∧Rv vs∧IsRow 7 (QR 16) w101.heap.size w102 l4 (.slice A102 l102 q102)∧IsRow 7 (QR 16) w104.heap.size w105 l5 (.slice A105 l105 q105)∧Qp pr)∧Q x∧a=⟨n,n6,st,vs,l4,l5,pr,x.1,x.2.1,x.2.2.1,x.2.2.2⟩):=λiR erR Qp hp j e Q h=>by
  have h2:DsAt ts j e (stP restC ts jV erV) (λx=>(IsRow 7 (QR 16) w101.heap.size w102 x.1 (.slice A102 l102 q102)∧IsRow 7 (QR 16) w104.heap.size w105 x.2.1 (.slice A105 l105 q105)∧Qp x.2.2.1)∧Q x.2.2.2):=by
   rw[e44!];refine((PS107.out.then_ (by rw[HPG.out];exact hp)).then_ h).map _ ?_;rintro⟨⟨⟨⟨⟨⟨v0,x1⟩,v2⟩,x3⟩,v4⟩,x5⟩,x6⟩ ⟨⟨⟨⟨⟨⟨-,h1⟩,-⟩,h3⟩,-⟩,h5⟩,h6⟩;exact⟨⟨h1,h3,h5⟩,h6⟩
  refine(HB.out j e _ h2).mono ?_;rintro a⟨n,st,vs,x,⟨h1,h2,h3⟩,⟨⟨h4,h5,h6⟩,h7⟩,rfl⟩;exact⟨n,st,vs,x.1,x.2.1,x.2.2.1,x.2.2.2,⟨h1,h2,h3,h4,h5,h6⟩,h7,rfl⟩
 have RI2:=RI.out.move TB
 have RV2:=RV.out.move TB
 have R4:RowIn W0.heap.size w.heap.size w107 7 (QR 16) (λl=>IsRow 7 (QR 16) w101.heap.size w102 l (.slice A102 l102 q102)) (.slice A102 l102 q102):=λW l hk hR=>hR.kept (c7! 16) (by omega) (T4.then_ hk (λz hz e=>by omega)) (λk _ hk e=>by omega)
 have R5:RowIn W0.heap.size w.heap.size w107 7 (QR 16) (λl=>IsRow 7 (QR 16) w104.heap.size w105 l (.slice A105 l105 q105)) (.slice A105 l105 q105):=λW l hk hR=>hR.kept (c7! 16) (by omega) (T5.then_ hk (λz hz e=>by omega)) (λk _ hk e=>by omega)
 apply_assumption
 exact e48! g c A ts HTW.out i er w HH.out W0 z0w _ _ _ _ _ wQ pQ w107 KPk.out XPk.out (by omega) kQ AS nS cS AV nV cV A102 l102 q102 A105 l105 q105 Aq nq cq hnq yQ PG psQ _ _ _ _ RI2 RV2 R4 R5 HC _ (by unfold FrIs;(iterate 228 (apply Exists.intro));rfl)
end Go.Proofs.YtdgekckedchjbaaGreatDoor
