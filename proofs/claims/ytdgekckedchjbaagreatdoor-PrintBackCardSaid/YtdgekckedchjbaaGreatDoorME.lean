
/-
 The document's program: a part of its walk. (Printed by wip/tools/gene6s.py.) The document's program: a part of its walk. (Printed by wip/tools/gene6s.py.)
-/
import Derived.Test.YtdgekckedchjbaaGreatDoorE6C
set_option maxHeartbeats 16000000
set_option maxRecDepth 100000
namespace Go.Proofs.YtdgekckedchjbaaGreatDoor
open Go.RowKit
theorem e50!(g c:Nat)(A:Option Addr)(ts:List Tk)(hw:TW ts)(i:Nat)(er:Int)(w:World)(hh:DP w g A c ts i er)(W0:World)(z0w:w.heap.size<W0.heap.size)(P:PS Pg)(s3:ByteArray)(n6:Int)(jS:Nat)(erS:Int)(wS:World)(ds:DP wS g A c ts jS erS)(ks:Kept (λz=>z=g) w wS)(xs:Blk wS w.heap.size 33 #[.E,.I 0,.N,.N,.N,.N,.N,.N,.E,.N,.N])(AS:Option Addr)(nS cS:Nat)(ys:Blk wS W0.heap.size 33 #[.string s3,.I n6,.slice AS nS cS,.N,.N,.N,.N,.N,.E,.N,.N])
 (Rs:List Int->Prop) (ri:RowIn W0.heap.size w.heap.size wS 1 QI Rs (.slice AS nS cS)) (hb:∀(j:Nat) (e:Int) (Q:TyB->Prop),DsAt ts j e (stP restB ts jS erS) Q->DsAt ts j e P (λa=>∃(n:List UInt8) (st:List Int) (x:TyB),(str n=s3∧Rs st)∧Q x∧a=⟨n,n6,st,x.1,x.2.1,x.2.2.1,x.2.2.2.1,x.2.2.2.2.1,x.2.2.2.2.2.1,x.2.2.2.2.2.2.1,x.2.2.2.2.2.2.2⟩))
 (a:Act) (ha:FrIs g w.heap.size W0.heap.size a):
 Code.wp Tryz.prog (tlC 9 w9!) (bodyPost Tryz.prog Tryz.f70 (RPTo w g c A ts P)) a wS:=by
 conv=>arg 2;whnf
 unfold FrIs at ha
 iterate 228 (obtain⟨_,ha⟩:=ha)
 subst ha
 have hgl:=hh.blk.lt
 have hlim:=hh.lim
 have HH:=h! hh
 have HTW:=h! hw
 have Mgame:=h! (λi er w h=>a4! g c A ts i er [103,97,109,101] w h)
 have Mseats:=h! (λi er w h=>a4! g c A ts i er [115,101,97,116,115] w h)
 have Mstake:=h! (λi er w h=>a4! g c A ts i er [115,116,97,107,101] w h)
 have Mstart:=h! (λi er w h=>a4! g c A ts i er [115,116,97,114,116] w h)
 have Mturn:=h! (λi er w h=>a4! g c A ts i er [116,117,114,110] w h)
 have Mplay:=h! (λi er w h=>a4! g c A ts i er [112,108,97,121] w h)
 have Msilent:=h! (λi er w h=>a4! g c A ts i er [115,105,108,101,110,116] w h)
 have Mpay:=h! (λi er w h=>a4! g c A ts i er [112,97,121] w h)
 have NM:=h! (λi er w h=>k2! g c A ts i er w h)
 have NU:=h! (λi er w h=>m5! g c A ts i er w h)
 have SG:=h! (λi er w h=>m6! g c A ts i er w h)
 have MB:=h! (λi er w h=>a4! g c A ts i er [93] w h)
 have PT:=h! (λi er w h=>r5! g c A ts hw i er w h)
 have PM:=h! (λi er w h=>r6! g c A ts i er w h)
 have NWW:=h! (λ(i:Nat) (er:Int) (w:World) (h:DP w g A c ts i er) (t:Tk) (ht:ts[i]?=some t)=>c3! g c A ts i er w h t ht)
 have ISS:=h! (λ(i:Nat) (er:Int) (x:List UInt8) (w:World) (h:DP w g A c ts i er)=>d3! g c A ts i er (str x) w h)
 have FLL:=h! (λ(i:Nat) (w:World) (h:DP w g A c ts i 0)=>i8! g c A ts i w h)
 clear hh hw
 have DS:=h! ds
 have KS:=h! ks
 have XS:=h! xs
 have YS:=h! ys
 have RI:=h! ri
 have HB:=h! hb
 have zwS:=ks.size
 have zyS:=ys.lt
 clear ds ks xs ys ri hb
 obtain⟨VG,hVG⟩:∃p,stP o5! ts jS erS=p:=⟨_,rfl⟩
 have HVG:=h! hVG
 have VJ0:Hid (VarJ wS.heap.size ts VG (W0.heap.size) (λv:Value=>#[.string s3,.I n6,.slice AS nS cS,v,.N,.N,.N,.N,.E,.N,.N]) jS erS wS):=by
  refine⟨none,0,0,[],YS.out,World.ownsRow_nil _ _ _ _,rfl,by simp,by omega,λhe=>⟨by omega,[],rfl,λi hi=>by simp at hi,?_⟩⟩;rw[<-hVG];unfold stP o5!;rw[if_pos he]
 clear hVG
 (first|go_upto_block 2 with fail|skip)
 go_cut [] (λwc=>∃(j:Nat) (er':Int),Hid (DP wc g A c ts j er')∧Hid (Kept (λz=>z=g) w wc)∧Hid (Blk wc w.heap.size 33 #[.E,.I 0,.N,.N,.N,.N,.N,.N,.E,.N,.N])∧Hid (Kept (λz=>z=g∨z=W0.heap.size∨wS.heap.size<=z) wS wc)∧Hid (VarJ wS.heap.size ts VG (W0.heap.size) (λv:Value=>#[.string s3,.I n6,.slice AS nS cS,v,.N,.N,.N,.N,.E,.N,.N]) j er' wc)∧Hid (er'=0->hasT [118,97,114] (ts.drop j)=false))
 case first=>
  go_wp2_with fail
  go_loopw [] (λwr=>∃(j:Nat) (er':Int),Hid (DP wr g A c ts j er')∧Hid (Kept (λz=>z=g) w wr)∧Hid (Blk wr w.heap.size 33 #[.E,.I 0,.N,.N,.N,.N,.N,.N,.E,.N,.N])∧Hid (Kept (λz=>z=g∨z=W0.heap.size∨wS.heap.size<=z) wS wr)∧Hid (VarJ wS.heap.size ts VG (W0.heap.size) (λv:Value=>#[.string s3,.I n6,.slice AS nS cS,v,.N,.N,.N,.N,.E,.N,.N]) j er' wr)) (λwr=>LMd ts g wr)
  case atStart=>exact⟨jS,erS,DS.out,KS.out,XS.out,Kept.refl _ _,VJ0.out⟩
  case round=>as_aux_lemma=>
   obtain⟨j,er',DD,KK,XX,KT,VJ⟩:=hrel;obtain⟨wo,rfl⟩:∃x,x=wr:=⟨_,rfl⟩
   have hwz:=KK.out.size;have hwy:=KT.out.size;have hjt:=DD.out.at_;have DD0:=h! DD.out;go_upto_region 10 with fail;obtain⟨t101,ht101⟩:=DD.out.one;obtain⟨bq101,hbq101⟩:∃b,stB (hasT [118,97,114]) ts j er'=b:=⟨_,rfl⟩
   have HBQ101:=h! hbq101;have HTK101:=h! ht101;clear ht101;have c2:=DD.out.blk.c2
   go_cut [53]from 45 to 98 (λcv wc=>cv=.bool bq101∧Hid (Below wo.heap.size wo wc))
   case first=>
    by_cases he:er'=0
    ·have he':((er':Int)==0)=true:=by simp[he]
     have ek:hasT [118,97,114] (ts.drop j)=bq101:=by rw[<-w6!,<-hbq101,he]
     have IS:=h! (ISS.out j er' [118,97,114] wo DD.out);rw[k8!,ek]at IS;clear he hbq101 ek;go_wp2_with fail;refine IS.out.mono ?_;rintro e w1⟨rfl,b1⟩;have B1:=h! b1;clear b1 IS;go_wp2_with fail;go_meet
     case rel=>exact⟨rfl,B1.out⟩
    ·have he':((er':Int)==0)=false:=by simp[he]
     rw[w7! he]at hbq101;subst hbq101;go_wp2_with fail;go_meet
     case rel=>exact⟨rfl,Below.refl _ _⟩
   case rest=>
   obtain⟨rfl,hbw⟩:=hcut;obtain⟨w101,rfl⟩:∃x,x=wc:=⟨_,rfl⟩
   clear c2 hbq101;have b101:=hbw.out;have BB101:=h! b101;have z101:=b101.size;have X101:=b! XX b101;have K101:=e! KK b101;have P101:=h! (DD.out.below b101);have J101:=o! g b101;clear b101 KK DD XX;clear hbw;have VJ1:Hid (VarJ wS.heap.size ts VG (W0.heap.size) (λv:Value=>#[.string s3,.I n6,.slice AS nS cS,v,.N,.N,.N,.N,.E,.N,.N]) j er' w101):=VJ.out.kept BB101.out;have KT1:=h! (KT.out.then_ (Kept.of_below (S:=(λz=>z=g∨z=W0.heap.size∨wS.heap.size<=z)) BB101.out) (λ_ _ e=>e));clear VJ KT
   cases bq101
   ·go_wp2_with fail
    go_meet
    case rel=>exact⟨j,er',P101.out,K101.out,X101.out,KT1.out,VJ1.out,λhe=>by
     have h:=HBQ101.out;rw[he,w6!]at h;exact h⟩
   ·obtain⟨rfl,hkv⟩:=w8! HBQ101.out
    have HKV:=h! hkv;obtain⟨Ao,no,co,zs,hyo,hoo,hzl,hzo,hno,hsemo⟩:=VJ1.out;obtain⟨hnj,acc,hal,hzs,hgoal⟩:=hsemo rfl;have HGO:=h! hgoal;have HAL:=h! hal;have HZS:=h! hzs;have HZL:=h! hzl;have HZO:=h! hzo;have YY:=h! hyo;have HO8:=h! hoo;have hol8:=h! (c2! hoo);have hog8:=h! (f2! hoo);have hm:=h8! P101.out hkv;have yol:=hyo.lt;have xol:=X101.out.lt;clear hgoal hal hzs hzl hzo hyo hoo hsemo VJ1 hkv;have y1:=P101.out.blk.c1;have u1:=P101.out.blk.frozen 1;have wi:=y! ((j:Int)+1);obtain⟨d102,k102⟩:=P101.out.pass hm;go_upto_region 12 with fail;clear y1 u1 wi;have K102:=q! K101 k102;have P102:=h! d102;have J102:=h! k102;have z102:=k102.size;clear d102 k102 K101 P101 hm;generalize w101.setCell ⟨g,1,none⟩ (.I ((j:Int)+1))=W102 at*;go_wp2_with fail;refine(NM.out (j+1) 0 W102 P102.out).mono ?_;rintro e w103⟨v103,rfl,k103,⟨s103,rfl⟩,i103,er103,p103,ps103⟩;have z103:=k103.size;have K103:=q! K102 k103;have P103:=h! p103;have PS103:=h! ps103;have J103:=h! k103;clear p103 k103 ps103 K102 P102;go_upto_region 13 with fail;obtain⟨W104,eW,f104,Y104,z104⟩:=n! w103 133 #[.string s103,.I 0,.I 0,.I 0];replace Y104:=h! Y104;have P104:=h! (P103.out.below f104);have K104:=e! K103 f104;have J104:=o! g f104;clear f104 K103 P103;rw[eW.out];clear eW;obtain⟨t105,ht105⟩:=P104.out.one;obtain⟨bq105,hbq105⟩:∃b,stB (hasT [91]) ts i103 er103=b:=⟨_,rfl⟩
    have HBQ105:=h! hbq105;have HTK105:=h! ht105;clear ht105;have c2:=P104.out.blk.c2
    go_cut [73]from 45 to 98 (λcv wc=>cv=.bool bq105∧Hid (Below W104.heap.size W104 wc))
    case first=>
     by_cases he:er103=0
     ·have he':((er103:Int)==0)=true:=by simp[he]
      have ek:hasT [91] (ts.drop i103)=bq105:=by rw[<-w6!,<-hbq105,he]
      have IS:=h! (ISS.out i103 er103 [91] W104 P104.out);rw[k8!,ek]at IS;clear he hbq105 ek;go_wp2_with fail;refine IS.out.mono ?_;rintro e w1⟨rfl,b1⟩;have B1:=h! b1;clear b1 IS;go_wp2_with fail;go_meet
      case rel=>exact⟨rfl,B1.out⟩
     ·have he':((er103:Int)==0)=false:=by simp[he]
      rw[w7! he]at hbq105;subst hbq105;go_wp2_with fail;go_meet
      case rel=>exact⟨rfl,Below.refl _ _⟩
    case rest=>
    obtain⟨rfl,hbw⟩:=hcut;obtain⟨w105,rfl⟩:∃x,x=wc:=⟨_,rfl⟩
    clear c2 hbq105;have b105:=hbw.out;have BB105:=h! b105;have z105:=b105.size;have Y105:=b! Y104 b105;have K105:=e! K104 b105;have P105:=h! (P104.out.below b105);have J105:=o! g b105;clear b105 K104 P104 Y104;clear hbw
    cases bq105
    ·have PSz:DsAt ts i103 er103 (stP sizeP ts i103 er103) (λn=>n=0):=by
      by_cases h0:er103=0
      ·have hx:=HBQ105.out
       rw[h0,w6!]at hx;exact DsAt.noskip (x:=[91]) (f:=sizeP) (a:=sizeT) (b:=λr=>.ok 0 r) (λr=>rfl) hx (DsAt.st rfl)
      ·exact DsAt.no h0
     have PSy:=h! (PS103.out.then_ PSz);clear PSz PS103;go_wp2_with fail;refine(SG.out i103 er103 w105 P105.out).mono ?_;rintro e w106⟨v106,rfl,k106,⟨n106,rfl⟩,i106,er106,p106,ps106⟩;have z106:=k106.size;have Y106:=k! Y105 k106;have K106:=q! K105 k106;have P106:=h! p106;have PS106:=h! (PSy.out.then_ ps106);have J106:=h! k106;clear p106 k106 ps106 K105 P105 Y105 PSy;have fz:=Y106.out.frozen 2;have ez:=Y106.out.c2;go_wp2_with fail;obtain⟨W107,e9,Y107,k107⟩:=Y106.out.u2 (.I n106);rw[e9];clear e9;have K107:=t! K106 k107;have P107:=h! (HH.out.putp P106.out.at_ (P106.out.blk.kept k107 (by omega)) K107.out);have J107:=h! k107;have z107:=k107.size;clear k107 Y106 K106 P106;clear fz ez;refine(SG.out i106 er106 W107 P107.out).mono ?_;rintro e w108⟨v108,rfl,k108,⟨n108,rfl⟩,i108,er108,p108,ps108⟩;have z108:=k108.size;have Y108:=k! Y107 k108;have K108:=q! K107 k108;have P108:=h! p108;have PS108:=h! (PS106.out.then_ ps108);have J108:=h! k108;clear p108 k108 ps108 K107 P107 Y107 PS106;have fz:=Y108.out.frozen 3;have ez:=Y108.out.c3;go_upto_region 19 with fail;obtain⟨W109,e9,Y109,k109⟩:=Y108.out.u3 (.I n108);rw[e9];clear e9;have K109:=t! K108 k109;have P109:=h! (HH.out.putp P108.out.at_ (P108.out.blk.kept k109 (by omega)) K109.out);have J109:=h! k109;have z109:=k109.size;clear k109 Y108 K108 P108;clear fz ez;have KJ:=h! ((J102.out.mono (T:=(λz=>z=g∨w101.heap.size<=z)) (λz hz e=>by omega)).then_ ((J103.out.mono (T:=(λz=>z=g∨w101.heap.size<=z)) (λz hz e=>by omega)).then_ ((J104.out.mono (T:=(λz=>z=g∨w101.heap.size<=z)) (λz hz e=>by omega)).then_ ((J105.out.mono (T:=(λz=>z=g∨w101.heap.size<=z)) (λz hz e=>by omega)).then_ ((J106.out.mono (T:=(λz=>z=g∨w101.heap.size<=z)) (λz hz e=>by omega)).then_ ((J107.out.mono (T:=(λz=>z=g∨w101.heap.size<=z)) (λz hz e=>by omega)).then_ ((J108.out.mono (T:=(λz=>z=g∨w101.heap.size<=z)) (λz hz e=>by omega)).then_ (J109.out.mono (T:=(λz=>z=g∨w101.heap.size<=z)) (λz hz e=>by omega)) (λ_ _ e=>e)) (λ_ _ e=>e)) (λ_ _ e=>e)) (λ_ _ e=>e)) (λ_ _ e=>e)) (λ_ _ e=>e)) (λ_ _ e=>e));obtain⟨qc0,qc1,qc2,qc3⟩:=Y109.out.A4;have YP:=h! (YY.out.kept KJ.out (λe=>by rcases e with e|e<;>omega));have ow3:Hid (W109.ownsRow wS.heap.size 133 4 (.slice Ao no co) no zs):=a6! HO8.out KJ.out (λz hz e=>by have h1:=hol8.out z hz;have h2:=hog8.out z hz;rcases e with e|e<;>omega);have hol3:=h! (c2! ow3.out);have yq:=YP.out.c3;obtain⟨k0,hk0,hz0,hz1,hz2⟩:=info_parts a24!;have o2:=h! (World.ownsRow.alloc ow3.out (.cells #[.string s103,.I 0,.I n106,.I n108] 133));have RD:=h! (d1! W109 133 #[.string s103,.I 0,.I n106,.I n108] 4 rfl);have ONE:Hid (∀u∈([.string s103,.I 0,.I n106,.I n108]:List Value),u.oneCell'=true):=by
      intro u hu
      simp only[List.mem_cons,List.not_mem_nil,or_false]at hu
      rcases hu with rfl|rfl|rfl|rfl<;>rfl
     have hP:=P109.out.at_;have ypl:=YP.out.lt;have hnb:no<=100000:=by omega
     go_wp2_with (at_builtin;refine e5! _ rfl (.tmp 94) (.tmp 96) 31 rfl wS.heap.size 133 k0 _ 4 40 Tryz.underlying31 hk0 hz0 hz1 hz2 rfl (by omega) _ no zs rfl o2.out _ _ 1 1 [.string s103,.I 0,.I n106,.I n108] rfl RD.out ONE.out (by unfold maxLen;omega) (by omega) (by simp;omega) ?_;intro v8 w8 o8 g8 at8;obtain⟨A8,c8,rfl,hb8⟩:=b2! o8;have y8:=(YP.out.alloc (.cells #[.string s103,.I 0,.I n106,.I n108] 133)).kept (Kept.of_grown (S:=λz=>(Value.slice Ao no co).ownBlock=some z) g8 (λ_ e=>e)) (λe=>by have:=hog8.out _ e;omega);have q8:=y8.cell 3;have f8:=y8.frozen 3)
     have K8:Kept (λz=>(Value.slice Ao no co).ownBlock=some z) W109 w8:=((Kept.refl (λz=>(Value.slice Ao no co).ownBlock=some z) W109).alloc _).then_ (Kept.of_grown g8 (λ_ e=>e)) (λ_ _ e=>e);have k89:=(Kept.refl (λz=>z=W0.heap.size) w8).setCell (p:=⟨W0.heap.size,3,none⟩) (λ_=>rfl) (.slice A8 (no+1) c8);have K9:Kept (λz=>z=W0.heap.size∨(Value.slice Ao no co).ownBlock=some z) W109 (w8.setCell ⟨W0.heap.size,3,none⟩ (.slice A8 (no+1) c8)):=(K8.mono (T:=λz=>z=W0.heap.size∨(Value.slice Ao no co).ownBlock=some z) (λ_ _ e=>.inr e)).then_ k89 (λ_ _ e=>.inl e);have hW8:=K8.size;have KN:=h! (K109.out.then_ K9 (λz hz e=>by rcases e with e|e<;>first|omega|(have:=hog8.out _ e;omega)));have PN:=h! (HH.out.putp P109.out.at_ (P109.out.blk.kept K9 (λe=>by rcases e with e|e<;>first|omega|(have:=hog8.out _ e;omega))) KN.out);have XN:=h! ((X101.out.kept KJ.out (λe=>by rcases e with e|e<;>omega)).kept K9 (λe=>by rcases e with e|e<;>first|omega|(have:=hog8.out _ e;omega)));have zKJ:=KJ.out.size;have KTN:=h! ((KT1.out.then_ KJ.out (λz hz e=>by rcases e with e|e<;>omega)).then_ K9 (λz hz e=>by rcases e with e|e<;>first|omega|(have:=hog8.out _ e;omega)));have hown:∀z,(Value.slice A8 (no+1) c8).ownBlock=some z->W0.heap.size<z:=λz hz=>by have:=f2! o8 z hz;omega
     have HPP:Hid (DsAt ts i108 er108 (d8! (ts.drop j)) (λa=>[.string s103,.I 0,.I n106,.I n108]=d0! a)):=by
      rw[Hid,b54! ts j HKV.out];refine PS108.out.map _ ?_;rintro⟨⟨⟨x1,sz⟩,lo⟩,hi⟩ ⟨⟨⟨h1,h2⟩,h3⟩,h4⟩;injection h1 with h1;injection h3 with _ h3;injection h4 with _ h4;have h2:sz=_:=h2;rw[h1,h2,h3,h4]
      rfl
     have hst:er108=0->j<i108∧∃a,d8! (ts.drop j)=.ok a (ts.drop i108)∧[.string s103,.I 0,.I n106,.I n108]=d0! a:=λhe=>by
      obtain⟨a,ha,hq⟩:=HPP.out he;have:=p7! _ _ _ ha;rw[List.length_drop,List.length_drop]at this;exact⟨by omega,a,ha,hq⟩
     have VN:Hid (VarJ wS.heap.size ts VG (W0.heap.size) (λv:Value=>#[.string s3,.I n6,.slice AS nS cS,v,.N,.N,.N,.N,.E,.N,.N]) i108 er108 (w8.setCell ⟨W0.heap.size,3,none⟩ (.slice A8 (no+1) c8))):=by
      refine⟨A8,no+1,c8,_,y8.set_ 3 _,a6! o8 k89 (λz hz e=>by have:=hown z hz;omega),?_,λq hq=>(List.mem_append.1 hq).elim (HZO.out q) (ONE.out q),by omega,λhe=>?_⟩
      ·rw[List.length_append,HZL.out,Nat.add_mul]
       rfl
      obtain⟨h1,a,ha,hq⟩:=hst he;refine⟨by omega,acc++[a],by rw[List.length_append,HAL.out];rfl,w5! (by rw[HZL.out,HAL.out]) HZS.out hq,?_⟩;rw[HGO.out];exact a25! rfl p7! HKV.out ha
     have HME:=h! (r3! DD0.out PN.out (λhe=>(hst he).1));clear o8 g8 at8 K8 K9 k89 hst hown qc0 qc1 qc2 qc3 q8 f8 yq
     go_roundw
     case rel=>exact⟨i108,er108,PN.out,KN.out,XN.out,KTN.out,VN.out⟩
     case measure=>exact HME.out
    ·obtain⟨he0,hx0⟩:=w8! HBQ105.out
     have HX0:=h! hx0;have hm:=h8! P105.out hx0;clear he0 hx0;have y1:=P105.out.blk.c1;have u1:=P105.out.blk.frozen 1;have wi:=y! ((i103:Int)+1);obtain⟨d106,k106⟩:=P105.out.pass hm;go_upto_region 15 with fail;clear y1 u1 wi;have Y106:=k! Y105 k106;have K106:=q! K105 k106;have P106:=h! d106;have J106:=h! k106;have z106:=k106.size;clear d106 k106 K105 P105 hm Y105;generalize w105.setCell ⟨g,1,none⟩ (.I ((i103:Int)+1))=W106 at*;go_wp2_with fail;refine(NU.out (i103+1) er103 W106 P106.out).mono ?_;rintro e w107⟨v107,rfl,k107,⟨n107,rfl⟩,i107,er107,p107,ps107⟩;have z107:=k107.size;have Y107:=k! Y106 k107;have K107:=q! K106 k107;have P107:=h! p107;have PS107:=h! ps107;have J107:=h! k107;clear p107 k107 ps107 K106 P106 Y106;have fz:=Y107.out.frozen 1;have ez:=Y107.out.c1;go_wp2_with fail;obtain⟨W108,e9,Y108,k108⟩:=Y107.out.u1 (.I n107);rw[e9];clear e9;have K108:=t! K107 k108;have P108:=h! (HH.out.putp P107.out.at_ (P107.out.blk.kept k108 (by omega)) K108.out);have J108:=h! k108;have z108:=k108.size;clear k108 Y107 K107 P107;clear fz ez;refine(MB.out i107 er107 W108 P108.out).mono ?_;rintro e w109⟨v109,rfl,k109,rfl,i109,er109,p109,ps109⟩;have z109:=k109.size;have Y109:=k! Y108 k109;have K109:=q! K108 k109;have P109:=h! p109;have PS109:=h! (PS107.out.then_ ps109);have J109:=h! k109;clear p109 k109 ps109 K108 P108 Y108 PS107;have PSz:DsAt ts i109 er109 (stP sizeP ts i103 er103) (λn=>n=n107):=by
      refine DsAt.skip (x:=[91]) (f:=sizeP) (a:=sizeT) (b:=λr=>.ok 0 r) (λr=>rfl) HX0.out ?_;rw[e42!];refine PS109.out.map _ ?_;rintro⟨x1,u1⟩ ⟨h1,-⟩;injection h1 with _ h1;exact h1.symm
     have PSy:=h! (PS103.out.then_ PSz);clear PSz PS103 PS109;go_wp2_with fail;refine(SG.out i109 er109 w109 P109.out).mono ?_;rintro e w110⟨v110,rfl,k110,⟨n110,rfl⟩,i110,er110,p110,ps110⟩;have z110:=k110.size;have Y110:=k! Y109 k110;have K110:=q! K109 k110;have P110:=h! p110;have PS110:=h! (PSy.out.then_ ps110);have J110:=h! k110;clear p110 k110 ps110 K109 P109 Y109 PSy;have fz:=Y110.out.frozen 2;have ez:=Y110.out.c2;go_wp2_with fail;obtain⟨W111,e9,Y111,k111⟩:=Y110.out.u2 (.I n110);rw[e9];clear e9;have K111:=t! K110 k111;have P111:=h! (HH.out.putp P110.out.at_ (P110.out.blk.kept k111 (by omega)) K111.out);have J111:=h! k111;have z111:=k111.size;clear k111 Y110 K110 P110;clear fz ez;refine(SG.out i110 er110 W111 P111.out).mono ?_;rintro e w112⟨v112,rfl,k112,⟨n112,rfl⟩,i112,er112,p112,ps112⟩;have z112:=k112.size;have Y112:=k! Y111 k112;have K112:=q! K111 k112;have P112:=h! p112;have PS112:=h! (PS110.out.then_ ps112);have J112:=h! k112;clear p112 k112 ps112 K111 P111 Y111 PS110;have fz:=Y112.out.frozen 3;have ez:=Y112.out.c3;go_upto_region 19 with fail;obtain⟨W113,e9,Y113,k113⟩:=Y112.out.u3 (.I n112);rw[e9];clear e9;have K113:=t! K112 k113;have P113:=h! (HH.out.putp P112.out.at_ (P112.out.blk.kept k113 (by omega)) K113.out);have J113:=h! k113;have z113:=k113.size;clear k113 Y112 K112 P112;clear fz ez;have KJ:=h! ((J102.out.mono (T:=(λz=>z=g∨w101.heap.size<=z)) (λz hz e=>by omega)).then_ ((J103.out.mono (T:=(λz=>z=g∨w101.heap.size<=z)) (λz hz e=>by omega)).then_ ((J104.out.mono (T:=(λz=>z=g∨w101.heap.size<=z)) (λz hz e=>by omega)).then_ ((J105.out.mono (T:=(λz=>z=g∨w101.heap.size<=z)) (λz hz e=>by omega)).then_ ((J106.out.mono (T:=(λz=>z=g∨w101.heap.size<=z)) (λz hz e=>by omega)).then_ ((J107.out.mono (T:=(λz=>z=g∨w101.heap.size<=z)) (λz hz e=>by omega)).then_ ((J108.out.mono (T:=(λz=>z=g∨w101.heap.size<=z)) (λz hz e=>by omega)).then_ ((J109.out.mono (T:=(λz=>z=g∨w101.heap.size<=z)) (λz hz e=>by omega)).then_ ((J110.out.mono (T:=(λz=>z=g∨w101.heap.size<=z)) (λz hz e=>by omega)).then_ ((J111.out.mono (T:=(λz=>z=g∨w101.heap.size<=z)) (λz hz e=>by omega)).then_ ((J112.out.mono (T:=(λz=>z=g∨w101.heap.size<=z)) (λz hz e=>by omega)).then_ (J113.out.mono (T:=(λz=>z=g∨w101.heap.size<=z)) (λz hz e=>by omega)) (λ_ _ e=>e)) (λ_ _ e=>e)) (λ_ _ e=>e)) (λ_ _ e=>e)) (λ_ _ e=>e)) (λ_ _ e=>e)) (λ_ _ e=>e)) (λ_ _ e=>e)) (λ_ _ e=>e)) (λ_ _ e=>e)) (λ_ _ e=>e));obtain⟨qc0,qc1,qc2,qc3⟩:=Y113.out.A4;have YP:=h! (YY.out.kept KJ.out (λe=>by rcases e with e|e<;>omega));have ow3:Hid (W113.ownsRow wS.heap.size 133 4 (.slice Ao no co) no zs):=a6! HO8.out KJ.out (λz hz e=>by have h1:=hol8.out z hz;have h2:=hog8.out z hz;rcases e with e|e<;>omega);have hol3:=h! (c2! ow3.out);have yq:=YP.out.c3;obtain⟨k0,hk0,hz0,hz1,hz2⟩:=info_parts a24!;have o2:=h! (World.ownsRow.alloc ow3.out (.cells #[.string s103,.I n107,.I n110,.I n112] 133));have RD:=h! (d1! W113 133 #[.string s103,.I n107,.I n110,.I n112] 4 rfl);have ONE:Hid (∀u∈([.string s103,.I n107,.I n110,.I n112]:List Value),u.oneCell'=true):=by
      intro u hu
      simp only[List.mem_cons,List.not_mem_nil,or_false]at hu
      rcases hu with rfl|rfl|rfl|rfl<;>rfl
     have hP:=P113.out.at_;have ypl:=YP.out.lt;have hnb:no<=100000:=by omega
     go_wp2_with (at_builtin;refine e5! _ rfl (.tmp 94) (.tmp 96) 31 rfl wS.heap.size 133 k0 _ 4 40 Tryz.underlying31 hk0 hz0 hz1 hz2 rfl (by omega) _ no zs rfl o2.out _ _ 1 1 [.string s103,.I n107,.I n110,.I n112] rfl RD.out ONE.out (by unfold maxLen;omega) (by omega) (by simp;omega) ?_;intro v8 w8 o8 g8 at8;obtain⟨A8,c8,rfl,hb8⟩:=b2! o8;have y8:=(YP.out.alloc (.cells #[.string s103,.I n107,.I n110,.I n112] 133)).kept (Kept.of_grown (S:=λz=>(Value.slice Ao no co).ownBlock=some z) g8 (λ_ e=>e)) (λe=>by have:=hog8.out _ e;omega);have q8:=y8.cell 3;have f8:=y8.frozen 3)
     have K8:Kept (λz=>(Value.slice Ao no co).ownBlock=some z) W113 w8:=((Kept.refl (λz=>(Value.slice Ao no co).ownBlock=some z) W113).alloc _).then_ (Kept.of_grown g8 (λ_ e=>e)) (λ_ _ e=>e);have k89:=(Kept.refl (λz=>z=W0.heap.size) w8).setCell (p:=⟨W0.heap.size,3,none⟩) (λ_=>rfl) (.slice A8 (no+1) c8);have K9:Kept (λz=>z=W0.heap.size∨(Value.slice Ao no co).ownBlock=some z) W113 (w8.setCell ⟨W0.heap.size,3,none⟩ (.slice A8 (no+1) c8)):=(K8.mono (T:=λz=>z=W0.heap.size∨(Value.slice Ao no co).ownBlock=some z) (λ_ _ e=>.inr e)).then_ k89 (λ_ _ e=>.inl e);have hW8:=K8.size;have KN:=h! (K113.out.then_ K9 (λz hz e=>by rcases e with e|e<;>first|omega|(have:=hog8.out _ e;omega)));have PN:=h! (HH.out.putp P113.out.at_ (P113.out.blk.kept K9 (λe=>by rcases e with e|e<;>first|omega|(have:=hog8.out _ e;omega))) KN.out);have XN:=h! ((X101.out.kept KJ.out (λe=>by rcases e with e|e<;>omega)).kept K9 (λe=>by rcases e with e|e<;>first|omega|(have:=hog8.out _ e;omega)));have zKJ:=KJ.out.size;have KTN:=h! ((KT1.out.then_ KJ.out (λz hz e=>by rcases e with e|e<;>omega)).then_ K9 (λz hz e=>by rcases e with e|e<;>first|omega|(have:=hog8.out _ e;omega)));have hown:∀z,(Value.slice A8 (no+1) c8).ownBlock=some z->W0.heap.size<z:=λz hz=>by have:=f2! o8 z hz;omega
     have HPP:Hid (DsAt ts i112 er112 (d8! (ts.drop j)) (λa=>[.string s103,.I n107,.I n110,.I n112]=d0! a)):=by
      rw[Hid,b54! ts j HKV.out];refine PS112.out.map _ ?_;rintro⟨⟨⟨x1,sz⟩,lo⟩,hi⟩ ⟨⟨⟨h1,h2⟩,h3⟩,h4⟩;injection h1 with h1;injection h3 with _ h3;injection h4 with _ h4;have h2:sz=_:=h2;rw[h1,h2,h3,h4]
      rfl
     have hst:er112=0->j<i112∧∃a,d8! (ts.drop j)=.ok a (ts.drop i112)∧[.string s103,.I n107,.I n110,.I n112]=d0! a:=λhe=>by
      obtain⟨a,ha,hq⟩:=HPP.out he;have:=p7! _ _ _ ha;rw[List.length_drop,List.length_drop]at this;exact⟨by omega,a,ha,hq⟩
     have VN:Hid (VarJ wS.heap.size ts VG (W0.heap.size) (λv:Value=>#[.string s3,.I n6,.slice AS nS cS,v,.N,.N,.N,.N,.E,.N,.N]) i112 er112 (w8.setCell ⟨W0.heap.size,3,none⟩ (.slice A8 (no+1) c8))):=by
      refine⟨A8,no+1,c8,_,y8.set_ 3 _,a6! o8 k89 (λz hz e=>by have:=hown z hz;omega),?_,λq hq=>(List.mem_append.1 hq).elim (HZO.out q) (ONE.out q),by omega,λhe=>?_⟩
      ·rw[List.length_append,HZL.out,Nat.add_mul]
       rfl
      obtain⟨h1,a,ha,hq⟩:=hst he;refine⟨by omega,acc++[a],by rw[List.length_append,HAL.out];rfl,w5! (by rw[HZL.out,HAL.out]) HZS.out hq,?_⟩;rw[HGO.out];exact a25! rfl p7! HKV.out ha
     have HME:=h! (r3! DD0.out PN.out (λhe=>(hst he).1));clear o8 g8 at8 K8 K9 k89 hst hown qc0 qc1 qc2 qc3 q8 f8 yq
     go_roundw
     case rel=>exact⟨i112,er112,PN.out,KN.out,XN.out,KTN.out,VN.out⟩
     case measure=>exact HME.out
 case rest=>
 obtain⟨jV,erV,DV,KV,XV,KT,VJ,NKV⟩:=hcut
 obtain⟨wV,rfl⟩:∃x,x=wc:=⟨_,rfl⟩
 obtain⟨AV,nV,cV,zsV,hyV,hoV,hzV,honV,hnV,hsemV⟩:=VJ.out
 have YV:=h! hyV
 have zwV:=KV.out.size
 have zKT:=KT.out.size
 have HRV:Hid (ShR 4 wV (.slice AV nV cV)):=⟨AV,nV,cV,zsV,rfl,Reads.of_own hoV,honV,by omega⟩
 have PSv:Hid (DsAt ts jV erV (stP o5! ts jS erS) (λl=>IsRow 4 QV wS.heap.size wV l (.slice AV nV cV))):=λhe=>by
  obtain⟨_,acc,h1,h2,h3⟩:=hsemV he;refine⟨acc,?_,b52! hoV (by omega) h1 h2⟩;rw[HVG.out,h3];exact b53! (NKV.out he)
 have HC:∀(j:Nat) (e:Int) (Q:TyC->Prop),DsAt ts j e (stP restC ts jV erV) Q->DsAt ts j e P (λa=>∃(n:List UInt8) (st:List Int) (vs:List Va) (x:TyC),(str n=s3∧Rs st∧IsRow 4 QV wS.heap.size wV vs (.slice AV nV cV))∧Q x∧a=⟨n,n6,st,vs,x.1,x.2.1,x.2.2.1,x.2.2.2.1,x.2.2.2.2.1,x.2.2.2.2.2.1,x.2.2.2.2.2.2⟩):=λj e Q h=>by
  have h2:DsAt ts j e (stP restB ts jS erS) (λx=>IsRow 4 QV wS.heap.size wV x.1 (.slice AV nV cV)∧Q x.2):=by
   rw[e45!];refine(PSv.out.then_ h).map _ ?_;rintro⟨x1,x2⟩ ⟨h1,h2⟩;exact⟨h1,h2⟩
  refine(HB.out j e _ h2).mono ?_;rintro a⟨n,st,x,⟨h1,h2⟩,⟨h3,h4⟩,rfl⟩;exact⟨n,st,x.1,x.2,⟨h1,h2,h3⟩,h4,rfl⟩
 have RI2:=RI.out.move (KT.out.mono (λz _ e=>by rcases e with e|e|e<;>omega))
 have RV:RowIn W0.heap.size w.heap.size wV 4 QV (λvs=>IsRow 4 QV wS.heap.size wV vs (.slice AV nV cV)) (.slice AV nV cV):=λW l hk hR=>hR.kept b3! (by omega) hk (λk hk1 hk2 e=>by omega)
 apply_assumption
 exact e49! g c A ts HTW.out i er w HH.out W0 z0w _ _ _ _ _ wV DV.out KV.out XV.out AS nS cS AV nV cV hyV _ _ RI2 RV HC _ (by unfold FrIs;(iterate 228 (apply Exists.intro));rfl)
end Go.Proofs.YtdgekckedchjbaaGreatDoor
set_option maxHeartbeats 16000000
set_option maxRecDepth 100000
namespace Go.Proofs.YtdgekckedchjbaaGreatDoor
open Go.RowKit
theorem e51!(g c:Nat)(A:Option Addr)(ts:List Tk)(hw:TW ts)(i:Nat)(er:Int)(w:World)(h:DP w g A c ts i er):
 Calls Tryz.prog 70 #[.pointer (some ⟨g,0,none⟩)] w (RPTo w g c A ts (stP progP ts i er)):=by
 obtain⟨W0,eW,f0,x0,z0⟩:=n! w 33 #[.E,.I 0,.N,.N,.N,.N,.N,.N,.E,.N,.N]
 have hgl:=h.blk.lt
 have hlim:=h.lim
 have HH:=h! h
 have HTW:=h! hw
 have P0:=h! (h.below f0)
 have X0:=h! x0
 have K0:=o! g f0
 have Mgame:=h! (λi er w h=>a4! g c A ts i er [103,97,109,101] w h)
 have Mseats:=h! (λi er w h=>a4! g c A ts i er [115,101,97,116,115] w h)
 have Mstake:=h! (λi er w h=>a4! g c A ts i er [115,116,97,107,101] w h)
 have Mstart:=h! (λi er w h=>a4! g c A ts i er [115,116,97,114,116] w h)
 have Mturn:=h! (λi er w h=>a4! g c A ts i er [116,117,114,110] w h)
 have Mplay:=h! (λi er w h=>a4! g c A ts i er [112,108,97,121] w h)
 have Msilent:=h! (λi er w h=>a4! g c A ts i er [115,105,108,101,110,116] w h)
 have Mpay:=h! (λi er w h=>a4! g c A ts i er [112,97,121] w h)
 have NM:=h! (λi er w h=>k2! g c A ts i er w h)
 have NU:=h! (λi er w h=>m5! g c A ts i er w h)
 have SG:=h! (λi er w h=>m6! g c A ts i er w h)
 have MB:=h! (λi er w h=>a4! g c A ts i er [93] w h)
 have PT:=h! (λi er w h=>r5! g c A ts hw i er w h)
 have PM:=h! (λi er w h=>r6! g c A ts i er w h)
 have NWW:=h! (λ(i:Nat) (er:Int) (w:World) (h:DP w g A c ts i er) (t:Tk) (ht:ts[i]?=some t)=>c3! g c A ts i er w h t ht)
 have ISS:=h! (λ(i:Nat) (er:Int) (x:List UInt8) (w:World) (h:DP w g A c ts i er)=>d3! g c A ts i er (str x) w h)
 have FLL:=h! (λ(i:Nat) (w:World) (h:DP w g A c ts i 0)=>i8! g c A ts i w h)
 clear h f0 x0 hw
 go_enter Tryz.func70,Tryz.ntmps70
 go_upto_region 1 with fail
 rw[eW.out]
 clear eW
 have z0w:w.heap.size<W0.heap.size:=by omega
 clear z0
 go_upto_region 2 with fail
 obtain⟨W1,eW,f1,Y1,z1⟩:=n! W0 33 #[.E,.I 0,.N,.N,.N,.N,.N,.N,.E,.N,.N]
 replace Y1:=h! Y1
 have P1:=h! (P0.out.below f1)
 have X1:=b! X0 f1
 have K1:=e! K0 f1
 have J1:=o! g f1
 have xl1:=X0.out.lt
 clear f1 K0 P0 X0
 rw[eW.out]
 clear eW
 go_wp2_with fail
 refine(Mgame.out i er W1 P1.out).mono ?_
 rintro e w2⟨v2,rfl,k2,rfl,i2,er2,p2,ps2⟩
 have z2:=k2.size
 have X2:=k! X1 k2
 have Y2:=k! Y1 k2
 have K2:=q! K1 k2
 have P2:=h! p2
 have PS2:=h! ps2
 have J2:=h! k2
 clear p2 k2 ps2 K1 P1 X1 Y1
 go_wp2_with fail
 refine(NM.out i2 er2 w2 P2.out).mono ?_
 rintro e w3⟨v3,rfl,k3,⟨s3,rfl⟩,i3,er3,p3,ps3⟩
 have z3:=k3.size
 have X3:=k! X2 k3
 have Y3:=k! Y2 k3
 have K3:=q! K2 k3
 have P3:=h! p3
 have PS3:=h! (PS2.out.then_ ps3)
 have J3:=h! k3
 clear p3 k3 ps3 K2 P2 X2 Y2 PS2
 have fz:=Y3.out.frozen 0
 have ez:=Y3.out.c0
 go_wp2_with fail
 obtain⟨W4,e9,Y4,k4⟩:=Y3.out.u0 (.string s3)
 rw[e9]
 clear e9
 have X4:=k! X3 k4
 have K4:=t! K3 k4
 have P4:=h! (HH.out.putp P3.out.at_ (P3.out.blk.kept k4 (by omega)) K4.out)
 have J4:=h! k4
 have z4:=k4.size
 clear k4 Y3 X3 K3 P3
 clear fz ez
 refine(Mseats.out i3 er3 W4 P4.out).mono ?_
 rintro e w5⟨v5,rfl,k5,rfl,i5,er5,p5,ps5⟩
 have z5:=k5.size
 have X5:=k! X4 k5
 have Y5:=k! Y4 k5
 have K5:=q! K4 k5
 have P5:=h! p5
 have PS5:=h! (PS3.out.then_ ps5)
 have J5:=h! k5
 clear p5 k5 ps5 K4 P4 X4 Y4 PS3
 go_wp2_with fail
 refine(NU.out i5 er5 w5 P5.out).mono ?_
 rintro e w6⟨v6,rfl,k6,⟨n6,rfl⟩,i6,er6,p6,ps6⟩
 have z6:=k6.size
 have X6:=k! X5 k6
 have Y6:=k! Y5 k6
 have K6:=q! K5 k6
 have P6:=h! p6
 have PS6:=h! (PS5.out.then_ ps6)
 have J6:=h! k6
 clear p6 k6 ps6 K5 P5 X5 Y5 PS5
 have fz:=Y6.out.frozen 1
 have ez:=Y6.out.c1
 go_wp2_with fail
 obtain⟨W7,e9,Y7,k7⟩:=Y6.out.u1 (.I n6)
 rw[e9]
 clear e9
 have X7:=k! X6 k7
 have K7:=t! K6 k7
 have P7:=h! (HH.out.putp P6.out.at_ (P6.out.blk.kept k7 (by omega)) K7.out)
 have J7:=h! k7
 have z7:=k7.size
 clear k7 Y6 X6 K6 P6
 clear fz ez
 refine(Mstake.out i6 er6 W7 P7.out).mono ?_
 rintro e w8⟨v8,rfl,k8,rfl,i8,er8,p8,ps8⟩
 have z8:=k8.size
 have X8:=k! X7 k8
 have Y8:=k! Y7 k8
 have K8:=q! K7 k8
 have P8:=h! p8
 have PS8:=h! (PS6.out.then_ ps8)
 have J8:=h! k8
 clear p8 k8 ps8 K7 P7 X7 Y7 PS6
 go_upto_region 7 with fail
 have O9:Hid (w8.drew.ownsRow w.heap.size 3 1 (.N) (0) []):=World.ownsRow.drew (World.ownsRow_nil w8 w.heap.size 3 1)
 have HV9:Hid (∀z,(.N:Value).ownBlock=some z->W0.heap.size<z∧z<w8.heap.size):=λz hz=>absurd (show (none:Option Nat)=some z from hz) (by simp)
 have fw9:w8.drew.frozen? ⟨W0.heap.size,2,none⟩=false:=Y8.out.frozen 2
 have qw9:w8.drew.cell? ⟨W0.heap.size,2,none⟩=some (.N):=Y8.out.cell 2
 have PD9:=h! (P8.out.below (Below.refl _ w8).drew)
 have CL9:=h! (NU.out i8 er8 w8.drew PD9.out)
 have zd9:w8.drew.heap.size=w8.heap.size:=rfl
 have YD9:=h! (Y8.out.drew)
 have yl9:=Y8.out.lt
 have hn9:0<=100000:=by omega
 obtain⟨j0,hj0,hy0,hy1,hy2⟩:=info_parts u4!
 go_cut [] (λwc=>Hid (IntTo w8 g c A ts (stP numP ts i8 er8) w.heap.size (W0.heap.size) (λv:Value=>#[.string s3,.I n6,v,.N,.N,.N,.N,.N,.E,.N,.N]) (.N) (0) [] wc))
 case first=>as_aux_lemma=>
  go_region_law
   (first
    |(refine g5! _ (by rfl) (.tmp 21) (.tmp 24) _ (by rfl) w.heap.size 3 j0 _ 1 8 Tryz.underlying30 hj0 hy0 hy1 hy2 rfl (by omega) (.N) (0) [] (by rfl) o9.out _ _ 1 1 [.I n9] (by rfl) RD9.out ON9.out (by unfold maxLen;omega) (by omega) (by simp;omega) ?_;intro u9 x9 r9 g9 t9;obtain⟨A8,c8,rfl,hb8⟩:=b2! r9;have yz9:=(y9.alloc (.cells #[.I n9] 3)).kept (Kept.of_grown (S:=λz=>(.N:Value).ownBlock=some z) g9 (λ_ e=>e)) (λe=>by have:=HV9.out _ e;omega);have qz9:=yz9.cell 2;have fz9:=yz9.frozen 2;have R9:=h! r9;have G9:=h! g9;have T9:=h! t9;clear r9 g9 t9)
    |(go_simp;go_at_call 103;(with_reducible refine CL9.out.mono ?_);rintro e w9⟨v9,rfl,k9,⟨n9,rfl⟩,i9,er9,p9,ps9⟩;have y9:=YD9.out.kept k9 (by omega);have qy9:=y9.c2;have fy9:=y9.frozen 2;have qx9:(w9.alloc (.cells #[.I n9] 3)).cell? ⟨W0.heap.size,2,none⟩=some (.N):=(y9.alloc _).cell 2;have fx9:(w9.alloc (.cells #[.I n9] 3)).frozen? ⟨W0.heap.size,2,none⟩=false:=(y9.alloc _).frozen 2;have z9:=k9.size;have o9:=h! (World.ownsRow.alloc (a6! O9.out k9 (λz e hz=>by have:=HV9.out z e;omega)) (.cells #[.I n9] 3));have RD9:=h! (d1! w9 3 #[.I n9] 1 rfl);have ON9:Hid (∀u∈([.I n9]:List Value),u.oneCell'=true):=(λu hu=>by rw[List.mem_singleton]at hu;rw[hu];rfl);have K9:=h! k9;have P9:=h! p9;have PS9:=h! ps9;clear p9 ps9 k9))
  all_goals
   go_wp2_with fail;go_meet
   case rel=>exact b55! (yc:=(λv:Value=>#[.string s3,.I n6,v,.N,.N,.N,.N,.N,.E,.N,.N])) HH.out K8.out (Nat.le_refl _) K9.out P9.out PS9.out y9 R9.out G9.out T9.out HV9.out (by omega) (by omega) (by omega) (λ_ _=>rfl)
 case rest=>
 obtain⟨A9,c9,m9,i9,er9,y9,p9,k9,o9,ps9,hb9⟩:=hcut.out
 obtain⟨w9,rfl⟩:∃x,x=wc:=⟨_,rfl⟩
 clear hcut CL9 PD9 YD9 O9 fw9 qw9 hj0 hy0 hy1 hy2
 have z9:=k9.size
 have XL:=h! (X8.out.kept k9 (λe=>by rcases e with e|e|e<;>first|omega|exact absurd (show (none:Option Nat)=some _ from e) (by simp)))
 have KL:=h! (K8.out.then_ k9 (λz hz e=>by rcases e with e|e|e<;>first|omega|exact absurd (show (none:Option Nat)=some _ from e) (by simp)))
 have PL:=h! p9
 obtain⟨SG5,hSG5⟩:∃p,stP o4! ts i8 er8=p:=⟨_,rfl⟩
 have HSG:=h! hSG5
 have SJ0:Hid (StkJ w ts SG5 (W0.heap.size) (λv:Value=>#[.string s3,.I n6,v,.N,.N,.N,.N,.N,.E,.N,.N]) i9 er9 w9):=by
  refine⟨A9,0+1,c9,_,y9,o9,hb9,by omega,λhe=>?_⟩;obtain⟨a,ha,hm⟩:=ps9 he;have h5:er8=0:=by
   by_cases h:er8=0
   ·exact h
   ·unfold stP at ha
    rw[if_neg h]at ha
    cases ha
  have hi:i8<i9:=by
   unfold stP at ha;rw[if_pos h5]at ha;have:=k4! _ _ _ ha;rw[List.length_drop,List.length_drop]at this
   omega
  refine⟨by omega,[a],rfl,by rw[hm];rfl,?_⟩;rw[<-hSG5];unfold stP at ha ⊢;rw[if_pos h5]at ha ⊢;unfold o4!;rw[ha]
  rfl
 clear y9 p9 k9 o9 hb9 ps9 P8 X8 Y8 K8 hSG5
 have hwz0:=KL.out.size
 go_upto_block 0 with fail
 go_cut [] (λwc=>∃(j:Nat) (er':Int),Hid (DP wc g A c ts j er')∧Hid (Kept (λz=>z=g) w wc)∧Hid (Blk wc w.heap.size 33 #[.E,.I 0,.N,.N,.N,.N,.N,.N,.E,.N,.N])∧Hid (StkJ w ts SG5 (W0.heap.size) (λv:Value=>#[.string s3,.I n6,v,.N,.N,.N,.N,.N,.E,.N,.N]) j er' wc)∧Hid (er'=0->kindT 2 (ts.drop j)=false))
 case first=>
  go_wp2_with fail
  go_loopw [] (λwr=>∃(j:Nat) (er':Int),Hid (DP wr g A c ts j er')∧Hid (Kept (λz=>z=g) w wr)∧Hid (Blk wr w.heap.size 33 #[.E,.I 0,.N,.N,.N,.N,.N,.N,.E,.N,.N])∧Hid (StkJ w ts SG5 (W0.heap.size) (λv:Value=>#[.string s3,.I n6,v,.N,.N,.N,.N,.N,.E,.N,.N]) j er' wr)) (λwr=>LMd ts g wr)
  case atStart=>exact⟨i9,er9,PL.out,KL.out,XL.out,SJ0.out⟩
  case round=>as_aux_lemma=>
   obtain⟨j,er',DD,KK,XX,SJ⟩:=hrel;obtain⟨wo,rfl⟩:∃x,x=wr:=⟨_,rfl⟩
   have hwz:=KK.out.size;have hjt:=DD.out.at_;have DD0:=h! DD.out;go_upto_region 8 with fail;obtain⟨t10,ht10⟩:=DD.out.one;obtain⟨bq10,hbq10⟩:∃b,stB (kindT 2) ts j er'=b:=⟨_,rfl⟩
   have HBQ10:=h! hbq10;have HTK10:=h! ht10;clear ht10;have c2:=DD.out.blk.c2
   go_cut [37]from 27 to 44 (λcv wc=>cv=.bool bq10∧Hid (Below wo.heap.size wo wc))
   case first=>
    by_cases he:er'=0
    ·have he':((er':Int)==0)=true:=by simp[he]
     have ek:((t10.kind:Int)==2)=bq10:=by rw[<-b56! HTK10.out,<-hbq10,he]
     have NW:=h! (NWW.out j er' wo DD.out t10 HTK10.out);clear he hbq10;go_wp2_with fail;refine NW.out.mono ?_;rintro e w1⟨rfl,b1⟩;have B1:=h! b1;clear b1 NW;go_wp2_with fail;rw[c4!];go_wp2_with fail;go_meet
     case rel=>exact⟨rfl,B1.out⟩
    ·have he':((er':Int)==0)=false:=by simp[he]
     rw[w7! he]at hbq10;subst hbq10;go_wp2_with fail;go_meet
     case rel=>exact⟨rfl,Below.refl _ _⟩
   case rest=>
   obtain⟨rfl,hbw⟩:=hcut;obtain⟨w10,rfl⟩:∃x,x=wc:=⟨_,rfl⟩
   clear c2 hbq10;have b10:=hbw.out;have BB10:=h! b10;have z10:=b10.size;have X10:=b! XX b10;have K10:=e! KK b10;have P10:=h! (DD.out.below b10);have J10:=o! g b10;clear b10 KK DD XX;clear hbw;have SJ1:Hid (StkJ w ts SG5 (W0.heap.size) (λv:Value=>#[.string s3,.I n6,v,.N,.N,.N,.N,.N,.E,.N,.N]) j er' w10):=SJ.out.kept BB10.out
   cases bq10
   ·go_wp2_with fail
    go_meet
    case rel=>exact⟨j,er',P10.out,K10.out,X10.out,SJ1.out,λhe=>by
     have h:=HBQ10.out;rw[he,stB]at h
     simpa using h⟩
   ·obtain⟨rfl,hk2⟩:=w8! HBQ10.out
    obtain⟨Ao,n8,co,zs,hy8,ho8,hown8,hn8,hsem8⟩:=SJ1.out;obtain⟨hnj,acc,hal,hzs,hgoal⟩:=hsem8 rfl;have HK2:=h! hk2;have HGO:=h! hgoal;have HAL:=h! hal;have HZS:=h! hzs;have YY:=h! hy8;have HO8:=h! ho8;have HOW:=h! hown8;have hol8:=h! (c2! ho8);clear hk2 hgoal hal hzs hy8 ho8 hown8 hsem8 SJ1 SJ;go_upto_region 9 with fail;have O11:Hid (w10.drew.ownsRow w.heap.size 3 1 (.slice Ao n8 co) (n8) zs):=World.ownsRow.drew HO8.out;have HV11:Hid (∀z,(.slice Ao n8 co:Value).ownBlock=some z->W0.heap.size<z∧z<w10.heap.size):=λz hz=>⟨HOW.out z hz,hol8.out z hz⟩
    have fw11:w10.drew.frozen? ⟨W0.heap.size,2,none⟩=false:=YY.out.frozen 2;have qw11:w10.drew.cell? ⟨W0.heap.size,2,none⟩=some (.slice Ao n8 co):=YY.out.cell 2;have PD11:=h! (P10.out.below (Below.refl _ w10).drew);have CL11:=h! (NU.out j 0 w10.drew PD11.out);have zd11:w10.drew.heap.size=w10.heap.size:=rfl;have YD11:=h! (YY.out.drew);have yl11:=YY.out.lt;have hn11:n8<=100000:=by omega
    obtain⟨j0,hj0,hy0,hy1,hy2⟩:=info_parts u4!
    go_region_law
     (first
      |(refine g5! _ (by rfl) (.tmp 39) (.tmp 42) _ (by rfl) w.heap.size 3 j0 _ 1 8 Tryz.underlying30 hj0 hy0 hy1 hy2 rfl (by omega) (.slice Ao n8 co) (n8) zs (by rfl) o11.out _ _ 1 1 [.I n11] (by rfl) RD11.out ON11.out (by unfold maxLen;omega) (by omega) (by simp;omega) ?_;intro u11 x11 r11 g11 t11;obtain⟨A8,c8,rfl,hb8⟩:=b2! r11;have yz11:=(y11.alloc (.cells #[.I n11] 3)).kept (Kept.of_grown (S:=λz=>(.slice Ao n8 co:Value).ownBlock=some z) g11 (λ_ e=>e)) (λe=>by have:=HV11.out _ e;omega);have qz11:=yz11.cell 2;have fz11:=yz11.frozen 2;have R11:=h! r11;have G11:=h! g11;have T11:=h! t11;clear r11 g11 t11)
      |(go_simp;go_at_call 103;(with_reducible refine CL11.out.mono ?_);rintro e w11⟨v11,rfl,k11,⟨n11,rfl⟩,i11,er11,p11,ps11⟩;have y11:=YD11.out.kept k11 (by omega);have qy11:=y11.c2;have fy11:=y11.frozen 2;have qx11:(w11.alloc (.cells #[.I n11] 3)).cell? ⟨W0.heap.size,2,none⟩=some (.slice Ao n8 co):=(y11.alloc _).cell 2;have fx11:(w11.alloc (.cells #[.I n11] 3)).frozen? ⟨W0.heap.size,2,none⟩=false:=(y11.alloc _).frozen 2;have z11:=k11.size;have o11:=h! (World.ownsRow.alloc (a6! O11.out k11 (λz e hz=>by have:=HV11.out z e;omega)) (.cells #[.I n11] 3));have RD11:=h! (d1! w11 3 #[.I n11] 1 rfl);have ON11:Hid (∀u∈([.I n11]:List Value),u.oneCell'=true):=(λu hu=>by rw[List.mem_singleton]at hu;rw[hu];rfl);have K11:=h! k11;have P11:=h! p11;have PS11:=h! ps11;clear p11 ps11 k11))
    all_goals
     have HC11:=b55! (f:=2) (yc:=(λv:Value=>#[.string s3,.I n6,v,.N,.N,.N,.N,.N,.E,.N,.N])) HH.out K10.out (Nat.le_refl _) K11.out P11.out PS11.out y11 R11.out G11.out T11.out HV11.out (by omega) (by omega) (by omega) (λ_ _=>rfl);obtain⟨wz11,hwz11⟩:∃z,x11.setCell ⟨W0.heap.size,2,none⟩ (.slice A8 (n8+1) c8)=z:=⟨_,rfl⟩
     rw[hwz11]at HC11 ⊢;clear hwz11;obtain⟨A11,c11,m11,i11,er11,y11,p11,k11,o11,ps11,hb11⟩:=HC11;obtain⟨w11,rfl⟩:∃x,x=wz11:=⟨_,rfl⟩
     clear CL11 PD11 YD11 O11 fw11 qw11 hj0 hy0 hy1 hy2;have z11:=k11.size;have PN:=h! p11;have KN:=h! (K10.out.then_ k11 (λz hz e=>by rcases e with e|e|e<;>first|omega|(have:=HOW.out _ e;omega)));have XN:=h! (X10.out.kept k11 (λe=>by rcases e with e|e|e<;>first|omega|(have:=HOW.out _ e;omega)));have hst:er11=0->j<i11∧∃a,numP (ts.drop j)=.ok a (ts.drop i11)∧a=m11:=λhe=>by
      obtain⟨a,ha,hm⟩:=ps11 he;unfold stP at ha;rw[if_pos rfl]at ha;have:=k4! _ _ _ ha;rw[List.length_drop,List.length_drop]at this;exact⟨by omega,a,ha,hm⟩
     have SN:Hid (StkJ w ts SG5 (W0.heap.size) (λv:Value=>#[.string s3,.I n6,v,.N,.N,.N,.N,.N,.E,.N,.N]) i11 er11 w11):=by
      refine⟨A11,n8+1,c11,_,y11,o11,hb11,by omega,λhe=>?_⟩;obtain⟨h1,a,ha,hm⟩:=hst he;refine⟨by omega,acc++[a],by rw[List.length_append,HAL.out];rfl,by rw[HZS.out,List.map_append,hm];rfl,?_⟩;rw[HGO.out];exact a25! rfl k4! HK2.out ha
     have HME:=h! (r3! DD0.out p11 (λhe=>(hst he).1));clear y11 p11 k11 o11 hb11 ps11 hst;go_wp2_with fail
     go_roundw
     case rel=>exact⟨i11,er11,PN.out,KN.out,XN.out,SN.out⟩
     case measure=>exact HME.out
 case rest=>
 obtain⟨jS,erS,DS,KS,XS,SJ,NK⟩:=hcut
 obtain⟨wS,rfl⟩:∃x,x=wc:=⟨_,rfl⟩
 obtain⟨AS,nS,cS,zsS,hyS,hoS,howS,hnS,hsemS⟩:=SJ.out
 have YS:=h! hyS
 have OS:=h! hoS
 have HOWS:=h! howS
 have hols:=h! (c2! hoS)
 have PSs:Hid (DsAt ts jS erS (stP o4! ts i8 er8) (λl=>l.length=nS∧zsS=l.map (λm=>.I m))):=λhe=>by
  obtain⟨_,acc,h1,h2,h3⟩:=hsemS he;refine⟨acc,?_,h1,h2⟩;rw[HSG.out,h3];exact b53! (NK.out he)
 have PS6:=h! (PS8.out.then_ PSs.out)
 have HNS:=h! hnS
 have zwS:=KS.out.size
 have HB:∀(j:Nat) (e:Int) (Q:TyB->Prop),DsAt ts j e (stP restB ts jS erS) Q->DsAt ts j e (stP progP ts i er) (λa=>∃(n:List UInt8) (st:List Int) (x:TyB),(str n=s3∧st.length=nS∧zsS=st.map (λm=>.I m))∧Q x∧a=⟨n,n6,st,x.1,x.2.1,x.2.2.1,x.2.2.2.1,x.2.2.2.2.1,x.2.2.2.2.2.1,x.2.2.2.2.2.2.1,x.2.2.2.2.2.2.2⟩):=λj e Q h=>by
  rw[e46!];refine(PS6.out.then_ h).map _ ?_;rintro⟨⟨⟨⟨⟨⟨u0,x1⟩,u2⟩,x3⟩,u4⟩,x5⟩,x6⟩ ⟨⟨⟨⟨⟨⟨-,h1⟩,-⟩,h3⟩,-⟩,h5⟩,h6⟩;injection h1 with h1;injection h3 with _ h3;exact⟨x1,x5,x6,⟨h1.symm,h5⟩,h6,by rw[h3]⟩
 have RI:RowIn W0.heap.size w.heap.size wS 1 QI (λst=>st.length=nS∧zsS=st.map (λm=>.I m)) (.slice AS nS cS):=λW l hk hR=>⟨AS,nS,cS,rfl,h6! (Q:=QI) (a6! hoS hk (λz hz e=>by have h1:=howS z hz;have h2:=c2! hoS z hz;omega)) (by omega) hR.1 (λi hi=>by rw[hR.2];exact e41! l i hi)⟩
 apply_assumption
 exact e50! g c A ts HTW.out i er w HH.out W0 z0w _ _ _ _ _ wS DS.out KS.out XS.out AS nS cS YS.out _ RI HB _ (by unfold FrIs;(iterate 228 (apply Exists.intro));rfl)
end Go.Proofs.YtdgekckedchjbaaGreatDoor
