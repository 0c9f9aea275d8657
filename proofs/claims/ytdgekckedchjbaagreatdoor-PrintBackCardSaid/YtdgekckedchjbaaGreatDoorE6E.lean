
/-
 The document's program: a part of its walk. (Printed by wip/tools/gene6s.py.)
-/
import Derived.Test.YtdgekckedchjbaaGreatDoorM9
set_option maxHeartbeats 16000000
set_option maxRecDepth 100000
namespace Go.Proofs.YtdgekckedchjbaaGreatDoor
open Go.RowKit
theorem e47!(g c:Nat)(A:Option Addr)(ts:List Tk)(hw:TW ts)(i:Nat)(er:Int)(w:World)(hh:DP w g A c ts i er)(W0:World)(z0w:w.heap.size<W0.heap.size)(P:PS Pg)(s3:ByteArray)(n6:Int)(iR:Nat)(erR:Int)(wR:World)(dv:DP wR g A c ts iR erR)(kv:Kept (λz=>z=g) w wR)(xv:Blk wR w.heap.size 33 #[.E,.I 0,.N,.N,.N,.N,.N,.N,.E,.N,.N])(AS:Option Addr)(nS cS:Nat)(AV:Option Addr)(nV cV:Nat)(A4:Option Addr)(n4 c4:Nat)(A5:Option Addr)(n5 c5:Nat)(A6:Option Addr)(n6_ c6:Nat)(yv:Blk wR W0.heap.size 33 #[.string s3,.I n6,.slice AS nS cS,.slice AV nV cV,.slice A4 n4 c4,.slice A5 n5 c5,.slice A6 n6_ c6,.N,.E,.N,.N])
 (Rs:List Int->Prop) (Rv:List Va->Prop) (R4 R5:List St->Prop) (R6:List Va->Prop) (ri:RowIn W0.heap.size w.heap.size wR 1 QI Rs (.slice AS nS cS)) (rv:RowIn W0.heap.size w.heap.size wR 4 QV Rv (.slice AV nV cV)) (r4:RowIn W0.heap.size w.heap.size wR 7 (QR 16) R4 (.slice A4 n4 c4)) (r5:RowIn W0.heap.size w.heap.size wR 7 (QR 16) R5 (.slice A5 n5 c5)) (r6:RowIn W0.heap.size w.heap.size wR 4 QV R6 (.slice A6 n6_ c6))
 (hb:∀(j:Nat) (e:Int) (Q:TyE->Prop),DsAt ts j e (stP restE ts iR erR) Q->DsAt ts j e P (λa=>∃(n:List UInt8) (st:List Int) (vs:List Va) (l4 l5:List St) (pr:List Va) (x:TyE),(str n=s3∧Rs st∧Rv vs∧R4 l4∧R5 l5∧R6 pr)∧Q x∧a=⟨n,n6,st,vs,l4,l5,pr,x.1,x.2.1,x.2.2.1,x.2.2.2⟩))
 (a:Act) (ha:FrIs g w.heap.size W0.heap.size a):
 Code.wp Tryz.prog (tlC 17 w9!) (bodyPost Tryz.prog Tryz.f70 (RPTo w g c A ts P)) a wR:=by
 conv=>arg 2;whnf
 unfold FrIs at ha
 iterate 228 (obtain⟨_,ha⟩:=ha)
 subst ha
 have hgl:=hh.blk.lt
 have hlim:=hh.lim
 have HH:=h! hh
 have HTW:=h! hw
 have Mgame:=h! (λi er w h=>a4! g c A ts i er [103,97,109,101] w h)
 have Mseats:=h! (λi er w h=>a4! g c A ts i er [115,101,97,116,115] w h)
 have Mstake:=h! (λi er w h=>a4! g c A ts i er [115,116,97,107,101] w h)
 have Mstart:=h! (λi er w h=>a4! g c A ts i er [115,116,97,114,116] w h)
 have Mturn:=h! (λi er w h=>a4! g c A ts i er [116,117,114,110] w h)
 have Mplay:=h! (λi er w h=>a4! g c A ts i er [112,108,97,121] w h)
 have Msilent:=h! (λi er w h=>a4! g c A ts i er [115,105,108,101,110,116] w h)
 have Mpay:=h! (λi er w h=>a4! g c A ts i er [112,97,121] w h)
 have NM:=h! (λi er w h=>k2! g c A ts i er w h)
 have NU:=h! (λi er w h=>m5! g c A ts i er w h)
 have SG:=h! (λi er w h=>m6! g c A ts i er w h)
 have MB:=h! (λi er w h=>a4! g c A ts i er [93] w h)
 have PT:=h! (λi er w h=>r5! g c A ts hw i er w h)
 have PM:=h! (λi er w h=>r6! g c A ts i er w h)
 have NWW:=h! (λ(i:Nat) (er:Int) (w:World) (h:DP w g A c ts i er) (t:Tk) (ht:ts[i]?=some t)=>c3! g c A ts i er w h t ht)
 have ISS:=h! (λ(i:Nat) (er:Int) (x:List UInt8) (w:World) (h:DP w g A c ts i er)=>d3! g c A ts i er (str x) w h)
 have FLL:=h! (λ(i:Nat) (w:World) (h:DP w g A c ts i 0)=>i8! g c A ts i w h)
 clear hh hw
 have PR:=h! dv
 have KR:=h! kv
 have XR:=h! xv
 have YR:=h! yv
 have RI:=h! ri
 have RV:=h! rv
 have RP4:=h! r4
 have RP5:=h! r5
 have RP6:=h! r6
 have HB:=h! hb
 have zwR:=kv.size
 have zyR:=yv.lt
 clear dv kv xv yv ri rv r4 r5 r6 hb
 go_wp2_with fail
 refine(PT.out iR erR wR PR.out).mono ?_
 rintro e w101⟨v101,rfl,k101,⟨A101,l101,q101,rfl⟩,i101,er101,p101,ps101⟩
 have z101:=k101.size
 have X101:=k! XR k101
 have Y101:=k! YR k101
 have K101:=q! KR k101
 have P101:=h! p101
 have PS101:=h! ps101
 have J101:=h! k101
 clear p101 k101 ps101 KR PR XR YR
 have fz:=Y101.out.frozen 7
 have ez:=Y101.out.c7
 go_wp2_with fail
 obtain⟨W102,e9,Y102,k102⟩:=Y101.out.u7 (.slice A101 l101 q101)
 rw[e9]
 clear e9
 have X102:=k! X101 k102
 have K102:=t! K101 k102
 have P102:=h! (HH.out.putp P101.out.at_ (P101.out.blk.kept k102 (by omega)) K102.out)
 have J102:=h! k102
 have z102:=k102.size
 clear k102 Y101 X101 K101 P101
 clear fz ez
 refine(Msilent.out i101 er101 W102 P102.out).mono ?_
 rintro e w103⟨v103,rfl,k103,rfl,i103,er103,p103,ps103⟩
 have z103:=k103.size
 have X103:=k! X102 k103
 have Y103:=k! Y102 k103
 have K103:=q! K102 k103
 have P103:=h! p103
 have PS103:=h! (PS101.out.then_ ps103)
 have J103:=h! k103
 clear p103 k103 ps103 K102 P102 X102 Y102 PS101
 go_wp2_with fail
 refine(NM.out i103 er103 w103 P103.out).mono ?_
 rintro e w104⟨v104,rfl,k104,⟨s104,rfl⟩,i104,er104,p104,ps104⟩
 have z104:=k104.size
 have X104:=k! X103 k104
 have Y104:=k! Y103 k104
 have K104:=q! K103 k104
 have P104:=h! p104
 have PS104:=h! (PS103.out.then_ ps104)
 have J104:=h! k104
 clear p104 k104 ps104 K103 P103 X103 Y103 PS103
 have fz:=Y104.out.frozen 8
 have ez:=Y104.out.c8
 go_wp2_with fail
 obtain⟨W105,e9,Y105,k105⟩:=Y104.out.u8 (.string s104)
 rw[e9]
 clear e9
 have X105:=k! X104 k105
 have K105:=t! K104 k105
 have P105:=h! (HH.out.putp P104.out.at_ (P104.out.blk.kept k105 (by omega)) K105.out)
 have J105:=h! k105
 have z105:=k105.size
 clear k105 Y104 X104 K104 P104
 clear fz ez
 refine(PT.out i104 er104 W105 P105.out).mono ?_
 rintro e w106⟨v106,rfl,k106,⟨A106,l106,q106,rfl⟩,i106,er106,p106,ps106⟩
 have z106:=k106.size
 have X106:=k! X105 k106
 have Y106:=k! Y105 k106
 have K106:=q! K105 k106
 have P106:=h! p106
 have PS106:=h! (PS104.out.then_ ps106)
 have J106:=h! k106
 clear p106 k106 ps106 K105 P105 X105 Y105 PS104
 have fz:=Y106.out.frozen 9
 have ez:=Y106.out.c9
 go_wp2_with fail
 obtain⟨W107,e9,Y107,k107⟩:=Y106.out.u9 (.slice A106 l106 q106)
 rw[e9]
 clear e9
 have X107:=k! X106 k107
 have K107:=t! K106 k107
 have P107:=h! (HH.out.putp P106.out.at_ (P106.out.blk.kept k107 (by omega)) K107.out)
 have J107:=h! k107
 have z107:=k107.size
 clear k107 Y106 X106 K106 P106
 clear fz ez
 refine(Mpay.out i106 er106 W107 P107.out).mono ?_
 rintro e w108⟨v108,rfl,k108,rfl,i108,er108,p108,ps108⟩
 have z108:=k108.size
 have X108:=k! X107 k108
 have Y108:=k! Y107 k108
 have K108:=q! K107 k108
 have P108:=h! p108
 have PS108:=h! (PS106.out.then_ ps108)
 have J108:=h! k108
 clear p108 k108 ps108 K107 P107 X107 Y107 PS106
 go_wp2_with fail
 refine(PT.out i108 er108 w108 P108.out).mono ?_
 rintro e w109⟨v109,rfl,k109,⟨A109,l109,q109,rfl⟩,i109,er109,p109,ps109⟩
 have z109:=k109.size
 have X109:=k! X108 k109
 have Y109:=k! Y108 k109
 have K109:=q! K108 k109
 have P109:=h! p109
 have PS109:=h! (PS108.out.then_ ps109)
 have J109:=h! k109
 clear p109 k109 ps109 K108 P108 X108 Y108 PS108
 have fz:=Y109.out.frozen 10
 have ez:=Y109.out.c10
 go_upto_region 40 with fail
 obtain⟨W110,e9,Y110,k110⟩:=Y109.out.u10 (.slice A109 l109 q109)
 rw[e9]
 clear e9
 have X110:=k! X109 k110
 have K110:=t! K109 k110
 have P110:=h! (HH.out.putp P109.out.at_ (P109.out.blk.kept k110 (by omega)) K110.out)
 have J110:=h! k110
 have z110:=k110.size
 clear k110 Y109 X109 K109 P109
 clear fz ez
 obtain⟨tz,htz⟩:=P110.out.one
 have HTZ:=h! htz
 have NW:=h! (NWW.out i109 er109 W110 P110.out tz htz)
 have c2:=P110.out.blk.c2
 clear htz
 by_cases he:er109=0
 ·have he':((er109:Int)==0)=true:=by simp[he]
  have HE:=h! he;clear he;go_wp2_with fail;refine NW.out.mono ?_;rintro e w111⟨rfl,b111⟩;have z111:=b111.size;have X111:=b! X110 b111;have Y111:=b! Y110 b111;have K111:=e! K110 b111;have P111:=h! (P110.out.below b111);have J111:=o! g b111;clear b111 K110 P110 X110 Y110;clear c2
  by_cases k0:tz.kind=0
  ·have e0:((tz.kind:Int)==0)=true:=by simp[k0]
   have HK0:Hid (kindT 0 (ts.drop i109)=true):=by
    rw[Hid,a1! HTZ.out]
    simp[kindT,k0]
   clear k0;obtain⟨qc0,qc1,qc2,qc3,qc4,qc5,qc6,qc7,qc8,qc9,qc10⟩:=Y111.out.A11;have hx:=X111.out;obtain⟨sc0,sc1,sc2,sc3,sc4,sc5,sc6,sc7,sc8,sc9,sc10⟩:=hx.A11;obtain⟨tc0,tc1,tc2,tc3,tc4,tc5,tc6,tc7,tc8,tc9,tc10⟩:=hx.F11;go_wp2_with fail;rw[c4!];go_wp2_with fail;obtain⟨W9,e9,X9,k9⟩:=hx.e11 (.string s3) (.I n6) (.slice AS nS cS) (.slice AV nV cV) (.slice A4 n4 c4) (.slice A5 n5 c5) (.slice A6 n6_ c6) (.slice A101 l101 q101) (.string s104) (.slice A106 l106 q106) (.slice A109 l109 q109);rw[e9];clear e9;clear sc0 sc1 sc2 sc3 sc4 sc5 sc6 sc7 sc8 sc9 sc10 qc0 qc1 qc2 qc3 qc4 qc5 qc6 qc7 qc8 qc9 qc10;obtain⟨sc0,sc1,sc2,sc3,sc4,sc5,sc6,sc7,sc8,sc9,sc10⟩:=X9.A11;have KK:Kept (λz=>z=g) w W9:=K111.out.then_ k9 (λz hz e=>by omega);have T7:Hid (Kept (λz=>z<wR.heap.size∨w101.heap.size<=z) w101 W9):=i! J102 (i! J103 (i! J104 (i! J105 (i! J106 (i! J107 (i! J108 (i! J109 (i! J110 (i! J111 (d! k9))))))))));have T9:Hid (Kept (λz=>z<W105.heap.size∨w106.heap.size<=z) w106 W9):=i! J107 (i! J108 (i! J109 (i! J110 (i! J111 (d! k9)))));have T10:Hid (Kept (λz=>z<w108.heap.size∨w109.heap.size<=z) w109 W9):=i! J110 (i! J111 (d! k9));have TR:Hid (Kept (λz=>z<W0.heap.size+1∨wR.heap.size<=z) wR W9):=i! J101 (i! J102 (i! J103 (i! J104 (i! J105 (i! J106 (i! J107 (i! J108 (i! J109 (i! J110 (i! J111 (d! k9)))))))))));refine bodyPost_ret (v:=.agg #[.string s3,.I n6,.slice AS nS cS,.slice AV nV cV,.slice A4 n4 c4,.slice A5 n5 c5,.slice A6 n6_ c6,.slice A101 l101 q101,.string s104,.slice A106 l106 q106,.slice A109 l109 q109]) (by simp[results,Tryz.results70,go_sem,sc0,sc1,sc2,sc3,sc4,sc5,sc6,sc7,sc8,sc9,sc10]) rfl ⟨_,rfl,KK,⟨_,_,_,_,_,_,_,_,_,_,_,_,_,_,_,_,_,_,_,_,_,_,_,_,_,_,_,rfl⟩,i109,er109,HH.out.putp P111.out.at_ (P111.out.blk.kept k9 (by omega)) KK,λhe=>?_⟩;have HQ:DsAt ts i109 er109 (stP restE ts iR erR) (λx=>RowD (λk=>w.heap.size<=k) 7 (QR 16) W9 x.1 (.slice A101 l101 q101)∧(.string s104:Value)=.string (str x.2.1)∧RowD (λk=>w.heap.size<=k) 7 (QR 16) W9 x.2.2.1 (.slice A106 l106 q106)∧RowD (λk=>w.heap.size<=k) 7 (QR 16) W9 x.2.2.2 (.slice A109 l109 q109)):=by
    rw[e43!];refine PS109.out.map _ ?_;rintro⟨⟨⟨⟨⟨x7,v1⟩,sl⟩,x9⟩,v4⟩,x10⟩ ⟨⟨⟨⟨⟨h7,-⟩,hs⟩,h9⟩,-⟩,h10⟩;exact⟨h7.kept (c7! 16) (by omega) T7.out (λk _ hk e=>by omega),hs,h9.kept (c7! 16) (by omega) T9.out (λk _ hk e=>by omega),h10.kept (c7! 16) (by omega) T10.out (λk _ hk e=>by omega)⟩
   obtain⟨a,ha,n,st,vs,l4,l5,pr,x,⟨hn,hst,hvs,h4,h5,h6⟩,⟨q1,q2,q3,q4⟩,rfl⟩:=HB.out _ _ _ HQ (by first|exact he|exact HE.out);injection q2 with q2;exact⟨_,ha,HK0.out,_,rfl,.slice AS nS cS,.slice AV nV cV,.slice A4 n4 c4,.slice A5 n5 c5,.slice A6 n6_ c6,.slice A101 l101 q101,.slice A106 l106 q106,.slice A109 l109 q109,by rw[hn,<-q2],RI.out _ _ TR.out hst,RV.out _ _ TR.out hvs,RP4.out _ _ TR.out h4,RP5.out _ _ TR.out h5,RP6.out _ _ TR.out h6,q1,q3,q4⟩
  ·have e0:((tz.kind:Int)==0)=false:=by simp[k0]
   clear k0;obtain⟨erz,herz⟩:∃z,er109=z:=⟨_,rfl⟩
   have PF:Hid (DP w111 g A c ts i109 0):=by
    have h:=P111.out;rw[HE.out]at h;exact h
   have FC:=h! (FLL.out i109 w111 PF.out);clear herz;go_wp2_with fail;rw[c4!];go_wp2_with fail;refine FC.out.mono ?_;rintro e w112⟨er112,her,rfl,p112,k112⟩;have z112:=k112.size;have X112:=k! X111 k112;have Y112:=k! Y111 k112;have K112:=q! K111 k112;have P112:=h! p112;have HER:=h! her;clear p112 k112 her K111 P111 X111 Y111 FC PF;obtain⟨qc0,qc1,qc2,qc3,qc4,qc5,qc6,qc7,qc8,qc9,qc10⟩:=Y112.out.A11;have hx:=X112.out;obtain⟨sc0,sc1,sc2,sc3,sc4,sc5,sc6,sc7,sc8,sc9,sc10⟩:=hx.A11;obtain⟨tc0,tc1,tc2,tc3,tc4,tc5,tc6,tc7,tc8,tc9,tc10⟩:=hx.F11;go_wp2_with fail;obtain⟨W9,e9,X9,k9⟩:=hx.e11 (.string s3) (.I n6) (.slice AS nS cS) (.slice AV nV cV) (.slice A4 n4 c4) (.slice A5 n5 c5) (.slice A6 n6_ c6) (.slice A101 l101 q101) (.string s104) (.slice A106 l106 q106) (.slice A109 l109 q109);rw[e9];clear e9;clear sc0 sc1 sc2 sc3 sc4 sc5 sc6 sc7 sc8 sc9 sc10 qc0 qc1 qc2 qc3 qc4 qc5 qc6 qc7 qc8 qc9 qc10;obtain⟨sc0,sc1,sc2,sc3,sc4,sc5,sc6,sc7,sc8,sc9,sc10⟩:=X9.A11;have KK:Kept (λz=>z=g) w W9:=K112.out.then_ k9 (λz hz e=>by omega);refine bodyPost_ret (v:=.agg #[.string s3,.I n6,.slice AS nS cS,.slice AV nV cV,.slice A4 n4 c4,.slice A5 n5 c5,.slice A6 n6_ c6,.slice A101 l101 q101,.string s104,.slice A106 l106 q106,.slice A109 l109 q109]) (by simp[results,Tryz.results70,go_sem,sc0,sc1,sc2,sc3,sc4,sc5,sc6,sc7,sc8,sc9,sc10]) rfl ⟨_,rfl,KK,⟨_,_,_,_,_,_,_,_,_,_,_,_,_,_,_,_,_,_,_,_,_,_,_,_,_,_,_,rfl⟩,i109,er112,HH.out.putp P112.out.at_ (P112.out.blk.kept k9 (by omega)) KK,λhe=>absurd he HER.out⟩
 ·have he':((er109:Int)==0)=false:=by simp[he]
  have HE:=h! he;obtain⟨qc0,qc1,qc2,qc3,qc4,qc5,qc6,qc7,qc8,qc9,qc10⟩:=Y110.out.A11;have hx:=X110.out;obtain⟨sc0,sc1,sc2,sc3,sc4,sc5,sc6,sc7,sc8,sc9,sc10⟩:=hx.A11;obtain⟨tc0,tc1,tc2,tc3,tc4,tc5,tc6,tc7,tc8,tc9,tc10⟩:=hx.F11;go_wp2_with fail;obtain⟨W9,e9,X9,k9⟩:=hx.e11 (.string s3) (.I n6) (.slice AS nS cS) (.slice AV nV cV) (.slice A4 n4 c4) (.slice A5 n5 c5) (.slice A6 n6_ c6) (.slice A101 l101 q101) (.string s104) (.slice A106 l106 q106) (.slice A109 l109 q109);rw[e9];clear e9;clear sc0 sc1 sc2 sc3 sc4 sc5 sc6 sc7 sc8 sc9 sc10 qc0 qc1 qc2 qc3 qc4 qc5 qc6 qc7 qc8 qc9 qc10;obtain⟨sc0,sc1,sc2,sc3,sc4,sc5,sc6,sc7,sc8,sc9,sc10⟩:=X9.A11;have KK:Kept (λz=>z=g) w W9:=K110.out.then_ k9 (λz hz e=>by omega);refine bodyPost_ret (v:=.agg #[.string s3,.I n6,.slice AS nS cS,.slice AV nV cV,.slice A4 n4 c4,.slice A5 n5 c5,.slice A6 n6_ c6,.slice A101 l101 q101,.string s104,.slice A106 l106 q106,.slice A109 l109 q109]) (by simp[results,Tryz.results70,go_sem,sc0,sc1,sc2,sc3,sc4,sc5,sc6,sc7,sc8,sc9,sc10]) rfl ⟨_,rfl,KK,⟨_,_,_,_,_,_,_,_,_,_,_,_,_,_,_,_,_,_,_,_,_,_,_,_,_,_,_,rfl⟩,i109,er109,HH.out.putp P110.out.at_ (P110.out.blk.kept k9 (by omega)) KK,λhe=>absurd he HE.out⟩
end Go.Proofs.YtdgekckedchjbaaGreatDoor
