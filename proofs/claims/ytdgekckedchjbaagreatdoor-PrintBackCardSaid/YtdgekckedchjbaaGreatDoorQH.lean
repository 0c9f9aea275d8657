
/-
 The parser of programs: variables and parameters. (Printed by wip/tools/gens22.py.) The parser of programs: each step takes tokens; the statements of a statement, and of a part. The parser of programs: the parameters of play. Cells of one expression; an owned row of trees is a slice.
-/
import Derived.Test.YtdgekckedchjbaaGreatDoorQG
import Derived.IntWalk
import Derived.Deep.RegionHeld3
set_option maxHeartbeats 4000000
set_option maxRecDepth 100000
namespace Go.Proofs.YtdgekckedchjbaaGreatDoor
open Go.RowKit
variable {w:World} {ts:List Tk} {i:Nat}
theorem PS.bind_eta{α:Type}(p:PS α):(p.bind λa r=>.ok a r)=p:=by cases p<;>rfl
theorem a75!(ts:List Tk)(i:Nat)(er:Int):stP c8! ts i er=(((stP nameP ts i er).bind λa r=>(b4! r).bind λb r=>.ok (a,b) r).bind λa r=>(b4! r).bind λb r=>.ok (a,b) r).bind λx r=>.ok ((λx:(List UInt8×Int)×Int=>(⟨x.1.1,0,x.1.2,x.2⟩:Va)) x) r:=by
 by_cases he:er=0
 ·unfold stP
  rw[if_pos he,if_pos he];unfold c8!
  simp only[PS.bind_assoc,PS.ok_bind]
  all_goals rfl
 ·unfold stP
  rw[if_neg he,if_neg he]
  rfl
theorem a76!(g c:Nat)(A:Option Addr)(m:Nat->Nat)(ts:List Tk)(i:Nat)(dp er:Int)(w:World)(h:Par w g A c m ts i dp er):
 Calls Tryz.prog 93 #[.pointer (some ⟨g,0,none⟩)] w (a8! w g c A m ts dp (stP c8! ts i er) (IsEl QV w.heap.size) ShV):=by
 obtain⟨W0,eW,f0,x0,z0⟩:=n! w 89 #[.E,.I 0,.I 0,.I 0]
 have hgl:=h.blk.lt
 have HH:=h! h
 have P0:=h! (h.below f0)
 have F0:=h! f0
 have X0:=h! x0
 have K0:=o! g f0
 have NM:=h! (λi er w h=>n4! g c A m ts i dp er w h)
 have SG:=h! (λi er w h=>y4! g c A m ts i dp er w h)
 rw[a75!]
 clear h f0 x0
 go_enter Tryz.func93,Tryz.ntmps93
 go_wp2_with fail
 rw[eW.out]
 clear eW
 refine(NM.out i er W0 P0.out).mono ?_
 rintro e w1⟨v1,rfl,k1,⟨s1,rfl⟩,i1,er1,p1,ps1⟩
 have z1:=k1.size
 have X1:=k! X0 k1
 have K1:=q! K0 k1
 have P1:=h! p1
 have PS1:=h! ps1
 have J1:=h! k1
 clear p1 k1 ps1 K0 P0 X0
 go_wp2_with fail
 obtain⟨W2,eW,f2,Y2,z2⟩:=n! w1 89 #[.string s1,.I 0,.I 0,.I 0]
 replace Y2:=h! Y2
 have P2:=h! (P1.out.below f2)
 have X2:=b! X1 f2
 have K2:=e! K1 f2
 have J2:=o! g f2
 have xl2:=X1.out.lt
 clear f2 K1 P1 X1
 rw[eW.out]
 clear eW
 refine(SG.out i1 er1 W2 P2.out).mono ?_
 rintro e w3⟨v3,rfl,k3,⟨n3,rfl⟩,i3,er3,p3,ps3⟩
 have z3:=k3.size
 have X3:=k! X2 k3
 have Y3:=k! Y2 k3
 have K3:=q! K2 k3
 have P3:=h! p3
 have PS3:=h! (PS1.out.then_ ps3)
 have J3:=h! k3
 clear p3 k3 ps3 K2 P2 X2 Y2 PS1
 have fz:=Y3.out.frozen 2
 have ez:=Y3.out.c2
 go_wp2_with fail
 obtain⟨W4,e9,Y4,k4⟩:=Y3.out.u2 (.I n3)
 rw[e9]
 clear e9
 have X4:=k! X3 k4
 have K4:=t! K3 k4
 have P4:=h! (HH.out.put P3.out.at_ (P3.out.blk.kept k4 (by omega)) K4.out)
 have J4:=h! k4
 have z4:=k4.size
 clear k4 Y3 X3 K3 P3
 clear fz ez
 refine(SG.out i3 er3 W4 P4.out).mono ?_
 rintro e w5⟨v5,rfl,k5,⟨n5,rfl⟩,i5,er5,p5,ps5⟩
 have z5:=k5.size
 have X5:=k! X4 k5
 have Y5:=k! Y4 k5
 have K5:=q! K4 k5
 have P5:=h! p5
 have PS5:=h! (PS3.out.then_ ps5)
 have J5:=h! k5
 clear p5 k5 ps5 K4 P4 X4 Y4 PS3
 have fz:=Y5.out.frozen 3
 have ez:=Y5.out.c3
 go_upto_region 4 with fail
 obtain⟨W6,e9,Y6,k6⟩:=Y5.out.u3 (.I n5)
 rw[e9]
 clear e9
 have X6:=k! X5 k6
 have K6:=t! K5 k6
 have P6:=h! (HH.out.put P5.out.at_ (P5.out.blk.kept k6 (by omega)) K6.out)
 have J6:=h! k6
 have z6:=k6.size
 clear k6 Y5 X5 K5 P5
 clear fz ez
 obtain⟨qc0,qc1,qc2,qc3⟩:=Y6.out.A4
 have hx:=X6.out
 obtain⟨sc0,sc1,sc2,sc3⟩:=hx.A4
 obtain⟨tc0,tc1,tc2,tc3⟩:=hx.F4
 go_wp2_with fail
 obtain⟨W9,e9,X9,k9⟩:=hx.e4 (.string s1) (.I 0) (.I n3) (.I n5)
 rw[e9]
 clear e9
 clear sc0 sc1 sc2 sc3 qc0 qc1 qc2 qc3
 obtain⟨sc0,sc1,sc2,sc3⟩:=X9.A4
 have KK:Kept (λz=>z=g) w W9:=K6.out.then_ k9 (λz hz e=>by omega)
 refine bodyPost_ret (v:=.agg #[.string s1,.I 0,.I n3,.I n5]) (by simp[results,Tryz.results93,go_sem,sc0,sc1,sc2,sc3]) rfl ⟨_,rfl,KK,⟨_,_,_,_,rfl⟩,i5,er5,HH.out.put P6.out.at_ (P6.out.blk.kept k9 (by omega)) KK,PS5.out.map (λx=>(⟨x.1.1,0,x.1.2,x.2⟩:Va)) ?_⟩
 rintro⟨⟨a1,a2⟩,a3⟩ ⟨⟨h1,h2⟩,h3⟩
 injection h1 with h1
 injection h2 with _ h2
 injection h3 with _ h3
 refine⟨_,rfl,?_⟩
 show _=d0! _
 rw[h1,h2,h3]
 rfl
theorem c80!(ts:List Tk)(i:Nat)(er:Int):stP e8! ts i er=((stP (mustP [44]) ts i er).bind λa r=>(c8! r).bind λb r=>.ok (a,b) r).bind λx r=>.ok ((λx:Unit×Va=>x.2) x) r:=by
 by_cases he:er=0
 ·unfold stP
  rw[if_pos he,if_pos he];unfold e8!
  simp only[PS.bind_assoc,PS.ok_bind,PS.bind_eta]
  all_goals rfl
 ·unfold stP
  rw[if_neg he,if_neg he]
  rfl
theorem c81!(g c:Nat)(A:Option Addr)(m:Nat->Nat)(ts:List Tk)(i:Nat)(dp er:Int)(w:World)(h:Par w g A c m ts i dp er):
 Calls Tryz.prog 95 #[.pointer (some ⟨g,0,none⟩)] w (a8! w g c A m ts dp (stP e8! ts i er) (IsEl QV w.heap.size) ShV):=by
 obtain⟨W0,eW,f0,x0,z0⟩:=n! w 89 #[.E,.I 0,.I 0,.I 0]
 have hgl:=h.blk.lt
 have HH:=h! h
 have P0:=h! (h.below f0)
 have F0:=h! f0
 have X0:=h! x0
 have K0:=o! g f0
 have MU:=h! (λi er w h=>e1! g c A m ts i dp er [44] w h)
 have PA:=h! (λi er w h=>a76! g c A m ts i dp er w h)
 rw[c80!]
 clear h f0 x0
 go_enter Tryz.func95,Tryz.ntmps95
 go_wp2_with fail
 rw[eW.out]
 clear eW
 refine(MU.out i er W0 P0.out).mono ?_
 rintro e w1⟨v1,rfl,k1,rfl,i1,er1,p1,ps1⟩
 have z1:=k1.size
 have X1:=k! X0 k1
 have K1:=q! K0 k1
 have P1:=h! p1
 have PS1:=h! ps1
 have J1:=h! k1
 clear p1 k1 ps1 K0 P0 X0
 go_wp2_with fail
 refine(PA.out i1 er1 w1 P1.out).mono ?_
 rintro e w2⟨v2,rfl,k2,⟨s2,a2,b2,d2,rfl⟩,i2,er2,p2,ps2⟩
 have z2:=k2.size
 have X2:=k! X1 k2
 have K2:=q! K1 k2
 have P2:=h! p2
 have PS2:=h! (PS1.out.then_ ps2)
 have J2:=h! k2
 clear p2 k2 ps2 K1 P1 X1 PS1
 have hx:=X2.out
 obtain⟨sc0,sc1,sc2,sc3⟩:=hx.A4
 obtain⟨tc0,tc1,tc2,tc3⟩:=hx.F4
 go_wp2_with fail
 obtain⟨W9,e9,X9,k9⟩:=hx.e4 (.string s2) (.I a2) (.I b2) (.I d2)
 rw[e9]
 clear e9
 clear sc0 sc1 sc2 sc3
 obtain⟨sc0,sc1,sc2,sc3⟩:=X9.A4
 have KK:Kept (λz=>z=g) w W9:=K2.out.then_ k9 (λz hz e=>by omega)
 refine bodyPost_ret (v:=.agg #[.string s2,.I a2,.I b2,.I d2]) (by simp[results,Tryz.results95,go_sem,sc0,sc1,sc2,sc3]) rfl ⟨_,rfl,KK,⟨_,_,_,_,rfl⟩,i2,er2,HH.out.put P2.out.at_ (P2.out.blk.kept k9 (by omega)) KK,PS2.out.map (λx=>x.2) ?_⟩
 rintro⟨a1,a2⟩ ⟨h1,h2⟩
 exact h2.kept b3! (by omega) k9 (λz _ hz e=>by omega)
def szP(r:List Tk):PS Int:=if hasT [91] r then (numP r.tail).bind λn r=>(mustP [93] r).bind λ_ r=>.ok n r else .ok 0 r
def szT(r:List Tk):PS Int:=(numP r).bind λn r=>(mustP [93] r).bind λ_ r=>.ok n r
theorem c82!(ts:List Tk)(i:Nat)(er:Int):stP szT ts i er=((stP numP ts i er).bind λa r=>((mustP [93]) r).bind λb r=>.ok (a,b) r).bind λx r=>.ok ((λx:Int×Unit=>x.1) x) r:=by
 by_cases he:er=0
 ·unfold stP
  rw[if_pos he,if_pos he];unfold szT
  simp only[PS.bind_assoc,PS.ok_bind]
  all_goals rfl
 ·unfold stP
  rw[if_neg he,if_neg he]
  rfl
theorem c83!(ts:List Tk)(i:Nat)(er:Int):stP d8! ts i er=(((((stP (mustP [118,97,114]) ts i er).bind λa r=>(nameP r).bind λb r=>.ok (a,b) r).bind λa r=>(szP r).bind λb r=>.ok (a,b) r).bind λa r=>(b4! r).bind λb r=>.ok (a,b) r).bind λa r=>(b4! r).bind λb r=>.ok (a,b) r).bind λx r=>.ok ((λx:(((Unit×List UInt8)×Int)×Int)×Int=>(⟨x.1.1.1.2,x.1.1.2,x.1.2,x.2⟩:Va)) x) r:=by
 by_cases he:er=0
 ·unfold stP
  rw[if_pos he,if_pos he];unfold d8!
  simp only[PS.bind_assoc,PS.ok_bind]
  all_goals rfl
 ·unfold stP
  rw[if_neg he,if_neg he]
  rfl
theorem c84!(g c:Nat)(A:Option Addr)(m:Nat->Nat)(ts:List Tk)(i:Nat)(dp er:Int)(w:World)(h:Par w g A c m ts i dp er):
 Calls Tryz.prog 62 #[.pointer (some ⟨g,0,none⟩)] w (a8! w g c A m ts dp (stP d8! ts i er) (IsEl QV w.heap.size) ShV):=by
 obtain⟨W0,eW,f0,x0,z0⟩:=n! w 89 #[.E,.I 0,.I 0,.I 0]
 have hgl:=h.blk.lt
 have HH:=h! h
 have P0:=h! (h.below f0)
 have F0:=h! f0
 have X0:=h! x0
 have K0:=o! g f0
 have MU:=h! (λi er w h=>e1! g c A m ts i dp er [118,97,114] w h)
 have MC:=h! (λi er w h=>e1! g c A m ts i dp er [93] w h)
 have NM:=h! (λi er w h=>n4! g c A m ts i dp er w h)
 have SG:=h! (λi er w h=>y4! g c A m ts i dp er w h)
 have NU:=h! (λi er w h=>p3! g c A m ts i dp er w h)
 rw[c83!]
 clear h f0 x0
 go_enter Tryz.func62,Tryz.ntmps62
 go_wp2_with fail
 rw[eW.out]
 clear eW
 refine(MU.out i er W0 P0.out).mono ?_
 rintro e w1⟨v1,rfl,k1,rfl,i1,er1,p1,ps1⟩
 have z1:=k1.size
 have X1:=k! X0 k1
 have K1:=q! K0 k1
 have P1:=h! p1
 have PS1:=h! ps1
 have J1:=h! k1
 clear p1 k1 ps1 K0 P0 X0
 go_wp2_with fail
 refine(NM.out i1 er1 w1 P1.out).mono ?_
 rintro e w2⟨v2,rfl,k2,⟨s2,rfl⟩,i2,er2,p2,ps2⟩
 have z2:=k2.size
 have X2:=k! X1 k2
 have K2:=q! K1 k2
 have P2:=h! p2
 have PS2:=h! (PS1.out.then_ ps2)
 have J2:=h! k2
 clear p2 k2 ps2 K1 P1 X1 PS1
 go_wp2_with fail
 obtain⟨W3,eW,f3,Y3,z3⟩:=n! w2 89 #[.string s2,.I 0,.I 0,.I 0]
 replace Y3:=h! Y3
 have P3:=h! (P2.out.below f3)
 have X3:=b! X2 f3
 have K3:=e! K2 f3
 have J3:=o! g f3
 have xl3:=X2.out.lt
 clear f3 K2 P2 X2
 rw[eW.out]
 clear eW
 obtain⟨t',ht'⟩:=ParS.at_some P3.out.at_
 have SK:=h! (l6! g c A m ts i2 dp er2 [91] W3 P3.out t' ht')
 have PT:=h! (u3! (er:=er2) ht' [91] szP szT (λr=>.ok 0 r) (λr=>rfl))
 obtain⟨bb,hbb⟩:∃b,hasB t' er2 [91]=b:=⟨_,rfl⟩
 rw[hbb]at SK PT
 clear hbb ht'
 cases bb
 ·have PTT:=h! (PT.out.2 rfl)
  refine SK.out.mono ?_;rintro e w4⟨rfl,p4,k4⟩;have P4:Hid (Par w4 g A c m ts (i2) dp er2):=p4;have z4:=k4.size;have X4:=k! X3 k4;have Y4:=k! Y3 k4;have K4:=q! K3 k4;clear p4 k4 SK K3 P3 X3 Y3;have PSs:PsAt ts i2 er2 (stP szP ts i2 er2) (λa=>IsN w4 a (.I 0)):=by
   rw[PTT.out];exact PsAt.st rfl
  have PS4x:=h! (PS2.out.then_ PSs);clear PS2 PSs;go_wp2_with fail;refine(SG.out i2 er2 w4 P4.out).mono ?_;rintro e w5⟨v5,rfl,k5,⟨n5,rfl⟩,i5,er5,p5,ps5⟩;have z5:=k5.size;have X5:=k! X4 k5;have Y5:=k! Y4 k5;have K5:=q! K4 k5;have P5:=h! p5;have PS5:=h! (PS4x.out.then_ ps5);have J5:=h! k5;clear p5 k5 ps5 K4 P4 X4 Y4 PS4x;have fz:=Y5.out.frozen 2;have ez:=Y5.out.c2;go_wp2_with fail;obtain⟨W6,e9,Y6,k6⟩:=Y5.out.u2 (.I n5);rw[e9];clear e9;have X6:=k! X5 k6;have K6:=t! K5 k6;have P6:=h! (HH.out.put P5.out.at_ (P5.out.blk.kept k6 (by omega)) K6.out);have J6:=h! k6;have z6:=k6.size;clear k6 Y5 X5 K5 P5;clear fz ez;refine(SG.out i5 er5 W6 P6.out).mono ?_;rintro e w7⟨v7,rfl,k7,⟨n7,rfl⟩,i7,er7,p7,ps7⟩;have z7:=k7.size;have X7:=k! X6 k7;have Y7:=k! Y6 k7;have K7:=q! K6 k7;have P7:=h! p7;have PS7:=h! (PS5.out.then_ ps7);have J7:=h! k7;clear p7 k7 ps7 K6 P6 X6 Y6 PS5;have fz:=Y7.out.frozen 3;have ez:=Y7.out.c3;go_upto_region 8 with fail;obtain⟨W8,e9,Y8,k8⟩:=Y7.out.u3 (.I n7);rw[e9];clear e9;have X8:=k! X7 k8;have K8:=t! K7 k8;have P8:=h! (HH.out.put P7.out.at_ (P7.out.blk.kept k8 (by omega)) K8.out);have J8:=h! k8;have z8:=k8.size;clear k8 Y7 X7 K7 P7;clear fz ez;obtain⟨qc0,qc1,qc2,qc3⟩:=Y8.out.A4;have hx:=X8.out;obtain⟨sc0,sc1,sc2,sc3⟩:=hx.A4;obtain⟨tc0,tc1,tc2,tc3⟩:=hx.F4;go_wp2_with fail;obtain⟨W9,e9,X9,k9⟩:=hx.e4 (.string s2) (.I 0) (.I n5) (.I n7);rw[e9];clear e9;clear sc0 sc1 sc2 sc3 qc0 qc1 qc2 qc3;obtain⟨sc0,sc1,sc2,sc3⟩:=X9.A4;have KK:Kept (λz=>z=g) w W9:=K8.out.then_ k9 (λz hz e=>by omega);refine bodyPost_ret (v:=.agg #[.string s2,.I 0,.I n5,.I n7]) (by simp[results,Tryz.results62,go_sem,sc0,sc1,sc2,sc3]) rfl ⟨_,rfl,KK,⟨_,_,_,_,rfl⟩,i7,er7,HH.out.put P8.out.at_ (P8.out.blk.kept k9 (by omega)) KK,PS7.out.map (λx=>(⟨x.1.1.1.2,x.1.1.2,x.1.2,x.2⟩:Va)) ?_⟩;rintro⟨⟨⟨⟨a0,a1⟩,a2⟩,a3⟩,a4⟩ ⟨⟨⟨⟨-,h1⟩,h2⟩,h3⟩,h4⟩;injection h1 with h1;injection h2 with _ h2;injection h3 with _ h3;injection h4 with _ h4;refine⟨_,rfl,?_⟩
  show _=d0! _
  rw[h1,h2,h3,h4]
  rfl
 ·have PTT:=h! (PT.out.1 rfl)
  refine SK.out.mono ?_;rintro e w4⟨rfl,p4,k4⟩;have P4:Hid (Par w4 g A c m ts (i2+1) dp er2):=p4;have z4:=k4.size;have X4:=k! X3 k4;have Y4:=k! Y3 k4;have K4:=q! K3 k4;clear p4 k4 SK K3 P3 X3 Y3;go_wp2_with fail;refine(NU.out (i2+1) er2 w4 P4.out).mono ?_;rintro e w5⟨v5,rfl,k5,⟨n5,rfl⟩,i5,er5,p5,ps5⟩;have z5:=k5.size;have X5:=k! X4 k5;have Y5:=k! Y4 k5;have K5:=q! K4 k5;have P5:=h! p5;have PS5:=h! ps5;have J5:=h! k5;clear p5 k5 ps5 K4 P4 X4 Y4;have fz:=Y5.out.frozen 1;have ez:=Y5.out.c1;go_wp2_with fail;obtain⟨W6,e9,Y6,k6⟩:=Y5.out.u1 (.I n5);rw[e9];clear e9;have X6:=k! X5 k6;have K6:=t! K5 k6;have P6:=h! (HH.out.put P5.out.at_ (P5.out.blk.kept k6 (by omega)) K6.out);have J6:=h! k6;have z6:=k6.size;clear k6 Y5 X5 K5 P5;clear fz ez;refine(MC.out i5 er5 W6 P6.out).mono ?_;rintro e w7⟨v7,rfl,k7,rfl,i7,er7,p7,ps7⟩;have z7:=k7.size;have X7:=k! X6 k7;have Y7:=k! Y6 k7;have K7:=q! K6 k7;have P7:=h! p7;have PS7:=h! (PS5.out.then_ ps7);have J7:=h! k7;clear p7 k7 ps7 K6 P6 X6 Y6 PS5;have PSs:PsAt ts i7 er7 (stP szP ts i2 er2) (λa=>IsN w7 a (.I n5)):=by
   rw[PTT.out.2,c82!];exact PS7.out.map (Q':=λa=>IsN w7 a (.I n5)) (λx:Int×Unit=>x.1) (λa h=>h.1)
  have PS7x:=h! (PS2.out.then_ PSs);clear PS7 PSs;go_wp2_with fail;refine(SG.out i7 er7 w7 P7.out).mono ?_;rintro e w8⟨v8,rfl,k8,⟨n8,rfl⟩,i8,er8,p8,ps8⟩;have z8:=k8.size;have X8:=k! X7 k8;have Y8:=k! Y7 k8;have K8:=q! K7 k8;have P8:=h! p8;have PS8:=h! (PS7x.out.then_ ps8);have J8:=h! k8;clear p8 k8 ps8 K7 P7 X7 Y7 PS7x;have fz:=Y8.out.frozen 2;have ez:=Y8.out.c2;go_wp2_with fail;obtain⟨W9,e9,Y9,k9⟩:=Y8.out.u2 (.I n8);rw[e9];clear e9;have X9:=k! X8 k9;have K9:=t! K8 k9;have P9:=h! (HH.out.put P8.out.at_ (P8.out.blk.kept k9 (by omega)) K9.out);have J9:=h! k9;have z9:=k9.size;clear k9 Y8 X8 K8 P8;clear fz ez;refine(SG.out i8 er8 W9 P9.out).mono ?_;rintro e w10⟨v10,rfl,k10,⟨n10,rfl⟩,i10,er10,p10,ps10⟩;have z10:=k10.size;have X10:=k! X9 k10;have Y10:=k! Y9 k10;have K10:=q! K9 k10;have P10:=h! p10;have PS10:=h! (PS8.out.then_ ps10);have J10:=h! k10;clear p10 k10 ps10 K9 P9 X9 Y9 PS8;have fz:=Y10.out.frozen 3;have ez:=Y10.out.c3;go_upto_region 8 with fail;obtain⟨W11,e9,Y11,k11⟩:=Y10.out.u3 (.I n10);rw[e9];clear e9;have X11:=k! X10 k11;have K11:=t! K10 k11;have P11:=h! (HH.out.put P10.out.at_ (P10.out.blk.kept k11 (by omega)) K11.out);have J11:=h! k11;have z11:=k11.size;clear k11 Y10 X10 K10 P10;clear fz ez;obtain⟨qc0,qc1,qc2,qc3⟩:=Y11.out.A4;have hx:=X11.out;obtain⟨sc0,sc1,sc2,sc3⟩:=hx.A4;obtain⟨tc0,tc1,tc2,tc3⟩:=hx.F4;go_wp2_with fail;obtain⟨W9,e9,X9,k9⟩:=hx.e4 (.string s2) (.I n5) (.I n8) (.I n10);rw[e9];clear e9;clear sc0 sc1 sc2 sc3 qc0 qc1 qc2 qc3;obtain⟨sc0,sc1,sc2,sc3⟩:=X9.A4;have KK:Kept (λz=>z=g) w W9:=K11.out.then_ k9 (λz hz e=>by omega);refine bodyPost_ret (v:=.agg #[.string s2,.I n5,.I n8,.I n10]) (by simp[results,Tryz.results62,go_sem,sc0,sc1,sc2,sc3]) rfl ⟨_,rfl,KK,⟨_,_,_,_,rfl⟩,i10,er10,HH.out.put P11.out.at_ (P11.out.blk.kept k9 (by omega)) KK,PS10.out.map (λx=>(⟨x.1.1.1.2,x.1.1.2,x.1.2,x.2⟩:Va)) ?_⟩;rintro⟨⟨⟨⟨a0,a1⟩,a2⟩,a3⟩,a4⟩ ⟨⟨⟨⟨-,h1⟩,h2⟩,h3⟩,h4⟩;injection h1 with h1;injection h2 with _ h2;injection h3 with _ h3;injection h4 with _ h4;refine⟨_,rfl,?_⟩
  show _=d0! _
  rw[h1,h2,h3,h4]
  rfl
def LeP{α:Type}(f:List Tk->PS α):Prop:=∀r a r',f r=.ok a r'->r'.length<=r.length
theorem EatsP.le{α:Type}{f:List Tk->PS α}(h:EatsP f):LeP f:=λr a r' e=>Nat.le_of_lt (h r a r' e)
theorem LeP.ok{α:Type}(a:α):LeP (λr=>PS.ok a r):=λ_ _ _ h=>by
 injection h with _ h
 rw[h]
 exact Nat.le_refl _
theorem EatsP.bind{α β:Type}{p:List Tk->PS α}{f:α->List Tk->PS β}(hp:EatsP p)(hf:∀a,LeP (f a)):EatsP λr=>(p r).bind λa r=>f a r:=λr b r' h=>by
 simp only at h
 cases hq:p r with
 |ok a r1=>
  rw[hq]at h;exact Nat.lt_of_le_of_lt (hf a _ _ _ h) (hp _ _ _ hq)
 |bad r1 e=>
  rw[hq]at h
  cases h
theorem LeP.bind{α β:Type}{p:List Tk->PS α}{f:α->List Tk->PS β}(hp:LeP p)(hf:∀a,LeP (f a)):LeP λr=>(p r).bind λa r=>f a r:=λr b r' h=>by
 simp only at h
 cases hq:p r with
 |ok a r1=>
  rw[hq]at h;exact Nat.le_trans (hf a _ _ _ h) (hp _ _ _ hq)
 |bad r1 e=>
  rw[hq]at h
  cases h
theorem LeP.ite{α:Type}(c:List Tk->Prop)[∀r,Decidable (c r)]{f g:List Tk->PS α}(hf:LeP f)(hg:LeP g):LeP λr=>if c r then f r else g r:=λr a r' h=>by
 simp only at h
 split at h
 ·exact hf _ _ _ h
 ·exact hg _ _ _ h
theorem EatsP.ite{α:Type}(c:List Tk->Prop)[∀r,Decidable (c r)]{f g:List Tk->PS α}(hf:EatsP f)(hg:EatsP g):EatsP λr=>if c r then f r else g r:=λr a r' h=>by
 simp only at h
 split at h
 ·exact hf _ _ _ h
 ·exact hg _ _ _ h
theorem LeP.tail{α:Type}{f:List Tk->PS α}(hf:LeP f):LeP λr=>f r.tail:=λr a r' h=>Nat.le_trans (hf _ _ _ h) (by simp)
theorem EatsP.tail{α:Type}{f:List Tk->PS α}(hf:EatsP f):EatsP λr=>f r.tail:=λr a r' h=>Nat.lt_of_lt_of_le (hf _ _ _ h) (by simp)
theorem i6!(x:List UInt8):EatsP (mustP x):=λr a r' h=>by
 unfold mustP at h
 split at h
 ·rename_i hx
  injection h with _ h;subst h
  cases r with
  |nil=>simp[hasT]at hx
  |cons t r=>simp
 ·cases h
theorem y6!(k:Int):EatsP (takeP k):=λr a r' h=>by
 cases r with
 |nil=>cases h
 |cons t r=>
  simp only[takeP]at h
  split at h
  ·injection h with _ h
   subst h
   simp
  ·cases h
theorem p6!:EatsP nameP:=EatsP.bind (y6! 1) λ_=>LeP.ok _
theorem c85!:EatsP wordP:=EatsP.bind (y6! 3) λ_=>LeP.ok _
theorem k4!:EatsP numP:=EatsP.bind (y6! 2) λ_=>LeP.ok _
theorem n6!:EatsP b4!:=EatsP.ite (λr=>hasT [45] r=true) (EatsP.tail (f:=λr=>(numP r).bind λn r=>PS.ok (IntKind.i64.wrap (-n)) r) (EatsP.bind k4! λ_=>LeP.ok _)) k4!
theorem k5!:EatsP exprP:=λr a r' h=>by
 unfold exprP at h
 cases hj:joinL (a0! 16) 5 r with
 |ok x r1=>
  rw[hj]at h;injection h with _ h;subst h;exact n0! (t9! 16) 5 _ _ _ hj
 |bad r1 e=>
  rw[hj]at h
  cases h
theorem a77!{α:Type}{more:List Tk->Bool}{one:List Tk->PS α}(ho:LeP one):∀(f:Nat) (acc:List α),LeP (listP more one f acc)
 |0,acc=>LeP.ok acc
 |f+1,acc=>λr a r' h=>by
  simp only[listP]at h
  split at h
  ·cases hq:one r with
   |ok b r1=>
    rw[hq]at h;exact Nat.le_trans (a77! ho f _ _ _ _ h) (ho _ _ _ hq)
   |bad r1 e=>
    rw[hq]at h
    cases h
  ·injection h with _ h
   rw[h];exact Nat.le_refl _
theorem c86!{α:Type}{more:List Tk->Bool}{one:List Tk->PS α}(ho:LeP one)(acc:List α):LeP λr=>listP more one r.length acc r:=λ_ _ _ h=>a77! ho _ _ _ _ _ h
theorem c87!:EatsP h2!:=EatsP.bind p6! λnm=>LeP.ite (λr=>hasT [91] r=true)
 (LeP.tail (f:=λr=>(exprP r).bind λe r=>(mustP [93] r).bind λ_ r=>(mustP [61] r).bind λ_ r=>(exprP r).bind λe2 r=>PS.ok (St.mk 1 nm [e,e2] 0 0 [] []) r)
  (LeP.bind k5!.le λ_=>LeP.bind (i6! _).le λ_=>LeP.bind (i6! _).le λ_=>LeP.bind k5!.le λ_=>LeP.ok _))
 (LeP.bind (i6! _).le λ_=>LeP.bind k5!.le λ_=>LeP.ok _)
theorem LeP.if_{α:Type}(c:Prop)[Decidable c]{f g:List Tk->PS α}(hf:LeP f)(hg:LeP g):LeP λr=>if c then f r else g r:=LeP.ite (λ_=>c) hf hg
theorem y7!:∀d,EatsP (stmtD d)
 |0=>λr a r' h=>by cases h
 |d+1=>by
  have ih:LeP λr=>listP a7! (stmtD d) r.length [] r:=c86! (y7! d).le []
  refine EatsP.ite (λr=>kindT 1 r=true) c87! (EatsP.bind c85! λ_=>LeP.if_ _
   (LeP.bind k5!.le λ_=>LeP.bind (i6! _).le λ_=>LeP.bind ih λ_=>LeP.bind (LeP.ite (λr=>hasT _ r=true) (LeP.tail (f:=λr=>listP a7! (stmtD d) r.length [] r) ih) (LeP.ok [])) λ_=>LeP.bind (i6! _).le λ_=>LeP.ok _)
   (LeP.if_ _ (LeP.bind p6!.le λ_=>LeP.bind n6!.le λ_=>LeP.bind n6!.le λ_=>LeP.bind (i6! _).le λ_=>LeP.bind ih λ_=>LeP.bind (i6! _).le λ_=>LeP.ok _)
   (LeP.if_ _ (LeP.ok _) (LeP.if_ _ (LeP.bind p6!.le λ_=>LeP.bind k4!.le λ_=>LeP.ok _)
   (LeP.if_ _ (LeP.bind k5!.le λ_=>LeP.ok _) (LeP.if_ _ (LeP.ok _) (LeP.if_ _ (LeP.bind k5!.le λ_=>LeP.bind k5!.le λ_=>LeP.ok _) (LeP.bind k5!.le λ_=>LeP.ok _))))))))
theorem u5!:EatsP c8!:=EatsP.bind p6! λ_=>LeP.bind n6!.le λ_=>LeP.bind n6!.le λ_=>LeP.ok _
theorem a78!:EatsP e8!:=EatsP.bind (i6! _) λ_=>u5!.le
theorem p7!:EatsP d8!:=EatsP.bind (i6! _) λ_=>LeP.bind p6!.le λ_=>
 LeP.bind (LeP.ite (λr=>hasT [91] r=true) (LeP.tail (f:=λr=>(numP r).bind λn r=>(mustP [93] r).bind λ_ r=>PS.ok n r) (LeP.bind k4!.le λ_=>LeP.bind (i6! _).le λ_=>LeP.ok _)) (LeP.ok 0)) λ_=>
 LeP.bind n6!.le λ_=>LeP.bind n6!.le λ_=>LeP.ok _
def l8!(g c:Nat)(A:Option Addr)(m:Nat->Nat)(ts:List Tk)(d:Nat):Prop:=∀(dp:Int) (i:Nat) (w:World),dp+(d:Int)=16->0<=dp->Par w g A c m ts i dp 0->a7! (ts.drop i)=true->
 Calls Tryz.prog 92 #[.pointer (some ⟨g,0,none⟩)] w (a8! w g c A m ts dp (stmtD d (ts.drop i)) (IsEl (QS d) w.heap.size) ShSt)
def g1!(d:Nat)(r:List Tk):PS (List St):=listP a7! (stmtD d) r.length [] r
theorem a79!(g c:Nat)(A:Option Addr)(m:Nat->Nat)(ts:List Tk)(d:Nat)(H:l8! g c A m ts d)(dp:Int)(hd:dp+(d:Int)=16)(h0:0<=dp)(i:Nat)(er:Int)(w:World)(h:Par w g A c m ts i dp er):
 Calls Tryz.prog 90 #[.func (.func 91) #[.pointer (some ⟨g,0,none⟩)] #[],.func (.func 92) #[.pointer (some ⟨g,0,none⟩)] #[]] w
  (a8! w g c A m ts dp (stP (g1! d) ts i er) (IsRow 7 (QS d) w.heap.size) ShL):=by
 refine(c76! d g c A m ts dp (stmtD d) (λb w a v=>IsEl (QS d) b w a v) (y7! d) ?_ (λi w h hb=>H dp i w hd h0 h hb) i er w h).mono ?_
 ·rintro b w a kind nm A1 l1 c1 lo hi A2 l2 c2 A3 l3 c3⟨cs,hcs,hq⟩
  have:cs=[.I kind,.string nm,.slice A1 l1 c1,.I lo,.I hi,.slice A2 l2 c2,.slice A3 l3 c3]:=by
   injection hcs with hcs;have:=congrArg Array.toList hcs
   simpa using this.symm
  rw[this]at hq;exact hq
 ·rintro e w1⟨v,rfl,k,sh,r⟩
  exact⟨v,rfl,k,sh.shl,r⟩
theorem Par.depth{w':World}{g c:Nat}{A:Option Addr}{m:Nat->Nat}{dp er:Int}(h:Par w g A c m ts i dp er)(d2:Int){i2:Nat}{er2 d1:Int}(h2:Par w' g A c m ts i2 d1 er2)(hk:Kept (λz=>z=g) w w'):
 Par (w'.setCell ⟨g,2,none⟩ (.I d2)) g A c m ts i2 d2 er2∧Kept (λz=>z=g) w (w'.setCell ⟨g,2,none⟩ (.I d2)):=by
 have k:=hk.setCell (p:=⟨g,2,none⟩) (λ_=>rfl) (.I d2)
 exact⟨⟨h.st.kept k (λ_ _ e=>e),h2.blk.set_ 2 _,h2.at_⟩,k⟩
theorem a80!(g c:Nat)(A:Option Addr)(m:Nat->Nat)(ts:List Tk)(d:Nat)(H:l8! g c A m ts d)(dp:Int)(hd:dp+1+(d:Int)=16)(h0:0<=dp)(i:Nat)(er:Int)(w:World)(h:Par w g A c m ts i dp er):
 Calls Tryz.prog 131 #[.pointer (some ⟨g,0,none⟩)] w (a8! w g c A m ts dp (stP (g1! d) ts i er) (IsRow 7 (QS d) w.heap.size) ShL):=by
 have HH:=h! h
 have hgl:=h.blk.lt
 have bp:=h.blk
 unfold a2! at bp
 have c2:=bp.c2
 have f2:=bp.frozen 2
 have LS:=h! (λi er w h=>a79! g c A m ts d H (dp+1) hd (by omega) i er w h)
 have w1:=y! (dp+1)
 have w2:IntKind.i64.wrap (dp+1-1)=dp:=IntWalk.i64_in _ ⟨by omega,by omega⟩ |>.trans (by omega)
 clear h bp H
 go_enter Tryz.func131,Tryz.ntmps131
 go_wp2_with fail
 obtain⟨p1,k1⟩:=HH.out.depth (dp+1) HH.out (Kept.refl _ w)
 have P1:=h! p1
 have K1:=h! k1
 have z1:=k1.size
 clear p1 k1 c2 f2
 generalize w.setCell ⟨g,2,none⟩ (.I (dp+1))=W1 at*
 refine(LS.out i er W1 P1.out).mono ?_
 rintro e w3⟨v,rfl,k3,⟨A3,n3,c3,rfl⟩,i3,er3,p3,ps3⟩
 have K3:=q! K1 k3
 have P3:=h! p3
 have PS3:=h! ps3
 have bp:=p3.blk
 unfold a2! at bp
 have c2:=bp.c2
 have f2:=bp.frozen 2
 have z3:=k3.size
 clear bp p3 k3 ps3
 go_wp2_with fail
 obtain⟨p4,k4⟩:=HH.out.depth dp P3.out K3.out
 have k5:=(Kept.refl (λz=>z=g) w3).setCell (p:=⟨g,2,none⟩) (λ_=>rfl) (.I dp)
 generalize w3.setCell ⟨g,2,none⟩ (.I dp)=W4 at*
 go_ret
 exact⟨_,rfl,k4,⟨_,_,_,rfl⟩,i3,er3,p4,PS3.out.mono λl hl=>hl.kept (c5! d) (by omega) k5 (λz _ hz e=>by omega)⟩
theorem a81!(ts:List Tk)(i:Nat)(er:Int):stP partP ts i er=((stP (g1! 16) ts i er).bind λa r=>(mustP [101,110,100] r).bind λb r=>.ok (a,b) r).bind λx r=>.ok ((λx:List St×Unit=>x.1) x) r:=by
 by_cases he:er=0
 ·unfold stP
  rw[if_pos he,if_pos he];unfold partP
  simp only[PS.bind_assoc,PS.ok_bind]
  rfl
 ·unfold stP
  rw[if_neg he,if_neg he]
  rfl
theorem c88!(g c:Nat)(A:Option Addr)(m:Nat->Nat)(ts:List Tk)(H:l8! g c A m ts 16)(i:Nat)(er:Int)(w:World)(h:Par w g A c m ts i 0 er):
 Calls Tryz.prog 63 #[.pointer (some ⟨g,0,none⟩)] w (a8! w g c A m ts 0 (stP partP ts i er) (IsRow 7 (QS 16) w.heap.size) ShL):=by
 have P0:=h! h
 have hgl:=h.blk.lt
 have LS:=h! (λi er w h=>a79! g c A m ts 16 H 0 (by omega) (by omega) i er w h)
 have MU:=h! (λi er w h=>e1! g c A m ts i 0 er [101,110,100] w h)
 rw[a81!]
 clear h H
 go_enter Tryz.func63,Tryz.ntmps63
 go_wp2_with fail
 refine(LS.out i er w P0.out).mono ?_
 rintro e w1⟨v,rfl,k1,⟨A1,n1,c1,rfl⟩,i1,er1,p1,ps1⟩
 have K1:=h! k1
 have P1:=h! p1
 have PS1:=h! ps1
 have z1:=k1.size
 clear k1 p1 ps1
 go_wp2_with fail
 refine(MU.out i1 er1 w1 P1.out).mono ?_
 rintro e w2⟨v,rfl,k2,rfl,i2,er2,p2,ps2⟩
 have PS2:=h! (PS1.out.then_ ps2)
 have K2:=h! k2
 have P2:=h! p2
 clear k2 p2 ps2
 go_wp2_with fail
 go_ret
 exact⟨_,rfl,K1.out.then_ K2.out (λ_ _ e=>e),⟨_,_,_,rfl⟩,i2,er2,P2.out,PS2.out.map (λx=>x.1) λl hl=>hl.1.kept (c5! 16) (Nat.le_refl _) K2.out (λz _ hz e=>by omega)⟩
theorem u6!{α:Type}(more:List Tk->Bool)(one:List Tk->PS α):∀(f:Nat) (acc:List α) (r:List Tk),listP more one f acc r=(listP more one f [] r).bind λl r=>.ok (acc++l) r
 |0,acc,r=>by simp[listP,PS.bind]
 |f+1,acc,r=>by
  simp only[listP]
  split
  ·cases one r with
   |ok a r1=>
    simp only[PS.ok_bind]
    rw[u6! more one f (acc++[a]),u6! more one f ([]++[a]),PS.bind_assoc]
    simp[PS.ok_bind]
   |bad r1 e=>rfl
  ·simp[PS.bind]
def moreC(r:List Tk):PS (List Va):=listP (hasT [44]) e8! r.length [] r
def n7!(r:List Tk):PS (List Va):=(c8! r).bind λv r=>(moreC r).bind λl r=>.ok (v::l) r
theorem c89!(r:List Tk):d9! r=if kindT 1 r=false then .ok [] r else if g6! r=false then .ok [] r else n7! r:=by
 unfold d9! n7! moreC
 congr 2
 congr 1
 funext v r
 rw[u6!]
 rfl
theorem c90!(ts:List Tk)(i:Nat)(er:Int):stP n7! ts i er=((stP c8! ts i er).bind λa r=>(moreC r).bind λb r=>.ok (a,b) r).bind λx r=>.ok ((λx:Va×List Va=>x.1::x.2) x) r:=by
 by_cases he:er=0
 ·unfold stP
  rw[if_pos he,if_pos he];unfold n7!
  simp only[PS.bind_assoc,PS.ok_bind]
 ·unfold stP
  rw[if_neg he,if_neg he]
  rfl
theorem c91!(g c:Nat)(A:Option Addr)(m:Nat->Nat)(ts:List Tk)(dp:Int)(i:Nat)(er:Int)(w:World)(h:Par w g A c m ts i dp er):
 Calls Tryz.prog 60 #[.func (.func 94) #[.pointer (some ⟨g,0,none⟩)] #[],.func (.func 95) #[.pointer (some ⟨g,0,none⟩)] #[]] w
  (a8! w g c A m ts dp (stP moreC ts i er) (IsRow 4 QV w.heap.size) (ShR 4)):=by
 refine c74! g c A m ts dp e8! (λb w a v=>IsEl QV b w a v) a78! ?_ (λi w h _=>?_) i er w h
 ·rintro b w a s a1 b1 c1⟨cs,hcs,hq⟩
  have:cs=[.string s,.I a1,.I b1,.I c1]:=by
   injection hcs with hcs;have:=congrArg Array.toList hcs
   simpa using this.symm
  rw[this]at hq;exact hq
 ·have:=c81! g c A m ts i dp 0 w h
  unfold stP at this
  rwa[if_pos rfl]at this
theorem c92!(g c:Nat)(A:Option Addr)(m:Nat->Nat)(ts:List Tk)(dp:Int)(i:Nat)(er:Int)(w:World)(h:Par w g A c m ts i dp er):
 Calls Tryz.prog 60 #[.func (.func 61) #[.pointer (some ⟨g,0,none⟩)] #[],.func (.func 62) #[.pointer (some ⟨g,0,none⟩)] #[]] w
  (a8! w g c A m ts dp (stP (λr=>listP (hasT [118,97,114]) d8! r.length [] r) ts i er) (IsRow 4 QV w.heap.size) (ShR 4)):=by
 refine c73! g c A m ts dp d8! (λb w a v=>IsEl QV b w a v) p7! ?_ (λi w h _=>?_) i er w h
 ·rintro b w a s a1 b1 c1⟨cs,hcs,hq⟩
  have:cs=[.string s,.I a1,.I b1,.I c1]:=by
   injection hcs with hcs;have:=congrArg Array.toList hcs
   simpa using this.symm
  rw[this]at hq;exact hq
 ·have:=c84! g c A m ts i dp 0 w h
  unfold stP at this
  rwa[if_pos rfl]at this
theorem c93!(g c:Nat)(A:Option Addr)(m:Nat->Nat)(ts:List Tk)(dp:Int)(i:Nat)(er:Int)(w:World)(h:Par w g A c m ts i dp er):
 Calls Tryz.prog 58 #[.func (.func 59) #[.pointer (some ⟨g,0,none⟩)] #[],.func (.func 57) #[.pointer (some ⟨g,0,none⟩)] #[]] w
  (a8! w g c A m ts dp (stP (λr=>listP (kindT 2) numP r.length [] r) ts i er) (IsRow 1 QI w.heap.size) (ShR 1)):=by
 refine c71! g c A m ts dp numP (λ_ w a v=>IsN w a v) k4! ?_ (λi w h _=>?_) i er w h
 ·intro b w a n h
  have h':Value.int .i64 n=.I a:=h;injection h' with _ h'
  show [Value.int .i64 n]=[.I a]
  rw[h']
 ·have:=p3! g c A m ts i dp 0 w h
  unfold stP at this
  rwa[if_pos rfl]at this
theorem a82!{t2:Tk}(ht2:ts[i+1]?=some t2):g6! (ts.drop i)=(decide (t2.kind=2)||decide (t2.text=[45])):=by
 unfold g6!
 rw[List.tail_drop,a1! ht2]
theorem p8!{b:Nat}{t:TypeId}{cs:List Value}{s base:Nat}(h:Blk w b t (List.toArray cs))(hs:cs.length=s)(hb:base<=b):w.ownsRow base t s (.slice (some ⟨b,0,none⟩) 1 1) 1 cs:=by
 refine⟨by simp[hs],.inr ⟨b,1,List.toArray cs,rfl,hb,h,?_⟩⟩
 refine⟨Nat.le_refl _,by unfold maxLen;omega,by simp[hs],by simp[<-hs]⟩
theorem c94!(g c:Nat)(A:Option Addr)(m:Nat->Nat)(ts:List Tk)(i:Nat)(dp er:Int)(w:World)(h:Par w g A c m ts i dp er):
 Calls Tryz.prog 64 #[.pointer (some ⟨g,0,none⟩)] w (a8! w g c A m ts dp (stP d9! ts i er) (IsRow 4 QV w.heap.size) ShL):=by
 obtain⟨t,ht⟩:=ParS.at_some h.at_
 have N1:=h! (c9! g c A m ts i dp er 1 w h t ht)
 have NB:Hid (nextB t er 1=stB (kindT 1) ts i er):=a71! ht 1
 obtain⟨b,hb⟩:∃b,nextB t er 1=b:=⟨_,rfl⟩
 rw[hb]at N1 NB
 have HB:=h! hb
 have HH:=h! h
 have hgl:=h.blk.lt
 clear hb
 obtain⟨goal,hgo⟩:∃p,stP d9! ts i er=p:=⟨_,rfl⟩
 rw[hgo]
 have GO:=h! hgo
 have NIL:Hid (stB (kindT 1) ts i er=false∨g6! (ts.drop i)=false->PsAt ts i er goal (λl=>IsRow 4 QV w.heap.size w l (.N))):=by
  intro hk
  rw[<-hgo];unfold stP
  split
  ·rename_i he
   subst he;have e1:d9! (ts.drop i)=.ok [] (ts.drop i):=by
    unfold d9!;rcases hk with hk|hk
    ·unfold stB at hk
     rw[if_pos (by simpa using hk)]
    ·rw[if_pos hk]
     split<;>rfl
   rw[e1];exact⟨rfl,rfl,none,0,0,rfl,ElsG.none_ _ _ _ _ _ _⟩
  ·rename_i he
   exact⟨rfl,rfl,he⟩
 clear hgo
 cases b
 ·clear h
  go_enter Tryz.func64,Tryz.ntmps64;go_wp2_with fail;refine N1.out.mono ?_;rintro e w1⟨rfl,q,rfl⟩;go_wp2_with fail
  go_ret
  exact⟨_,rfl,(Kept.refl _ w).drewN q,⟨_,_,_,rfl⟩,i,er,HH.out.drewN q,(NIL.out (.inl NB.out.symm)).mono λl hl=>hl.kept b3! (Nat.le_refl _) ((Kept.refl (λ_=>False) w).drewN q) (λ_ _ _ h=>h)⟩
 ·obtain⟨rfl,hk1⟩:er=0∧t.kind=1:=by
   have:=HB.out;unfold nextB at this
   simpa using this
  have hm:=h.st.more ht (.inl (by rw[hk1];decide));obtain⟨t2,ht2⟩:∃t2,ts[i+1]?=some t2:=⟨_,List.getElem?_eq_getElem hm⟩
  obtain⟨bk,o,hA,hbk,hbg,q0,q1,q2,q3,q4⟩:=h.st.tok ht2;have lim:=h.st.lim;have bp:=h.blk;unfold a2! at bp;rw[hA]at bp;obtain⟨n,hn⟩:∃n,ts.length=n:=⟨_,rfl⟩
  rw[hn]at bp hm lim;have HN:=h! hn;have PAR:=h! (λi er w h=>a76! g c A m ts i dp er w h);have LC:=h! (λi er w h=>c91! g c A m ts dp i er w h);have BB:=h! (a82! (i:=i) ht2);have TT2:Hid (stP d9! ts i 0=if g6! (ts.drop i)=false then .ok [] (ts.drop i)else stP n7! ts i 0):=by
   unfold stP;rw[if_pos rfl,if_pos rfl,c89!];have:kindT 1 (ts.drop i)=true:=by
    have:=NB.out.symm;unfold stB at this
    simpa using this
   rw[if_neg (by rw[this];decide)]
   rfl
  clear h hn ht ht2 hk1 HB hA NB;go_enter Tryz.func64,Tryz.ntmps64;go_wp2_with fail;refine N1.out.mono ?_;rintro e w1⟨rfl,q,rfl⟩;have P1:=h! (HH.out.drewN q);have K1:=h! ((Kept.refl (λz=>z=g) w).drewN q);have zq:(w.drewN q).heap.size=w.heap.size:=rfl;have c0:(w.drewN q).cell? ⟨g,0,none⟩=some (.slice (some ⟨bk,o,none⟩) n c):=bp.cell 0;have c1:(w.drewN q).cell? ⟨g,1,none⟩=some (.I i):=bp.cell 1;have q0:(w.drewN q).cell? ⟨bk,o+(i+1)*5,none⟩=some (.I t2.kind):=q0;have q1:(w.drewN q).cell? ⟨bk,o+(i+1)*5+1,none⟩=some (.string (str t2.text)):=q1;have q2:(w.drewN q).cell? ⟨bk,o+(i+1)*5+2,none⟩=some (.I t2.n):=q2;have q3:(w.drewN q).cell? ⟨bk,o+(i+1)*5+3,none⟩=some (.I t2.line):=q3;have q4:(w.drewN q).cell? ⟨bk,o+(i+1)*5+4,none⟩=some (.I t2.col):=q4;have g1:(0:Int)<=(i:Int)+1:=by omega
  have g2:(i:Int)+1<(n:Int):=by omega
  have g3:((i:Int)+1).toNat=i+1:=by omega
  have g4:=y! ((i:Int)+1);clear bp N1;generalize w.drewN q=w1 at*;go_upto_region 3 with fail
  go_region
  have f2:Below w1.heap.size w1 ((w1.alloc (.cells #[.I t2.kind,.string (str t2.text),.I t2.n,.I t2.line,.I t2.col] 122)).drew):=((Below.refl _ w1).al _).drew;have b2:Blk ((w1.alloc (.cells #[.I t2.kind,.string (str t2.text),.I t2.n,.I t2.line,.I t2.col] 122)).drew) w1.heap.size 122 #[.I t2.kind,.string (str t2.text),.I t2.n,.I t2.line,.I t2.col]:=(Blk.new w1 _ _).drew;have P2:=h! (P1.out.below f2);have K2:=e! K1 f2;have z2:=f2.size;rw[zq]at b2;have e0:(w1.alloc (.cells #[.I t2.kind,.string (str t2.text),.I t2.n,.I t2.line,.I t2.col] 122)).drew.cell? ⟨w.heap.size,0,none⟩=some (.I t2.kind):=b2.cell 0;have e1:(w1.alloc (.cells #[.I t2.kind,.string (str t2.text),.I t2.n,.I t2.line,.I t2.col] 122)).drew.cell? ⟨w.heap.size,1,none⟩=some (.string (str t2.text)):=b2.cell 1;clear P1 K1 q0 q1 q2 q3 q4 c0 c1 f2 b2;generalize (w1.alloc (.cells #[.I t2.kind,.string (str t2.text),.I t2.n,.I t2.line,.I t2.col] 122)).drew=W2 at*;have s1:((str t2.text).toList==[45])=decide (t2.text=[45]):=h4! _ _;have BB2:=h! BB.out;generalize decide (t2.text=[45])=bt at*;have hcase:(¬t2.kind=2∧bt=false)∨(t2.kind=2∨(¬t2.kind=2∧bt=true)):=by
   by_cases h2:t2.kind=2
   ·exact .inr (.inl h2)
   ·cases bt
    ·exact .inl ⟨h2,rfl⟩
    ·exact .inr (.inr ⟨h2,rfl⟩)
  rcases hcase with⟨h2,rfl⟩|hcase
  ·have s2:(t2.kind==2)=false:=by simp[h2]
   have NP:=h! (NIL.out (.inr (by rw[BB.out];simp[h2])));go_wp2_with fail
   go_ret
   exact⟨_,rfl,K2.out,⟨_,_,_,rfl⟩,i,0,P2.out,NP.out.mono λl hl=>hl.kept b3! (Nat.le_refl _) K2.out (λz hz h e=>by omega)⟩
  ·have GT:Hid (goal=stP n7! ts i 0):=by
    rw[Hid,<-GO.out,TT2.out,if_neg (by rw[BB.out];rcases hcase with h|⟨_,h⟩<;>simp[h])]
   have GG:=GT.out;rw[c90!]at GG;clear GO NIL TT2 BB2 GT;subst GG;obtain⟨i0,hi0,hz0,hz1,hz2⟩:=info_parts a74!;rcases hcase with h2|⟨h2,rfl⟩
   all_goals
    have s2:(t2.kind==2)=decide (t2.kind=2):=rfl;rw[show decide (t2.kind=2)=_ from by first|exact decide_eq_true h2|exact decide_eq_false h2]at s2;go_wp2_with fail;refine(PAR.out i 0 W2 P2.out).mono ?_;rintro e w3⟨v3,rfl,k3,⟨s3,a3,b3,d3,rfl⟩,i3,er3,p3,ps3⟩;have B4:=h! (Blk.new w3 89 #[.string s3,.I a3,.I b3,.I d3]);have f4:=a! w3 (.cells #[.string s3,.I a3,.I b3,.I d3] 89);have P4:=h! (p3.below f4);have PS3:=h! ps3;have K3:=q! K2 k3;have K4:=e! K3 f4;have z3:=k3.size;have z4:=z! w3 (.cells #[.string s3,.I a3,.I b3,.I d3] 89);clear p3 ps3 k3 f4 P2 K2 e0 e1 s1 s2;go_upto_region 7 with fail;generalize w3.alloc (.cells #[.string s3,.I a3,.I b3,.I d3] 89)=W4 at*;have CL:=h! (LC.out i3 er3 W4 P4.out);go_wp2_with fail;refine CL.out.mono ?_;rintro e w5⟨v5,rfl,k5,⟨A5,n5,c5,xs5,rfl,rd5,on5,lm5⟩,i5,er5,p5,ps5⟩;have K5:=q! K4 k5;have P5:=h! p5;have PS5:=h! (PS3.out.then_ ps5);have RD5:=h! rd5;have ON5:=h! on5;have z5:=k5.size;have o5:=h! (a6! (p8! (base:=w.heap.size) (s:=4) B4.out rfl (by omega)) k5 (λz hz e=>by
     have hz:=Option.some.inj hz
     simp only at hz
     omega))
    clear p5 ps5 k5 rd5 on5 CL K4 P4 PS3
    go_wp2_with (at_builtin;refine e5! _ rfl (.tmp 30) (.tmp 35) 45 rfl w.heap.size 89 i0 _ 4 40 Tryz.underlying45 hi0 hz0 hz1 hz2 rfl (by omega) _ 1 [.string s3,.I a3,.I b3,.I d3] rfl o5.out _ _ n5 c5 xs5 rfl RD5.out ON5.out (by unfold maxLen;omega) (by omega) (by omega) ?_;intro v8 w8 o8 g8 at8)
    have K8:Kept (λz=>z=w3.heap.size) w5 w8:=Kept.of_grown g8 (λz e=>by
     have e:=Option.some.inj e
     simp only at e
     omega)
    have KK:Kept (λz=>z=g) w w8:=K5.out.then_ K8 (λz hz e=>by omega);obtain⟨A8,c8,rfl,hb8⟩:=b2! o8;have O8:=h! o8;have G8:=h! g8;have AT8:=h! at8;clear o8 g8 at8
    go_ret
    refine⟨_,rfl,KK,⟨_,_,_,rfl⟩,i5,er5,HH.out.put P5.out.at_ (P5.out.blk.kept K8 (by omega)) KK,PS5.out.map (λx=>x.1::x.2) ?_⟩;rintro⟨a1,l⟩ ⟨⟨cs1,hcs1,h1⟩,A',n',c',hv,xs',hr,-,hM,hlen,hels⟩;injection hv with hv1 hv2 hv3;subst hv1;subst hv2;subst hv3;have hxs:=hr.same RD5.out;subst hxs;have hc:cs1=[.string s3,.I a3,.I b3,.I d3]:=by
     injection hcs1 with hcs1;have:=congrArg Array.toList hcs1
     simpa using this.symm
    subst hc;have hlen:l.length=n5:=hlen
    show IsRow 4 QV w.heap.size w8 (a1::l) (.slice A8 (1+n5) c8)
    refine OwnA.row (t:=89) (l:=a1::l) b3! (OwnA.cat (Q:=QV) (w:=w5) (w':=w8) (l:=[a1]) (l2:=l) (D:=λ_=>False) (v:=.slice (some ⟨w3.heap.size,0,none⟩) 1 1) b3! (by rw[show [a1].length+l.length=1+n5 from by rw[hlen];rfl];exact O8.out) rfl (by rw[hlen];exact hr.1) (by intro u hu;simp only[List.mem_cons,List.not_mem_nil,or_false]at hu;rcases hu with rfl|rfl|rfl|rfl<;>rfl) ON5.out ?_ (K8.mono λz _ e=>.inr (by rw[e];rfl)) ?_ (λi hi=>hels i hi) (λ_ _ h=>h.elim)) (by simp only[List.length_cons];omega)
    ·intro i hi
     obtain rfl:i=0:=by simpa using hi
     exact h1
    ·intro k hk hne e
     rcases AT8.out with h|h
     ·exact hne (h▸e)
     ·rw[h]at e
      have e:=Option.some.inj e
      omega
theorem one4(op N:Int)(nm:ByteArray)(A:Option Addr)(l c:Nat):∀u∈[Value.int .i64 op,.I N,.string nm,.slice A l c],u.oneCell'=true:=by
 intro u hu
 simp only[List.mem_cons,List.not_mem_nil,or_false]at hu
 rcases hu with rfl|rfl|rfl|rfl<;>rfl
end Go.Proofs.YtdgekckedchjbaaGreatDoor
