
/-
 The document's stmt at a name. (Printed by wip/tools/gene5b.py.)
-/
import Derived.Test.YtdgekckedchjbaaGreatDoorE5
set_option maxHeartbeats 8000000
set_option maxRecDepth 100000
namespace Go.Proofs.YtdgekckedchjbaaGreatDoor
open Go.RowKit
theorem e36!(g c:Nat)(A:Option Addr)(ts:List Tk)(d:Nat)(dp:Int)(i:Nat)(w:World)(h:DP w g A c ts i 0)(t:Tk)(ht:ts[i]?=some t)(hk:t.kind=1):
 Calls Tryz.prog 153 #[.pointer (some ⟨g,0,none⟩),.I dp] w (DStep w g c A ts (stmtD (d+1) (ts.drop i)) (IsEl (QR (d+1)) w.heap.size) ShSt):=by
 obtain⟨W0,eW,f0,x0,z0⟩:=n! w 29 #[.I 0,.E,.N,.I 0,.I 0,.N,.N]
 have hgl:=h.blk.lt
 have hlim:=h.lim
 have hat:=h.at_
 have HH:=h! h
 have P0:=h! (h.below f0)
 have X0:=h! x0
 have K0:=o! g f0
 have NW:=h! (λw' (h':DP w' g A c ts i 0)=>c3! g c A ts i 0 w' h' t ht)
 have NM:=h! (λi er w h=>k2! g c A ts i er w h)
 have MB:=h! (λi er w h=>a4! g c A ts i er [93] w h)
 have ME:=h! (λi er w h=>a4! g c A ts i er [61] w h)
 have EX:=h! (λi er w h=>r1! g c A ts i er w h)
 have GO:stmtD (d+1) (ts.drop i)=stP h2! ts i 0:=by
  rw[a86! d _ (by rw[a1! ht];simp[kindT,hk])];unfold stP;rw[if_pos rfl]
 rw[GO,a83!]
 have ek:((t.kind:Int)==1)=true:=by rw[hk];decide
 clear h f0 x0 GO ht hk
 go_enter Tryz.func153,Tryz.ntmps153
 go_upto_region 1 with fail
 rw[eW.out]
 clear eW
 have N1:=h! (NW.out W0 P0.out)
 go_wp2_with fail
 refine N1.out.mono ?_
 rintro e w1⟨rfl,b1⟩
 have z1:=b1.size
 have X1:=b! X0 b1
 have K1:=e! K0 b1
 have P1:=h! (P0.out.below b1)
 have J1:=o! g b1
 clear b1 K0 P0 X0
 go_wp2_with fail
 rw[c4!]
 go_wp2_with fail
 refine(NM.out i 0 w1 P1.out).mono ?_
 rintro e w2⟨v2,rfl,k2,⟨s2,rfl⟩,i2,er2,p2,ps2⟩
 have z2:=k2.size
 have X2:=k! X1 k2
 have K2:=q! K1 k2
 have P2:=h! p2
 have PS2:=h! ps2
 have J2:=h! k2
 clear p2 k2 ps2 K1 P1 X1
 go_wp2_with fail
 obtain⟨W3,eW,f3,Y3,z3⟩:=n! w2 29 #[.I 0,.string s2,.N,.I 0,.I 0,.N,.N]
 replace Y3:=h! Y3
 have P3:=h! (P2.out.below f3)
 have X3:=b! X2 f3
 have K3:=e! K2 f3
 have J3:=o! g f3
 have xl3:=X2.out.lt
 clear f3 K2 P2 X2
 rw[eW.out]
 clear eW
 clear NW N1
 have IS:=h! (d3! g c A ts i2 er2 (str [91]) W3 P3.out)
 rw[k8!]at IS
 have HM:=h! (λhx=>h8! P3.out (x:=[91]) hx)
 obtain⟨bb,hbb⟩:∃b,hasT [91] (ts.drop i2)=b:=⟨_,rfl⟩
 rw[hbb]at IS HM
 have HBB:=h! hbb
 clear hbb
 cases bb
 ·refine IS.out.mono ?_
  rintro e w4⟨rfl,b4⟩;have z4:=b4.size;have X4:=b! X3 b4;have Y4:=b! Y3 b4;have K4:=e! K3 b4;have P4:=h! (P3.out.below b4);have J4:=o! g b4;clear b4 K3 P3 X3 Y3;go_wp2_with fail;refine(ME.out i2 er2 w4 P4.out).mono ?_;rintro e w5⟨v5,rfl,k5,rfl,i5,er5,p5,ps5⟩;have z5:=k5.size;have X5:=k! X4 k5;have Y5:=k! Y4 k5;have K5:=q! K4 k5;have P5:=h! p5;have PS5:=h! ps5;have J5:=h! k5;clear p5 k5 ps5 K4 P4 X4 Y4;go_upto_region 9 with fail;obtain⟨vo6,hvo6⟩:∃v:Value,v=.N:=⟨_,rfl⟩
  have OW6:Hid (w5.drew.ownsRow w.heap.size 24 4 vo6 (0) []):=by rw[hvo6];exact World.ownsRow.drew (World.ownsRow_nil w5 w.heap.size 24 4)
  have KD6:Hid (∀z,vo6.ownBlock=some z->¬z=g):=by rw[hvo6];exact λz hz _=>absurd (show (none:Option Nat)=some z from hz) (by simp)
  have fw6:w5.drew.frozen? ⟨w2.heap.size,2,none⟩=false:=Y5.out.frozen 2;have qw6:w5.drew.cell? ⟨w2.heap.size,2,none⟩=some vo6:=by rw[hvo6];exact Y5.out.cell 2
  have PD6:=h! (P5.out.below (Below.refl _ w5).drew);have CL6:=h! (EX.out i5 er5 w5.drew PD6.out);have zd6:w5.drew.heap.size=w5.heap.size:=rfl;have Q6:Hid (∀w',Blk w' (w2.heap.size) 29 #[.I 0,.string s2,.N,.I 0,.I 0,.N,.N]->w'.cell? ⟨w2.heap.size,2,none⟩=some vo6∧w'.frozen? ⟨w2.heap.size,2,none⟩=false):=by rw[hvo6];exact λ_ h=>⟨h.cell 2,h.frozen 2⟩
  have YD6:=h! (Y5.out.drew);have HVO6:=h! hvo6;clear hvo6;obtain⟨j0,hj0,hy0,hy1,hy2⟩:=info_parts w2!;have HV6:Hid (∀z,vo6.ownBlock=some z->w.heap.size<z∧z<w5.heap.size∧z≠w2.heap.size):=by rw[HVO6.out];exact λz hz=>absurd (show (none:Option Nat)=some z from hz) (by simp)
  go_cut [] (λwc=>Hid (w3! w5 g c A ts (stP exprP ts i5 er5) w.heap.size (w2.heap.size) (λv:Value=>#[.I 0,.string s2,v,.I 0,.I 0,.N,.N]) vo6 0 [] wc))
  case first=>
   go_region_law
    (first
     |(refine g5! _ (by rfl) (.tmp 38) (.tmp 41) _ (by rfl) w.heap.size 24 j0 _ 4 56 Tryz.underlying22 hj0 hy0 hy1 hy2 rfl (by omega) vo6 (0) [] (by rfl) o6.out _ _ 1 1 [.I op6,.I N6,.string nm6,.slice B6 l6 q6] (by rfl) RD6.out ON6.out (by unfold maxLen;omega) (by omega) (by simp;omega) ?_;intro u6 x6 r6 g6 t6;obtain⟨A6,c6,rfl,hb6⟩:=b2! r6;have yz6:=(y6.alloc (.cells #[.I op6,.I N6,.string nm6,.slice B6 l6 q6] 24)).kept (Kept.of_grown (S:=λz=>vo6.ownBlock=some z) g6 (λ_ e=>e)) (λe=>by rw[HVO6.out]at e;exact absurd (show (none:Option Nat)=some _ from e) (by simp));obtain⟨qz6,fz6⟩:=Q6.out _ yz6;have R6:=h! r6;have G6:=h! g6;have T6:=h! t6;clear r6 g6 t6)
     |(go_simp;go_at_call 47;(with_reducible refine CL6.out.mono ?_);rintro e w6⟨v6,rfl,k6,⟨op6,N6,nm6,B6,l6,q6,rfl⟩,i6,er6,p6,ps6⟩;have y6:=YD6.out.kept k6 (by omega);obtain⟨qy6,fy6⟩:=Q6.out _ y6;obtain⟨qx6,fx6⟩:=Q6.out _ (y6.alloc (.cells #[.I op6,.I N6,.string nm6,.slice B6 l6 q6] 24));have z6:=k6.size;have o6:=h! (World.ownsRow.alloc (a6! OW6.out k6 KD6.out) (.cells #[.I op6,.I N6,.string nm6,.slice B6 l6 q6] 24));have RD6:=h! (d1! w6 24 #[.I op6,.I N6,.string nm6,.slice B6 l6 q6] 4 rfl);have ON6:=h! (one4 op6 N6 nm6 B6 l6 q6);have K6:=h! k6;have P6:=h! p6;have PS6:=h! ps6;clear p6 ps6 k6))
   all_goals
    go_wp2_with fail;go_meet
    case rel=>exact w4! (yc:=(λv:Value=>#[.I 0,.string s2,v,.I 0,.I 0,.N,.N])) HH.out K5.out (Nat.le_refl _) K6.out P6.out PS6.out (by rw[HVO6.out];exact y6) R6.out G6.out T6.out HV6.out (by omega) (by omega) (by omega) (λ_ _=>rfl)
  case rest=>
  obtain⟨A6,c6,cs6,i6,er6,zm6,y6,p6,k6,o6,hl6,ps6,za6,zb6,hb6⟩:=hcut.out;obtain⟨w6,rfl⟩:∃x,x=wc:=⟨_,rfl⟩
  clear hcut CL6 PD6 Q6 YD6 OW6 fw6 qw6 hj0 hy0 hy1 hy2;have z6:=k6.size;have Y6:Hid (Blk w6 (w2.heap.size) 29 #[.I 0,.string s2,.slice A6 (0+1) c6,.I 0,.I 0,.N,.N]):=y6;have HW6:=h! HV6.out;have HZ6:Hid (∀z,vo6.ownBlock=some z->0<=z):=by rw[HVO6.out];exact λz _=>Nat.zero_le z
  have X6:=h! (X5.out.kept k6 (λe=>by rcases e with e|e|e<;>first|omega|(have:=HW6.out _ e;omega)));have K6:=h! (K5.out.then_ k6 (λz hz e=>by rcases e with e|e|e<;>first|omega|(have:=HW6.out _ e;omega)));have P6:=h! p6;have PS6:=h! (PS5.out.then_ ps6);have J6:=h! k6;have OO6:=h! o6;have HL6:=h! hl6;have HB6:=h! hb6;clear p6 k6 ps6 y6 o6 hl6 hb6 K5 P5 X5 Y5 PS5;have HBz6:Hid (∀z,(Value.slice A6 (0+1) c6).ownBlock=some z->zm6<=z):=λz hz=>(HB6.out z hz).resolve_left (by rw[HVO6.out];exact λh=>absurd (show (none:Option Nat)=some z from h) (by simp))
  have hol6:=h! (c2! OO6.out);go_upto_region 10 with fail;obtain⟨qc0,qc1,qc2,qc3,qc4,qc5,qc6⟩:=Y6.out.A7;have hx:=X6.out;obtain⟨sc0,sc1,sc2,sc3,sc4,sc5,sc6⟩:=hx.A7;obtain⟨tc0,tc1,tc2,tc3,tc4,tc5,tc6⟩:=hx.F7;go_wp2_with fail;obtain⟨W9,e9,X9,k9⟩:=hx.e7 (.I 0) (.string s2) (.slice A6 (0+1) c6) (.I 0) (.I 0) (.N) (.N);rw[e9];clear e9;clear sc0 sc1 sc2 sc3 sc4 sc5 sc6 qc0 qc1 qc2 qc3 qc4 qc5 qc6;obtain⟨sc0,sc1,sc2,sc3,sc4,sc5,sc6⟩:=X9.A7;have KK:Kept (λz=>z=g) w W9:=K6.out.then_ k9 (λz hz e=>by omega);have TA:Hid (Kept (λz=>z<w5.heap.size∨zm6<=z) w6 W9):=d! k9;have O9:W9.ownsRow w.heap.size 24 4 (.slice A6 (0+1) c6) (0+1) ([]++cs6):=a6! OO6.out k9 (λz hz e=>by have:=HBz6.out z hz;omega);have PSs:DsAt ts i6 er6 (stP bodyP ts i2 er2) (λb:Int×List Ex=>b.1=0∧ElsG (λk=>w.heap.size<=k) W9 4 1000000 (QG (λk=>w.heap.size<=k) W9) A6 (0+1) b.2):=by
   refine DsAt.noskip (x:=[91]) (f:=bodyP) (a:=putT) (b:=setT) (λr=>rfl) HBB.out ?_;rw[a85!];refine PS6.out.map _ ?_;rintro⟨u1,x1⟩ ⟨-,h1⟩;refine⟨rfl,h6! (Q:=QG) O9 (by omega) rfl (λj hj=>?_)⟩
   match j,hj with
   |0,_=>
    rw[Nat.zero_mul,List.drop_zero,List.nil_append,List.take_of_length_le (by rw[HL6.out];omega)];exact f5! _ _ _ _ _ _ _ TA.out (λk _ hd e=>by omega) (λk _ hd=>by omega) h1
   |j+1,hj=>simp at hj
  refine bodyPost_ret (v:=.agg #[.I 0,.string s2,.slice A6 (0+1) c6,.I 0,.I 0,.N,.N]) (by simp[results,Tryz.results153,go_sem,sc0,sc1,sc2,sc3,sc4,sc5,sc6]) rfl ⟨_,rfl,KK,⟨_,_,_,_,_,_,_,_,_,_,_,_,_,rfl⟩,i6,er6,HH.out.putp P6.out.at_ (P6.out.blk.kept k9 (by omega)) KK,(PS2.out.then_ PSs).map _ ?_⟩;rintro⟨a1,b⟩ ⟨h1,h2,h3⟩;injection h1 with h1;refine⟨_,rfl,A6,0+1,c6,none,0,0,none,0,0,?_,h3,ElsG.none_ _ _ _ _ _ _,ElsG.none_ _ _ _ _ _ _⟩;rw[h1,h2]
 ·have hm:=HM.out rfl
  refine IS.out.mono ?_;rintro e w4⟨rfl,b4⟩;have z4:=b4.size;have X4:=b! X3 b4;have Y4:=b! Y3 b4;have K4:=e! K3 b4;have P4:=h! (P3.out.below b4);have J4:=o! g b4;clear b4 K3 P3 X3 Y3;go_upto_region 4 with fail;have fz:=Y4.out.frozen 0;have ez:=Y4.out.c0;go_upto_region 5 with fail;obtain⟨W5,e9,Y5,k5⟩:=Y4.out.u0 (.I 1);rw[e9];clear e9;have X5:=k! X4 k5;have K5:=t! K4 k5;have P5:=h! (HH.out.putp P4.out.at_ (P4.out.blk.kept k5 (by omega)) K5.out);have J5:=h! k5;have z5:=k5.size;clear k5 Y4 X4 K4 P4;clear fz ez;have y1:=P5.out.blk.c1;have u1:=P5.out.blk.frozen 1;have wi:=y! ((i2:Int)+1);obtain⟨d6,k6⟩:=P5.out.pass hm;go_upto_region 6 with fail;clear y1 u1 wi;have X6:=k! X5 k6;have Y6:=k! Y5 k6;have K6:=q! K5 k6;have P6:=h! d6;have J6:=h! k6;have z6:=k6.size;clear d6 k6 K5 P5 hm X5 Y5;generalize W5.setCell ⟨g,1,none⟩ (.I ((i2:Int)+1))=W6 at*;go_upto_region 6 with fail;obtain⟨vo7,hvo7⟩:∃v:Value,v=.N:=⟨_,rfl⟩
  have OW7:Hid (W6.drew.ownsRow w.heap.size 24 4 vo7 (0) []):=by rw[hvo7];exact World.ownsRow.drew (World.ownsRow_nil W6 w.heap.size 24 4)
  have KD7:Hid (∀z,vo7.ownBlock=some z->¬z=g):=by rw[hvo7];exact λz hz _=>absurd (show (none:Option Nat)=some z from hz) (by simp)
  have fw7:W6.drew.frozen? ⟨w2.heap.size,2,none⟩=false:=Y6.out.frozen 2;have qw7:W6.drew.cell? ⟨w2.heap.size,2,none⟩=some vo7:=by rw[hvo7];exact Y6.out.cell 2
  have PD7:=h! (P6.out.below (Below.refl _ W6).drew);have CL7:=h! (EX.out (i2+1) er2 W6.drew PD7.out);have zd7:W6.drew.heap.size=W6.heap.size:=rfl;have Q7:Hid (∀w',Blk w' (w2.heap.size) 29 #[.I 1,.string s2,.N,.I 0,.I 0,.N,.N]->w'.cell? ⟨w2.heap.size,2,none⟩=some vo7∧w'.frozen? ⟨w2.heap.size,2,none⟩=false):=by rw[hvo7];exact λ_ h=>⟨h.cell 2,h.frozen 2⟩
  have YD7:=h! (Y6.out.drew);have HVO7:=h! hvo7;clear hvo7;obtain⟨j0,hj0,hy0,hy1,hy2⟩:=info_parts w2!;have HV7:Hid (∀z,vo7.ownBlock=some z->w.heap.size<z∧z<W6.heap.size∧z≠w2.heap.size):=by rw[HVO7.out];exact λz hz=>absurd (show (none:Option Nat)=some z from hz) (by simp)
  go_cut [] (λwc=>Hid (w3! W6 g c A ts (stP exprP ts (i2+1) er2) w.heap.size (w2.heap.size) (λv:Value=>#[.I 1,.string s2,v,.I 0,.I 0,.N,.N]) vo7 0 [] wc))
  case first=>
   go_region_law
    (first
     |(refine g5! _ (by rfl) (.tmp 27) (.tmp 30) _ (by rfl) w.heap.size 24 j0 _ 4 56 Tryz.underlying22 hj0 hy0 hy1 hy2 rfl (by omega) vo7 (0) [] (by rfl) o7.out _ _ 1 1 [.I op7,.I N7,.string nm7,.slice B7 l7 q7] (by rfl) RD7.out ON7.out (by unfold maxLen;omega) (by omega) (by simp;omega) ?_;intro u7 x7 r7 g7 t7;obtain⟨A7,c7,rfl,hb7⟩:=b2! r7;have yz7:=(y7.alloc (.cells #[.I op7,.I N7,.string nm7,.slice B7 l7 q7] 24)).kept (Kept.of_grown (S:=λz=>vo7.ownBlock=some z) g7 (λ_ e=>e)) (λe=>by rw[HVO7.out]at e;exact absurd (show (none:Option Nat)=some _ from e) (by simp));obtain⟨qz7,fz7⟩:=Q7.out _ yz7;have R7:=h! r7;have G7:=h! g7;have T7:=h! t7;clear r7 g7 t7)
     |(go_simp;go_at_call 47;(with_reducible refine CL7.out.mono ?_);rintro e w7⟨v7,rfl,k7,⟨op7,N7,nm7,B7,l7,q7,rfl⟩,i7,er7,p7,ps7⟩;have y7:=YD7.out.kept k7 (by omega);obtain⟨qy7,fy7⟩:=Q7.out _ y7;obtain⟨qx7,fx7⟩:=Q7.out _ (y7.alloc (.cells #[.I op7,.I N7,.string nm7,.slice B7 l7 q7] 24));have z7:=k7.size;have o7:=h! (World.ownsRow.alloc (a6! OW7.out k7 KD7.out) (.cells #[.I op7,.I N7,.string nm7,.slice B7 l7 q7] 24));have RD7:=h! (d1! w7 24 #[.I op7,.I N7,.string nm7,.slice B7 l7 q7] 4 rfl);have ON7:=h! (one4 op7 N7 nm7 B7 l7 q7);have K7:=h! k7;have P7:=h! p7;have PS7:=h! ps7;clear p7 ps7 k7))
   all_goals
    go_wp2_with fail;go_meet
    case rel=>exact w4! (yc:=(λv:Value=>#[.I 1,.string s2,v,.I 0,.I 0,.N,.N])) HH.out K6.out (Nat.le_refl _) K7.out P7.out PS7.out (by rw[HVO7.out];exact y7) R7.out G7.out T7.out HV7.out (by omega) (by omega) (by omega) (λ_ _=>rfl)
  case rest=>
  obtain⟨A7,c7,cs7,i7,er7,zm7,y7,p7,k7,o7,hl7,ps7,za7,zb7,hb7⟩:=hcut.out;obtain⟨w7,rfl⟩:∃x,x=wc:=⟨_,rfl⟩
  clear hcut CL7 PD7 Q7 YD7 OW7 fw7 qw7 hj0 hy0 hy1 hy2;have z7:=k7.size;have Y7:Hid (Blk w7 (w2.heap.size) 29 #[.I 1,.string s2,.slice A7 (0+1) c7,.I 0,.I 0,.N,.N]):=y7;have HW7:=h! HV7.out;have HZ7:Hid (∀z,vo7.ownBlock=some z->0<=z):=by rw[HVO7.out];exact λz _=>Nat.zero_le z
  have X7:=h! (X6.out.kept k7 (λe=>by rcases e with e|e|e<;>first|omega|(have:=HW7.out _ e;omega)));have K7:=h! (K6.out.then_ k7 (λz hz e=>by rcases e with e|e|e<;>first|omega|(have:=HW7.out _ e;omega)));have P7:=h! p7;have PS7:=h! ps7;have J7:=h! k7;have OO7:=h! o7;have HL7:=h! hl7;have HB7:=h! hb7;clear p7 k7 ps7 y7 o7 hl7 hb7 K6 P6 X6 Y6;have HBz7:Hid (∀z,(Value.slice A7 (0+1) c7).ownBlock=some z->zm7<=z):=λz hz=>(HB7.out z hz).resolve_left (by rw[HVO7.out];exact λh=>absurd (show (none:Option Nat)=some z from h) (by simp))
  have hol7:=h! (c2! OO7.out);go_wp2_with fail;refine(MB.out i7 er7 w7 P7.out).mono ?_;rintro e w8⟨v8,rfl,k8,rfl,i8,er8,p8,ps8⟩;have z8:=k8.size;have X8:=k! X7 k8;have Y8:=k! Y7 k8;have K8:=q! K7 k8;have P8:=h! p8;have PS8:=h! (PS7.out.then_ ps8);have J8:=h! k8;clear p8 k8 ps8 K7 P7 X7 Y7 PS7;go_wp2_with fail;refine(ME.out i8 er8 w8 P8.out).mono ?_;rintro e w9⟨v9,rfl,k9,rfl,i9,er9,p9,ps9⟩;have z9:=k9.size;have X9:=k! X8 k9;have Y9:=k! Y8 k9;have K9:=q! K8 k9;have P9:=h! p9;have PS9:=h! (PS8.out.then_ ps9);have J9:=h! k9;clear p9 k9 ps9 K8 P8 X8 Y8 PS8;have OZ:Hid (w9.ownsRow w.heap.size 24 4 (.slice A7 (0+1) c7) (0+1) ([]++cs7)):=a6! (a6! OO7.out J8.out (λz hz e=>by have:=HBz7.out z hz;omega)) J9.out (λz hz e=>by have:=HBz7.out z hz;omega);go_upto_region 9 with fail;obtain⟨vo10,hvo10⟩:∃v:Value,v=.slice A7 (0+1) c7:=⟨_,rfl⟩
  have OW10:Hid (w9.drew.ownsRow w.heap.size 24 4 vo10 ((0+1)) ([]++cs7)):=by rw[hvo10];exact World.ownsRow.drew OZ.out
  have KD10:Hid (∀z,vo10.ownBlock=some z->¬z=g):=by rw[hvo10];exact λz hz e=>by have:=HBz7.out z hz;omega
  have fw10:w9.drew.frozen? ⟨w2.heap.size,2,none⟩=false:=Y9.out.frozen 2;have qw10:w9.drew.cell? ⟨w2.heap.size,2,none⟩=some vo10:=by rw[hvo10];exact Y9.out.cell 2
  have PD10:=h! (P9.out.below (Below.refl _ w9).drew);have CL10:=h! (EX.out i9 er9 w9.drew PD10.out);have zd10:w9.drew.heap.size=w9.heap.size:=rfl;have Q10:Hid (∀w',Blk w' (w2.heap.size) 29 #[.I 1,.string s2,.slice A7 (0+1) c7,.I 0,.I 0,.N,.N]->w'.cell? ⟨w2.heap.size,2,none⟩=some vo10∧w'.frozen? ⟨w2.heap.size,2,none⟩=false):=by rw[hvo10];exact λ_ h=>⟨h.cell 2,h.frozen 2⟩
  have YD10:=h! (Y9.out.drew);have HVO10:=h! hvo10;clear hvo10;obtain⟨j0,hj0,hy0,hy1,hy2⟩:=info_parts w2!;have HV10:Hid (∀z,vo10.ownBlock=some z->w.heap.size<z∧z<w9.heap.size∧z≠w2.heap.size):=by rw[HVO10.out];exact λz hz=>⟨by have:=HBz7.out z hz;omega,by have:=hol7.out z hz;omega,by have:=HBz7.out z hz;omega⟩
  go_cut [] (λwc=>Hid (w3! w9 g c A ts (stP exprP ts i9 er9) w.heap.size (w2.heap.size) (λv:Value=>#[.I 1,.string s2,v,.I 0,.I 0,.N,.N]) vo10 (0+1) ([]++cs7) wc))
  case first=>
   go_region_law
    (first
     |(refine g5! _ (by rfl) (.tmp 38) (.tmp 41) _ (by rfl) w.heap.size 24 j0 _ 4 56 Tryz.underlying22 hj0 hy0 hy1 hy2 rfl (by omega) vo10 ((0+1)) ([]++cs7) (by rfl) o10.out _ _ 1 1 [.I op10,.I N10,.string nm10,.slice B10 l10 q10] (by rfl) RD10.out ON10.out (by unfold maxLen;omega) (by omega) (by simp;omega) ?_;intro u10 x10 r10 g10 t10;obtain⟨A10,c10,rfl,hb10⟩:=b2! r10;have yz10:=(y10.alloc (.cells #[.I op10,.I N10,.string nm10,.slice B10 l10 q10] 24)).kept (Kept.of_grown (S:=λz=>vo10.ownBlock=some z) g10 (λ_ e=>e)) (λe=>by rw[HVO10.out]at e;have:=HBz7.out _ e;omega);obtain⟨qz10,fz10⟩:=Q10.out _ yz10;have R10:=h! r10;have G10:=h! g10;have T10:=h! t10;clear r10 g10 t10)
     |(go_simp;go_at_call 47;(with_reducible refine CL10.out.mono ?_);rintro e w10⟨v10,rfl,k10,⟨op10,N10,nm10,B10,l10,q10,rfl⟩,i10,er10,p10,ps10⟩;have y10:=YD10.out.kept k10 (by omega);obtain⟨qy10,fy10⟩:=Q10.out _ y10;obtain⟨qx10,fx10⟩:=Q10.out _ (y10.alloc (.cells #[.I op10,.I N10,.string nm10,.slice B10 l10 q10] 24));have z10:=k10.size;have o10:=h! (World.ownsRow.alloc (a6! OW10.out k10 KD10.out) (.cells #[.I op10,.I N10,.string nm10,.slice B10 l10 q10] 24));have RD10:=h! (d1! w10 24 #[.I op10,.I N10,.string nm10,.slice B10 l10 q10] 4 rfl);have ON10:=h! (one4 op10 N10 nm10 B10 l10 q10);have K10:=h! k10;have P10:=h! p10;have PS10:=h! ps10;clear p10 ps10 k10))
   all_goals
    go_wp2_with fail;go_meet
    case rel=>exact w4! (yc:=(λv:Value=>#[.I 1,.string s2,v,.I 0,.I 0,.N,.N])) HH.out K9.out (Nat.le_refl _) K10.out P10.out PS10.out (by rw[HVO10.out];exact y10) R10.out G10.out T10.out HV10.out (by omega) (by omega) (by omega) (λ_ _=>rfl)
  case rest=>
  obtain⟨A10,c10,cs10,i10,er10,zm10,y10,p10,k10,o10,hl10,ps10,za10,zb10,hb10⟩:=hcut.out;obtain⟨w10,rfl⟩:∃x,x=wc:=⟨_,rfl⟩
  clear hcut CL10 PD10 Q10 YD10 OW10 fw10 qw10 hj0 hy0 hy1 hy2;have z10:=k10.size;have Y10:Hid (Blk w10 (w2.heap.size) 29 #[.I 1,.string s2,.slice A10 ((0+1)+1) c10,.I 0,.I 0,.N,.N]):=y10;have HW10:=h! HV10.out;have HZ10:Hid (∀z,vo10.ownBlock=some z->zm7<=z):=by rw[HVO10.out];exact HBz7.out
  have X10:=h! (X9.out.kept k10 (λe=>by rcases e with e|e|e<;>first|omega|(have:=HW10.out _ e;omega)));have K10:=h! (K9.out.then_ k10 (λz hz e=>by rcases e with e|e|e<;>first|omega|(have:=HW10.out _ e;omega)));have P10:=h! p10;have PS10:=h! (PS9.out.then_ ps10);have J10:=h! k10;have OO10:=h! o10;have HL10:=h! hl10;have HB10:=h! hb10;clear p10 k10 ps10 y10 o10 hl10 hb10 K9 P9 X9 Y9 PS9;go_upto_region 10 with fail;obtain⟨qc0,qc1,qc2,qc3,qc4,qc5,qc6⟩:=Y10.out.A7;have hx:=X10.out;obtain⟨sc0,sc1,sc2,sc3,sc4,sc5,sc6⟩:=hx.A7;obtain⟨tc0,tc1,tc2,tc3,tc4,tc5,tc6⟩:=hx.F7;go_wp2_with fail;obtain⟨W9,e9,X9,k9⟩:=hx.e7 (.I 1) (.string s2) (.slice A10 (0+1+1) c10) (.I 0) (.I 0) (.N) (.N);rw[e9];clear e9;clear sc0 sc1 sc2 sc3 sc4 sc5 sc6 qc0 qc1 qc2 qc3 qc4 qc5 qc6;obtain⟨sc0,sc1,sc2,sc3,sc4,sc5,sc6⟩:=X9.A7;have KK:Kept (λz=>z=g) w W9:=K10.out.then_ k9 (λz hz e=>by omega);have TA:Hid (Kept (λz=>z<W6.heap.size∨zm7<=z) w7 W9):=i! J8 (i! J9 (i! J10 (d! k9) (λz hz e=>by rcases e with e|e|e<;>first|omega|(have:=HW10.out _ e;have:=HZ10.out _ e;omega))));have TB:Hid (Kept (λz=>z<w9.heap.size∨zm10<=z) w10 W9):=d! k9;have O9:W9.ownsRow w.heap.size 24 4 (.slice A10 (0+1+1) c10) (0+1+1) ([]++cs7++cs10):=a6! OO10.out k9 (λz hz e=>by rcases HB10.out z hz with h|h<;>first|omega|(have:=HZ10.out z h;omega));have PSs:DsAt ts i10 er10 (stP bodyP ts i2 er2) (λb:Int×List Ex=>b.1=1∧ElsG (λk=>w.heap.size<=k) W9 4 1000000 (QG (λk=>w.heap.size<=k) W9) A10 (0+1+1) b.2):=by
   refine DsAt.skip (x:=[91]) (f:=bodyP) (a:=putT) (b:=setT) (λr=>rfl) HBB.out ?_;rw[a84!];refine PS10.out.map _ ?_;rintro⟨⟨⟨x1,u1⟩,u2⟩,x2⟩ ⟨⟨⟨h1,-⟩,-⟩,h2⟩;refine⟨rfl,h6! (Q:=QG) O9 (by omega) rfl (λj hj=>?_)⟩
   match j,hj with
   |0,_=>
    rw[Nat.zero_mul,List.drop_zero,List.nil_append,List.take_append_of_le_length (by rw[HL7.out];omega),List.take_of_length_le (by rw[HL7.out];omega)];exact f5! _ _ _ _ _ _ _ TA.out (λk _ hd e=>by omega) (λk _ hd=>by omega) h1
   |1,_=>
    rw[Nat.one_mul,List.nil_append,List.drop_append_of_le_length (by rw[HL7.out];omega),List.drop_of_length_le (by rw[HL7.out];omega),List.nil_append,List.take_of_length_le (by rw[HL10.out];omega)];exact f5! _ _ _ _ _ _ _ TB.out (λk _ hd e=>by omega) (λk _ hd=>by omega) h2
   |j+2,hj=>simp at hj;omega
  refine bodyPost_ret (v:=.agg #[.I 1,.string s2,.slice A10 (0+1+1) c10,.I 0,.I 0,.N,.N]) (by simp[results,Tryz.results153,go_sem,sc0,sc1,sc2,sc3,sc4,sc5,sc6]) rfl ⟨_,rfl,KK,⟨_,_,_,_,_,_,_,_,_,_,_,_,_,rfl⟩,i10,er10,HH.out.putp P10.out.at_ (P10.out.blk.kept k9 (by omega)) KK,(PS2.out.then_ PSs).map _ ?_⟩;rintro⟨a1,b⟩ ⟨h1,h2,h3⟩;injection h1 with h1;refine⟨_,rfl,A10,0+1+1,c10,none,0,0,none,0,0,?_,h3,ElsG.none_ _ _ _ _ _ _,ElsG.none_ _ _ _ _ _ _⟩;rw[h1,h2]
theorem b50!(g c:Nat)(A:Option Addr)(ts:List Tk)(hw:TW ts):∀d,d<=16->d≠0->r2! g c A ts d
 |0,_,h=>absurd rfl h
 |d+1,hd,_=>by
  have H:d≠0->r2! g c A ts d:=λh=>b50! g c A ts hw d (by omega) h
  intro dp i w hdp h hb
  obtain⟨t,ht⟩:=h.one;rw[a1! ht]at hb
  simp only[a7!,Bool.or_eq_true,Bool.and_eq_true,decide_eq_true_eq]at hb
  rcases hb with hk|⟨hk,hx⟩
  ·exact e36! g c A ts d dp i w h t ht hk
  ·simp only[beginW,List.mem_cons,List.not_mem_nil,or_false]at hx
   rcases hx with hx|hx|hx|hx|hx|hx|hx|hx
   ·exact e35! g c A ts d (by omega) hw H dp hdp i w h t ht hk hx
   ·exact e33! g c A ts d (by omega) hw H dp hdp i w h t ht hk hx
   ·exact e28! g c A ts d dp i w h t ht hk hx
   ·exact e30! g c A ts d dp i w h t ht hk hx
   ·exact e31! g c A ts d dp i w h t ht hk hx
   ·exact e29! g c A ts d dp i w h t ht hk hx
   ·exact e34! g c A ts d dp i w h t ht hk hx
   ·exact e32! g c A ts d dp i w h t ht hk hx
theorem r5!(g c:Nat)(A:Option Addr)(ts:List Tk)(hw:TW ts)(i:Nat)(er:Int)(w:World)(h:DP w g A c ts i er):
 Calls Tryz.prog 106 #[.pointer (some ⟨g,0,none⟩)] w (DStep w g c A ts (stP partP ts i er) (IsRow 7 (QR 16) w.heap.size) ShL):=by
 have P0:=h! h
 have hgl:=h.blk.lt
 have LS:=h! (λi er w h=>a23! g c A ts hw 16 (by omega) (b50! g c A ts hw 16 (by omega)) 1 (by decide) i er w h)
 have MU:=h! (λi er w h=>a4! g c A ts i er [101,110,100] w h)
 rw[a81!]
 clear h hw
 go_enter Tryz.func106,Tryz.ntmps106
 go_wp2_with fail
 refine(LS.out i er w P0.out).mono ?_
 rintro e w1⟨v,rfl,k1,⟨A1,n1,c1,rfl⟩,i1,er1,p1,ps1⟩
 have K1:=h! k1
 have P1:=h! p1
 have PS1:=h! ps1
 have z1:=k1.size
 clear k1 p1 ps1
 go_wp2_with fail
 refine(MU.out i1 er1 w1 P1.out).mono ?_
 rintro e w2⟨v,rfl,k2,rfl,i2,er2,p2,ps2⟩
 have PS2:=h! (PS1.out.then_ ps2)
 have K2:=h! k2
 have P2:=h! p2
 clear k2 p2 ps2
 go_wp2_with fail
 go_ret
 exact⟨_,rfl,K1.out.then_ K2.out (λ_ _ e=>e),⟨_,_,_,rfl⟩,i2,er2,P2.out,PS2.out.map (λx=>x.1) λl hl=>hl.1.kept (c7! 16) (Nat.le_refl _) K2.out (λz _ hz e=>by omega)⟩
end Go.Proofs.YtdgekckedchjbaaGreatDoor
