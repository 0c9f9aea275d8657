
/-
 The parser of programs: a statement. (Printed by wip/tools/gens27.py.)
-/
import Derived.Test.YtdgekckedchjbaaGreatDoorQI
import Derived.Deep.RegionHeld3
set_option maxHeartbeats 4000000
set_option maxRecDepth 100000
namespace Go.Proofs.YtdgekckedchjbaaGreatDoor
open Go.RowKit
theorem d05!{base:Nat}{w:World}{t:TypeId}{b:Nat}{cs ds:List Value}{x y:Ex}(hb:Blk w b t (List.toArray (cs++ds)))(hl:cs.length=4)(hl2:ds.length=4)(hB:base<=b)(h:QE (λk=>base<=k) w cs x)(h2:QE (λk=>base<=k) w ds y):ElsG (λk=>base<=k) w 4 1000000 (QE (λk=>base<=k) w) (some ⟨b,0,none⟩) 2 [x,y]:=by
 have ho:w.ownsRow base t 4 (.slice (some ⟨b,0,none⟩) 2 2) 2 (cs++ds):=⟨by simp[hl,hl2],.inr ⟨b,2,List.toArray (cs++ds),rfl,hB,hb,Nat.le_refl _,by unfold maxLen;omega,by simp[hl,hl2],by rw[List.take_of_length_le (by simp[hl,hl2])]⟩⟩
 refine h6! (Q:=QE) ho (by omega) rfl λi hi=>?_
 match i,hi with
 |0,_=>
  rw[Nat.zero_mul,List.drop_zero,List.take_append_of_le_length (by omega),List.take_of_length_le (by omega)];exact h
 |1,_=>
  rw[Nat.one_mul,List.drop_append_of_le_length (by omega),List.drop_of_length_le (by omega),List.nil_append,List.take_of_length_le (by omega)];exact h2
 |i+2,hi=>simp at hi;omega
theorem d06!(g c:Nat)(A:Option Addr)(m:Nat->Nat)(ts:List Tk)(d:Nat)(dp:Int)(hd:dp+((d+1:Nat):Int)=16)(h0:0<=dp)(i:Nat)(w:World)(h:Par w g A c m ts i dp 0)(t:Tk)(ht:ts[i]?=some t)(hk:t.kind=3)(hx:t.text=[112,97,121]):
 Calls Tryz.prog 92 #[.pointer (some ⟨g,0,none⟩)] w (a8! w g c A m ts dp (stmtD (d+1) (ts.drop i)) (IsEl (QS (d+1)) w.heap.size) ShSt):=by
 obtain⟨WB,eW,f0,x0,z0⟩:=n! w 95 #[.I 0,.E,.N,.I 0,.I 0,.N,.N]
 have hgl:=h.blk.lt
 have HH:=h! h
 have PB0:=h! (h.below f0)
 have XB0:=h! x0
 have KB0:=o! g f0
 have hdd:dp<16:=by omega
 have N1:Hid (∀w',Par w' g A c m ts i dp 0->Calls Tryz.prog 53 #[.pointer (some ⟨g,0,none⟩),.I 1] w' (Still w' (.bool false))):=λw' h'=>by
  have:=c9! g c A m ts i dp 0 1 w' h' t ht
  rwa[show nextB t 0 1=false from by simp[nextB,hk]]at this
 have TK:Hid (∀w',Par w' g A c m ts i dp 0->Calls Tryz.prog 87 #[.pointer (some ⟨g,0,none⟩),.I 3] w' (ParTo w' g c A m ts dp (tkVal t) (i+1) 0)):=λw' h'=>by
  have:=e9! g c A m ts i dp 0 3 w' h' t ht (by decide)
  rwa[show nextB t 0 3=true from by simp[nextB,hk]]at this
 have EX:=h! (λi er w h=>p5! g c A m ts i dp er w h)
 have GO:stmtD (d+1) (ts.drop i)=stP payP ts (i+1) 0:=by
  rw[a1! ht,f0! d t _ hk,hx];rw[if_neg (by decide)];rw[if_neg (by decide)];rw[if_neg (by decide)];rw[if_neg (by decide)];rw[if_neg (by decide)];rw[if_neg (by decide)];rw[if_pos rfl];unfold stP;rw[if_pos rfl]
 rw[GO,a92!]
 have e0:=w! [105,102] false hx
 have e1:=w! [102,111,114] false hx
 have e2:=w! [114,101,102,117,115,101] false hx
 have e3:=w! [114,111,108,108] false hx
 have e4:=w! [115,101,97,116] false hx
 have e5:=w! [111,118,101,114] false hx
 have e6:=w! [112,97,121] true hx
 clear h f0 x0 GO ht hk hx
 go_enter Tryz.func92,Tryz.ntmps92
 go_upto_region 1 with fail
 rw[eW.out]
 clear eW
 have bp:=PB0.out.blk
 unfold a2! at bp
 have c2:=bp.c2
 clear bp
 go_wp2_with fail
 refine(N1.out _ PB0.out).mono ?_
 rintro e wq⟨rfl,q,rfl⟩
 have P0':=h! (PB0.out.drewN q)
 have X0':=h! (XB0.out.drewN q)
 have K0':=h! (KB0.out.drewN q)
 have zq:(WB.drewN q).heap.size=WB.heap.size:=rfl
 clear PB0 XB0 KB0 c2
 generalize WB.drewN q=WC at*
 go_wp2_with fail
 refine(TK.out _ P0'.out).mono ?_
 rintro e W0⟨rfl,pt,kt⟩
 have P0:=h! pt
 have X0:=k! X0' kt
 have K0:=q! K0' kt
 have zt:=kt.size
 clear pt kt P0' X0' K0' N1 TK
 go_wp2_with fail
 rw[j7!]
 go_wp2_with fail
 refine(EX.out (i+1) 0 W0 P0.out).mono ?_
 rintro e w1⟨v1,rfl,k1,⟨op1,N1,nm1,B1,l1,q1,rfl⟩,i1,er1,p1,ps1⟩
 have z1:=k1.size
 have X1:=k! X0 k1
 have K1:=q! K0 k1
 have P1:=h! p1
 have PS1:=h! ps1
 have J1:=h! k1
 clear p1 k1 ps1 K0 P0 X0
 go_upto_region 29 with fail
 obtain⟨W2,eW,f2,Y2,z2⟩:=n! w1 40 #[.I op1,.I N1,.string nm1,.slice B1 l1 q1]
 replace Y2:=h! Y2
 have P2:=h! (P1.out.below f2)
 have X2:=b! X1 f2
 have K2:=e! K1 f2
 have J2:=o! g f2
 have xl2:=X1.out.lt
 clear f2 K1 P1 X1
 rw[eW.out]
 clear eW
 have PD:=h! (P2.out.below (Below.refl _ W2).drew)
 have CL:=h! (EX.out i1 er1 W2.drew PD.out)
 have zd:W2.drew.heap.size=W2.heap.size:=rfl
 have YD:=h! Y2.out.drew
 have XD:=h! X2.out.drew
 have qq:W2.drew.cell? ⟨w1.heap.size,0,none⟩=some (.I op1)∧W2.drew.cell? ⟨w1.heap.size,1,none⟩=some (.I N1)∧W2.drew.cell? ⟨w1.heap.size,2,none⟩=some (.string nm1)∧W2.drew.cell? ⟨w1.heap.size,3,none⟩=some (.slice B1 l1 q1):=⟨YD.out.cell 0,YD.out.cell 1,YD.out.cell 2,YD.out.cell 3⟩
 have QQ:Hid (∀w',Blk w' (w1.heap.size) 40 #[.I op1,.I N1,.string nm1,.slice B1 l1 q1]->w'.cell? ⟨w1.heap.size,0,none⟩=some (.I op1)∧w'.cell? ⟨w1.heap.size,1,none⟩=some (.I N1)∧w'.cell? ⟨w1.heap.size,2,none⟩=some (.string nm1)∧w'.cell? ⟨w1.heap.size,3,none⟩=some (.slice B1 l1 q1)):=λw' h=>⟨h.cell 0,h.cell 1,h.cell 2,h.cell 3⟩
 go_region_held3 (λw'=>w'.cell? ⟨w1.heap.size,0,none⟩=some (.I op1)∧w'.cell? ⟨w1.heap.size,1,none⟩=some (.I N1)∧w'.cell? ⟨w1.heap.size,2,none⟩=some (.string nm1)∧w'.cell? ⟨w1.heap.size,3,none⟩=some (.slice B1 l1 q1)) (first|(with_reducible exact qq)|(with_reducible exact QQ.out _ y3)|(with_reducible exact QQ.out _ yz)|(with_reducible exact QQ.out _ (yz.kept (Kept.put7 _ _ _ _ _ _ _ _ _) (by omega))))
  (first
   |(go_at_call 40;(with_reducible refine CL.out.mono ?_);rintro e w3⟨v3,rfl,k3,⟨op3,N3,nm3,B3,l3,q3,rfl⟩,i3,er3,p3,ps3⟩;have y3:=YD.out.kept k3 (by omega);have x3:=XD.out.kept k3 (by omega);have z3:=k3.size;have yz:=y3.alloc (.cells #[.I op1,.I N1,.string nm1,.slice B1 l1 q1,.I op3,.I N3,.string nm3,.slice B3 l3 q3] 40);have xz:=x3.alloc (.cells #[.I op1,.I N1,.string nm1,.slice B1 l1 q1,.I op3,.I N3,.string nm3,.slice B3 l3 q3] 40);have pc0:=xz.c0;have pt0:=xz.frozen 0;have pc1:=xz.c1;have pt1:=xz.frozen 1;have pc2:=xz.c2;have pt2:=xz.frozen 2;have pc3:=xz.c3;have pt3:=xz.frozen 3;have pc4:=xz.c4;have pt4:=xz.frozen 4;have pc5:=xz.c5;have pt5:=xz.frozen 5;have pc6:=xz.c6;have pt6:=xz.frozen 6;have XZ:=h! xz;clear xz x3;have KN:=h! k3;have PN:=h! p3;have PSN:=h! ps3;clear k3 p3 ps3)
   |fail)
 have f3:=a! w3 (.cells #[.I op1,.I N1,.string nm1,.slice B1 l1 q1,.I op3,.I N3,.string nm3,.slice B3 l3 q3] 40)
 have BN:=h! (Blk.new w3 40 #[.I op1,.I N1,.string nm1,.slice B1 l1 q1,.I op3,.I N3,.string nm3,.slice B3 l3 q3])
 have P3:=h! (PN.out.below f3)
 have K3:=h! (((K2.out.drew).then_ KN.out (λ_ _ e=>e)).then_ (Kept.of_below (S:=λz=>z=g) f3) (λ_ _ e=>e))
 have JD:=h! ((Kept.refl (λz=>z=g) W2).drew)
 have JA:=o! g f3
 have zA:=z! w3 (.cells #[.I op1,.I N1,.string nm1,.slice B1 l1 q1,.I op3,.I N3,.string nm3,.slice B3 l3 q3] 40)
 have PSZ:=h! (PS1.out.then_ PSN.out)
 clear f3
 go_wp2_with fail
 clear pc0 pc1 pc2 pc3 pc4 pc5 pc6 pt0 pt1 pt2 pt3 pt4 pt5 pt6
 have hx:=XZ.out
 obtain⟨sc0,sc1,sc2,sc3,sc4,sc5,sc6⟩:=hx.A7
 obtain⟨tc0,tc1,tc2,tc3,tc4,tc5,tc6⟩:=hx.F7
 skip
 obtain⟨W9,e9,X9,k9⟩:=hx.e7 (.I 8) (.E) (.slice (some ⟨w3.heap.size,0,none⟩) 2 2) (.I 0) (.I 0) (.N) (.N)
 rw[e9]
 clear e9
 clear sc0 sc1 sc2 sc3 sc4 sc5 sc6
 obtain⟨sc0,sc1,sc2,sc3,sc4,sc5,sc6⟩:=X9.A7
 have KK:Kept (λz=>z=g) w W9:=K3.out.then_ k9 (λz hz e=>by omega)
 have TA:Hid (Kept (λz=>z<W0.heap.size∨w1.heap.size<=z) w1 W9):=i! J2 (i! JD (i! KN (i! JA (d! k9))))
 have TC:Hid (Kept (λz=>z<W2.drew.heap.size∨w3.heap.size<=z) w3 W9):=i! JA (d! k9)
 have TB:Hid (Kept (λz=>z<w3.heap.size∨w3.heap.size+1<=z) (w3.alloc (.cells #[.I op1,.I N1,.string nm1,.slice B1 l1 q1,.I op3,.I N3,.string nm3,.slice B3 l3 q3] 40)) W9):=d! k9
 refine bodyPost_ret (v:=.agg #[.I 8,.E,.slice (some ⟨w3.heap.size,0,none⟩) 2 2,.I 0,.I 0,.N,.N]) (by simp[results,Tryz.results92,go_sem,sc0,sc1,sc2,sc3,sc4,sc5,sc6]) rfl ⟨_,rfl,KK,⟨_,_,_,_,_,_,_,_,_,_,_,_,_,rfl⟩,i3,er3,HH.out.put P3.out.at_ (P3.out.blk.kept k9 (by omega)) KK,PSZ.out.map _ ?_⟩
 rintro⟨x1,x2⟩ ⟨h1,h2⟩
 exact⟨_,rfl,_,_,_,none,0,0,none,0,0,rfl,d05! (cs:=[.I op1,.I N1,.string nm1,.slice B1 l1 q1]) (ds:=[.I op3,.I N3,.string nm3,.slice B3 l3 q3]) (BN.out.kept TB.out (λe=>by omega)) rfl rfl (by omega) ((h1.kept h5! (by omega) TA.out (λk _ hk e=>by omega)).cells (cs:=[.I op1,.I N1,.string nm1,.slice B1 l1 q1])) ((h2.kept h5! (by omega) TC.out (λk _ hk e=>by omega)).cells (cs:=[.I op3,.I N3,.string nm3,.slice B3 l3 q3])),ElsG.none_ _ _ _ _ _ _,ElsG.none_ _ _ _ _ _ _⟩
theorem d07!(g c:Nat)(A:Option Addr)(m:Nat->Nat)(ts:List Tk)(d:Nat)(dp:Int)(hd:dp+((d+1:Nat):Int)=16)(h0:0<=dp)(i:Nat)(w:World)(h:Par w g A c m ts i dp 0)(t:Tk)(ht:ts[i]?=some t)(hk:t.kind=1):
 Calls Tryz.prog 92 #[.pointer (some ⟨g,0,none⟩)] w (a8! w g c A m ts dp (stmtD (d+1) (ts.drop i)) (IsEl (QS (d+1)) w.heap.size) ShSt):=by
 obtain⟨WB,eW,f0,x0,z0⟩:=n! w 95 #[.I 0,.E,.N,.I 0,.I 0,.N,.N]
 have hgl:=h.blk.lt
 have HH:=h! h
 have PB0:=h! (h.below f0)
 have XB0:=h! x0
 have KB0:=o! g f0
 have hdd:dp<16:=by omega
 have N1:Hid (∀w',Par w' g A c m ts i dp 0->Calls Tryz.prog 53 #[.pointer (some ⟨g,0,none⟩),.I 1] w' (Still w' (.bool true))):=λw' h'=>by
  have:=c9! g c A m ts i dp 0 1 w' h' t ht
  rwa[show nextB t 0 1=true from by simp[nextB,hk]]at this
 have AS:=h! (λi er w h=>c96! g c A m ts i dp er w h)
 have GO:stmtD (d+1) (ts.drop i)=stP h2! ts i 0:=by
  rw[a86! d _ (by rw[a1! ht];simp[kindT,hk])];unfold stP;rw[if_pos rfl]
 rw[GO]
 clear h f0 x0 GO ht hk
 go_enter Tryz.func92,Tryz.ntmps92
 go_upto_region 1 with fail
 rw[eW.out]
 clear eW
 have bp:=PB0.out.blk
 unfold a2! at bp
 have c2:=bp.c2
 clear bp
 go_wp2_with fail
 refine(N1.out _ PB0.out).mono ?_
 rintro e wq⟨rfl,q,rfl⟩
 have P0:=h! (PB0.out.drewN q)
 have X0:=h! (XB0.out.drewN q)
 have K0:=h! (KB0.out.drewN q)
 have zq:(WB.drewN q).heap.size=WB.heap.size:=rfl
 clear PB0 XB0 KB0 c2
 generalize WB.drewN q=W0 at*
 go_wp2_with fail
 refine(AS.out i 0 W0 P0.out).mono ?_
 rintro e w1⟨v1,rfl,k1,⟨kd1,nm1,Aa1,la1,ca1,lo1,hi1,Ab1,lb1,cb1,Ac1,lc1,cc1,rfl⟩,i1,er1,p1,ps1⟩
 have z1:=k1.size
 have X1:=k! X0 k1
 have K1:=q! K0 k1
 have P1:=h! p1
 have PS1:=h! ps1
 have J1:=h! k1
 clear p1 k1 ps1 K0 P0 X0
 have hx:=X1.out
 obtain⟨sc0,sc1,sc2,sc3,sc4,sc5,sc6⟩:=hx.A7
 obtain⟨tc0,tc1,tc2,tc3,tc4,tc5,tc6⟩:=hx.F7
 go_wp2_with fail
 obtain⟨W9,e9,X9,k9⟩:=hx.e7 (.I kd1) (.string nm1) (.slice Aa1 la1 ca1) (.I lo1) (.I hi1) (.slice Ab1 lb1 cb1) (.slice Ac1 lc1 cc1)
 rw[e9]
 clear e9
 clear sc0 sc1 sc2 sc3 sc4 sc5 sc6
 obtain⟨sc0,sc1,sc2,sc3,sc4,sc5,sc6⟩:=X9.A7
 have KK:Kept (λz=>z=g) w W9:=K1.out.then_ k9 (λz hz e=>by omega)
 have TA:Hid (Kept (λz=>z<W0.heap.size∨w1.heap.size<=z) w1 W9):=d! k9
 refine bodyPost_ret (v:=.agg #[.I kd1,.string nm1,.slice Aa1 la1 ca1,.I lo1,.I hi1,.slice Ab1 lb1 cb1,.slice Ac1 lc1 cc1]) (by simp[results,Tryz.results92,go_sem,sc0,sc1,sc2,sc3,sc4,sc5,sc6]) rfl ⟨_,rfl,KK,⟨_,_,_,_,_,_,_,_,_,_,_,_,_,rfl⟩,i1,er1,HH.out.put P1.out.at_ (P1.out.blk.kept k9 (by omega)) KK,PS1.out.mono (λa ha=>by obtain⟨cs,hc,hq⟩:=ha.kept (c5! 1) (b':=w.heap.size) (by omega) TA.out (λk _ hk e=>by omega);exact⟨cs,hc,SE.deeper (by omega) hq⟩)⟩
theorem d08!(g c:Nat)(A:Option Addr)(m:Nat->Nat)(ts:List Tk)(dp:Int)(hd:dp=16)(i:Nat)(w:World)(h:Par w g A c m ts i dp 0):
 Calls Tryz.prog 92 #[.pointer (some ⟨g,0,none⟩)] w (a8! w g c A m ts dp (stmtD 0 (ts.drop i)) (IsEl (QS 0) w.heap.size) ShSt):=by
 obtain⟨WB,eW,f0,x0,z0⟩:=n! w 95 #[.I 0,.E,.N,.I 0,.I 0,.N,.N]
 have hgl:=h.blk.lt
 have HH:=h! h
 have PB0:=h! (h.below f0)
 have XB0:=h! x0
 have KB0:=o! g f0
 have hdd:(16:Int)<=dp:=by omega
 clear h f0 x0 hd
 go_enter Tryz.func92,Tryz.ntmps92
 go_upto_region 1 with fail
 rw[eW.out]
 clear eW
 have bp:=PB0.out.blk
 unfold a2! at bp
 have c2:=bp.c2
 have c8:WB.cell? ⟨g,4+4,none⟩=some (.I 0):=bp.cell 8
 have c8':=bp.c8
 have f8:=bp.frozen 8
 clear bp
 go_upto_region 3 with fail
 have k1:=(Kept.refl (λz=>z=g) WB).setCell (p:=⟨g,8,none⟩) (λ_=>rfl) (.I 25)
 have b1:Blk (WB.setCell ⟨g,8,none⟩ (.I 25)) g 119 (a2! A ts.length c m i dp 25):=PB0.out.blk.set_ 8 _
 have K0:=q! KB0 k1
 have P0:=h! (HH.out.put PB0.out.at_ b1 K0.out)
 have X0:=k! XB0 k1
 clear c2 c8 c8' f8 k1 b1 PB0 XB0 KB0
 generalize WB.setCell ⟨g,8,none⟩ (.I 25)=W0 at*
 have PSR:Hid (PsAt ts i 25 (stmtD 0 (ts.drop i)) (λ_=>False)):=⟨rfl,rfl,by decide⟩
 have hx:=X0.out
 obtain⟨sc0,sc1,sc2,sc3,sc4,sc5,sc6⟩:=hx.A7
 obtain⟨tc0,tc1,tc2,tc3,tc4,tc5,tc6⟩:=hx.F7
 go_wp2_with fail
 obtain⟨W9,e9,X9,k9⟩:=hx.e7 (.I 0) (.E) (.N) (.I 0) (.I 0) (.N) (.N)
 rw[e9]
 clear e9
 clear sc0 sc1 sc2 sc3 sc4 sc5 sc6
 obtain⟨sc0,sc1,sc2,sc3,sc4,sc5,sc6⟩:=X9.A7
 have KK:Kept (λz=>z=g) w W9:=K0.out.then_ k9 (λz hz e=>by omega)
 refine bodyPost_ret (v:=.agg #[.I 0,.E,.N,.I 0,.I 0,.N,.N]) (by simp[results,Tryz.results92,go_sem,sc0,sc1,sc2,sc3,sc4,sc5,sc6]) rfl ⟨_,rfl,KK,⟨_,_,_,_,_,_,_,_,_,_,_,_,_,rfl⟩,i,25,HH.out.put P0.out.at_ (P0.out.blk.kept k9 (by omega)) KK,PSR.out.mono (λ_ h=>h.elim)⟩
theorem a93!(g c:Nat)(A:Option Addr)(m:Nat->Nat)(ts:List Tk):∀d,l8! g c A m ts d
 |0=>λdp i w hd _ h _=>d08! g c A m ts dp (by omega) i w h
 |d+1=>λdp i w hd h0 h hb=>by
  have H:=a93! g c A m ts d;obtain⟨t,ht⟩:=ParS.at_some h.at_;rw[a1! ht]at hb
  simp only[a7!,beginW,Bool.or_eq_true,Bool.and_eq_true,decide_eq_true_eq,List.mem_cons,List.not_mem_nil,or_false]at hb
  rcases hb with hk|⟨hk,hx⟩
  ·exact d07! g c A m ts d dp hd h0 i w h t ht hk
  ·rcases hx with hx|hx|hx|hx|hx|hx|hx|hx
   ·exact c98! g c A m ts d H dp hd h0 i w h t ht hk hx
   ·exact c99! g c A m ts d H dp hd h0 i w h t ht hk hx
   ·exact d00! g c A m ts d dp hd h0 i w h t ht hk hx
   ·exact d02! g c A m ts d dp hd h0 i w h t ht hk hx
   ·exact d03! g c A m ts d dp hd h0 i w h t ht hk hx
   ·exact d01! g c A m ts d dp hd h0 i w h t ht hk hx
   ·exact d06! g c A m ts d dp hd h0 i w h t ht hk hx
   ·exact d04! g c A m ts d dp hd h0 i w h t ht hk hx
end Go.Proofs.YtdgekckedchjbaaGreatDoor
