
/-
 The parser's plain: a number. (Printed by wip/tools/gens5.py.) The parser's plain: a name. (Printed by wip/tools/gens5.py.)
-/
import Derived.Test.YtdgekckedchjbaaGreatDoorS5A
import Derived.Deep.RegionHeld3
import Derived.Deep.DeepCutAuto
set_option maxHeartbeats 4000000
set_option maxRecDepth 100000
namespace Go.Proofs.YtdgekckedchjbaaGreatDoor
open Go.RowKit
theorem c44!(g c:Nat)(A:Option Addr)(m:Nat->Nat)(ts:List Tk)(dp:Int)(d:Nat)(PC:h3! g c A m ts dp d)(JC:JoinC g c A m ts dp d 5)(deep:Int)(i:Nat)(w:World)(hd:deep+((d+1:Nat):Int)=16)(h0:0<=deep)(h:Par w g A c m ts i dp 0)(t:Tk)(ht:ts[i]?=some t)(hb:openB t 0=true)(hk2:t.kind=2):Calls Tryz.prog 112 #[.pointer (some ⟨g,0,none⟩),.I deep] w (ExTo w g c A m ts dp (a0! (d+1) (ts.drop i))):=by
 have hdh:=And.intro hd h0
 clear hdh
 have PC:=h! PC
 have JC:=h! JC
 have H_hk2:=h! hk2
 clear hk2
 obtain⟨W0,eW,f0,x0,-⟩:=n! w 40 #[.I 0,.I 0,.E,.N]
 have H0:=h.below f0
 have OP:=h! (j6! g c A m ts i dp 0 _ H0 t ht)
 have WR:=h! (λw' (h':Par w' g A c m ts i dp 0)=>f9! g c A m ts i dp 0 w' h' t ht)
 have hgl:=h.blk.lt
 have HT:=h! (a1! ht)
 obtain⟨p,hp⟩:∃p,a0! (d+1) (ts.drop i)=p:=⟨_,rfl⟩
 rw[hp]
 rw[HT.out]at hp
 have HP:=h! hp
 have HB:Hid (openB t 0=openT (t::ts.drop (i+1))):=j5!
 rw[hb]at OP HB
 have hi:=h.at_
 have lim:=h.st.lim
 have HH:=h! h
 have HH0:=h! H0
 have F0:=h! f0
 have X0:=h! x0
 have HTT:=h! ht
 have z0:=f0.size
 clear h H0 f0 x0 hp hb ht
 go_enter Tryz.func112,Tryz.ntmps112
 go_wp2_with fail
 rw[eW.out]
 clear eW
 refine OP.out.mono ?_
 rintro e w1⟨rfl,q,rfl⟩
 clear OP
 have hdd:deep<16:=by omega
 go_upto_region 7 with fail
 have P1:=h! (HH0.out.drewN q)
 have X1:=h! (X0.out.drewN q)
 have K1:=h! ((Kept.of_below (S:=λz=>z=g) F0.out).then_ ((Kept.refl (λz=>z=g) W0).drewN q) (λ_ _ e=>e))
 have zz:w.heap.size<(W0.drewN q).heap.size:=X0.out.lt
 generalize W0.drewN q=W1 at*
 have hkn:t.kind≠0:=n3! HB.out.symm
 have TK:Hid (∀W,Par W g A c m ts i dp 0->Calls Tryz.prog 87 #[.pointer (some ⟨g,0,none⟩),.I t.kind] W (ParTo W g c A m ts dp (tkVal t) (i+1) 0)):=λW hW=>by
  have h1:=e9! g c A m ts i dp 0 t.kind W hW t HTT.out hkn;have h2:nextB t 0 t.kind=true:=by simp[nextB]
  rw[if_pos h2,if_pos h2,if_pos h2]at h1;exact h1
 have hi1:i+1<ts.length:=HH.out.st.more HTT.out (.inl hkn)
 have HI1:=h! hi1
 clear WR HH0 X0 F0 z0
 obtain⟨b,o,hA,hb,hbg,q0,-,-,-,-⟩:=P1.out.st.tok HTT.out
 have hAh:=h! hA
 obtain⟨n,hn⟩:∃n,ts.length=n:=⟨_,rfl⟩
 have HN:=h! hn
 have B:=P1.out.blk
 unfold a2! at B
 rw[hA,hn]at B
 rw[hn]at hi hi1 lim
 have g1:(0:Int)<=(i:Int):=by omega
 have g2:(i:Int)<(n:Int):=by omega
 have hgz:=B.lt
 obtain⟨c0,c1⟩:=B.A2
 have BA:=B.alloc (.cells #[.I 0,.E,.I 0,.I 0,.I 0] 122)
 obtain⟨a0,a1⟩:=BA.A2
 have a2:(W1.alloc (.cells #[.I 0,.E,.I 0,.I 0,.I 0] 122)).cell? ⟨b,o+i*5,none⟩=some (.I t.kind):=(World.cell?_alloc_lt _ _ _ hb).trans q0
 have fa:Below W1.heap.size W1 (W1.alloc (.cells #[.I 0,.E,.I 0,.I 0,.I 0] 122)).drew:=((Below.refl _ W1).al _).drew
 have PA:=h! (P1.out.below fa)
 have PD:=h! (P1.out.below (Below.refl _ W1).drew)
 have XA:=h! (Blk.new W1 122 #[.I 0,.E,.I 0,.I 0,.I 0]).drew
 have FA:=h! fa
 clear B BA hA hn fa
 go_cut [5] (λv wc=>∃g5,v=.pointer (some ⟨g5,0,none⟩)∧Hid (Blk wc g5 122 #[.I t.kind,.string (str t.text),.I t.n,.I t.line,.I t.col])∧Hid (Par wc g A c m ts (i+1) dp 0)∧Hid (Kept (λz=>z=g) W1 wc)∧Hid (W1.heap.size<=g5))
 case first=>
  go_region_with (first
   |(go_at_call 87;(with_reducible refine(TK.out _ PD.out).mono ?_);rintro e w4⟨rfl,p4,k4⟩;unfold tkVal)
   |(go_at_call 87;(with_reducible refine(TK.out _ PA.out).mono ?_);rintro e w4⟨rfl,p4,k4⟩;unfold tkVal;have n4:=XA.out.kept k4 (by omega);have y0:=n4.c0;have y1:=n4.c1;have y2:=n4.c2;have y3:=n4.c3;have y4:=n4.c4;have j0:=n4.frozen 0;have j1:=n4.frozen 1;have j2:=n4.frozen 2;have j3:=n4.frozen 3;have j4:=n4.frozen 4))
  all_goals
   go_wp2_with fail;go_meet
   case rel=>first
    |(with_reducible refine⟨w4.heap.size,rfl,?_⟩);exact⟨Blk.new _ _ _,p4.below ((Below.refl _ w4).al _),((((Kept.refl (λz=>z=g) W1).drew).then_ k4 (λ_ _ e=>e)).alloc _),k4.size⟩
    |(with_reducible refine⟨W1.heap.size,rfl,?_⟩);exact⟨n4.put5 _ _ _ _ _,P1.out.put HI1.out (p4.blk.kept (Kept.put5 w4 W1.heap.size _ _ _ _ _) (by omega)) (((Kept.of_below (S:=λz=>z=g) FA.out).then_ k4 (λ_ _ e=>e)).then_ (Kept.put5 w4 W1.heap.size _ _ _ _ _) (λz hz e=>by omega)),((Kept.of_below (S:=λz=>z=g) FA.out).then_ k4 (λ_ _ e=>e)).then_ (Kept.put5 w4 W1.heap.size _ _ _ _ _) (λz hz e=>by omega),Nat.le_refl _⟩
 case rest=>
  obtain⟨g5,rfl,B5,P2,K2,hg5⟩:=hcut;obtain⟨W2,rfl⟩:∃x,x=wc:=⟨_,rfl⟩
  have X2:=h! (X1.out.kept K2.out (by omega));have zz2:W1.heap.size<=W2.heap.size:=K2.out.size;have hg5':W1.heap.size<=g5:=hg5.out;have hg52:g5<W2.heap.size:=B5.out.lt;have KW:=h! (K1.out.then_ K2.out (λ_ _ e=>e));clear TK PA PD XA FA a0 a1 a2 c0 c1 q0 K1 K2 X1 P1 hb hbg hg5;obtain⟨u0,u1,u2⟩:=B5.out.A3;have hk2:=H_hk2.out;have HR:Hid (p=.ok (.num t.n) (ts.drop (i+1))):=HP.out.symm.trans (a57! HB.out.symm hk2);rw[hk2]at u0;have x2:=X2.out;have s0:=x2.c0;have t0:=x2.frozen 0;have s1:=x2.c1;have t1:=x2.frozen 1;have s2:=x2.c2;have t2:=x2.frozen 2;have s3:=x2.c3;have t3:=x2.frozen 3;go_wp2_with fail;clear s0 s1 s2 s3;obtain⟨W9,e9,X9,K9⟩:=(x2).e4 (.I 0) (.I t.n) (.E) (.N);rw[e9];clear e9;obtain⟨s0,s1,s2,s3⟩:=X9.A4;have KK:Kept (λz=>z=g) w W9:=KW.out.then_ K9 (λz hz e=>by omega);refine bodyPost_ret (v:=.agg #[.I 0,.I t.n,.E,.N]) (by simp[results,Tryz.results112,go_sem,s0,s1,s2,s3]) rfl ⟨_,_,_,_,_,_,rfl,KK,?_⟩;rw[HR.out];exact⟨i+1,0,P2.out.at_,P2.out.blk.kept K9 (by omega),rfl,rfl,rfl⟩
end Go.Proofs.YtdgekckedchjbaaGreatDoor
set_option maxHeartbeats 4000000
set_option maxRecDepth 100000
namespace Go.Proofs.YtdgekckedchjbaaGreatDoor
open Go.RowKit
theorem c45!(g c:Nat)(A:Option Addr)(m:Nat->Nat)(ts:List Tk)(dp:Int)(d:Nat)(PC:h3! g c A m ts dp d)(JC:JoinC g c A m ts dp d 5)(deep:Int)(i:Nat)(w:World)(hd:deep+((d+1:Nat):Int)=16)(h0:0<=deep)(h:Par w g A c m ts i dp 0)(t:Tk)(ht:ts[i]?=some t)(hb:openB t 0=true)(hk1:t.kind=1)(hb2:Hid (hasT [91] (ts.drop (i+1))=false)):Calls Tryz.prog 112 #[.pointer (some ⟨g,0,none⟩),.I deep] w (ExTo w g c A m ts dp (a0! (d+1) (ts.drop i))):=by
 have hdh:=And.intro hd h0
 clear hdh
 have PC:=h! PC
 have JC:=h! JC
 have H_hk1:=h! hk1
 clear hk1
 obtain⟨W0,eW,f0,x0,-⟩:=n! w 40 #[.I 0,.I 0,.E,.N]
 have H0:=h.below f0
 have OP:=h! (j6! g c A m ts i dp 0 _ H0 t ht)
 have WR:=h! (λw' (h':Par w' g A c m ts i dp 0)=>f9! g c A m ts i dp 0 w' h' t ht)
 have hgl:=h.blk.lt
 have HT:=h! (a1! ht)
 obtain⟨p,hp⟩:∃p,a0! (d+1) (ts.drop i)=p:=⟨_,rfl⟩
 rw[hp]
 rw[HT.out]at hp
 have HP:=h! hp
 have HB:Hid (openB t 0=openT (t::ts.drop (i+1))):=j5!
 rw[hb]at OP HB
 have hi:=h.at_
 have lim:=h.st.lim
 have HH:=h! h
 have HH0:=h! H0
 have F0:=h! f0
 have X0:=h! x0
 have HTT:=h! ht
 have z0:=f0.size
 clear h H0 f0 x0 hp hb ht
 go_enter Tryz.func112,Tryz.ntmps112
 go_wp2_with fail
 rw[eW.out]
 clear eW
 refine OP.out.mono ?_
 rintro e w1⟨rfl,q,rfl⟩
 clear OP
 have hdd:deep<16:=by omega
 go_upto_region 7 with fail
 have P1:=h! (HH0.out.drewN q)
 have X1:=h! (X0.out.drewN q)
 have K1:=h! ((Kept.of_below (S:=λz=>z=g) F0.out).then_ ((Kept.refl (λz=>z=g) W0).drewN q) (λ_ _ e=>e))
 have zz:w.heap.size<(W0.drewN q).heap.size:=X0.out.lt
 generalize W0.drewN q=W1 at*
 have hkn:t.kind≠0:=n3! HB.out.symm
 have TK:Hid (∀W,Par W g A c m ts i dp 0->Calls Tryz.prog 87 #[.pointer (some ⟨g,0,none⟩),.I t.kind] W (ParTo W g c A m ts dp (tkVal t) (i+1) 0)):=λW hW=>by
  have h1:=e9! g c A m ts i dp 0 t.kind W hW t HTT.out hkn;have h2:nextB t 0 t.kind=true:=by simp[nextB]
  rw[if_pos h2,if_pos h2,if_pos h2]at h1;exact h1
 have hi1:i+1<ts.length:=HH.out.st.more HTT.out (.inl hkn)
 have HI1:=h! hi1
 clear WR HH0 X0 F0 z0
 obtain⟨b,o,hA,hb,hbg,q0,-,-,-,-⟩:=P1.out.st.tok HTT.out
 have hAh:=h! hA
 obtain⟨n,hn⟩:∃n,ts.length=n:=⟨_,rfl⟩
 have HN:=h! hn
 have B:=P1.out.blk
 unfold a2! at B
 rw[hA,hn]at B
 rw[hn]at hi hi1 lim
 have g1:(0:Int)<=(i:Int):=by omega
 have g2:(i:Int)<(n:Int):=by omega
 have hgz:=B.lt
 obtain⟨c0,c1⟩:=B.A2
 have BA:=B.alloc (.cells #[.I 0,.E,.I 0,.I 0,.I 0] 122)
 obtain⟨a0,a1⟩:=BA.A2
 have a2:(W1.alloc (.cells #[.I 0,.E,.I 0,.I 0,.I 0] 122)).cell? ⟨b,o+i*5,none⟩=some (.I t.kind):=(World.cell?_alloc_lt _ _ _ hb).trans q0
 have fa:Below W1.heap.size W1 (W1.alloc (.cells #[.I 0,.E,.I 0,.I 0,.I 0] 122)).drew:=((Below.refl _ W1).al _).drew
 have PA:=h! (P1.out.below fa)
 have PD:=h! (P1.out.below (Below.refl _ W1).drew)
 have XA:=h! (Blk.new W1 122 #[.I 0,.E,.I 0,.I 0,.I 0]).drew
 have FA:=h! fa
 clear B BA hA hn fa
 go_cut [5] (λv wc=>∃g5,v=.pointer (some ⟨g5,0,none⟩)∧Hid (Blk wc g5 122 #[.I t.kind,.string (str t.text),.I t.n,.I t.line,.I t.col])∧Hid (Par wc g A c m ts (i+1) dp 0)∧Hid (Kept (λz=>z=g) W1 wc)∧Hid (W1.heap.size<=g5))
 case first=>
  go_region_with (first
   |(go_at_call 87;(with_reducible refine(TK.out _ PD.out).mono ?_);rintro e w4⟨rfl,p4,k4⟩;unfold tkVal)
   |(go_at_call 87;(with_reducible refine(TK.out _ PA.out).mono ?_);rintro e w4⟨rfl,p4,k4⟩;unfold tkVal;have n4:=XA.out.kept k4 (by omega);have y0:=n4.c0;have y1:=n4.c1;have y2:=n4.c2;have y3:=n4.c3;have y4:=n4.c4;have j0:=n4.frozen 0;have j1:=n4.frozen 1;have j2:=n4.frozen 2;have j3:=n4.frozen 3;have j4:=n4.frozen 4))
  all_goals
   go_wp2_with fail;go_meet
   case rel=>first
    |(with_reducible refine⟨w4.heap.size,rfl,?_⟩);exact⟨Blk.new _ _ _,p4.below ((Below.refl _ w4).al _),((((Kept.refl (λz=>z=g) W1).drew).then_ k4 (λ_ _ e=>e)).alloc _),k4.size⟩
    |(with_reducible refine⟨W1.heap.size,rfl,?_⟩);exact⟨n4.put5 _ _ _ _ _,P1.out.put HI1.out (p4.blk.kept (Kept.put5 w4 W1.heap.size _ _ _ _ _) (by omega)) (((Kept.of_below (S:=λz=>z=g) FA.out).then_ k4 (λ_ _ e=>e)).then_ (Kept.put5 w4 W1.heap.size _ _ _ _ _) (λz hz e=>by omega)),((Kept.of_below (S:=λz=>z=g) FA.out).then_ k4 (λ_ _ e=>e)).then_ (Kept.put5 w4 W1.heap.size _ _ _ _ _) (λz hz e=>by omega),Nat.le_refl _⟩
 case rest=>
  obtain⟨g5,rfl,B5,P2,K2,hg5⟩:=hcut;obtain⟨W2,rfl⟩:∃x,x=wc:=⟨_,rfl⟩
  have X2:=h! (X1.out.kept K2.out (by omega));have zz2:W1.heap.size<=W2.heap.size:=K2.out.size;have hg5':W1.heap.size<=g5:=hg5.out;have hg52:g5<W2.heap.size:=B5.out.lt;have KW:=h! (K1.out.then_ K2.out (λ_ _ e=>e));clear TK PA PD XA FA a0 a1 a2 c0 c1 q0 K1 K2 X1 P1 hb hbg hg5;obtain⟨u0,u1,u2⟩:=B5.out.A3;have hk1:=H_hk1.out;rw[hk1]at u0;obtain⟨t2,ht2⟩:=ParS.at_some P2.out.at_;have SK:Hid (Calls Tryz.prog 86 #[.pointer (some ⟨g,0,none⟩),.string ⟨#[91]⟩] W2 (ParTo W2 g c A m ts dp (.bool (hasB t2 0 [91])) (if hasB t2 0 [91]then i+1+1 else i+1) 0)):=l6! g c A m ts (i+1) dp 0 [91] W2 P2.out t2 ht2;have HB2:Hid (hasB t2 0 [91]=hasT [91] (ts.drop (i+1))):=by rw[a1! ht2];exact j4!
  rw[show hasB t2 0 [91]=false from hb2.out.symm▸HB2.out]at SK HB2;have HR:Hid (p=.ok (.nam t.text) (ts.drop (i+1))):=HP.out.symm.trans (a58! HB.out.symm hk1 HB2.out.symm);clear ht2;go_wp2_with fail;refine SK.out.mono ?_;rintro e w3⟨rfl,p3,k3⟩;have P3:Hid (Par w3 g A c m ts (i+1) dp 0):=p3;have B53:=B5.out.kept k3 (by omega);have x3:=X2.out.kept k3 (by omega);have K3:=h! k3;clear u0 u1 u2 p3 k3 SK;have u0:=B53.c0;rw[hk1]at u0;have u1:=B53.c1;have s0:=x3.c0;have t0:=x3.frozen 0;have s1:=x3.c1;have t1:=x3.frozen 1;have s2:=x3.c2;have t2:=x3.frozen 2;have s3:=x3.c3;have t3:=x3.frozen 3;go_wp2_with fail;clear s0 s1 s2 s3;obtain⟨W9,e9,X9,K9⟩:=(x3).e4 (.I 1) (.I 0) (.string (str t.text)) (.N);rw[e9];clear e9;obtain⟨s0,s1,s2,s3⟩:=X9.A4;have KK:Kept (λz=>z=g) w W9:=(KW.out.then_ K3.out (λ_ _ e=>e)).then_ K9 (λz hz e=>by omega);refine bodyPost_ret (v:=.agg #[.I 1,.I 0,.string (str t.text),.N]) (by simp[results,Tryz.results112,go_sem,s0,s1,s2,s3]) rfl ⟨_,_,_,_,_,_,rfl,KK,?_⟩;rw[HR.out];exact⟨i+1,0,P3.out.at_,P3.out.blk.kept K9 (by omega),rfl,rfl,rfl⟩
end Go.Proofs.YtdgekckedchjbaaGreatDoor
