
/-
 The parser's plain: parentheses. (Printed by wip/tools/gens5.py.) The parser's plain: a sign. (Printed by wip/tools/gens5.py.)
-/
import Derived.Test.YtdgekckedchjbaaGreatDoorS5A
import Derived.Deep.RegionHeld3
import Derived.Deep.DeepCutAuto
set_option maxHeartbeats 4000000
set_option maxRecDepth 100000
namespace Go.Proofs.YtdgekckedchjbaaGreatDoor
open Go.RowKit
theorem c47!(g c:Nat)(A:Option Addr)(m:Nat->Nat)(ts:List Tk)(dp:Int)(d:Nat)(PC:h3! g c A m ts dp d)(JC:JoinC g c A m ts dp d 5)(deep:Int)(i:Nat)(w:World)(hd:deep+((d+1:Nat):Int)=16)(h0:0<=deep)(h:Par w g A c m ts i dp 0)(t:Tk)(ht:ts[i]?=some t)(hb:openB t 0=true)(hn2:t.kind≠2)(hn1:t.kind≠1)(hx:t.text=[40]):Calls Tryz.prog 112 #[.pointer (some ⟨g,0,none⟩),.I deep] w (ExTo w g c A m ts dp (a0! (d+1) (ts.drop i))):=by
 have hdh:=And.intro hd h0
 clear hdh
 have PC:=h! PC
 have JC:=h! JC
 have H_hn2:=h! hn2
 clear hn2
 have H_hn1:=h! hn1
 clear hn1
 have H_hx:=h! hx
 clear hx
 obtain⟨W0,eW,f0,x0,-⟩:=n! w 40 #[.I 0,.I 0,.E,.N]
 have H0:=h.below f0
 have OP:=h! (j6! g c A m ts i dp 0 _ H0 t ht)
 have WR:=h! (λw' (h':Par w' g A c m ts i dp 0)=>f9! g c A m ts i dp 0 w' h' t ht)
 have hgl:=h.blk.lt
 have HT:=h! (a1! ht)
 obtain⟨p,hp⟩:∃p,a0! (d+1) (ts.drop i)=p:=⟨_,rfl⟩
 rw[hp]
 rw[HT.out]at hp
 have HP:=h! hp
 have HB:Hid (openB t 0=openT (t::ts.drop (i+1))):=j5!
 rw[hb]at OP HB
 have hi:=h.at_
 have lim:=h.st.lim
 have HH:=h! h
 have HH0:=h! H0
 have F0:=h! f0
 have X0:=h! x0
 have HTT:=h! ht
 have z0:=f0.size
 clear h H0 f0 x0 hp hb ht
 go_enter Tryz.func112,Tryz.ntmps112
 go_wp2_with fail
 rw[eW.out]
 clear eW
 refine OP.out.mono ?_
 rintro e w1⟨rfl,q,rfl⟩
 clear OP
 have hdd:deep<16:=by omega
 go_upto_region 7 with fail
 have P1:=h! (HH0.out.drewN q)
 have X1:=h! (X0.out.drewN q)
 have K1:=h! ((Kept.of_below (S:=λz=>z=g) F0.out).then_ ((Kept.refl (λz=>z=g) W0).drewN q) (λ_ _ e=>e))
 have zz:w.heap.size<(W0.drewN q).heap.size:=X0.out.lt
 generalize W0.drewN q=W1 at*
 have hkn:t.kind≠0:=n3! HB.out.symm
 have TK:Hid (∀W,Par W g A c m ts i dp 0->Calls Tryz.prog 87 #[.pointer (some ⟨g,0,none⟩),.I t.kind] W (ParTo W g c A m ts dp (tkVal t) (i+1) 0)):=λW hW=>by
  have h1:=e9! g c A m ts i dp 0 t.kind W hW t HTT.out hkn;have h2:nextB t 0 t.kind=true:=by simp[nextB]
  rw[if_pos h2,if_pos h2,if_pos h2]at h1;exact h1
 have hi1:i+1<ts.length:=HH.out.st.more HTT.out (.inl hkn)
 have HI1:=h! hi1
 clear WR HH0 X0 F0 z0
 obtain⟨b,o,hA,hb,hbg,q0,-,-,-,-⟩:=P1.out.st.tok HTT.out
 have hAh:=h! hA
 obtain⟨n,hn⟩:∃n,ts.length=n:=⟨_,rfl⟩
 have HN:=h! hn
 have B:=P1.out.blk
 unfold a2! at B
 rw[hA,hn]at B
 rw[hn]at hi hi1 lim
 have g1:(0:Int)<=(i:Int):=by omega
 have g2:(i:Int)<(n:Int):=by omega
 have hgz:=B.lt
 obtain⟨c0,c1⟩:=B.A2
 have BA:=B.alloc (.cells #[.I 0,.E,.I 0,.I 0,.I 0] 122)
 obtain⟨a0,a1⟩:=BA.A2
 have a2:(W1.alloc (.cells #[.I 0,.E,.I 0,.I 0,.I 0] 122)).cell? ⟨b,o+i*5,none⟩=some (.I t.kind):=(World.cell?_alloc_lt _ _ _ hb).trans q0
 have fa:Below W1.heap.size W1 (W1.alloc (.cells #[.I 0,.E,.I 0,.I 0,.I 0] 122)).drew:=((Below.refl _ W1).al _).drew
 have PA:=h! (P1.out.below fa)
 have PD:=h! (P1.out.below (Below.refl _ W1).drew)
 have XA:=h! (Blk.new W1 122 #[.I 0,.E,.I 0,.I 0,.I 0]).drew
 have FA:=h! fa
 clear B BA hA hn fa
 go_cut [5] (λv wc=>∃g5,v=.pointer (some ⟨g5,0,none⟩)∧Hid (Blk wc g5 122 #[.I t.kind,.string (str t.text),.I t.n,.I t.line,.I t.col])∧Hid (Par wc g A c m ts (i+1) dp 0)∧Hid (Kept (λz=>z=g) W1 wc)∧Hid (W1.heap.size<=g5))
 case first=>
  go_region_with (first
   |(go_at_call 87;(with_reducible refine(TK.out _ PD.out).mono ?_);rintro e w4⟨rfl,p4,k4⟩;unfold tkVal)
   |(go_at_call 87;(with_reducible refine(TK.out _ PA.out).mono ?_);rintro e w4⟨rfl,p4,k4⟩;unfold tkVal;have n4:=XA.out.kept k4 (by omega);have y0:=n4.c0;have y1:=n4.c1;have y2:=n4.c2;have y3:=n4.c3;have y4:=n4.c4;have j0:=n4.frozen 0;have j1:=n4.frozen 1;have j2:=n4.frozen 2;have j3:=n4.frozen 3;have j4:=n4.frozen 4))
  all_goals
   go_wp2_with fail;go_meet
   case rel=>first
    |(with_reducible refine⟨w4.heap.size,rfl,?_⟩);exact⟨Blk.new _ _ _,p4.below ((Below.refl _ w4).al _),((((Kept.refl (λz=>z=g) W1).drew).then_ k4 (λ_ _ e=>e)).alloc _),k4.size⟩
    |(with_reducible refine⟨W1.heap.size,rfl,?_⟩);exact⟨n4.put5 _ _ _ _ _,P1.out.put HI1.out (p4.blk.kept (Kept.put5 w4 W1.heap.size _ _ _ _ _) (by omega)) (((Kept.of_below (S:=λz=>z=g) FA.out).then_ k4 (λ_ _ e=>e)).then_ (Kept.put5 w4 W1.heap.size _ _ _ _ _) (λz hz e=>by omega)),((Kept.of_below (S:=λz=>z=g) FA.out).then_ k4 (λ_ _ e=>e)).then_ (Kept.put5 w4 W1.heap.size _ _ _ _ _) (λz hz e=>by omega),Nat.le_refl _⟩
 case rest=>
  obtain⟨g5,rfl,B5,P2,K2,hg5⟩:=hcut;obtain⟨W2,rfl⟩:∃x,x=wc:=⟨_,rfl⟩
  have X2:=h! (X1.out.kept K2.out (by omega));have zz2:W1.heap.size<=W2.heap.size:=K2.out.size;have hg5':W1.heap.size<=g5:=hg5.out;have hg52:g5<W2.heap.size:=B5.out.lt;have KW:=h! (K1.out.then_ K2.out (λ_ _ e=>e));clear TK PA PD XA FA a0 a1 a2 c0 c1 q0 K1 K2 X1 P1 hb hbg hg5;obtain⟨u0,u1,u2⟩:=B5.out.A3;have hn2:=H_hn2.out;have hn1:=H_hn1.out;have hx:=H_hx.out;have hk2':(t.kind==2)=false:=by simp[hn2]
  have hk1':(t.kind==1)=false:=by simp[hn1]
  have HR:Hid (p=(joinL (a0! d) 5 (ts.drop (i+1))).thenMust [41] id):=HP.out.symm.trans (a60! HB.out.symm hn2 hn1 hx);have JW:Hid (∀W,Par W g A c m ts (i+1) dp 0->Calls Tryz.prog 77 #[.pointer (some ⟨g,0,none⟩),.I 0,.I (deep+1)] W (ExTo W g c A m ts dp (joinL (a0! d) 5 (ts.drop (i+1))))):=λW hW=>JC.out (deep+1) 0 (i+1) W (by omega) (by omega) (by omega) hW
  generalize joinL (a0! d) 5 (ts.drop (i+1))=pj at*;have hwd:=y! (deep+1);rw[hx]at u1;change W2.cell? ⟨g5,1,none⟩=some (.string ⟨#[40]⟩)at u1;clear PC JC;go_upto_region 17 with fail;clear u0 u1 u2 hk2' hk1' hx hn2 hn1;go_wp2_with fail;refine(JW.out _ P2.out).mono ?_;rintro e w4⟨op,N,nm,B,l,k,rfl,k4,h4⟩;have x4:=X2.out.kept k4 (by omega);have zz4:=k4.size;have hgw:=P2.out.blk.lt;have X4:=h! x4;have K4:=h! k4;have H4:=h! h4;clear k4 h4 JW x4 hwd;go_upto_region 18 with fail;have K45:=(Kept.refl (λz=>z=w4.heap.size) w4).alloc (.cells #[.I op,.I N,.string nm,.slice B l k] 40);have B7:=Blk.new w4 40 #[.I op,.I N,.string nm,.slice B l k];generalize w4.alloc (.cells #[.I op,.I N,.string nm,.slice B l k] 40)=W5 at*;have B7:=h! B7;have X5:=k! X4 K45;have zz5:=K45.size;have h5:=H4.out.kept_lt K45 (by omega) (λz hz _ e=>by omega);have KW5:=h! ((KW.out.then_ K4.out (λ_ _ e=>e)).then_ K45 (λz hz e=>by omega));obtain⟨i',er',hi',hbk,hpj⟩:=h5;have P5:=P2.out.put hi' hbk ((K4.out.then_ K45 (λz hz e=>by omega)));obtain⟨t',ht'⟩:=ParS.at_some hi';have MU:Hid (Calls Tryz.prog 55 #[.pointer (some ⟨g,0,none⟩),.string ⟨#[41]⟩] W5 (ParTo W5 g c A m ts dp (.tuple #[]) (if hasB t' er' [41]then i'+1 else i') (mustE t' er' [41]))):=y1! g c A m ts i' dp er' [41] W5 P5 t' ht';have HPJ:=h! hpj;have HT':=h! ht';obtain⟨i5,hi5⟩:∃i5,(if hasB t' er' [41]then i'+1 else i')=i5:=⟨_,rfl⟩
  obtain⟨er5,her5⟩:∃er5,mustE t' er' [41]=er5:=⟨_,rfl⟩
  rw[hi5,her5]at MU;have HI5:=h! hi5;have HER5:=h! her5;clear hpj ht' hi5 her5 hbk P5 H4 K4 X4 KW K45;go_wp2_with fail;refine MU.out.mono ?_;rintro e W6⟨rfl,p6,k6⟩;have x6:=X5.out.kept k6 (by omega);have B76:=B7.out.kept k6 (by omega);obtain⟨v0,v1,v2,v3⟩:=B76.A4;have P6:=h! p6;have K6:=h! k6;clear p6 k6 MU;have s0:=x6.c0;have t0:=x6.frozen 0;have s1:=x6.c1;have t1:=x6.frozen 1;have s2:=x6.c2;have t2:=x6.frozen 2;have s3:=x6.c3;have t3:=x6.frozen 3;go_wp2_with fail;clear s0 s1 s2 s3;obtain⟨W9,e9,X9,K9⟩:=(x6).e4 (.I op) (.I N) (.string nm) (.slice B l k);rw[e9];clear e9;obtain⟨s0,s1,s2,s3⟩:=X9.A4;have KK:Kept (λz=>z=g) w W9:=(KW5.out.then_ K6.out (λ_ _ e=>e)).then_ K9 (λz hz e=>by omega);refine bodyPost_ret (v:=.agg #[.I op,.I N,.string nm,.slice B l k]) (by simp[results,Tryz.results112,go_sem,s0,s1,s2,s3]) rfl ⟨_,_,_,_,_,_,rfl,KK,?_⟩;rw[HR.out];have K69:Kept (λz=>z=g∨z=w.heap.size) W5 W9:=(K6.out.mono (T:=λz=>z=g∨z=w.heap.size) (λ_ _ e=>.inl e)).then_ K9 (λ_ _ e=>.inr e);refine ExAt.must id HPJ.out HT'.out (by rw[HI5.out];exact P6.out.at_) (by rw[HI5.out,HER5.out];exact P6.out.blk.kept K9 (by omega)) (λy hy=>(hy.kept K69 (λz hz e=>by rcases e with e|e<;>omega)).mono (λz _ hz=>by omega))
end Go.Proofs.YtdgekckedchjbaaGreatDoor
set_option maxHeartbeats 4000000
set_option maxRecDepth 100000
namespace Go.Proofs.YtdgekckedchjbaaGreatDoor
open Go.RowKit
theorem c48!(g c:Nat)(A:Option Addr)(m:Nat->Nat)(ts:List Tk)(dp:Int)(d:Nat)(PC:h3! g c A m ts dp d)(JC:JoinC g c A m ts dp d 5)(deep:Int)(i:Nat)(w:World)(hd:deep+((d+1:Nat):Int)=16)(h0:0<=deep)(h:Par w g A c m ts i dp 0)(t:Tk)(ht:ts[i]?=some t)(hb:openB t 0=true)(hn2:t.kind≠2)(hn1:t.kind≠1)(hx:t.text=[45]):Calls Tryz.prog 112 #[.pointer (some ⟨g,0,none⟩),.I deep] w (ExTo w g c A m ts dp (a0! (d+1) (ts.drop i))):=by
 have hdh:=And.intro hd h0
 clear hdh
 have PC:=h! PC
 have JC:=h! JC
 have H_hn2:=h! hn2
 clear hn2
 have H_hn1:=h! hn1
 clear hn1
 have H_hx:=h! hx
 clear hx
 obtain⟨W0,eW,f0,x0,-⟩:=n! w 40 #[.I 0,.I 0,.E,.N]
 have H0:=h.below f0
 have OP:=h! (j6! g c A m ts i dp 0 _ H0 t ht)
 have WR:=h! (λw' (h':Par w' g A c m ts i dp 0)=>f9! g c A m ts i dp 0 w' h' t ht)
 have hgl:=h.blk.lt
 have HT:=h! (a1! ht)
 obtain⟨p,hp⟩:∃p,a0! (d+1) (ts.drop i)=p:=⟨_,rfl⟩
 rw[hp]
 rw[HT.out]at hp
 have HP:=h! hp
 have HB:Hid (openB t 0=openT (t::ts.drop (i+1))):=j5!
 rw[hb]at OP HB
 have hi:=h.at_
 have lim:=h.st.lim
 have HH:=h! h
 have HH0:=h! H0
 have F0:=h! f0
 have X0:=h! x0
 have HTT:=h! ht
 have z0:=f0.size
 clear h H0 f0 x0 hp hb ht
 go_enter Tryz.func112,Tryz.ntmps112
 go_wp2_with fail
 rw[eW.out]
 clear eW
 refine OP.out.mono ?_
 rintro e w1⟨rfl,q,rfl⟩
 clear OP
 have hdd:deep<16:=by omega
 go_upto_region 7 with fail
 have P1:=h! (HH0.out.drewN q)
 have X1:=h! (X0.out.drewN q)
 have K1:=h! ((Kept.of_below (S:=λz=>z=g) F0.out).then_ ((Kept.refl (λz=>z=g) W0).drewN q) (λ_ _ e=>e))
 have zz:w.heap.size<(W0.drewN q).heap.size:=X0.out.lt
 generalize W0.drewN q=W1 at*
 have hkn:t.kind≠0:=n3! HB.out.symm
 have TK:Hid (∀W,Par W g A c m ts i dp 0->Calls Tryz.prog 87 #[.pointer (some ⟨g,0,none⟩),.I t.kind] W (ParTo W g c A m ts dp (tkVal t) (i+1) 0)):=λW hW=>by
  have h1:=e9! g c A m ts i dp 0 t.kind W hW t HTT.out hkn;have h2:nextB t 0 t.kind=true:=by simp[nextB]
  rw[if_pos h2,if_pos h2,if_pos h2]at h1;exact h1
 have hi1:i+1<ts.length:=HH.out.st.more HTT.out (.inl hkn)
 have HI1:=h! hi1
 clear WR HH0 X0 F0 z0
 obtain⟨b,o,hA,hb,hbg,q0,-,-,-,-⟩:=P1.out.st.tok HTT.out
 have hAh:=h! hA
 obtain⟨n,hn⟩:∃n,ts.length=n:=⟨_,rfl⟩
 have HN:=h! hn
 have B:=P1.out.blk
 unfold a2! at B
 rw[hA,hn]at B
 rw[hn]at hi hi1 lim
 have g1:(0:Int)<=(i:Int):=by omega
 have g2:(i:Int)<(n:Int):=by omega
 have hgz:=B.lt
 obtain⟨c0,c1⟩:=B.A2
 have BA:=B.alloc (.cells #[.I 0,.E,.I 0,.I 0,.I 0] 122)
 obtain⟨a0,a1⟩:=BA.A2
 have a2:(W1.alloc (.cells #[.I 0,.E,.I 0,.I 0,.I 0] 122)).cell? ⟨b,o+i*5,none⟩=some (.I t.kind):=(World.cell?_alloc_lt _ _ _ hb).trans q0
 have fa:Below W1.heap.size W1 (W1.alloc (.cells #[.I 0,.E,.I 0,.I 0,.I 0] 122)).drew:=((Below.refl _ W1).al _).drew
 have PA:=h! (P1.out.below fa)
 have PD:=h! (P1.out.below (Below.refl _ W1).drew)
 have XA:=h! (Blk.new W1 122 #[.I 0,.E,.I 0,.I 0,.I 0]).drew
 have FA:=h! fa
 clear B BA hA hn fa
 go_cut [5] (λv wc=>∃g5,v=.pointer (some ⟨g5,0,none⟩)∧Hid (Blk wc g5 122 #[.I t.kind,.string (str t.text),.I t.n,.I t.line,.I t.col])∧Hid (Par wc g A c m ts (i+1) dp 0)∧Hid (Kept (λz=>z=g) W1 wc)∧Hid (W1.heap.size<=g5))
 case first=>
  go_region_with (first
   |(go_at_call 87;(with_reducible refine(TK.out _ PD.out).mono ?_);rintro e w4⟨rfl,p4,k4⟩;unfold tkVal)
   |(go_at_call 87;(with_reducible refine(TK.out _ PA.out).mono ?_);rintro e w4⟨rfl,p4,k4⟩;unfold tkVal;have n4:=XA.out.kept k4 (by omega);have y0:=n4.c0;have y1:=n4.c1;have y2:=n4.c2;have y3:=n4.c3;have y4:=n4.c4;have j0:=n4.frozen 0;have j1:=n4.frozen 1;have j2:=n4.frozen 2;have j3:=n4.frozen 3;have j4:=n4.frozen 4))
  all_goals
   go_wp2_with fail;go_meet
   case rel=>first
    |(with_reducible refine⟨w4.heap.size,rfl,?_⟩);exact⟨Blk.new _ _ _,p4.below ((Below.refl _ w4).al _),((((Kept.refl (λz=>z=g) W1).drew).then_ k4 (λ_ _ e=>e)).alloc _),k4.size⟩
    |(with_reducible refine⟨W1.heap.size,rfl,?_⟩);exact⟨n4.put5 _ _ _ _ _,P1.out.put HI1.out (p4.blk.kept (Kept.put5 w4 W1.heap.size _ _ _ _ _) (by omega)) (((Kept.of_below (S:=λz=>z=g) FA.out).then_ k4 (λ_ _ e=>e)).then_ (Kept.put5 w4 W1.heap.size _ _ _ _ _) (λz hz e=>by omega)),((Kept.of_below (S:=λz=>z=g) FA.out).then_ k4 (λ_ _ e=>e)).then_ (Kept.put5 w4 W1.heap.size _ _ _ _ _) (λz hz e=>by omega),Nat.le_refl _⟩
 case rest=>
  obtain⟨g5,rfl,B5,P2,K2,hg5⟩:=hcut;obtain⟨W2,rfl⟩:∃x,x=wc:=⟨_,rfl⟩
  have X2:=h! (X1.out.kept K2.out (by omega));have zz2:W1.heap.size<=W2.heap.size:=K2.out.size;have hg5':W1.heap.size<=g5:=hg5.out;have hg52:g5<W2.heap.size:=B5.out.lt;have KW:=h! (K1.out.then_ K2.out (λ_ _ e=>e));clear TK PA PD XA FA a0 a1 a2 c0 c1 q0 K1 K2 X1 P1 hb hbg hg5;obtain⟨u0,u1,u2⟩:=B5.out.A3;have hn2:=H_hn2.out;have hn1:=H_hn1.out;have hx:=H_hx.out;have hk2':(t.kind==2)=false:=by simp[hn2]
  have hk1':(t.kind==1)=false:=by simp[hn1]
  have HR:Hid (p=(a0! d (ts.drop (i+1))).wrap .neg):=HP.out.symm.trans (a61! HB.out.symm hn2 hn1 (by rw[hx];decide) hx);have PW:Hid (∀W,Par W g A c m ts (i+1) dp 0->Calls Tryz.prog 112 #[.pointer (some ⟨g,0,none⟩),.I (deep+1)] W (ExTo W g c A m ts dp (a0! d (ts.drop (i+1))))):=λW hW=>PC.out (deep+1) (i+1) W (by omega) (by omega) hW
  generalize a0! d (ts.drop (i+1))=pj at*;have hwd:=y! (deep+1);rw[hx]at u1;change W2.cell? ⟨g5,1,none⟩=some (.string ⟨#[45]⟩)at u1;clear PC JC;go_upto_region 21 with fail;clear u0 u1 u2 hk2' hk1' hx hn2 hn1;go_wp2_with fail;refine(PW.out _ P2.out).mono ?_;rintro e w4⟨op,N,nm,B,l,k,rfl,k4,h4⟩;have x4:=(X2.out.kept k4 (by omega)).alloc (.cells #[.I op,.I N,.string nm,.slice B l k] 40);have zz4:=k4.size;have hgw:=P2.out.blk.lt;have K4:=h! (k4.alloc (.cells #[.I op,.I N,.string nm,.slice B l k] 40));have N4:=h! (Blk.new w4 40 #[.I op,.I N,.string nm,.slice B l k]);have H4:=h! (h4.kept_lt (S:=λ_=>False) ((Kept.refl _ w4).alloc (.cells #[.I op,.I N,.string nm,.slice B l k] 40)) (λh=>h) (λ_ _ _ h=>h));have s0:=x4.c0;have t0:=x4.frozen 0;have s1:=x4.c1;have t1:=x4.frozen 1;have s2:=x4.c2;have t2:=x4.frozen 2;have s3:=x4.c3;have t3:=x4.frozen 3;clear k4 h4 PW hwd;go_wp2_with fail;generalize w4.alloc (.cells #[.I op,.I N,.string nm,.slice B l k] 40)=W4 at*;clear s0 s1 s2 s3;have hn4:=N4.out.lt;obtain⟨i',er',hi',hbk,hpj⟩:=H4.out;obtain⟨W9,e9,X9,K9⟩:=(x4).e4 (.I 3) (.I 0) (.E) (.slice (some ⟨w4.heap.size,0,none⟩) 1 1);rw[e9];clear e9;obtain⟨s0,s1,s2,s3⟩:=X9.A4;have KK:Kept (λz=>z=g) w W9:=(KW.out.then_ K4.out (λ_ _ e=>e)).then_ K9 (λz hz e=>by omega);refine bodyPost_ret (v:=.agg #[.I 3,.I 0,.E,.slice (some ⟨w4.heap.size,0,none⟩) 1 1]) (by simp[results,Tryz.results112,go_sem,s0,s1,s2,s3]) rfl ⟨_,_,_,_,_,_,rfl,KK,?_⟩;rw[HR.out];refine ExAt.wrap .neg hpj hi' (hbk.kept K9 (by omega)) (λy hy=>⟨w4.heap.size,_,rfl,by omega,N4.out.kept K9 (by omega),(hy.kept K9 (λz hz e=>by omega)).mono (λz _ hz=>by omega)⟩)
end Go.Proofs.YtdgekckedchjbaaGreatDoor
