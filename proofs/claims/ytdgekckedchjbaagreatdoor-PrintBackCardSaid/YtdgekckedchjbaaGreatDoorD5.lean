
/-
 The document's parser of expressions: plain. (Printed by wip/tools/gend5.py.)
-/
import Derived.Test.YtdgekckedchjbaaGreatDoorM6
set_option maxHeartbeats 4000000
set_option maxRecDepth 100000
namespace Go.Proofs.YtdgekckedchjbaaGreatDoor
open Go.RowKit
variable {j:Nat}
section
variable {base i:Nat} {ts:List Tk} {p q:PR} {er:Int} {cs cs':List Value} {w:World} {x:List UInt8} {k:Ex->Ex}
theorem DRes.must(r:DRes base ts p i 0 cs w)(hq:q=p.thenMust x k)(hx:hasT x (ts.drop i)=true)(hc:∀y:Ex,GC (λz=>base<=z) w 2513169434843 y.dep cs y.gx->GC (λz=>base<=z) w 2513169434843 (k y).dep cs' (k y).gx):DRes base ts q (i+1) 0 cs' w:=by
 rcases r with⟨_,y,h2,h3⟩|⟨h,_⟩
 ·refine .inl ⟨rfl,k y,?_,hc y h3⟩
  rw[hq,h2]
  show mustT x (k y) (ts.drop i)=_
  unfold mustT;rw[if_pos hx,List.tail_drop]
 ·exact absurd rfl h
theorem DRes.mustnot(r:DRes base ts p i 0 cs w)(hq:q=p.thenMust x k)(hx:hasT x (ts.drop i)=false)(he:er≠0):DRes base ts q j er cs' w:=by
 rcases r with⟨_,y,h2,h3⟩|⟨h,_⟩
 ·refine .inr ⟨he,ts.drop i,d7! (ts.drop i),?_⟩
  rw[hq,h2]
  show mustT x (k y) (ts.drop i)=_
  unfold mustT;rw[hx,if_neg (by decide)]
 ·exact absurd rfl h
theorem DRes.mustbad(r:DRes base ts p i er cs w)(he:er≠0)(hq:q=p.thenMust x k):DRes base ts q j er cs' w:=by
 rcases r with⟨h,_⟩|⟨_,r,e,h⟩
 ·exact absurd h he
 ·exact .inr ⟨he,r,e,by rw[hq,h];rfl⟩
end
theorem e00!(g c:Nat)(A:Option Addr)(ts:List Tk)(d:Nat)(hd:d<=15)(HU:a16! g c A ts d)(HE:a17! g c A ts d):v9! g c A ts (d+1):=by
 intro dp i w hdp h
 obtain⟨t,ht⟩:=h.one
 have HT:=h! (a1! ht)
 have HTK:=h! ht
 have HUU:=h! HU
 have HEE:=h! HE
 clear HU HE ht
 have HH:=h! h
 have hgl:=h.blk.lt
 have hlim:=h.lim
 have hat:=h.at_
 have wd:=y! (dp+1)
 have x1:=Blk.new w 24 #[.I 0,.I 0,.E,.N]
 have f1:=a! w (.cells #[.I 0,.I 0,.E,.N] 24)
 have D1:=h! (h.below f1)
 have K1:=o! g f1
 have X1:=h! x1
 clear h
 go_enter Tryz.func119,Tryz.ntmps119
 go_upto_region 1 with fail
 generalize w.alloc (.cells #[.I 0,.I 0,.E,.N] 24)=W1 at*
 clear x1 f1
 have c2:=D1.out.blk.c2
 have IS1:=h! (d3! g c A ts (i) 0 ⟨#[45]⟩ W1 D1.out)
 rw[show (⟨#[45]⟩:ByteArray).data.toList=[45]from rfl]at IS1
 obtain⟨b45,hb45⟩:∃b,hasT [45] (ts.drop (i))=b:=⟨_,rfl⟩
 rw[hb45]at IS1
 have Hb45:=h! hb45
 clear hb45
 go_wp2_with fail
 refine IS1.out.mono ?_
 rintro e w2⟨rfl,b2⟩
 have D2:=h! (D1.out.below b2)
 have K2:=e! K1 b2
 have X2:=b! X1 b2
 clear b2
 clear c2
 cases b45
 ·have IS2:=h! (d3! g c A ts (i) 0 ⟨#[110,111,116]⟩ w2 D2.out)
  rw[show (⟨#[110,111,116]⟩:ByteArray).data.toList=[110,111,116]from rfl]at IS2;obtain⟨bn,hbn⟩:∃b,hasT [110,111,116] (ts.drop (i))=b:=⟨_,rfl⟩
  rw[hbn]at IS2;have Hbn:=h! hbn;clear hbn;go_wp2_with fail;refine IS2.out.mono ?_;rintro e w3⟨rfl,b3⟩;have D3:=h! (D2.out.below b3);have K3:=e! K2 b3;have X3:=b! X2 b3;clear b3
  cases bn
  ·have IS3:=h! (d3! g c A ts (i) 0 ⟨#[40]⟩ w3 D3.out)
   rw[show (⟨#[40]⟩:ByteArray).data.toList=[40]from rfl]at IS3;obtain⟨bp,hbp⟩:∃b,hasT [40] (ts.drop (i))=b:=⟨_,rfl⟩
   rw[hbp]at IS3;have Hbp:=h! hbp;clear hbp;go_wp2_with fail;refine IS3.out.mono ?_;rintro e w4⟨rfl,b4⟩;have D4:=h! (D3.out.below b4);have K4:=e! K3 b4;have X4:=b! X3 b4;clear b4
   cases bp
   ·have NW:=h! (c3! g c A ts i 0 w4 D4.out t HTK.out)
    go_wp2_with fail;refine NW.out.mono ?_;rintro e w5⟨rfl,b5⟩;have D5:=h! (D4.out.below b5);have K5:=e! K4 b5;have X5:=b! X4 b5;clear b5 NW
    by_cases k2:t.kind=2
    ·have NB:Hid (Calls Tryz.prog 103 #[.pointer (some ⟨g,0,none⟩)] w5 (DTo w5 g c A ts (.I t.n) (i+1) 0)):=(b37! g c A ts i w5 D5.out t HTK.out).mono (λe w' h=>by
      unfold h9! at h;rw[decide_eq_true k2,if_pos rfl]at h;exact h)
     have e2:((t.kind:Int)==2)=true:=by simp[k2]
     have RR:Hid (∀W,DRes (w.heap.size+1) ts (a0! (d+1) (ts.drop i)) (i+1) 0 [.I 0,.I t.n,.E,.N] W):=λW=>.inl ⟨rfl,.num t.n,by rw[HT.out,d96! k2],d98! _⟩
     clear k2;go_wp2_with fail;rw[c4!];go_wp2_with fail;refine NB.out.mono ?_;rintro e w6⟨rfl,d6,k6⟩;have D6:=h! d6;have K6:=q! K5 k6;have X6:=k! X5 k6;clear d6 k6 NB;have v0:=X6.out.c0;have y0:=X6.out.frozen 0;have v1:=X6.out.c1;have y1:=X6.out.frozen 1;have v2:=X6.out.c2;have y2:=X6.out.frozen 2;have v3:=X6.out.c3;have y3:=X6.out.frozen 3;go_wp2_with fail;clear v0 v1 v2 v3 y0 y1 y2 y3;obtain⟨W9,e9,Y9,K9⟩:=X6.out.e4 (.I 0) (.I t.n) (.E) (.N);rw[e9];clear e9;obtain⟨s0,s1,s2,s3⟩:=Y9.A4;refine bodyPost_ret (v:=.agg #[.I 0,.I t.n,.E,.N]) (by simp[results,Tryz.results119,go_sem,s0,s1,s2,s3]) rfl ?_;obtain⟨d9,k9,r9⟩:=c1! HH.out D6.out K6.out K9 (RR.out w6);exact⟨_,_,_,_,_,_,_,_,rfl,d9,k9,r9⟩
    have e2:((t.kind:Int)==2)=false:=by simp[k2]
    by_cases k1:t.kind=1
    rotate_left
    ·have HBAD:Hid (∃r e,a0! (d+1) (ts.drop i)=.bad r e):=by
      have hop:openT (t::ts.drop (i+1))=false:=by
       have q1:=Hb45.out;have q2:=Hbn.out;have q3:=Hbp.out;rw[HT.out]at q1 q2 q3;unfold openT;rw[q1,q2,q3]
       simp[k1,k2]
      rw[Hid,HT.out];exact⟨_,_,b39! hop⟩
     have NB:Hid (Calls Tryz.prog 102 #[.pointer (some ⟨g,0,none⟩)] w5 (λe w'=>∃er,er≠0∧DTo w5 g c A ts (.E) i er e w')):=(a10! g c A ts i w5 D5.out t HTK.out).mono (λe w' h=>by
      unfold h9! at h;rw[decide_eq_false k1,if_neg (by decide)]at h;exact h)
     clear k1 k2;go_wp2_with fail;rw[c4!];go_wp2_with fail;refine NB.out.mono ?_;rintro e w6⟨er,her,rfl,d6,k6⟩;have D6:=h! d6;have K6:=q! K5 k6;have X6:=k! X5 k6;clear d6 k6 NB;have c2:=D6.out.blk.c2;have he':((er:Int)==0)=false:=by simp[her]
     have RR:Hid (DRes (w.heap.size+1) ts (a0! (d+1) (ts.drop i)) i er [.I 1,.I 0,.E,.N] w6):=.inr ⟨her,HBAD.out⟩;have v0:=X6.out.c0;have y0:=X6.out.frozen 0;have v1:=X6.out.c1;have y1:=X6.out.frozen 1;have v2:=X6.out.c2;have y2:=X6.out.frozen 2;have v3:=X6.out.c3;have y3:=X6.out.frozen 3;go_wp2_with fail;clear v0 v1 v2 v3 y0 y1 y2 y3;obtain⟨W9,e9,Y9,K9⟩:=X6.out.e4 (.I 1) (.I 0) (.E) (.N);rw[e9];clear e9;obtain⟨s0,s1,s2,s3⟩:=Y9.A4;refine bodyPost_ret (v:=.agg #[.I 1,.I 0,.E,.N]) (by simp[results,Tryz.results119,go_sem,s0,s1,s2,s3]) rfl ?_;obtain⟨d9,k9,r9⟩:=c1! HH.out D6.out K6.out K9 RR.out;exact⟨_,_,_,_,_,_,_,_,rfl,d9,k9,r9⟩
    have NB:Hid (Calls Tryz.prog 102 #[.pointer (some ⟨g,0,none⟩)] w5 (DTo w5 g c A ts (.string (str t.text)) (i+1) 0)):=(a10! g c A ts i w5 D5.out t HTK.out).mono (λe w' h=>by
     unfold h9! at h;rw[decide_eq_true k1,if_pos rfl]at h;exact h)
    have HK1:=h! k1;clear k1 k2;go_wp2_with fail;rw[c4!];go_wp2_with fail;refine NB.out.mono ?_;rintro e w6⟨rfl,d6,k6⟩;have D6:=h! d6;have K6:=q! K5 k6;have X6:=k! X5 k6;clear d6 k6 NB;have c2:=D6.out.blk.c2;have IS7:=h! (d3! g c A ts (i+1) 0 ⟨#[91]⟩ w6 D6.out);rw[show (⟨#[91]⟩:ByteArray).data.toList=[91]from rfl]at IS7;obtain⟨b91,hb91⟩:∃b,hasT [91] (ts.drop (i+1))=b:=⟨_,rfl⟩
    rw[hb91]at IS7;have Hb91:=h! hb91;clear hb91;go_wp2_with fail;refine IS7.out.mono ?_;rintro e w7⟨rfl,b7⟩;have D7:=h! (D6.out.below b7);have K7:=e! K6 b7;have X7:=b! X6 b7;clear b7;clear c2
    cases b91
    ·have RR:Hid (∀W,DRes (w.heap.size+1) ts (a0! (d+1) (ts.drop i)) (i+1) 0 [.I 1,.I 0,.string (str t.text),.N] W):=λW=>.inl ⟨rfl,.nam t.text,by rw[HT.out,d97! HK1.out Hb91.out],d99! _⟩
     have v0:=X7.out.c0;have y0:=X7.out.frozen 0;have v1:=X7.out.c1;have y1:=X7.out.frozen 1;have v2:=X7.out.c2;have y2:=X7.out.frozen 2;have v3:=X7.out.c3;have y3:=X7.out.frozen 3;go_wp2_with fail;clear v0 v1 v2 v3 y0 y1 y2 y3;obtain⟨W9,e9,Y9,K9⟩:=X7.out.e4 (.I 1) (.I 0) (.string (str t.text)) (.N);rw[e9];clear e9;obtain⟨s0,s1,s2,s3⟩:=Y9.A4;refine bodyPost_ret (v:=.agg #[.I 1,.I 0,.string (str t.text),.N]) (by simp[results,Tryz.results119,go_sem,s0,s1,s2,s3]) rfl ?_;obtain⟨d9,k9,r9⟩:=c1! HH.out D7.out K7.out K9 (RR.out w7);exact⟨_,_,_,_,_,_,_,_,rfl,d9,k9,r9⟩
    ·have hm:=h8! D7.out Hb91.out
     have y1:=D7.out.blk.c1;have u1:=D7.out.blk.frozen 1;have wi8:IntKind.i64.wrap ((i:Int)+1+1)=((i:Int)+1+1):=IntWalk.i64_in _ ⟨by omega,by omega⟩;have KS:=(Kept.refl (λz=>z=g) w7).setCell (p:=⟨g,1,none⟩) (λ_=>rfl) (.I ((i:Int)+1+1));have BS:Blk (w7.setCell ⟨g,1,none⟩ (.I ((i:Int)+1+1))) g 105 #[.slice A ts.length c,.I ((i+1+1:Nat):Int),.I 0]:=by
      have:=D7.out.blk.set_ 1 (.I ((i:Int)+1+1))
      simpa using this
     have D8:=h! (D7.out.put KS (λ_ _ e=>e) hm BS);have K8:=q! K7 KS;have X8:=k! X7 KS;clear KS BS;go_upto_region 19 with fail;generalize w7.setCell ⟨g,1,none⟩ (.I ((i:Int)+1+1))=W8 at*;have EXP:=h! (HEE.out (dp+1) (i+1+1) W8 (by omega) D8.out);go_wp2_with fail;refine EXP.out.mono ?_;rintro e w9⟨op9,N9,nm9,B9,l9,k9,i9,er9,rfl,d9,kk9,r9⟩;have hw9:=X8.out.lt;have D9:=h! d9;have K9:=q! K8 kk9;have X9:=k! X8 kk9;have R9:=h! r9;clear d9 kk9 r9;have ya:=Blk.new w9 24 #[.I op9,.I N9,.string nm9,.slice B9 l9 k9];have fa:=a! w9 (.cells #[.I op9,.I N9,.string nm9,.slice B9 l9 k9] 24);have Da:=h! (D9.out.below fa);have Ka:=e! K9 fa;have Xa:=b! X9 fa;have Ya:=h! ya;have hba:w.heap.size+1<=w9.heap.size:=by have:=X9.out.lt;omega
     have Ra:=h! (R9.out.kept (base':=w.heap.size+1) (Kept.of_below (S:=λ_=>False) fa) (λ_ _ _ e=>e) (by omega));clear ya fa;go_upto_region 20 with fail;generalize w9.alloc (.cells #[.I op9,.I N9,.string nm9,.slice B9 l9 k9] 24)=Wa at*
     by_cases he9:er9=0
     ·subst he9
      have ET:=h! (a09! g c A ts i9 ⟨#[93]⟩ Wa Da.out);rw[show (⟨#[93]⟩:ByteArray).data.toList=[93]from rfl]at ET;obtain⟨be,hbe⟩:∃b,hasT [93] (ts.drop i9)=b:=⟨_,rfl⟩
      rw[hbe]at ET;have HBE:=h! hbe;clear hbe;go_wp2_with fail;refine ET.out.mono ?_;rintro e wb het
      cases be
      ·unfold EatTo at het
       rw[if_neg (by decide)]at het;obtain⟨er,her,rfl,dz,kz⟩:=het;have Dz:=h! dz;have Kz:=q! Ka kz;have Xz:=k! Xa kz;have Yz:=k! Ya kz;have Rz:=h! (Ra.out.kept (base':=w.heap.size+1) kz (λz hz hb e=>by omega) (Nat.le_refl _));clear dz kz;have p0:=Yz.out.cell 0;have p1:=Yz.out.cell 1;have p2:=Yz.out.cell 2;have p3:=Yz.out.cell 3;have yn:=Blk.new wb 24 #[.I op9,.I N9,.string nm9,.slice B9 l9 k9];have fn:=a! wb (.cells #[.I op9,.I N9,.string nm9,.slice B9 l9 k9] 24);have Dn:=h! (Dz.out.below fn);have Kn:=e! Kz fn;have Xn:=b! Xz fn;have hbn:w.heap.size+1<=wb.heap.size:=by have:=Xz.out.lt;omega
       have Rn:=Rz.out.kept (base':=w.heap.size+1) (Kept.of_below (S:=λ_=>False) fn) (λ_ _ _ e=>e) (Nat.le_refl _);have hq:a0! (d+1) (ts.drop i)=(joinL (a0! d) 5 (ts.drop (i+1+1))).thenMust [93] (.idx t.text):=by
        rw[HT.out,a13! HK1.out Hb91.out,List.tail_drop]
       have RR:=h! (Rn.mustnot (cs':=[.I 2,.I 0,.string (str t.text),.slice (some ⟨wb.heap.size,0,none⟩) 1 1]) hq HBE.out (j:=i9) her);clear yn fn Rn hq;have v0:=Xn.out.c0;have y0:=Xn.out.frozen 0;have v1:=Xn.out.c1;have y1:=Xn.out.frozen 1;have v2:=Xn.out.c2;have y2:=Xn.out.frozen 2;have v3:=Xn.out.c3;have y3:=Xn.out.frozen 3;go_wp2_with fail;clear v0 v1 v2 v3 y0 y1 y2 y3 p0 p1 p2 p3;obtain⟨W9,e9,Y9,K9⟩:=Xn.out.e4 (.I 2) (.I 0) (.string (str t.text)) (.slice (some ⟨wb.heap.size,0,none⟩) 1 1);rw[e9];clear e9;obtain⟨s0,s1,s2,s3⟩:=Y9.A4;refine bodyPost_ret (v:=.agg #[.I 2,.I 0,.string (str t.text),.slice (some ⟨wb.heap.size,0,none⟩) 1 1]) (by simp[results,Tryz.results119,go_sem,s0,s1,s2,s3]) rfl ?_;obtain⟨d9,k9,r9⟩:=c1! HH.out Dn.out Kn.out K9 RR.out;exact⟨_,_,_,_,_,_,_,_,rfl,d9,k9,r9⟩
      ·unfold EatTo at het
       rw[if_pos rfl]at het;obtain⟨rfl,dz,kz⟩:=het;have Dz:=h! dz;have Kz:=q! Ka kz;have Xz:=k! Xa kz;have Yz:=k! Ya kz;have Rz:=h! (Ra.out.kept (base':=w.heap.size+1) kz (λz hz hb e=>by omega) (Nat.le_refl _));clear dz kz;have p0:=Yz.out.cell 0;have p1:=Yz.out.cell 1;have p2:=Yz.out.cell 2;have p3:=Yz.out.cell 3;have yn:=Blk.new wb 24 #[.I op9,.I N9,.string nm9,.slice B9 l9 k9];have fn:=a! wb (.cells #[.I op9,.I N9,.string nm9,.slice B9 l9 k9] 24);have Dn:=h! (Dz.out.below fn);have Kn:=e! Kz fn;have Xn:=b! Xz fn;have hbn:w.heap.size+1<=wb.heap.size:=by have:=Xz.out.lt;omega
       have Rn:=Rz.out.kept (base':=w.heap.size+1) (Kept.of_below (S:=λ_=>False) fn) (λ_ _ _ e=>e) (Nat.le_refl _);have hq:a0! (d+1) (ts.drop i)=(joinL (a0! d) 5 (ts.drop (i+1+1))).thenMust [93] (.idx t.text):=by
        rw[HT.out,a13! HK1.out Hb91.out,List.tail_drop]
       have RR:=h! (Rn.must hq HBE.out (λy hy=>a15! (t:=24) yn hbn rfl hy (.idx t.text) 2 (str t.text) rfl rfl));clear yn fn Rn hq;have v0:=Xn.out.c0;have y0:=Xn.out.frozen 0;have v1:=Xn.out.c1;have y1:=Xn.out.frozen 1;have v2:=Xn.out.c2;have y2:=Xn.out.frozen 2;have v3:=Xn.out.c3;have y3:=Xn.out.frozen 3;go_wp2_with fail;clear v0 v1 v2 v3 y0 y1 y2 y3 p0 p1 p2 p3;obtain⟨W9,e9,Y9,K9⟩:=Xn.out.e4 (.I 2) (.I 0) (.string (str t.text)) (.slice (some ⟨wb.heap.size,0,none⟩) 1 1);rw[e9];clear e9;obtain⟨s0,s1,s2,s3⟩:=Y9.A4;refine bodyPost_ret (v:=.agg #[.I 2,.I 0,.string (str t.text),.slice (some ⟨wb.heap.size,0,none⟩) 1 1]) (by simp[results,Tryz.results119,go_sem,s0,s1,s2,s3]) rfl ?_;obtain⟨d9,k9,r9⟩:=c1! HH.out Dn.out Kn.out K9 RR.out;exact⟨_,_,_,_,_,_,_,_,rfl,d9,k9,r9⟩
     ·have ET:=h! (a18! g c A ts ⟨#[93]⟩ i9 er9 Wa he9 Da.out)
      go_wp2_with fail;refine ET.out.mono ?_;rintro e wb⟨rfl,hw⟩;obtain rfl:wb=Wa:=hw;have p0:=Ya.out.cell 0;have p1:=Ya.out.cell 1;have p2:=Ya.out.cell 2;have p3:=Ya.out.cell 3;have yn:=Blk.new wb 24 #[.I op9,.I N9,.string nm9,.slice B9 l9 k9];have fn:=a! wb (.cells #[.I op9,.I N9,.string nm9,.slice B9 l9 k9] 24);have Dn:=h! (Da.out.below fn);have Kn:=e! Ka fn;have Xn:=b! Xa fn;have hbn:w.heap.size+1<=wb.heap.size:=by have:=Xa.out.lt;omega
      have Rn:=Ra.out.kept (base':=w.heap.size+1) (Kept.of_below (S:=λ_=>False) fn) (λ_ _ _ e=>e) (Nat.le_refl _);have hq:a0! (d+1) (ts.drop i)=(joinL (a0! d) 5 (ts.drop (i+1+1))).thenMust [93] (.idx t.text):=by
       rw[HT.out,a13! HK1.out Hb91.out,List.tail_drop]
      have RR:=h! (Rn.mustbad (cs':=[.I 2,.I 0,.string (str t.text),.slice (some ⟨wb.heap.size,0,none⟩) 1 1]) he9 hq (j:=i9));clear yn fn Rn hq;have v0:=Xn.out.c0;have y0:=Xn.out.frozen 0;have v1:=Xn.out.c1;have y1:=Xn.out.frozen 1;have v2:=Xn.out.c2;have y2:=Xn.out.frozen 2;have v3:=Xn.out.c3;have y3:=Xn.out.frozen 3;go_wp2_with fail;clear v0 v1 v2 v3 y0 y1 y2 y3 p0 p1 p2 p3;obtain⟨W9,e9,Y9,K9⟩:=Xn.out.e4 (.I 2) (.I 0) (.string (str t.text)) (.slice (some ⟨wb.heap.size,0,none⟩) 1 1);rw[e9];clear e9;obtain⟨s0,s1,s2,s3⟩:=Y9.A4;refine bodyPost_ret (v:=.agg #[.I 2,.I 0,.string (str t.text),.slice (some ⟨wb.heap.size,0,none⟩) 1 1]) (by simp[results,Tryz.results119,go_sem,s0,s1,s2,s3]) rfl ?_;obtain⟨d9,k9,r9⟩:=c1! HH.out Dn.out Kn.out K9 RR.out;exact⟨_,_,_,_,_,_,_,_,rfl,d9,k9,r9⟩
   ·have hm:=h8! D4.out Hbp.out
    have y1:=D4.out.blk.c1;have u1:=D4.out.blk.frozen 1;have wi5:IntKind.i64.wrap ((i:Int)+1)=((i:Int)+1):=IntWalk.i64_in _ ⟨by omega,by omega⟩;have KS:=(Kept.refl (λz=>z=g) w4).setCell (p:=⟨g,1,none⟩) (λ_=>rfl) (.I ((i:Int)+1));have BS:Blk (w4.setCell ⟨g,1,none⟩ (.I ((i:Int)+1))) g 105 #[.slice A ts.length c,.I ((i+1:Nat):Int),.I 0]:=by
     have:=D4.out.blk.set_ 1 (.I ((i:Int)+1))
     simpa using this
    have D5:=h! (D4.out.put KS (λ_ _ e=>e) hm BS);have K5:=q! K4 KS;have X5:=k! X4 KS;clear KS BS;go_upto_region 11 with fail;generalize w4.setCell ⟨g,1,none⟩ (.I ((i:Int)+1))=W5 at*;have EXP:=h! (HEE.out (dp+1) (i+1) W5 (by omega) D5.out);go_wp2_with fail;refine EXP.out.mono ?_;rintro e w6⟨op6,N6,nm6,B6,l6,k6,i6,er6,rfl,d6,kk6,r6⟩;have hw6:=X5.out.lt;have D6:=h! d6;have K6:=q! K5 kk6;have X6:=k! X5 kk6;have R6:=h! r6;clear d6 kk6 r6;have y7:=Blk.new w6 24 #[.I op6,.I N6,.string nm6,.slice B6 l6 k6];have f7:=a! w6 (.cells #[.I op6,.I N6,.string nm6,.slice B6 l6 k6] 24);have D7:=h! (D6.out.below f7);have K7:=e! K6 f7;have X7:=b! X6 f7;have Y7:=h! y7;have hb7:w.heap.size+1<=w6.heap.size:=by have:=X6.out.lt;omega
    have R7:=h! (R6.out.kept (base':=w.heap.size+1) (Kept.of_below (S:=λ_=>False) f7) (λ_ _ _ e=>e) (by omega));clear y7 f7;go_upto_region 12 with fail;generalize w6.alloc (.cells #[.I op6,.I N6,.string nm6,.slice B6 l6 k6] 24)=W7 at*
    by_cases he6:er6=0
    ·subst he6
     have ET:=h! (a09! g c A ts i6 ⟨#[41]⟩ W7 D7.out);rw[show (⟨#[41]⟩:ByteArray).data.toList=[41]from rfl]at ET;obtain⟨be,hbe⟩:∃b,hasT [41] (ts.drop i6)=b:=⟨_,rfl⟩
     rw[hbe]at ET;have HBE:=h! hbe;clear hbe;go_wp2_with fail;refine ET.out.mono ?_;rintro e w8 het
     cases be
     ·unfold EatTo at het
      rw[if_neg (by decide)]at het;obtain⟨er,her,rfl,dz,kz⟩:=het;have Dz:=h! dz;have Kz:=q! K7 kz;have Xz:=k! X7 kz;have Yz:=k! Y7 kz;have Rz:=h! (R7.out.kept (base':=w.heap.size+1) kz (λz hz hb e=>by omega) (Nat.le_refl _));clear dz kz;have p0:=Yz.out.cell 0;have p1:=Yz.out.cell 1;have p2:=Yz.out.cell 2;have p3:=Yz.out.cell 3;have hq:a0! (d+1) (ts.drop i)=(joinL (a0! d) 5 (ts.drop (i+1))).thenMust [41] id:=by
       rw[HT.out,a12! (by rw[<-HT.out];exact Hbp.out)]
      have RR:=h! (Rz.out.mustnot (cs':=[.I op6,.I N6,.string nm6,.slice B6 l6 k6]) hq HBE.out (j:=i6) her);clear hq;have v0:=Xz.out.c0;have y0:=Xz.out.frozen 0;have v1:=Xz.out.c1;have y1:=Xz.out.frozen 1;have v2:=Xz.out.c2;have y2:=Xz.out.frozen 2;have v3:=Xz.out.c3;have y3:=Xz.out.frozen 3;go_wp2_with fail;clear v0 v1 v2 v3 y0 y1 y2 y3;obtain⟨W9,e9,Y9,K9⟩:=Xz.out.e4 (.I op6) (.I N6) (.string nm6) (.slice B6 l6 k6);rw[e9];clear e9;obtain⟨s0,s1,s2,s3⟩:=Y9.A4;refine bodyPost_ret (v:=.agg #[.I op6,.I N6,.string nm6,.slice B6 l6 k6]) (by simp[results,Tryz.results119,go_sem,s0,s1,s2,s3]) rfl ?_;obtain⟨d9,k9,r9⟩:=c1! HH.out Dz.out Kz.out K9 RR.out;exact⟨_,_,_,_,_,_,_,_,rfl,d9,k9,r9⟩
     ·unfold EatTo at het
      rw[if_pos rfl]at het;obtain⟨rfl,dz,kz⟩:=het;have Dz:=h! dz;have Kz:=q! K7 kz;have Xz:=k! X7 kz;have Yz:=k! Y7 kz;have Rz:=h! (R7.out.kept (base':=w.heap.size+1) kz (λz hz hb e=>by omega) (Nat.le_refl _));clear dz kz;have p0:=Yz.out.cell 0;have p1:=Yz.out.cell 1;have p2:=Yz.out.cell 2;have p3:=Yz.out.cell 3;have hq:a0! (d+1) (ts.drop i)=(joinL (a0! d) 5 (ts.drop (i+1))).thenMust [41] id:=by
       rw[HT.out,a12! (by rw[<-HT.out];exact Hbp.out)]
      have RR:=h! (Rz.out.must hq HBE.out (λy hy=>hy));clear hq;have v0:=Xz.out.c0;have y0:=Xz.out.frozen 0;have v1:=Xz.out.c1;have y1:=Xz.out.frozen 1;have v2:=Xz.out.c2;have y2:=Xz.out.frozen 2;have v3:=Xz.out.c3;have y3:=Xz.out.frozen 3;go_wp2_with fail;clear v0 v1 v2 v3 y0 y1 y2 y3;obtain⟨W9,e9,Y9,K9⟩:=Xz.out.e4 (.I op6) (.I N6) (.string nm6) (.slice B6 l6 k6);rw[e9];clear e9;obtain⟨s0,s1,s2,s3⟩:=Y9.A4;refine bodyPost_ret (v:=.agg #[.I op6,.I N6,.string nm6,.slice B6 l6 k6]) (by simp[results,Tryz.results119,go_sem,s0,s1,s2,s3]) rfl ?_;obtain⟨d9,k9,r9⟩:=c1! HH.out Dz.out Kz.out K9 RR.out;exact⟨_,_,_,_,_,_,_,_,rfl,d9,k9,r9⟩
    ·have ET:=h! (a18! g c A ts ⟨#[41]⟩ i6 er6 W7 he6 D7.out)
     go_wp2_with fail;refine ET.out.mono ?_;rintro e w8⟨rfl,hw⟩;obtain rfl:w8=W7:=hw;have p0:=Y7.out.cell 0;have p1:=Y7.out.cell 1;have p2:=Y7.out.cell 2;have p3:=Y7.out.cell 3;have hq:a0! (d+1) (ts.drop i)=(joinL (a0! d) 5 (ts.drop (i+1))).thenMust [41] id:=by
      rw[HT.out,a12! (by rw[<-HT.out];exact Hbp.out)]
     have RR:=h! (R7.out.mustbad (cs':=[.I op6,.I N6,.string nm6,.slice B6 l6 k6]) he6 hq (j:=i6));clear hq;have v0:=X7.out.c0;have y0:=X7.out.frozen 0;have v1:=X7.out.c1;have y1:=X7.out.frozen 1;have v2:=X7.out.c2;have y2:=X7.out.frozen 2;have v3:=X7.out.c3;have y3:=X7.out.frozen 3;go_wp2_with fail;clear v0 v1 v2 v3 y0 y1 y2 y3;obtain⟨W9,e9,Y9,K9⟩:=X7.out.e4 (.I op6) (.I N6) (.string nm6) (.slice B6 l6 k6);rw[e9];clear e9;obtain⟨s0,s1,s2,s3⟩:=Y9.A4;refine bodyPost_ret (v:=.agg #[.I op6,.I N6,.string nm6,.slice B6 l6 k6]) (by simp[results,Tryz.results119,go_sem,s0,s1,s2,s3]) rfl ?_;obtain⟨d9,k9,r9⟩:=c1! HH.out D7.out K7.out K9 RR.out;exact⟨_,_,_,_,_,_,_,_,rfl,d9,k9,r9⟩
  ·have IS4:=h! (d3! g c A ts i 0 ⟨#[110,111,116]⟩ w3 D3.out)
   rw[show (⟨#[110,111,116]⟩:ByteArray).data.toList=[110,111,116]from rfl,Hbn.out]at IS4;go_wp2_with fail;refine IS4.out.mono ?_;rintro e w4⟨rfl,b4⟩;have D4:=h! (D3.out.below b4);have K4:=e! K3 b4;have X4:=b! X3 b4;clear b4;have hm:=h8! D4.out Hbn.out;have y1:=D4.out.blk.c1;have u1:=D4.out.blk.frozen 1;have wiu:IntKind.i64.wrap ((i:Int)+1)=((i:Int)+1):=IntWalk.i64_in _ ⟨by omega,by omega⟩;have KS:=(Kept.refl (λz=>z=g) w4).setCell (p:=⟨g,1,none⟩) (λ_=>rfl) (.I ((i:Int)+1));have BS:Blk (w4.setCell ⟨g,1,none⟩ (.I ((i:Int)+1))) g 105 #[.slice A ts.length c,.I ((i+1:Nat):Int),.I 0]:=by
    have:=D4.out.blk.set_ 1 (.I ((i:Int)+1))
    simpa using this
   have Du:=h! (D4.out.put KS (λ_ _ e=>e) hm BS);have Ku:=q! K4 KS;have Xu:=k! X4 KS;clear KS BS;go_upto_region 8 with fail;generalize w4.setCell ⟨g,1,none⟩ (.I ((i:Int)+1))=Wu at*;have UND:=h! (HUU.out (dp+1) (i+1) Wu (by omega) Du.out);go_wp2_with fail;refine UND.out.mono ?_;rintro e w6⟨op6,N6,nm6,B6,l6,k6,i6,er6,rfl,d6,kk6,r6⟩;have hw6:=Xu.out.lt;have D6:=h! d6;have K6:=q! Ku kk6;have X6:=k! Xu kk6;have R6:=h! r6;clear d6 kk6 r6;have y7:=Blk.new w6 24 #[.I op6,.I N6,.string nm6,.slice B6 l6 k6];have f7:=a! w6 (.cells #[.I op6,.I N6,.string nm6,.slice B6 l6 k6] 24);have D7:=h! (D6.out.below f7);have K7:=e! K6 f7;have X7:=b! X6 f7;have Y7:=h! y7;have hb7:w.heap.size+1<=w6.heap.size:=by have:=X6.out.lt;omega
   have R7:=h! (R6.out.kept (base':=w.heap.size+1) (Kept.of_below (S:=λ_=>False) f7) (λ_ _ _ e=>e) (by omega));have RR:=h! (R7.out.wrap (q:=a0! (d+1) (ts.drop i)) (cs':=[.I 4,.I 0,.E,.slice (some ⟨w6.heap.size,0,none⟩) 1 1]) .non (by rw[HT.out,d95! (by rw[<-HT.out];exact Hbn.out)]) (λy hy=>a15! (t:=24) y7 hb7 rfl hy .non 4 ⟨#[]⟩ rfl rfl));clear y7 f7;have v0:=X7.out.c0;have y0:=X7.out.frozen 0;have v1:=X7.out.c1;have y1:=X7.out.frozen 1;have v2:=X7.out.c2;have y2:=X7.out.frozen 2;have v3:=X7.out.c3;have y3:=X7.out.frozen 3;go_wp2_with fail;clear v0 v1 v2 v3 y0 y1 y2 y3;obtain⟨W9,e9,Y9,K9⟩:=X7.out.e4 (.I 4) (.I 0) (.E) (.slice (some ⟨w6.heap.size,0,none⟩) 1 1);rw[e9];clear e9;obtain⟨s0,s1,s2,s3⟩:=Y9.A4;refine bodyPost_ret (v:=.agg #[.I 4,.I 0,.E,.slice (some ⟨w6.heap.size,0,none⟩) 1 1]) (by simp[results,Tryz.results119,go_sem,s0,s1,s2,s3]) rfl ?_;obtain⟨d9,k9,r9⟩:=c1! HH.out D7.out K7.out K9 RR.out;exact⟨_,_,_,_,_,_,_,_,rfl,d9,k9,r9⟩
 ·have IS4:=h! (d3! g c A ts i 0 ⟨#[110,111,116]⟩ w2 D2.out)
  rw[show (⟨#[110,111,116]⟩:ByteArray).data.toList=[110,111,116]from rfl,d93! (by decide) Hb45.out]at IS4;go_wp2_with fail;refine IS4.out.mono ?_;rintro e w4⟨rfl,b4⟩;have D4:=h! (D2.out.below b4);have K4:=e! K2 b4;have X4:=b! X2 b4;clear b4;have hm:=h8! D4.out Hb45.out;have y1:=D4.out.blk.c1;have u1:=D4.out.blk.frozen 1;have wiu:IntKind.i64.wrap ((i:Int)+1)=((i:Int)+1):=IntWalk.i64_in _ ⟨by omega,by omega⟩;have KS:=(Kept.refl (λz=>z=g) w4).setCell (p:=⟨g,1,none⟩) (λ_=>rfl) (.I ((i:Int)+1));have BS:Blk (w4.setCell ⟨g,1,none⟩ (.I ((i:Int)+1))) g 105 #[.slice A ts.length c,.I ((i+1:Nat):Int),.I 0]:=by
   have:=D4.out.blk.set_ 1 (.I ((i:Int)+1))
   simpa using this
  have Du:=h! (D4.out.put KS (λ_ _ e=>e) hm BS);have Ku:=q! K4 KS;have Xu:=k! X4 KS;clear KS BS;go_upto_region 8 with fail;generalize w4.setCell ⟨g,1,none⟩ (.I ((i:Int)+1))=Wu at*;have UND:=h! (HUU.out (dp+1) (i+1) Wu (by omega) Du.out);go_wp2_with fail;refine UND.out.mono ?_;rintro e w6⟨op6,N6,nm6,B6,l6,k6,i6,er6,rfl,d6,kk6,r6⟩;have hw6:=Xu.out.lt;have D6:=h! d6;have K6:=q! Ku kk6;have X6:=k! Xu kk6;have R6:=h! r6;clear d6 kk6 r6;have y7:=Blk.new w6 24 #[.I op6,.I N6,.string nm6,.slice B6 l6 k6];have f7:=a! w6 (.cells #[.I op6,.I N6,.string nm6,.slice B6 l6 k6] 24);have D7:=h! (D6.out.below f7);have K7:=e! K6 f7;have X7:=b! X6 f7;have Y7:=h! y7;have hb7:w.heap.size+1<=w6.heap.size:=by have:=X6.out.lt;omega
  have R7:=h! (R6.out.kept (base':=w.heap.size+1) (Kept.of_below (S:=λ_=>False) f7) (λ_ _ _ e=>e) (by omega));have RR:=h! (R7.out.wrap (q:=a0! (d+1) (ts.drop i)) (cs':=[.I 3,.I 0,.E,.slice (some ⟨w6.heap.size,0,none⟩) 1 1]) .neg (by rw[HT.out,d94! (by rw[<-HT.out];exact Hb45.out)]) (λy hy=>a15! (t:=24) y7 hb7 rfl hy .neg 3 ⟨#[]⟩ rfl rfl));clear y7 f7;have v0:=X7.out.c0;have y0:=X7.out.frozen 0;have v1:=X7.out.c1;have y1:=X7.out.frozen 1;have v2:=X7.out.c2;have y2:=X7.out.frozen 2;have v3:=X7.out.c3;have y3:=X7.out.frozen 3;go_wp2_with fail;clear v0 v1 v2 v3 y0 y1 y2 y3;obtain⟨W9,e9,Y9,K9⟩:=X7.out.e4 (.I 3) (.I 0) (.E) (.slice (some ⟨w6.heap.size,0,none⟩) 1 1);rw[e9];clear e9;obtain⟨s0,s1,s2,s3⟩:=Y9.A4;refine bodyPost_ret (v:=.agg #[.I 3,.I 0,.E,.slice (some ⟨w6.heap.size,0,none⟩) 1 1]) (by simp[results,Tryz.results119,go_sem,s0,s1,s2,s3]) rfl ?_;obtain⟨d9,k9,r9⟩:=c1! HH.out D7.out K7.out K9 RR.out;exact⟨_,_,_,_,_,_,_,_,rfl,d9,k9,r9⟩
end Go.Proofs.YtdgekckedchjbaaGreatDoor
