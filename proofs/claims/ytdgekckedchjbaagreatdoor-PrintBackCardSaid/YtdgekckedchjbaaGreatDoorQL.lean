
/-
 syntax.Parse: what it answers. (Printed by wip/tools/gens29.py.) Statements and programs of any shape in memory; g8! ones as such.
-/
import Derived.Test.YtdgekckedchjbaaGreatDoorS28
import Derived.Test.YtdgekckedchjbaaGreatDoorQK
set_option maxHeartbeats 4000000
set_option maxRecDepth 100000
namespace Go.Proofs.YtdgekckedchjbaaGreatDoor
open Go.RowKit
variable {t:Tk} {r:List Tk} {cs:List Value} {w w':World} {D S:Nat->Prop}
inductive OutP where
 |ok (x:Pg)
 |bad (L C E:Int)
def endP:PS Pg->OutP
 | .bad [] e=>.bad 0 0 e
 | .bad (t::_) e=>.bad t.line t.col e
 | .ok x []=>.ok x
 | .ok x (t::_)=>if t.kind=0 then .ok x else .bad t.line t.col 3
def progO(l:List UInt8):OutP:=match lexS l with
 | .err L C E=>.bad L C E
 | .ok ts=>endP (progP ts)
theorem d18!{e:Int}(he:e≠0):endP (.bad (t::r) e)=.bad t.line t.col (endE t e)∧endE t e≠0:=by
 have:endE t e=e:=by simp[endE,nextB,b9!,he]
 rw[this]
 exact⟨rfl,he⟩
theorem d19!{x:Pg}:(endP (.ok x (t::r))=.ok x∧endE t 0=0)∨(endP (.ok x (t::r))=.bad t.line t.col (endE t 0)∧endE t 0≠0):=by
 by_cases h:t.kind=0
 ·exact .inl ⟨by simp[endP,h],by simp[endE,nextB,h]⟩
 ·have:endE t 0=3:=by simp[endE,nextB,b9!,h]
  rw[this];exact .inr ⟨by simp[endP,h],by decide⟩
def d20!(w:World)(g c:Nat)(A:Option Addr)(m:Nat->Nat)(ts:List Tk)(r:Nat)(p:PS Pg)(e:Ending)(w':World):Prop:=
 ∃(nm:ByteArray) (seats:Int) (sil:ByteArray) (A1:Option Addr) (n1 c1:Nat) (A2:Option Addr) (n2 c2:Nat) (A3:Option Addr) (n3 c3:Nat) (A4:Option Addr) (n4 c4:Nat) (A5:Option Addr) (n5 c5:Nat) (A6:Option Addr) (n6 c6:Nat) (A7:Option Addr) (n7 c7:Nat) (A8:Option Addr) (n8 c8:Nat),e=.returned (.tuple #[])∧Kept (λz=>z=g∨z=r) w w'∧Blk w' r 48 #[.string nm,.I seats,.slice A1 n1 c1,.slice A2 n2 c2,.slice A3 n3 c3,.slice A4 n4 c4,.slice A5 n5 c5,.slice A6 n6 c6,.string sil,.slice A7 n7 c7,.slice A8 n8 c8]∧
  ∃(i:Nat) (er:Int),i<ts.length∧Blk w' g 119 (a2! A ts.length c m i 0 er)∧PsAt ts i er p (λpg=>PC (λk=>w.heap.size<=k) w' [.string nm,.I seats,.slice A1 n1 c1,.slice A2 n2 c2,.slice A3 n3 c3,.slice A4 n4 c4,.slice A5 n5 c5,.slice A6 n6 c6,.string sil,.slice A7 n7 c7,.slice A8 n8 c8] pg)
theorem d21!(g c:Nat)(A:Option Addr)(m:Nat->Nat)(ts:List Tk)(i:Nat)(r:Nat)(w:World)(h:Par w g A c m ts i 0 0)(hb:Blk w r 48 #[.E,.I 0,.N,.N,.N,.N,.N,.N,.E,.N,.N])(hgr:g≠r):
 Calls Tryz.prog 27 #[.pointer (some ⟨g,0,none⟩),.pointer (some ⟨r,0,none⟩)] w (d20! w g c A m ts r (progP (ts.drop i))):=by
 have JC:=h! (d11! g c A m ts i 0 w h)
 have HB:=h! hb
 have hgl:=h.blk.lt
 have hrl:=hb.lt
 have e0:stP progP ts i 0=progP (ts.drop i):=by unfold stP;rw[if_pos rfl]
 rw[e0]at JC
 clear h hb e0
 generalize progP (ts.drop i)=p at*
 go_enter Tryz.func27,Tryz.ntmps27
 go_wp2_with fail
 refine JC.out.mono ?_
 rintro e' w4⟨v4,rfl,k4,⟨nm,seats,sil,A1,n1,c1,A2,n2,c2,A3,n3,c3,A4,n4,c4,A5,n5,c5,A6,n6,c6,A7,n7,c7,A8,n8,c8,rfl⟩,i4,er4,p4,ps4⟩
 have x4:=HB.out.kept k4 (by omega)
 have K4:=h! k4
 have P4:=h! p4
 have PS4:=h! ps4
 clear k4 p4 ps4 JC
 obtain⟨sc0,sc1,sc2,sc3,sc4,sc5,sc6,sc7,sc8,sc9,sc10⟩:=x4.A11
 obtain⟨tc0,tc1,tc2,tc3,tc4,tc5,tc6,tc7,tc8,tc9,tc10⟩:=x4.F11
 go_wp2_with fail
 clear sc0 sc1 sc2 sc3 sc4 sc5 sc6 sc7 sc8 sc9 sc10
 obtain⟨W9,e9,X9,K9⟩:=x4.e11 (.string nm) (.I seats) (.slice A1 n1 c1) (.slice A2 n2 c2) (.slice A3 n3 c3) (.slice A4 n4 c4) (.slice A5 n5 c5) (.slice A6 n6 c6) (.string sil) (.slice A7 n7 c7) (.slice A8 n8 c8)
 rw[e9]
 clear e9
 go_end0
 exact⟨nm,seats,sil,A1,n1,c1,A2,n2,c2,A3,n3,c3,A4,n4,c4,A5,n5,c5,A6,n6,c6,A7,n7,c7,A8,n8,c8,rfl,(K4.out.mono (T:=λz=>z=g∨z=r) (λ_ _ e=>.inl e)).then_ K9 (λ_ _ e=>.inr e),X9,i4,er4,P4.out.at_,P4.out.blk.kept K9 hgr,PS4.out.mono λpg hpg=>p9! _ _ _ w4 _ _ pg K9 (λk _ hk e=>by omega) (λk _ hk=>hk) hpg.cells⟩
def a98!(b r:Nat)(o:OutP)(L C E:Int)(w':World):Prop:=match o with
 | .ok x=>E=0∧∃(nm:ByteArray) (seats:Int) (sil:ByteArray) (A1:Option Addr) (n1 c1:Nat) (A2:Option Addr) (n2 c2:Nat) (A3:Option Addr) (n3 c3:Nat) (A4:Option Addr) (n4 c4:Nat) (A5:Option Addr) (n5 c5:Nat) (A6:Option Addr) (n6 c6:Nat) (A7:Option Addr) (n7 c7:Nat) (A8:Option Addr) (n8 c8:Nat),Blk w' r 48 #[.string nm,.int .i64 seats,.slice A1 n1 c1,.slice A2 n2 c2,.slice A3 n3 c3,.slice A4 n4 c4,.slice A5 n5 c5,.slice A6 n6 c6,.string sil,.slice A7 n7 c7,.slice A8 n8 c8]∧PC (λz=>b<=z) w' [.string nm,.int .i64 seats,.slice A1 n1 c1,.slice A2 n2 c2,.slice A3 n3 c3,.slice A4 n4 c4,.slice A5 n5 c5,.slice A6 n6 c6,.string sil,.slice A7 n7 c7,.slice A8 n8 c8] x
 | .bad L' C' E'=>L=L'∧C=C'∧E=E'∧E≠0
def d22!(w:World)(r:Nat)(o:OutP)(e:Ending)(w':World):Prop:=
 ∃(L C E:Int),e=.returned (.tuple #[.agg #[.I L,.I C],.I E])∧Kept (λz=>z=r) w w'∧a98! w.heap.size r o L C E w'
theorem d23!(s:ByteArray)(r:Nat)(w:World)(hT:Spaces w)(hs:s.size<=65536)(hb:Blk w r 48 #[.E,.I 0,.N,.N,.N,.N,.N,.N,.E,.N,.N]):
 Calls Tryz.prog 26 #[.string s,.func (.func 27) #[] #[.pointer (some ⟨r,0,none⟩)]] w (d22! w r (progO s.data.toList)):=by
 obtain⟨W0,eW,f0,x0,z0⟩:=n! w 50 #[.I 0,.I 0]
 have TK:=h! (a51! s _ (hT.below f0) hs)
 have HB:=h! (hb.below f0 hb.lt)
 have hrl:=hb.lt
 have F0:=h! f0
 have X0:=h! x0
 have hsz:s.data.toList.length=s.size:=by simp
 have HSZ:=h! hsz
 clear hT f0 x0 hb hsz
 go_enter Tryz.func26,Tryz.ntmps26
 go_upto_region 1 with fail
 rw[eW.out]
 clear eW
 go_wp2_with fail
 refine TK.out.mono ?_
 intro e w1 hp
 obtain⟨A,n,c,L,C,E,ts,rfl,hn,hot,hb1,hcase⟩:=a95! hp
 have x1:=h! (X0.out.below hb1 (by omega))
 have HB1:=h! (HB.out.below hb1 (by omega))
 have HOT:=h! hot
 have B1:=h! hb1
 have HN:=h! hn
 have HC:=h! hcase
 have z1:=hb1.size
 clear TK hp hot hb1 hn hcase X0 HB
 have y1:=Blk.new w1 112 #[.I L,.I C]
 have Y1:=h! y1
 have x2:=h! (x1.out.alloc (.cells #[.I L,.I C] 112))
 by_cases hE:E=0
 ·subst hE
  obtain⟨hlx,-⟩:=HC.out.resolve_right (λh=>(z1! h.1).1 rfl);have HLX:=h! hlx;clear HC;go_upto_region 4 with fail;have B2:=h! (B1.out.al (.cells #[.I L,.I C] 112));have J2:=h! (a67! (w1.alloc (.cells #[.I L,.I C] 112)));have k12:=(Kept.refl (λ_=>False) w1).alloc (.cells #[.I L,.I C] 112);generalize w1.alloc (.cells #[.I L,.I C] 112)=W2 at*;go_wp2_with fail;refine J2.out.mono ?_;rintro e w2⟨m,rfl,hb2,hd⟩;have K12:=h! (k12.then_ (Kept.of_below (S:=λ_=>False) hb2) (λ_ _ h=>h));have z12:=K12.out.size;have x22:=x2.out.below hb2 x2.out.lt;have hlt2:w.heap.size<w2.heap.size:=x22.lt;obtain⟨us,LE,CE,hts,hul⟩:=a94! HLX.out;have hlen:0<ts.length:=by rw[hts];simp
  have hlim:ts.length<=70000:=by rw[hts];simp;have:=HSZ.out;omega
  obtain⟨g',hA,hg1,hg2,-,-,-,-⟩:=HOT.out.addr (by rw[HN.out];exact hlen);have HAF:Hid (∀a,A=some a->a.block=g'):=λa ha=>by rw[hA]at ha;cases ha;rfl
  have HM:Hid (∀k,k<5->w.heap.size<m k∧m k<w2.heap.size):=λk hk=>⟨Nat.lt_of_lt_of_le (by have:=B2.out.size;have:=x2.out.lt;omega) (hd k hk).2,(hd k hk).1.lt⟩
  have P3:Hid (Par (w2.alloc (.cells (a2! A ts.length c m 0 0 0) 119)) w2.heap.size A c m ts 0 0 0):=⟨
   ⟨Reads.keptfar (HOT.out.reads HN.out |> (HN.out▸ ·)) (K12.out.alloc _) (λ_ _ h=>h),λa ha=>by rw[HAF.out a ha];omega,λk hk=>((hd k hk).1.kept (S:=λ_=>False) ((Kept.refl _ w2).alloc _) (λh=>h)),λk hk=>by have:=(HM.out k hk).2;omega,hlim,us,LE,CE,hts⟩,
   Blk.new w2 119 _,hlen⟩
  have HB3:=h! ((HB1.out.kept K12.out (λh=>h)).alloc (.cells (a2! A ts.length c m 0 0 0) 119));have X3:=h! (x22.alloc (.cells (a2! A ts.length c m 0 0 0) 119));have KW3:=h! ((((Kept.of_below (S:=λz=>z=r) F0.out).then_ (Kept.of_below (S:=λz=>z=r) B1.out) (λ_ _ h=>h)).then_ K12.out (λ_ _ h=>h.elim)).alloc (.cells (a2! A ts.length c m 0 0 0) 119));have z3:=z! w2 (.cells (a2! A ts.length c m 0 0 0) 119);have hrl2:r<w2.heap.size:=(HB1.out.kept K12.out (λh=>h)).lt;have CL:=h! (d21! w2.heap.size c A m ts 0 r _ P3.out HB3.out (by omega));have FO:Hid (progO s.data.toList=endP (progP ts)):=by unfold progO;rw[HLX.out];rfl
  have HL:=h! hlen;have HTS:=h! hts;have hnl:=HN.out;rw[List.drop_zero]at CL;generalize progO s.data.toList=oo at*;generalize progP ts=p at*;clear hb2 hd J2 hts hlen hul k12 x22 hlim hA;unfold a2! at P3 HB3 X3 KW3 z3 CL;rw[<-hnl]at P3 HB3 X3 KW3 z3 CL;clear hnl;go_upto_region 5 with fail;generalize w2.alloc (.cells #[.slice A n c,.I (0:Nat),.I 0,.map (some (m 0)),.map (some (m 1)),.map (some (m 2)),.map (some (m 3)),.map (some (m 4)),.I 0] 119)=W3 at*;go_wp2_with fail;refine CL.out.mono ?_;rintro e w4⟨nm,seats,sil,A1,n1,c1,A2,n2,c2,A3,n3,c3,A4,n4,c4,A5,n5,c5,A6,n6,c6,A7,n7,c7,A8,n8,c8,rfl,k4,bb4,i',er',hi',hb',hp'⟩;have P4:Hid (Par w4 w2.heap.size A c m ts i' 0 er'):=⟨P3.out.st.kept' k4 (λa ha e=>by have h1:=HAF.out a ha;rcases e with e|e<;>omega) (λq hq e=>by have h1:=HM.out q hq;rcases e with e|e<;>omega),hb',hi'⟩;have X4:=h! (X3.out.kept k4 (λe=>by rcases e with e|e<;>omega));have KW4:=h! (KW3.out.then_ k4 (λz hz e=>by rcases e with e|e<;>omega));have z4:=k4.size;obtain⟨t',ht'⟩:=ParS.at_some hi';have NX:=h! (c9! w2.heap.size c A m ts i' 0 er' 0 w4 P4.out t' ht');have WR:=h! (λw' h'=>f9! w2.heap.size c A m ts i' 0 er' w' h' t' ht');have FINO:Hid (∀W,Kept (λz=>z=w2.heap.size∨z=w.heap.size) w4 W->a98! w.heap.size r oo t'.line t'.col (endE t' er') W):=by
   intro W hW
   rw[FO.out]
   cases p with
   |ok x r'=>
    obtain⟨rfl,rfl,hT⟩:=hp';rw[a1! ht'];rcases d19! (x:=x) (t:=t') (r:=ts.drop (i'+1))with ⟨h1,h2⟩|⟨h1,h2⟩
    ·rw[h1]
     exact⟨h2,nm,seats,sil,A1,n1,c1,A2,n2,c2,A3,n3,c3,A4,n4,c4,A5,n5,c5,A6,n6,c6,A7,n7,c7,A8,n8,c8,bb4.kept hW (λe=>by rcases e with e|e<;>omega),p9! _ _ _ w4 _ _ x hW (λz _ hz e=>by rcases e with e|e<;>omega) (λz _ hz=>by omega) hT⟩
    ·rw[h1]
     exact⟨rfl,rfl,rfl,h2⟩
   |bad r' e=>
    obtain⟨rfl,rfl,hne⟩:=hp';rw[a1! ht'];obtain⟨h1,h2⟩:=d18! (t:=t') (r:=ts.drop (i'+1)) hne;rw[h1];exact⟨rfl,rfl,rfl,h2⟩
  have HTT:=h! ht';have HEE:Hid (endE t' er'=if nextB t' er' 0 then er' else b9! t' er'):=rfl;clear CL k4 bb4 hb' hi' hp' ht' P3 HB3 X3 KW3;generalize endE t' er'=ee at*;generalize nextB t' er' 0=b at*
  cases b
  ·rw[if_neg (by decide)]at HEE
   have HEE':=HEE.out;rw[<-HEE']at WR;clear HEE HEE';go_wp2_with fail;refine NX.out.mono ?_;rintro e w5⟨rfl,q,rfl⟩;have k5:=((Kept.refl (λz=>z=w2.heap.size) w4).drewN q);have P5':=P4.out.drewN q;have X5':=X4.out.drewN q;go_wp2_with fail;refine(WR.out _ P5').mono ?_;rintro e W5⟨rfl,p5,k5'⟩;have P5:=h! p5;have X5:=h! (X5'.kept k5' (by omega));have KW5:=h! ((KW4.out.drewN q).then_ k5' (λz hz e=>by omega));have KW45:=h! ((k5.then_ k5' (λ_ _ e=>e)).mono (T:=λz=>z=w2.heap.size∨z=w.heap.size) (λ_ _ e=>.inl e));clear p5 k5 k5' P5' X5' NX WR;go_upto_region 8 with fail;obtain⟨b,o,hA5,hbb,hbg,-,-,-,q3,q4⟩:=P5.out.st.tok HTT.out;have bp:=P5.out.blk;have hin:=P5.out.at_;unfold a2! at bp;rw[hA5]at bp;obtain⟨n5,hn5⟩:∃q,ts.length=q:=⟨_,rfl⟩
   rw[hn5]at bp hin;obtain⟨c0,c1⟩:=bp.A2;have c8:=bp.c8;have x5:=X5.out;obtain⟨s0,s1⟩:=x5.A2;obtain⟨t0,t1⟩:=x5.F2;have g1:(0:Int)<=(i':Int):=by omega
   have g2:(i':Int)<(n5:Int):=by omega
   clear hA5 bp hn5
   go_region
   go_wp2_with fail;clear s0 s1;obtain⟨W9,e9,X9,K9⟩:=x5.e2 (.I t'.line) (.I t'.col);rw[e9];clear e9;obtain⟨s0,s1⟩:=X9.A2;refine bodyPost_ret (v:=.tuple #[.agg #[.I t'.line,.I t'.col],.I ee]) (by simp[results,Tryz.results26,go_sem,s0,s1]) rfl ⟨_,_,_,rfl,(KW5.out.then_ K9 (λz hz e=>by omega)).drew,?_⟩;refine FINO.out W9.drew ((KW45.out.then_ K9 (λ_ _ e=>.inr e)).drew)
  ·rw[if_pos rfl]at HEE
   have HEE':=HEE.out;subst HEE';clear HEE;go_wp2_with fail;refine NX.out.mono ?_;rintro e w5⟨rfl,q,rfl⟩;have P5:=h! (P4.out.drewN q);have X5:=h! (X4.out.drewN q);have KW5:=h! (KW4.out.drewN q);have KW45:=h! ((Kept.refl (λz=>z=w2.heap.size∨z=w.heap.size) w4).drewN q);clear NX WR;generalize w4.drewN q=W5 at*;go_upto_region 8 with fail;obtain⟨b,o,hA5,hbb,hbg,-,-,-,q3,q4⟩:=P5.out.st.tok HTT.out;have bp:=P5.out.blk;have hin:=P5.out.at_;unfold a2! at bp;rw[hA5]at bp;obtain⟨n5,hn5⟩:∃q,ts.length=q:=⟨_,rfl⟩
   rw[hn5]at bp hin;obtain⟨c0,c1⟩:=bp.A2;have c8:=bp.c8;have x5:=X5.out;obtain⟨s0,s1⟩:=x5.A2;obtain⟨t0,t1⟩:=x5.F2;have g1:(0:Int)<=(i':Int):=by omega
   have g2:(i':Int)<(n5:Int):=by omega
   clear hA5 bp hn5
   go_region
   go_wp2_with fail;clear s0 s1;obtain⟨W9,e9,X9,K9⟩:=x5.e2 (.I t'.line) (.I t'.col);rw[e9];clear e9;obtain⟨s0,s1⟩:=X9.A2;refine bodyPost_ret (v:=.tuple #[.agg #[.I t'.line,.I t'.col],.I ee]) (by simp[results,Tryz.results26,go_sem,s0,s1]) rfl ⟨_,_,_,rfl,(KW5.out.then_ K9 (λz hz e=>by omega)).drew,?_⟩;refine FINO.out W9.drew ((KW45.out.then_ K9 (λ_ _ e=>.inr e)).drew)
 ·have hce:=HC.out.resolve_left (λh=>hE h.2)
  have HLX:=h! hce.1;have hE':(E==0)=false:=by simp[hE]
  have x22:=x2.out;obtain⟨s0,s1⟩:=x22.A2;obtain⟨t0,t1⟩:=x22.F2;obtain⟨v0,v1⟩:=y1.A2;have KK:=h! (((Kept.of_below (S:=λz=>z=r) F0.out).then_ (Kept.of_below (S:=λz=>z=r) B1.out) (λ_ _ h=>h)).alloc (.cells #[.I L,.I C] 112));clear HC hce y1 Y1;go_wp2_with fail;clear s0 s1 v0 v1;obtain⟨W9,e9,X9,K9⟩:=x22.e2 (.I L) (.I C);rw[e9];clear e9;obtain⟨s0,s1⟩:=X9.A2;refine bodyPost_ret (v:=.tuple #[.agg #[.I L,.I C],.I E]) (by simp[results,Tryz.results26,go_sem,s0,s1]) rfl ⟨_,_,_,rfl,KK.out.then_ K9 (λz hz e=>by omega),?_⟩;unfold progO;rw[HLX.out];exact⟨rfl,rfl,rfl,hE⟩
def ExOutP(b:Nat)(o:OutP)(cs:List Value)(L C E:Int)(w':World):Prop:=match o with
 | .ok x=>E=0∧L=0∧C=0∧PC (λz=>b<=z) w' cs x
 | .bad L' C' E'=>L=L'∧C=C'∧E=E'∧E≠0∧cs=[.string ⟨#[]⟩,.int .i64 0,.slice none 0 0,.slice none 0 0,.slice none 0 0,.slice none 0 0,.slice none 0 0,.slice none 0 0,.string ⟨#[]⟩,.slice none 0 0,.slice none 0 0]
def d24!(w:World)(o:OutP)(e:Ending)(w':World):Prop:=
 ∃(nm:ByteArray) (seats:Int) (sil:ByteArray) (A1:Option Addr) (n1 c1:Nat) (A2:Option Addr) (n2 c2:Nat) (A3:Option Addr) (n3 c3:Nat) (A4:Option Addr) (n4 c4:Nat) (A5:Option Addr) (n5 c5:Nat) (A6:Option Addr) (n6 c6:Nat) (A7:Option Addr) (n7 c7:Nat) (A8:Option Addr) (n8 c8:Nat) (L C E:Int),e=.returned (.tuple #[.agg #[.string nm,.I seats,.slice A1 n1 c1,.slice A2 n2 c2,.slice A3 n3 c3,.slice A4 n4 c4,.slice A5 n5 c5,.slice A6 n6 c6,.string sil,.slice A7 n7 c7,.slice A8 n8 c8],.agg #[.I L,.I C],.I E])∧Below w.heap.size w w'∧
  ExOutP w.heap.size o [.string nm,.I seats,.slice A1 n1 c1,.slice A2 n2 c2,.slice A3 n3 c3,.slice A4 n4 c4,.slice A5 n5 c5,.slice A6 n6 c6,.string sil,.slice A7 n7 c7,.slice A8 n8 c8] L C E w'
theorem ExOutP.kept{b:Nat}{o:OutP}{L C E:Int}(h:ExOutP b o cs L C E w)(hk:Kept S w w')(hs:∀k,k<w.heap.size->b<=k->¬S k):ExOutP b o cs L C E w':=by
 cases o with
 |ok x=>exact⟨h.1,h.2.1,h.2.2.1,p9! _ _ _ w _ _ x hk hs (λ_ _ h=>h) h.2.2.2⟩
 |bad L C E=>exact h
theorem z2!(s:ByteArray)(w:World)(hT:Spaces w)(hs:s.size<=65536):
 Calls Tryz.prog 14 #[.string s] w (d24! w (progO s.data.toList)):=by
 have f0:Below w.heap.size w (((w.alloc (.cells #[.E,.I 0,.N,.N,.N,.N,.N,.N,.E,.N,.N] 48)).alloc (.cells #[.I 0,.I 0] 50)).alloc (.cells #[.E,.I 0,.N,.N,.N,.N,.N,.N,.E,.N,.N] 48)):=(((Below.refl _ w).al _).alloc (by simp) _).alloc (by simp;omega) _
 obtain⟨x1,x2,x3⟩:=u8! w 48 50 48 #[.E,.I 0,.N,.N,.N,.N,.N,.N,.E,.N,.N] #[.I 0,.I 0] #[.E,.I 0,.N,.N,.N,.N,.N,.N,.E,.N,.N]
 have RD:=h! (d23! s (w.heap.size+2) _ (hT.below f0) hs x3)
 have F0:=h! f0
 have X1:=h! x1
 have X2:=h! x2
 have z0:(((w.alloc (.cells #[.E,.I 0,.N,.N,.N,.N,.N,.N,.E,.N,.N] 48)).alloc (.cells #[.I 0,.I 0] 50)).alloc (.cells #[.E,.I 0,.N,.N,.N,.N,.N,.N,.E,.N,.N] 48)).heap.size=w.heap.size+3:=by simp
 clear hT f0 x1 x2 x3
 generalize progO s.data.toList=oo at*
 go_enter Tryz.func14,Tryz.ntmps14
 go_upto_region 2 with fail
 generalize ((w.alloc (.cells #[.E,.I 0,.N,.N,.N,.N,.N,.N,.E,.N,.N] 48)).alloc (.cells #[.I 0,.I 0] 50)).alloc (.cells #[.E,.I 0,.N,.N,.N,.N,.N,.N,.E,.N,.N] 48)=W0 at*
 go_wp2_with fail
 refine RD.out.mono ?_
 rintro e w1⟨L,C,E,rfl,k1,h1⟩
 have X1':=h! ((X1.out.kept k1 (by omega)).alloc (.cells #[.I L,.I C] 50))
 have X2':=h! ((X2.out.kept k1 (by omega)).alloc (.cells #[.I L,.I C] 50))
 have Y1:=h! (Blk.new w1 50 #[.I L,.I C])
 have z1:=k1.size
 have F1:=h! ((F0.out.trans (k1.to_below (B:=w.heap.size) (by omega) (λq hq e=>by omega))).alloc (by omega) (.cells #[.I L,.I C] 50))
 have H1:=h! h1
 have K1:=h! ((Kept.refl (λ_=>False) w1).alloc (.cells #[.I L,.I C] 50))
 have z2:=z! w1 (.cells #[.I L,.I C] 50)
 clear k1 h1 RD X1 X2
 by_cases hE:E=0
 ·subst hE
  cases oo with
  |bad L' C' E'=>exact absurd H1.out.2.2.1 (by have:=H1.out.2.2.2;exact absurd rfl this)
  |ok x=>
   obtain⟨-,nm,seats,sil,A1,n1,c1,A2,n2,c2,A3,n3,c3,A4,n4,c4,A5,n5,c5,A6,n6,c6,A7,n7,c7,A8,n8,c8,hb,hT⟩:=H1.out;have HB:=h! (hb.kept K1.out (λh=>h));have HTE:=h! (p9! _ (λz=>W0.heap.size<=z) _ w1 _ _ x K1.out (λ_ _ _ h=>h) (λ_ _ h=>h) hT);clear hb hT H1;go_upto_region 5 with fail;generalize w1.alloc (.cells #[.I L,.I C] 50)=W2 at*;have x1:=X1'.out;have x2:=X2'.out;have hb:=HB.out;obtain⟨sc0,sc1,sc2,sc3,sc4,sc5,sc6,sc7,sc8,sc9,sc10⟩:=x1.A11;obtain⟨tc0,tc1,tc2,tc3,tc4,tc5,tc6,tc7,tc8,tc9,tc10⟩:=x1.F11;obtain⟨pc0,pc1⟩:=x2.A2;obtain⟨qc0,qc1⟩:=x2.F2;obtain⟨vc0,vc1,vc2,vc3,vc4,vc5,vc6,vc7,vc8,vc9,vc10⟩:=hb.A11;go_wp2_with fail;clear sc0 sc1 sc2 sc3 sc4 sc5 sc6 sc7 sc8 sc9 sc10 pc0 pc1 vc0 vc1 vc2 vc3 vc4 vc5 vc6 vc7 vc8 vc9 vc10;have K9:=Kept.put11 W2 w.heap.size (.string nm) (.I seats) (.slice A1 n1 c1) (.slice A2 n2 c2) (.slice A3 n3 c3) (.slice A4 n4 c4) (.slice A5 n5 c5) (.slice A6 n6 c6) (.string sil) (.slice A7 n7 c7) (.slice A8 n8 c8);have X9:=x1.put11 (.string nm) (.I seats) (.slice A1 n1 c1) (.slice A2 n2 c2) (.slice A3 n3 c3) (.slice A4 n4 c4) (.slice A5 n5 c5) (.slice A6 n6 c6) (.string sil) (.slice A7 n7 c7) (.slice A8 n8 c8);have Y9:=x2.kept K9 (by omega);generalize ((((((((((W2.setCell ⟨w.heap.size,0,none⟩ (.string nm)).setCell ⟨w.heap.size,1,none⟩ (.I seats)).setCell ⟨w.heap.size,2,none⟩ (.slice A1 n1 c1)).setCell ⟨w.heap.size,3,none⟩ (.slice A2 n2 c2)).setCell ⟨w.heap.size,4,none⟩ (.slice A3 n3 c3)).setCell ⟨w.heap.size,5,none⟩ (.slice A4 n4 c4)).setCell ⟨w.heap.size,6,none⟩ (.slice A5 n5 c5)).setCell ⟨w.heap.size,7,none⟩ (.slice A6 n6 c6)).setCell ⟨w.heap.size,8,none⟩ (.string sil)).setCell ⟨w.heap.size,9,none⟩ (.slice A7 n7 c7)).setCell ⟨w.heap.size,10,none⟩ (.slice A8 n8 c8)=W8 at*;have K8:=(Kept.put2 W8 (w.heap.size+1) (.I 0) (.I 0));have X8:=X9.kept K8 (by omega);have Y8:=(Y9.put2 (.I 0) (.I 0));generalize (W8.setCell ⟨w.heap.size+1,0,none⟩ (.I 0)).setCell ⟨w.heap.size+1,1,none⟩ (.I 0)=W9 at*;obtain⟨sc0,sc1,sc2,sc3,sc4,sc5,sc6,sc7,sc8,sc9,sc10⟩:=X8.A11;obtain⟨pc0,pc1⟩:=Y8.A2;have K89:Kept (λz=>z=w.heap.size∨z=w.heap.size+1) W2 W9:=(K9.mono (T:=λz=>z=w.heap.size∨z=w.heap.size+1) (λ_ _ e=>.inl e)).then_ K8 (λ_ _ e=>.inr e);have F9:=F1.out.trans (K89.to_below (B:=w.heap.size) (by omega) (λq hq e=>by rcases e with e|e<;>omega));refine bodyPost_ret (v:=.tuple #[.agg #[.string nm,.I seats,.slice A1 n1 c1,.slice A2 n2 c2,.slice A3 n3 c3,.slice A4 n4 c4,.slice A5 n5 c5,.slice A6 n6 c6,.string sil,.slice A7 n7 c7,.slice A8 n8 c8],.agg #[.I 0,.I 0],.I 0]) (by simp[results,Tryz.results14,go_sem,sc0,sc1,sc2,sc3,sc4,sc5,sc6,sc7,sc8,sc9,sc10,pc0,pc1]) rfl ⟨_,_,_,_,_,_,_,_,_,_,_,_,_,_,_,_,_,_,_,_,_,_,_,_,_,_,_,_,_,_,rfl,F9,?_⟩;exact⟨rfl,rfl,rfl,p9! _ _ _ W2 _ _ x K89 (λz _ hz e=>by rcases e with e|e<;>omega) (λz _ hz=>by omega) HTE.out⟩
 ·cases oo with
  |ok x=>exact absurd H1.out.1 hE
  |bad L' C' E'=>
   obtain⟨rfl,rfl,rfl,-⟩:=H1.out;have hE':(E==0)=false:=by simp[hE]
   clear H1;go_upto_region 4 with fail;generalize w1.alloc (.cells #[.I L,.I C] 50)=W2 at*;have x1:=X1'.out;have x2:=X2'.out;have y1:=Y1.out;obtain⟨sc0,sc1,sc2,sc3,sc4,sc5,sc6,sc7,sc8,sc9,sc10⟩:=x1.A11;obtain⟨tc0,tc1,tc2,tc3,tc4,tc5,tc6,tc7,tc8,tc9,tc10⟩:=x1.F11;obtain⟨pc0,pc1⟩:=x2.A2;obtain⟨qc0,qc1⟩:=x2.F2;obtain⟨vc0,vc1⟩:=y1.A2
   go_region
   go_wp2_with fail;clear sc0 sc1 sc2 sc3 sc4 sc5 sc6 sc7 sc8 sc9 sc10 pc0 pc1 vc0 vc1;have K9:=Kept.put11 W2 w.heap.size (.E) (.I 0) (.N) (.N) (.N) (.N) (.N) (.N) (.E) (.N) (.N);have X9:=x1.put11 (.E) (.I 0) (.N) (.N) (.N) (.N) (.N) (.N) (.E) (.N) (.N);have Y9:=x2.kept K9 (by omega);generalize ((((((((((W2.setCell ⟨w.heap.size,0,none⟩ (.E)).setCell ⟨w.heap.size,1,none⟩ (.I 0)).setCell ⟨w.heap.size,2,none⟩ (.N)).setCell ⟨w.heap.size,3,none⟩ (.N)).setCell ⟨w.heap.size,4,none⟩ (.N)).setCell ⟨w.heap.size,5,none⟩ (.N)).setCell ⟨w.heap.size,6,none⟩ (.N)).setCell ⟨w.heap.size,7,none⟩ (.N)).setCell ⟨w.heap.size,8,none⟩ (.E)).setCell ⟨w.heap.size,9,none⟩ (.N)).setCell ⟨w.heap.size,10,none⟩ (.N)=W8 at*;have K8:=(Kept.put2 W8 (w.heap.size+1) (.I L) (.I C)).drew;have X8:=X9.kept K8 (by omega);have Y8:=(Y9.put2 (.I L) (.I C)).drew;generalize ((W8.setCell ⟨w.heap.size+1,0,none⟩ (.I L)).setCell ⟨w.heap.size+1,1,none⟩ (.I C)).drew=W9 at*;obtain⟨sc0,sc1,sc2,sc3,sc4,sc5,sc6,sc7,sc8,sc9,sc10⟩:=X8.A11;obtain⟨pc0,pc1⟩:=Y8.A2;have K89:Kept (λz=>z=w.heap.size∨z=w.heap.size+1) W2 W9:=(K9.mono (T:=λz=>z=w.heap.size∨z=w.heap.size+1) (λ_ _ e=>.inl e)).then_ K8 (λ_ _ e=>.inr e);have F9:=F1.out.trans (K89.to_below (B:=w.heap.size) (by omega) (λq hq e=>by rcases e with e|e<;>omega));refine bodyPost_ret (v:=.tuple #[.agg #[.E,.I 0,.N,.N,.N,.N,.N,.N,.E,.N,.N],.agg #[.I L,.I C],.I E]) (by simp[results,Tryz.results14,go_sem,sc0,sc1,sc2,sc3,sc4,sc5,sc6,sc7,sc8,sc9,sc10,pc0,pc1]) rfl ⟨_,_,_,_,_,_,_,_,_,_,_,_,_,_,_,_,_,_,_,_,_,_,_,_,_,_,_,_,_,_,rfl,F9,?_⟩;exact⟨rfl,rfl,rfl,hE,rfl⟩
mutual
def St.sx:St->Sx
 | .mk k nm E lo hi L El=>.mk k nm (E.map Ex.gx) lo hi (sxs L) (sxs El)
def sxs:List St->List Sx
 |[]=>[]
 |s::l=>s.sx::sxs l
end
theorem sxs_map(l:List St):sxs l=l.map St.sx:=by
 induction l with
 |nil=>rfl
 |cons s l ih=>rw[sxs,List.map_cons,ih]
def Pg.px(p:Pg):Px:=⟨p.nm,p.seats,p.stakes,p.vars,sxs p.start,sxs p.turn,p.params,sxs p.play,p.silent,sxs p.quiet,sxs p.pays⟩
def FitG:Nat->Gx->Prop
 |0,_=>False
 |n+1,.mk _ N nm l=>(-9223372036854775808<=N∧N<=9223372036854775807)∧nm.size<=140737488355328∧∀x∈l,FitG n x
theorem FitG.deep:∀(n:Nat) (x:Gx),FitG n x->FitG (n+1) x
 |0,_,h=>h.elim
 |n+1,.mk _ _ _ _,h=>⟨h.1,h.2.1,λx hx=>FitG.deep n x (h.2.2 x hx)⟩
theorem FitG.deeper{n m:Nat}(hm:n<=m){x:Gx}(h:FitG n x):FitG m x:=by
 obtain⟨d,rfl⟩:∃d,m=n+d:=⟨m-n,by omega⟩
 induction d with
 |zero=>exact h
 |succ d ih=>exact FitG.deep _ _ (ih (by omega))
def FitN(n:Int):Prop:= -9223372036854775808<=n∧n<=9223372036854775807
def FitV(v:Va):Prop:=v.nm.length<=1000000∧FitN v.size∧FitN v.lo∧FitN v.hi
def GA:Cel Gx:=λD w cs g=>∃n,GC D w 1000000 n cs g∧FitG n g
theorem u9!:QKept GA:=λ_ _ _ _ _ cs g hk hs hE ⟨n,h,hf⟩=>⟨n,GC.kept hk hs hE n cs g h,hf⟩
def XE(D:Nat->Prop)(w:World):Nat->List Value->Sx->Prop
 |0,_,_=>False
 |n+1,cs,.mk kind nm E lo hi L El=>∃(A1:Option Addr) (l1 c1:Nat) (A2:Option Addr) (l2 c2:Nat) (A3:Option Addr) (l3 c3:Nat),
  cs=[.I kind,.string (str nm),.slice A1 l1 c1,.I lo,.I hi,.slice A2 l2 c2,.slice A3 l3 c3]∧
  (nm.length<=1000000∧FitN lo∧FitN hi)∧ElsG D w 4 1000000 (GA D w) A1 l1 E∧ElsG D w 7 1000000 (XE D w n) A2 l2 L∧ElsG D w 7 1000000 (XE D w n) A3 l3 El
def QX(d:Nat):Cel Sx:=λD w cs s=>XE D w d cs s
theorem XE.kept{E:Nat->Prop}(hk:Kept S w w')(hs:∀k,k<w.heap.size->D k->¬S k)(hE:∀k,k<w.heap.size->D k->E k):∀(n:Nat) (cs:List Value) (s:Sx),XE D w n cs s->XE E w' n cs s
 |0,_,_,h=>h
 |n+1,cs,.mk kind nm El lo hi L Ls,h=>by
  obtain⟨A1,l1,c1,A2,l2,c2,A3,l3,c3,h1,hf,h2,h3,h4⟩:=h;exact⟨A1,l1,c1,A2,l2,c2,A3,l3,c3,h1,hf,h2.kept hk hs hE (λcs x h=>u9! D E S w w' cs x hk hs hE h),h3.kept hk hs hE (XE.kept hk hs hE n),h4.kept hk hs hE (XE.kept hk hs hE n)⟩
theorem n8!(d:Nat):QKept (QX d):=λ_ _ _ _ _ cs s hk hs hE h=>XE.kept hk hs hE d cs s h
def FitE:Ex->Prop
 | .num n=>FitN n
 | .nam s=>s.length<=1000000
 | .idx s e=>s.length<=1000000∧FitE e
 | .neg e=>FitE e
 | .non e=>FitE e
 | .bin _ e f=>FitE e∧FitE f
mutual
def FitS:St->Prop
 | .mk _ nm E lo hi L El=>nm.length<=1000000∧(∀e∈E,FitE e)∧FitN lo∧FitN hi∧FitSs L∧FitSs El
def FitSs:List St->Prop
 |[]=>True
 |s::l=>FitS s∧FitSs l
end
theorem q2!:∀{l:List St},FitSs l->∀s∈l,FitS s
 |[],_,_,hs=>by simp at hs
 |a::l,h,s,hs=>by
  rw[FitSs]at h;rcases List.mem_cons.1 hs with rfl|hs
  ·exact h.1
  ·exact q2! h.2 s hs
structure FitP (p:Pg):Prop where
 nm:p.nm.length<=1000000
 silent:p.silent.length<=1000000
 seats:FitN p.seats
 stakes:∀n∈p.stakes,FitN n
 vars:∀v∈p.vars,FitV v
 params:∀v∈p.params,FitV v
 start:FitSs p.start
 turn:FitSs p.turn
 play:FitSs p.play
 quiet:FitSs p.quiet
 pays:FitSs p.pays
theorem FitN.zero:FitN 0:=⟨by decide,by decide⟩
theorem FitE.gx:∀(e:Ex),FitE e->FitG e.dep e.gx
 | .num n,h=>⟨h,by decide,λx hx=>by simp at hx⟩
 | .nam s,h=>⟨FitN.zero,by rw[str_size];exact Nat.le_trans h (by decide),λx hx=>by simp at hx⟩
 | .idx s e,h=>⟨FitN.zero,by rw[str_size];exact Nat.le_trans h.1 (by decide),λx hx=>by
  obtain rfl:=List.mem_singleton.1 hx;exact FitE.gx e h.2⟩
 | .neg e,h=>⟨FitN.zero,by decide,λx hx=>by
  obtain rfl:=List.mem_singleton.1 hx;exact FitE.gx e h⟩
 | .non e,h=>⟨FitN.zero,by decide,λx hx=>by
  obtain rfl:=List.mem_singleton.1 hx;exact FitE.gx e h⟩
 | .bin _ e f,h=>⟨FitN.zero,by decide,λx hx=>by
  rcases List.mem_cons.1 hx with rfl|hx
  ·exact(FitE.gx e h.1).deeper (Nat.le_max_left _ _)
  ·obtain rfl:=List.mem_singleton.1 hx
   exact(FitE.gx f h.2).deeper (Nat.le_max_right _ _)⟩
theorem QE.ga{x:Ex}(h:QE D w cs x)(hf:FitE x):GA D w cs x.gx:=⟨_,TE.gc (by omega) _ _ h,FitE.gx x hf⟩
theorem ElsG.mapm{α β:Type}{s M:Nat}{Q:List Value->α->Prop}{Q':List Value->β->Prop}{A:Option Addr}{len:Nat}{l:List α}(f:α->β)(h:ElsG D w s M Q A len l)(hq:∀cs a,a∈l->Q cs a->Q' cs (f a)):ElsG D w s M Q' A len (l.map f):=by
 obtain⟨xs,h1,h0,h2,h3,h4⟩:=h
 refine⟨xs,h1,h0,h2,by rw[List.length_map];exact h3,λi hi=>?_⟩
 have hi':i<l.length:=by rw[List.length_map]at hi;exact hi
 rw[List.getElem_map]
 exact hq _ _ (List.getElem_mem hi') (h4 i hi')
theorem SE.xe:∀(n:Nat) (cs:List Value) (s:St),FitS s->SE D w n cs s->XE D w n cs s.sx
 |0,_,_,_,h=>h
 |n+1,cs,.mk kind nm El lo hi L Ls,hf,h=>by
  obtain⟨A1,l1,c1,A2,l2,c2,A3,l3,c3,h1,h2,h3,h4⟩:=h;rw[FitS]at hf;obtain⟨f1,f2,f3,f4,f5,f6⟩:=hf;rw[St.sx,sxs_map,sxs_map];exact⟨A1,l1,c1,A2,l2,c2,A3,l3,c3,h1,⟨f1,f3,f4⟩,h2.mapm Ex.gx (λ_ _ hm h=>QE.ga h (f2 _ hm)),h3.mapm St.sx (λcs a hm=>SE.xe n cs a (q2! f5 a hm)),h4.mapm St.sx (λcs a hm=>SE.xe n cs a (q2! f6 a hm))⟩
def PX(d:Nat):Cel Px:=λD w cs p=>(p.nm.length<=1000000∧p.silent.length<=1000000∧FitN p.seats∧(∀n∈p.stakes,FitN n)∧(∀v∈p.vars,FitV v)∧∀v∈p.params,FitV v)∧∃v1 v2 v3 v4 v5 v6 v7 v8:Value,cs=[.string (str p.nm),.I p.seats,v1,v2,v3,v4,v5,v6,.string (str p.silent),v7,v8]∧RowD D 1 QI w p.stakes v1∧RowD D 4 QV w p.vars v2∧RowD D 7 (QX d) w p.start v3∧RowD D 7 (QX d) w p.turn v4∧RowD D 4 QV w p.params v5∧RowD D 7 (QX d) w p.play v6∧RowD D 7 (QX d) w p.quiet v7∧RowD D 7 (QX d) w p.pays v8
theorem q3!(d:Nat):QKept (PX d):=λD E S w w' cs p hk hs hE h=>by
 obtain⟨hf,v1,v2,v3,v4,v5,v6,v7,v8,h0,h1,h2,h3,h4,h5,h6,h7,h8⟩:=h
 exact⟨hf,v1,v2,v3,v4,v5,v6,v7,v8,h0,h1.kept n5! hk hs hE,h2.kept b3! hk hs hE,h3.kept (n8! d) hk hs hE,h4.kept (n8! d) hk hs hE,h5.kept b3! hk hs hE,h6.kept (n8! d) hk hs hE,h7.kept (n8! d) hk hs hE,h8.kept (n8! d) hk hs hE⟩
theorem RowD.xe{d:Nat}{l:List St}{v:Value}(hf:FitSs l)(h:RowD D 7 (QS d) w l v):RowD D 7 (QX d) w (sxs l) v:=by
 obtain⟨A,n,c,h1,h2⟩:=h
 exact⟨A,n,c,h1,by rw[sxs_map];exact h2.mapm St.sx (λcs a hm=>SE.xe d cs a (q2! hf a hm))⟩
theorem PC.px{p:Pg}(hf:FitP p)(h:PC D w cs p):PX 16 D w cs p.px:=by
 obtain⟨v1,v2,v3,v4,v5,v6,v7,v8,h0,h1,h2,h3,h4,h5,h6,h7,h8⟩:=h
 exact⟨⟨hf.nm,hf.silent,hf.seats,hf.stakes,hf.vars,hf.params⟩,v1,v2,v3,v4,v5,v6,v7,v8,h0,h1,h2,h3.xe hf.start,h4.xe hf.turn,h5,h6.xe hf.play,h7.xe hf.quiet,h8.xe hf.pays⟩
def k6!(p:Px)(t:List UInt8):Prop:=rawP p=some t∧t.length<=65536∧∃q,progO t=.ok q∧q.px=p
end Go.Proofs.YtdgekckedchjbaaGreatDoor
