
/-
 The document's Print of a program that has no text; back. (Printed by wip/tools/genf10.py.)
-/
import Derived.Test.YtdgekckedchjbaaGreatDoorF9
import Derived.Test.YtdgekckedchjbaaGreatDoorMC
set_option maxHeartbeats 8000000
set_option maxRecDepth 100000
namespace Go.Proofs.YtdgekckedchjbaaGreatDoor
open Go.RowKit
def b98!(w:World)(e:Ending)(w':World):Prop:=e=.returned (.tuple #[.E,.bool false])∧Below w.heap.size w w'
theorem b99!(D:Nat->Prop)(nm:ByteArray)(seats:Int)(sil:ByteArray)(A1:Option Addr)(n1 c1:Nat)(A2:Option Addr)(n2 c2:Nat)(A3:Option Addr)(n3 c3:Nat)(A4:Option Addr)(n4 c4:Nat)(A5:Option Addr)(n5 c5:Nat)(A6:Option Addr)(n6 c6:Nat)(A7:Option Addr)(n7 c7:Nat)(A8:Option Addr)(n8 c8:Nat)(p:Pg)(w:World)(T:List UInt8)(h:RPC D w [.string nm,.I seats,.slice A1 n1 c1,.slice A2 n2 c2,.slice A3 n3 c3,.slice A4 n4 c4,.slice A5 n5 c5,.slice A6 n6 c6,.string sil,.slice A7 n7 c7,.slice A8 n8 c8] p)(hf:FitP p)(hw:WfP p)(hT:rawP p.px=some T)(hl:T.length<=500000)(hN:∀t,¬k6! p.px t):
 Calls Tryz.prog 16 #[.agg #[.string nm,.I seats,.slice A1 n1 c1,.slice A2 n2 c2,.slice A3 n3 c3,.slice A4 n4 c4,.slice A5 n5 c5,.slice A6 n6 c6,.string sil,.slice A7 n7 c7,.slice A8 n8 c8]] w (b98! w):=by
 obtain⟨W0,eW,f0,X0,-⟩:=n! w 33 #[.string nm,.I seats,.slice A1 n1 c1,.slice A2 n2 c2,.slice A3 n3 c3,.slice A4 n4 c4,.slice A5 n5 c5,.slice A6 n6 c6,.string sil,.slice A7 n7 c7,.slice A8 n8 c8]
 replace X0:=h! X0
 have HQ:Hid (∀W,Below w.heap.size w W->RPC D W [.string nm,.I seats,.slice A1 n1 c1,.slice A2 n2 c2,.slice A3 n3 c3,.slice A4 n4 c4,.slice A5 n5 c5,.slice A6 n6 c6,.string sil,.slice A7 n7 c7,.slice A8 n8 c8] p):=λW hW=>o3! _ _ _ _ _ _ _ (Kept.of_below (S:=λ_=>False) hW) (λ_ _ _ h=>h) (λ_ _ h=>h) h
 have TX:=h! (f19! D nm sil seats A1 n1 c1 A2 n2 c2 A3 n3 c3 A4 n4 c4 A5 n5 c5 A6 n6 c6 A7 n7 c7 A8 n8 c8 p _ T (HQ.out _ f0) hf hw hT hl)
 obtain⟨S,hS⟩:∃x,str T=x:=⟨_,rfl⟩
 have hSz:S.size<=500000:=by rw[<-hS,str_size];exact hl
 have HNO:Hid (∀q:Pg,S.size<=65536->progO S.data.toList=.ok q->q.px≠p.px):=λq h1 h2 h3=>by
  rw[<-hS,str_size]at h1;rw[<-hS,k8!]at h2;exact hN T ⟨hT,h1,q,h2,h3⟩
 have PA:=h! (λW=>b58! S W (by omega))
 have F0:=h! f0
 unfold i1! at TX
 rw[hS]at TX
 clear h hf hw hT hl hN f0 hS
 go_enter Tryz.func16,Tryz.ntmps16
 go_upto_region 1 with fail
 rw[eW.out]
 clear eW
 obtain⟨v0,v1,v2,v3,v4,v5,v6,v7,v8,v9,v10⟩:=X0.out.A11
 go_wp2_with fail
 refine TX.out.mono ?_
 rintro e w1⟨rfl,b1⟩
 have F1:=r! F0 b1
 have X1:=b! X0 b1
 have PA1:=h! (PA.out w1)
 clear b1 TX F0 X0 PA v0 v1 v2 v3 v4 v5 v6 v7 v8 v9 v10
 go_wp2_with fail
 refine PA1.out.mono ?_
 rintro e w2⟨nm2,seats2,sil2,B1,m1,d1,B2,m2,d2,B3,m3,d3,B4,m4,d4,B5,m5,d5,B6,m6,d6,B7,m7,d7,B8,m8,d8,L,C,E,rfl,b2,h2⟩
 have f3:=a! w2 (.cells #[.string nm2,.I seats2,.slice B1 m1 d1,.slice B2 m2 d2,.slice B3 m3 d3,.slice B4 m4 d4,.slice B5 m5 d5,.slice B6 m6 d6,.string sil2,.slice B7 m7 d7,.slice B8 m8 d8] 33)
 have X2:=h! (Blk.new w2 33 #[.string nm2,.I seats2,.slice B1 m1 d1,.slice B2 m2 d2,.slice B3 m3 d3,.slice B4 m4 d4,.slice B5 m5 d5,.slice B6 m6 d6,.string sil2,.slice B7 m7 d7,.slice B8 m8 d8])
 have F2:=h! ((F1.out.trans (b2.mono F1.out.size)).trans (f3.mono (F1.out.trans (b2.mono F1.out.size)).size))
 have Y2:=h! ((X1.out.below b2 X1.out.lt).below f3 (X1.out.below b2 X1.out.lt).lt)
 rcases h2 with⟨rfl,hs,q,hq,hR⟩|⟨hE,-⟩
 rotate_left
 ·have hE2:((E:Int) != 0)=true:=by simp[hE]
  clear b2 f3;go_wp2_with fail;refine bodyPost_ret (v:=.tuple #[.E,.bool false]) (by simp[results,Tryz.results16,go_sem]) rfl ⟨rfl,F2.out⟩
 have hne:=HNO.out q hs hq
 have SM:=h! (f20! _ _ _ _ _ _ _ _ _ _ _ _ _ _ _ _ _ _ _ _ _ _ _ _ _ _ _ _ _ _ _ _ _ _ _ _ _ _ _ _ _ _ _ _ _ _ _ _ _ _ _ _ _ _ _ _ q p _ (o3! _ _ _ _ _ _ _ (Kept.of_below (S:=λ_=>False) f3) (λ_ _ _ h=>h) (λ_ _ h=>h) hR) (HQ.out _ F2.out))
 have HNE:=h! hne
 clear b2 f3 hs hq hR hne HQ HNO PA1
 go_upto_region 5 with fail
 generalize w2.alloc (.cells #[.string nm2,.I seats2,.slice B1 m1 d1,.slice B2 m2 d2,.slice B3 m3 d3,.slice B4 m4 d4,.slice B5 m5 d5,.slice B6 m6 d6,.string sil2,.slice B7 m7 d7,.slice B8 m8 d8] 33)=W2 at*
 obtain⟨v0,v1,v2,v3,v4,v5,v6,v7,v8,v9,v10⟩:=X2.out.A11
 obtain⟨u0,u1,u2,u3,u4,u5,u6,u7,u8,u9,u10⟩:=Y2.out.A11
 go_wp2_with fail
 refine SM.out.mono ?_
 rintro e w3⟨b,rfl,hb,b3⟩
 obtain rfl:b=false:=by
  cases b
  ·rfl
  ·exact absurd (hb rfl) HNE.out
 have F3:=r! F2 b3
 clear b3 hb SM v0 u0 v1 u1 v2 u2 v3 u3 v4 u4 v5 u5 v6 u6 v7 u7 v8 u8 v9 u9 v10 u10
 go_wp2_with fail
 refine bodyPost_ret (v:=.tuple #[.E,.bool false]) (by simp[results,Tryz.results16,go_sem]) rfl ⟨rfl,F3.out⟩
def RBkTo(w:World)(s:ByteArray)(e:Ending)(w':World):Prop:=
 ∃(nm:ByteArray) (seats:Int) (sil:ByteArray) (A1:Option Addr) (n1 c1:Nat) (A2:Option Addr) (n2 c2:Nat) (A3:Option Addr) (n3 c3:Nat) (A4:Option Addr) (n4 c4:Nat) (A5:Option Addr) (n5 c5:Nat) (A6:Option Addr) (n6 c6:Nat) (A7:Option Addr) (n7 c7:Nat) (A8:Option Addr) (n8 c8:Nat),e=.returned (.agg #[.string nm,.I seats,.slice A1 n1 c1,.slice A2 n2 c2,.slice A3 n3 c3,.slice A4 n4 c4,.slice A5 n5 c5,.slice A6 n6 c6,.string sil,.slice A7 n7 c7,.slice A8 n8 c8])∧Below w.heap.size w w'∧((∃p:Pg,progO s.data.toList=.ok p∧RPC (λz=>w.heap.size<z) w' [.string nm,.I seats,.slice A1 n1 c1,.slice A2 n2 c2,.slice A3 n3 c3,.slice A4 n4 c4,.slice A5 n5 c5,.slice A6 n6 c6,.string sil,.slice A7 n7 c7,.slice A8 n8 c8] p)∨([.string nm,.I seats,.slice A1 n1 c1,.slice A2 n2 c2,.slice A3 n3 c3,.slice A4 n4 c4,.slice A5 n5 c5,.slice A6 n6 c6,.string sil,.slice A7 n7 c7,.slice A8 n8 c8]:List Value)=[.E,.I 0,.N,.N,.N,.N,.N,.N,.E,.N,.N])
theorem f21!(s:ByteArray)(w:World)(hs2:s.size<=9223372036854775807):Calls Tryz.prog 17 #[.string s] w (RBkTo w s):=by
 have X1:=h! (Blk.new w 33 #[.E,.I 0,.N,.N,.N,.N,.N,.N,.E,.N,.N])
 have F1:=h! ((Below.refl _ w).al (.cells #[.E,.I 0,.N,.N,.N,.N,.N,.N,.E,.N,.N] 33))
 have PA:=h! (λW=>b58! s W hs2)
 clear hs2
 go_enter Tryz.func17,Tryz.ntmps17
 go_upto_region 1 with fail
 generalize w.alloc (.cells #[.E,.I 0,.N,.N,.N,.N,.N,.N,.E,.N,.N] 33)=W1 at*
 have PA1:=h! (PA.out W1)
 have hW1:w.heap.size<W1.heap.size:=X1.out.lt
 go_wp2_with fail
 refine PA1.out.mono ?_
 rintro e w2⟨nm,seats,sil,A1,n1,c1,A2,n2,c2,A3,n3,c3,A4,n4,c4,A5,n5,c5,A6,n6,c6,A7,n7,c7,A8,n8,c8,L,C,E,rfl,b2,h2⟩
 obtain⟨W3,eW,f3,Y3,-⟩:=n! w2 33 #[.string nm,.I seats,.slice A1 n1 c1,.slice A2 n2 c2,.slice A3 n3 c3,.slice A4 n4 c4,.slice A5 n5 c5,.slice A6 n6 c6,.string sil,.slice A7 n7 c7,.slice A8 n8 c8]
 replace Y3:=h! Y3
 have F2:=F1.out.trans (b2.mono F1.out.size)
 have F3:=h! (F2.trans (f3.mono F2.size))
 have x2:=X1.out.below b2 X1.out.lt
 have X3:=h! (x2.below f3 x2.lt)
 have hlt:w.heap.size<w2.heap.size:=x2.lt
 have H3:Hid ((∃p:Pg,progO s.data.toList=.ok p∧RPC (λz=>w.heap.size<z) W3 [.string nm,.I seats,.slice A1 n1 c1,.slice A2 n2 c2,.slice A3 n3 c3,.slice A4 n4 c4,.slice A5 n5 c5,.slice A6 n6 c6,.string sil,.slice A7 n7 c7,.slice A8 n8 c8] p)∨([.string nm,.I seats,.slice A1 n1 c1,.slice A2 n2 c2,.slice A3 n3 c3,.slice A4 n4 c4,.slice A5 n5 c5,.slice A6 n6 c6,.string sil,.slice A7 n7 c7,.slice A8 n8 c8]:List Value)=[.E,.I 0,.N,.N,.N,.N,.N,.N,.E,.N,.N]):=by
  rcases h2 with⟨_,_,p,hp,hR⟩|⟨_,h⟩
  ·exact .inl ⟨p,hp,o3! _ _ _ _ _ _ _ (Kept.of_below (S:=λ_=>False) f3) (λ_ _ _ h=>h) (λk _ h=>by omega) hR⟩
  ·exact .inr h
 clear b2 f3 F2 x2 h2 PA PA1 X1 F1
 go_upto_region 2 with fail
 rw[eW.out]
 clear eW
 have y6:=Y3.out
 have p0:=y6.cell 0
 have p1:=y6.cell 1
 have p2:=y6.cell 2
 have p3:=y6.cell 3
 have p4:=y6.cell 4
 have p5:=y6.cell 5
 have p6:=y6.cell 6
 have p7:=y6.cell 7
 have p8:=y6.cell 8
 have p9:=y6.cell 9
 have p10:=y6.cell 10
 have x9:=X3.out
 have v0:=x9.cell 0
 have y0:=x9.frozen 0
 have v1:=x9.cell 1
 have y1:=x9.frozen 1
 have v2:=x9.cell 2
 have y2:=x9.frozen 2
 have v3:=x9.cell 3
 have y3:=x9.frozen 3
 have v4:=x9.cell 4
 have y4:=x9.frozen 4
 have v5:=x9.cell 5
 have y5:=x9.frozen 5
 have v6:=x9.cell 6
 have y6:=x9.frozen 6
 have v7:=x9.cell 7
 have y7:=x9.frozen 7
 have v8:=x9.cell 8
 have y8:=x9.frozen 8
 have v9:=x9.cell 9
 have y9:=x9.frozen 9
 have v10:=x9.cell 10
 have y10:=x9.frozen 10
 have hz5:=Y3.out.lt
 go_wp2_with fail
 clear p0 p1 p2 p3 p4 p5 p6 p7 p8 p9 p10 y6
 obtain⟨W9,e9,X9,K9⟩:=x9.e11 (.string nm) (.I seats) (.slice A1 n1 c1) (.slice A2 n2 c2) (.slice A3 n3 c3) (.slice A4 n4 c4) (.slice A5 n5 c5) (.slice A6 n6 c6) (.string sil) (.slice A7 n7 c7) (.slice A8 n8 c8)
 rw[e9]
 clear e9
 replace K9:=h! K9
 clear v0 y0 v1 y1 v2 y2 v3 y3 v4 y4 v5 y5 v6 y6 v7 y7 v8 y8 v9 y9 v10 y10
 obtain⟨s0,s1,s2,s3,s4,s5,s6,s7,s8,s9,s10⟩:=X9.A11
 refine bodyPost_ret (v:=.agg #[.string nm,.I seats,.slice A1 n1 c1,.slice A2 n2 c2,.slice A3 n3 c3,.slice A4 n4 c4,.slice A5 n5 c5,.slice A6 n6 c6,.string sil,.slice A7 n7 c7,.slice A8 n8 c8]) (by simp[results,Tryz.results17,go_sem,s0,s1,s2,s3,s4,s5,s6,s7,s8,s9,s10]) rfl ?_
 refine⟨_,_,_,_,_,_,_,_,_,_,_,_,_,_,_,_,_,_,_,_,_,_,_,_,_,_,_,rfl,F3.out.trans (K9.out.to_below F3.out.size (λq hq e=>by omega)),?_⟩
 rcases H3.out with ⟨p,hp,hR⟩|h
 ·exact .inl ⟨p,hp,o3! (λz=>w.heap.size<z) _ _ _ _ _ _ K9.out (λk _ hd e=>by omega) (λ_ _ h=>h) hR⟩
 ·exact .inr h
end Go.Proofs.YtdgekckedchjbaaGreatDoor
