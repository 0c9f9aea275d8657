
/-
 The document's Parse of programs. (Printed by wip/tools/genf9.py.)
-/
import Derived.Test.YtdgekckedchjbaaGreatDoorME
set_option maxHeartbeats 8000000
set_option maxRecDepth 100000
namespace Go.Proofs.YtdgekckedchjbaaGreatDoor
open Go.RowKit
theorem e52!{W:World}{b:Nat}{p:Addr}(h:p.block≠b)(x0 x1 x2 x3 x4 x5 x6 x7 x8 x9 x10:Value):(((((((((((W.setCell ⟨b,0,none⟩ (x0)).setCell ⟨b,1,none⟩ (x1)).setCell ⟨b,2,none⟩ (x2)).setCell ⟨b,3,none⟩ (x3)).setCell ⟨b,4,none⟩ (x4)).setCell ⟨b,5,none⟩ (x5)).setCell ⟨b,6,none⟩ (x6)).setCell ⟨b,7,none⟩ (x7)).setCell ⟨b,8,none⟩ (x8)).setCell ⟨b,9,none⟩ (x9)).setCell ⟨b,10,none⟩ (x10)).cell? p=W.cell? p:=by
 iterate 11 rw[World.cell?_setCell_other _ _ _ _ (λe=>h (by rw[<-e]))]
def RPaTo(w:World)(s:ByteArray)(e:Ending)(w':World):Prop:=
 ∃(nm:ByteArray) (seats:Int) (sil:ByteArray) (A1:Option Addr) (n1 c1:Nat) (A2:Option Addr) (n2 c2:Nat) (A3:Option Addr) (n3 c3:Nat) (A4:Option Addr) (n4 c4:Nat) (A5:Option Addr) (n5 c5:Nat) (A6:Option Addr) (n6 c6:Nat) (A7:Option Addr) (n7 c7:Nat) (A8:Option Addr) (n8 c8:Nat) (L C E:Int),e=.returned (.tuple #[.agg #[.string nm,.I seats,.slice A1 n1 c1,.slice A2 n2 c2,.slice A3 n3 c3,.slice A4 n4 c4,.slice A5 n5 c5,.slice A6 n6 c6,.string sil,.slice A7 n7 c7,.slice A8 n8 c8],.I L,.I C,.I E])∧Below w.heap.size w w'∧
  ((E=0∧s.size<=65536∧∃p:Pg,progO s.data.toList=.ok p∧RPC (λz=>w.heap.size<z) w' [.string nm,.I seats,.slice A1 n1 c1,.slice A2 n2 c2,.slice A3 n3 c3,.slice A4 n4 c4,.slice A5 n5 c5,.slice A6 n6 c6,.string sil,.slice A7 n7 c7,.slice A8 n8 c8] p)∨(E≠0∧([.string nm,.I seats,.slice A1 n1 c1,.slice A2 n2 c2,.slice A3 n3 c3,.slice A4 n4 c4,.slice A5 n5 c5,.slice A6 n6 c6,.string sil,.slice A7 n7 c7,.slice A8 n8 c8]:List Value)=[.E,.I 0,.N,.N,.N,.N,.N,.N,.E,.N,.N]))
theorem e53!{l:List UInt8}{ts:List Tk}{p:Pg}{i:Nat}(h:lexS l=.ok ts)(hp:progP ts=.ok p (ts.drop i))(hk:kindT 0 (ts.drop i)=true):progO l=.ok p:=by
 unfold progO
 rw[h]
 show endP (progP ts)=_
 rw[hp]
 cases hd:ts.drop i with
 |nil=>rfl
 |cons t r=>
  rw[hd]at hk;have h0:t.kind=0:=by simpa[kindT]using hk
  show (if t.kind=0 then OutP.ok p else _)=_
  rw[if_pos h0]
theorem b58!(s:ByteArray)(w:World)(hs2:s.size<=9223372036854775807):Calls Tryz.prog 32 #[.string s] w (RPaTo w s):=by
 have X1:=h! (Blk.new w 33 #[.E,.I 0,.N,.N,.N,.N,.N,.N,.E,.N,.N])
 have F1:=h! ((Below.refl _ w).al (.cells #[.E,.I 0,.N,.N,.N,.N,.N,.N,.E,.N,.N] 33))
 have HXS:=h! (λW=>e16! s W hs2)
 clear hs2
 go_enter Tryz.func32,Tryz.ntmps32
 go_upto_region 1 with fail
 generalize w.alloc (.cells #[.E,.I 0,.N,.N,.N,.N,.N,.N,.E,.N,.N] 33)=W1 at*
 have TK:=h! (HXS.out W1)
 go_wp2_with fail
 refine TK.out.mono ?_
 rintro e w2⟨A,n,c,L,C,E,rfl,b2,h2⟩
 have F2:=r! F1 b2
 have X2:=b! X1 b2
 clear b2 TK HXS X1
 rcases h2 with⟨rfl,hs,ts,hts,rfl,hrd⟩|⟨hE,-⟩
 rotate_left
 ·have hE2:((E:Int) != 0)=true:=by simp[hE]
  have x9:=X2.out;have v0:=x9.cell 0;have y0:=x9.frozen 0;have v1:=x9.cell 1;have y1:=x9.frozen 1;have v2:=x9.cell 2;have y2:=x9.frozen 2;have v3:=x9.cell 3;have y3:=x9.frozen 3;have v4:=x9.cell 4;have y4:=x9.frozen 4;have v5:=x9.cell 5;have y5:=x9.frozen 5;have v6:=x9.cell 6;have y6:=x9.frozen 6;have v7:=x9.cell 7;have y7:=x9.frozen 7;have v8:=x9.cell 8;have y8:=x9.frozen 8;have v9:=x9.cell 9;have y9:=x9.frozen 9;have v10:=x9.cell 10;have y10:=x9.frozen 10;go_wp2_with fail;obtain⟨W9,e9,X9,K9⟩:=x9.e11 (.E) (.I 0) (.N) (.N) (.N) (.N) (.N) (.N) (.E) (.N) (.N);rw[e9];clear e9;replace K9:=h! K9;clear v0 y0 v1 y1 v2 y2 v3 y3 v4 y4 v5 y5 v6 y6 v7 y7 v8 y8 v9 y9 v10 y10;obtain⟨s0,s1,s2,s3,s4,s5,s6,s7,s8,s9,s10⟩:=X9.A11;refine bodyPost_ret (v:=.tuple #[.agg #[.E,.I 0,.N,.N,.N,.N,.N,.N,.E,.N,.N],.I L,.I C,.I E]) (by simp[results,Tryz.results32,go_sem,s0,s1,s2,s3,s4,s5,s6,s7,s8,s9,s10]) rfl ?_;exact⟨_,_,_,_,_,_,_,_,_,_,_,_,_,_,_,_,_,_,_,_,_,_,_,_,_,_,_,_,_,_,rfl,F2.out.trans (K9.out.to_below F2.out.size (λq hq e=>by omega)),.inr ⟨hE,rfl⟩⟩
 have HS:=h! hs
 have HTS:=h! hts
 have HRD:=h! hrd
 have hlen:s.data.toList.length=s.size:=b1! _
 have y3:=Blk.new w2 105 #[.slice A ts.length c,.I 0,.I 0]
 have f3:=a! w2 (.cells #[.slice A ts.length c,.I 0,.I 0] 105)
 have D3:=h! (DP.start hts (by omega) hrd f3 (Nat.le_refl _) y3)
 have F3:=r! F2 f3
 have X3:=b! X2 f3
 have hg:w.heap.size<w2.heap.size:=X2.out.lt
 have HG:=h! hg
 clear hs hts hrd y3 f3 hlen hg X2
 go_upto_region 5 with fail
 generalize w2.alloc (.cells #[.slice A ts.length c,.I 0,.I 0] 105)=W3 at*
 obtain⟨g,hgg⟩:∃g,w2.heap.size=g:=⟨_,rfl⟩
 rw[hgg]at D3 HG
 rw[hgg]
 have HGG:=h! hgg
 clear hgg
 have EX:=h! (e51! g c A ts (TW.lex HTS.out) 0 0 W3 D3.out)
 go_wp2_with fail
 refine EX.out.mono ?_
 rintro e w4⟨v4,rfl,kk4,⟨nm,seats,sil,A1,n1,c1,A2,n2,c2,A3,n3,c3,A4,n4,c4,A5,n5,c5,A6,n6,c6,A7,n7,c7,A8,n8,c8,rfl⟩,i4,er4,d4,r4⟩
 have f5:=a! w4 (.cells #[.string nm,.I seats,.slice A1 n1 c1,.slice A2 n2 c2,.slice A3 n3 c3,.slice A4 n4 c4,.slice A5 n5 c5,.slice A6 n6 c6,.string sil,.slice A7 n7 c7,.slice A8 n8 c8] 33)
 have Y5:=h! (Blk.new w4 33 #[.string nm,.I seats,.slice A1 n1 c1,.slice A2 n2 c2,.slice A3 n3 c3,.slice A4 n4 c4,.slice A5 n5 c5,.slice A6 n6 c6,.string sil,.slice A7 n7 c7,.slice A8 n8 c8])
 have D5:=h! (d4.below f5)
 have F4:Below w.heap.size w w4:=F3.out.trans (kk4.to_below F3.out.size (λq hq e=>by have:=HG.out;omega))
 have F5:=h! (F4.trans (f5.mono F4.size))
 have X5:=h! ((X3.out.kept kk4 (by have:=HG.out;omega)).below f5 (Nat.lt_of_lt_of_le X3.out.lt kk4.size))
 have hz4:w.heap.size<w4.heap.size:=Nat.lt_of_lt_of_le X3.out.lt kk4.size
 have R5:Hid (er4=0->∃p:Pg,progO s.data.toList=.ok p∧RPC (λz=>W3.heap.size<=z) (w4.alloc (.cells #[.string nm,.I seats,.slice A1 n1 c1,.slice A2 n2 c2,.slice A3 n3 c3,.slice A4 n4 c4,.slice A5 n5 c5,.slice A6 n6 c6,.string sil,.slice A7 n7 c7,.slice A8 n8 c8] 33)) [.string nm,.I seats,.slice A1 n1 c1,.slice A2 n2 c2,.slice A3 n3 c3,.slice A4 n4 c4,.slice A5 n5 c5,.slice A6 n6 c6,.string sil,.slice A7 n7 c7,.slice A8 n8 c8] p):=λhe=>by
  obtain⟨a,ha,hk,cs,hcs,hq⟩:=r4 he;unfold stP at ha;rw[if_pos rfl,List.drop_zero]at ha;injection hcs with hcs;have hcs:cs=[.string nm,.I seats,.slice A1 n1 c1,.slice A2 n2 c2,.slice A3 n3 c3,.slice A4 n4 c4,.slice A5 n5 c5,.slice A6 n6 c6,.string sil,.slice A7 n7 c7,.slice A8 n8 c8]:=by
   have:=congrArg Array.toList hcs
   simpa using this.symm
  subst hcs;exact⟨a,e53! HTS.out ha hk,o3! _ _ _ _ _ _ _ (Kept.of_below (S:=λ_=>False) f5) (λ_ _ _ h=>h) (λ_ _ h=>h) hq⟩
 have hX3:=X3.out.lt
 obtain⟨t,ht⟩:=d4.one
 have HT:=h! ht
 clear EX d4 kk4 r4 F4 ht D3 F3 X3 F2 F1
 generalize hW5:w4.alloc (.cells #[.string nm,.I seats,.slice A1 n1 c1,.slice A2 n2 c2,.slice A3 n3 c3,.slice A4 n4 c4,.slice A5 n5 c5,.slice A6 n6 c6,.string sil,.slice A7 n7 c7,.slice A8 n8 c8] 33)=W5 at*
 by_cases he4:er4=0
 rotate_left
 ·clear R5
  have ce2:=D5.out.blk.c2;have he':((er4:Int) != 0)=true:=by simp[he4]
  go_upto_region 7 with fail;have NW:=h! (λ(V:World) (hV:Below W5.heap.size W5 V)=>c3! g c A ts i4 er4 V (D5.out.below hV) t HT.out);have QS:Hid (∀V,Below W5.heap.size W5 V->V.cell? ⟨g,2,none⟩=some (.I er4)):=λV hV=>(D5.out.below hV).blk.cell 2
  have XX:=h! (λ(V:World) (hV:Below W5.heap.size W5 V)=>X5.out.below hV X5.out.lt);have hgw:g≠w.heap.size:=by have:=HG.out;omega
  have f0:=(Below.refl W5.heap.size W5).drew;clear ce2;have hr3:=e13!;have hr4:=e14!
  go_region_held3 (λV=>V.cell? ⟨g,2,none⟩=some (.I er4)) (first|(with_reducible exact QS.out _ f0)|(with_reducible exact QS.out _ f1)|(with_reducible exact QS.out _ f2)|exact(e52! (p:=⟨g,2,none⟩) hgw _ _ _ _ _ _ _ _ _ _ _).trans (QS.out _ f2))
   (first
   |(go_at_call 48;(with_reducible refine(NW.out _ f0).mono ?_);rintro e wa⟨rfl,ba⟩;have f1:=f0.trans (ba.mono f0.size))
   |(go_at_call 48;(with_reducible refine(NW.out _ f1).mono ?_);rintro e wb⟨rfl,bb⟩;have f2:=f1.trans (bb.mono f1.size);have x9:=XX.out _ f2;have v0:=x9.cell 0;have y0:=x9.frozen 0;have v1:=x9.cell 1;have y1:=x9.frozen 1;have v2:=x9.cell 2;have y2:=x9.frozen 2;have v3:=x9.cell 3;have y3:=x9.frozen 3;have v4:=x9.cell 4;have y4:=x9.frozen 4;have v5:=x9.cell 5;have y5:=x9.frozen 5;have v6:=x9.cell 6;have y6:=x9.frozen 6;have v7:=x9.cell 7;have y7:=x9.frozen 7;have v8:=x9.cell 8;have y8:=x9.frozen 8;have v9:=x9.cell 9;have y9:=x9.frozen 9;have v10:=x9.cell 10;have y10:=x9.frozen 10))
  all_goals
   have F9:=r! F5 f2;go_wp2_with fail;obtain⟨W9,e9,X9,K9⟩:=x9.e11 (.E) (.I 0) (.N) (.N) (.N) (.N) (.N) (.N) (.E) (.N) (.N);rw[e9];clear e9;replace K9:=h! K9;clear v0 y0 v1 y1 v2 y2 v3 y3 v4 y4 v5 y5 v6 y6 v7 y7 v8 y8 v9 y9 v10 y10;obtain⟨s0,s1,s2,s3,s4,s5,s6,s7,s8,s9,s10⟩:=X9.A11;refine bodyPost_ret (v:=.tuple #[.agg #[.E,.I 0,.N,.N,.N,.N,.N,.N,.E,.N,.N],.I t.line,.I t.col,.I er4]) (by simp[results,Tryz.results32,go_sem,s0,s1,s2,s3,s4,s5,s6,s7,s8,s9,s10]) rfl ?_;exact⟨_,_,_,_,_,_,_,_,_,_,_,_,_,_,_,_,_,_,_,_,_,_,_,_,_,_,_,_,_,_,rfl,F9.out.trans (K9.out.to_below F9.out.size (λq hq e=>by omega)),.inr ⟨he4,rfl⟩⟩
 have ce2:=D5.out.blk.c2
 obtain⟨p,hp,hq⟩:=R5.out he4
 subst he4
 have HP:=h! hp
 have HQ:=h! hq
 have y6:=Y5.out
 have p0:=y6.cell 0
 have p1:=y6.cell 1
 have p2:=y6.cell 2
 have p3:=y6.cell 3
 have p4:=y6.cell 4
 have p5:=y6.cell 5
 have p6:=y6.cell 6
 have p7:=y6.cell 7
 have p8:=y6.cell 8
 have p9:=y6.cell 9
 have p10:=y6.cell 10
 have x9:=X5.out
 have v0:=x9.cell 0
 have y0:=x9.frozen 0
 have v1:=x9.cell 1
 have y1:=x9.frozen 1
 have v2:=x9.cell 2
 have y2:=x9.frozen 2
 have v3:=x9.cell 3
 have y3:=x9.frozen 3
 have v4:=x9.cell 4
 have y4:=x9.frozen 4
 have v5:=x9.cell 5
 have y5:=x9.frozen 5
 have v6:=x9.cell 6
 have y6:=x9.frozen 6
 have v7:=x9.cell 7
 have y7:=x9.frozen 7
 have v8:=x9.cell 8
 have y8:=x9.frozen 8
 have v9:=x9.cell 9
 have y9:=x9.frozen 9
 have v10:=x9.cell 10
 have y10:=x9.frozen 10
 have hz5:=Y5.out.lt
 clear hp hq R5
 go_wp2_with fail
 clear p0 p1 p2 p3 p4 p5 p6 p7 p8 p9 p10 y6
 obtain⟨W9,e9,X9,K9⟩:=x9.e11 (.string nm) (.I seats) (.slice A1 n1 c1) (.slice A2 n2 c2) (.slice A3 n3 c3) (.slice A4 n4 c4) (.slice A5 n5 c5) (.slice A6 n6 c6) (.string sil) (.slice A7 n7 c7) (.slice A8 n8 c8)
 rw[e9]
 clear e9
 replace K9:=h! K9
 clear v0 y0 v1 y1 v2 y2 v3 y3 v4 y4 v5 y5 v6 y6 v7 y7 v8 y8 v9 y9 v10 y10
 obtain⟨s0,s1,s2,s3,s4,s5,s6,s7,s8,s9,s10⟩:=X9.A11
 refine bodyPost_ret (v:=.tuple #[.agg #[.string nm,.I seats,.slice A1 n1 c1,.slice A2 n2 c2,.slice A3 n3 c3,.slice A4 n4 c4,.slice A5 n5 c5,.slice A6 n6 c6,.string sil,.slice A7 n7 c7,.slice A8 n8 c8],.I 0,.I 0,.I 0]) (by simp[results,Tryz.results32,go_sem,s0,s1,s2,s3,s4,s5,s6,s7,s8,s9,s10]) rfl ?_
 exact⟨_,_,_,_,_,_,_,_,_,_,_,_,_,_,_,_,_,_,_,_,_,_,_,_,_,_,_,_,_,_,rfl,F5.out.trans (K9.out.to_below F5.out.size (λq hq e=>by omega)),.inl ⟨rfl,HS.out,p,HP.out,o3! (λz=>W3.heap.size<=z) (λz=>w.heap.size<z) _ _ _ _ _ K9.out (λk _ hd e=>by omega) (λk _ hd=>by omega) HQ.out⟩⟩
end Go.Proofs.YtdgekckedchjbaaGreatDoor
