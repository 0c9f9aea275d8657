
/-
 print.Print: a program's text, if it is read as that program. (Printed by wip/tools/genv22.py.) print.Expr: an expression's text, if it is read as that expression.
-/
import Derived.Test.YtdgekckedchjbaaGreatDoorV16
import Derived.Test.YtdgekckedchjbaaGreatDoorQP
import Derived.Test.YtdgekckedchjbaaGreatDoorQQ
set_option maxHeartbeats 8000000
set_option maxRecDepth 100000
namespace Go.Proofs.YtdgekckedchjbaaGreatDoor
open Go.RowKit
variable {d:Nat} {D:Nat->Prop} {w w':World} {cs:List Value} {p:Px} {x:Gx} {y:Ex} {l:List UInt8}
def f24!(w:World)(p:Px)(e:Ending)(w':World):Prop:=Below w.heap.size w w'∧((∃t,k6! p t∧e=.returned (.tuple #[.string (str t),.I 0]))∨((∀t,¬k6! p t)∧e=.returned (.tuple #[.E,.I 1])))
theorem PX.low{base:Nat}(h:PX d D w cs p)(hb:Below w.heap.size w w')(hbase:w.heap.size<=base):PX d (λk=>k<base) w' cs p:=
 q3! d D _ (λ_=>False) w w' cs p (Kept.of_below hb) (λ_ _ _ h=>h) (λ_ hk _=>Nat.lt_of_lt_of_le hk hbase) h
theorem PX.stay(h:PX d D w cs p)(hb:Below w.heap.size w w'):PX d D w' cs p:=
 q3! d D D (λ_=>False) w w' cs p (Kept.of_below hb) (λ_ _ _ h=>h) (λ_ _ h=>h) h
theorem f25!(base:Nat)(D:Nat->Prop)(NM SIL:ByteArray)(seats:Int)(A1:Option Addr)(n1 c1:Nat)(A2:Option Addr)(n2 c2:Nat)(A3:Option Addr)(n3 c3:Nat)(A4:Option Addr)(n4 c4:Nat)(A5:Option Addr)(n5 c5:Nat)(A6:Option Addr)(n6 c6:Nat)(A7:Option Addr)(n7 c7:Nat)(A8:Option Addr)(n8 c8:Nat)(p:Px)(w:World)(hT:Tabs base w)(hP:TabP base w)(hb:base<=w.heap.size)(hp:PX 16 D w [.string NM,.I seats,.slice A1 n1 c1,.slice A2 n2 c2,.slice A3 n3 c3,.slice A4 n4 c4,.slice A5 n5 c5,.slice A6 n6 c6,.string SIL,.slice A7 n7 c7,.slice A8 n8 c8] p):
 Calls Tryz.prog 15 #[.agg #[.string NM,.I seats,.slice A1 n1 c1,.slice A2 n2 c2,.slice A3 n3 c3,.slice A4 n4 c4,.slice A5 n5 c5,.slice A6 n6 c6,.string SIL,.slice A7 n7 c7,.slice A8 n8 c8]] w (f24! w p):=by
 obtain⟨W0,eW,f0,X0,hz⟩:=n! w 48 #[.string NM,.I seats,.slice A1 n1 c1,.slice A2 n2 c2,.slice A3 n3 c3,.slice A4 n4 c4,.slice A5 n5 c5,.slice A6 n6 c6,.string SIL,.slice A7 n7 c7,.slice A8 n8 c8]
 replace X0:=h! X0
 have F0:=h! f0
 have P0:=h! (hp.stay f0)
 have TB0:=h! (hT.below f0 hb)
 have TP0:=h! (hP.low (f0.mono hb))
 have HZ:=h! hz
 have HB:=h! hb
 clear f0 hT hP hp hz hb
 go_enter Tryz.func15,Tryz.ntmps15
 go_upto_region 1 with fail
 rw[eW.out]
 clear eW
 have f1:=a! W0 (.cells #[.pointer none,.N,.I ((65536:Nat):Int),.bool false] 68)
 have hbb:base<=W0.heap.size:=by have:=HZ.out;have:=HB.out;omega
 have N1:=h! (Wr.new W0.heap.size W0 65536 false (Nat.le_refl _) (by omega))
 have X1:=b! X0 f1
 have P1:=h! (P0.out.low f1 (Nat.le_refl W0.heap.size))
 have PS1:=h! (P0.out.stay f1)
 have TB1:=h! ((TB0.out.below f1 hbb).more hbb)
 have TP1:=h! ((TP0.out.low (f1.mono hbb)).more hbb)
 have F1:=r! F0 f1
 have HX:=h! X0.out.lt
 clear f1 hbb X0 P0 TB0 TP0
 go_upto_region 2 with fail
 change Code.wp _ _ _ _ (W0.alloc (.cells #[.pointer none,.N,.I ((65536:Nat):Int),.bool false] 68))
 generalize W0.alloc (.cells #[.pointer none,.N,.I ((65536:Nat):Int),.bool false] 68)=W1 at*
 obtain⟨s0,s1,s2,s3,s4,s5,s6,s7,s8,s9,s10⟩:=X1.out.A11
 have PG:=h! (f23! W0.heap.size 16 W0.heap.size 65536 none [] false p NM SIL seats A1 n1 c1 A2 n2 c2 A3 n3 c3 A4 n4 c4 A5 n5 c5 A6 n6 c6 A7 n7 c7 A8 n8 c8 W1 TB1.out TP1.out N1.out (by omega) P1.out)
 go_wp2_with fail
 refine PG.out.mono ?_
 rintro e w2⟨rfl,ob2,l2,b2,t2,r2,o2⟩
 have T2:=h! (t2.low N1.out)
 have R2:=h! r2
 have O2:=h! o2
 have ST:=h! (a99! W0.heap.size W0.heap.size 65536 ob2 l2 b2 w2 r2)
 have hoo:∀z,ob2=some z->W0.heap.size<=z∧z≠W0.heap.size:=λz e=>r2.2.1 z e
 have HOO:=h! hoo
 have hl2:=r2.2.2.1
 clear t2 r2 o2 hoo PG s0 s1 s2 s3 s4 s5 s6 s7 s8 s9 s10
 go_wp2_with fail
 refine ST.out.mono ?_
 rintro e w3⟨rfl,k3⟩
 have R3:=h! (R2.out.cells_)
 have k3':=h! k3
 have B3:Below W0.heap.size w2 w3:=k3.to_below R2.out.low (λz hz e=>by have:=(HOO.out z e).1;omega)
 have q3:w3.cell? ⟨W0.heap.size,3,none⟩=some (.bool b2):=(k3.cell (p:=⟨W0.heap.size,3,none⟩) R2.out.lt (λe=>(HOO.out _ e).2 rfl)).trans R3.out.2.1
 have Q3:=h! q3
 have F3:=h! (T2.out.trans B3)
 have PA:=h! (z2! (str l2) w3 ((TB1.out.low F3.out).sp) (by rw[str_size];exact hl2))
 have X3:=h! (X1.out.below F3.out (by have:=HX.out;omega))
 have PS3:=h! (show PX 16 (λk=>k<W0.heap.size) w3 [.string NM,.I seats,.slice A1 n1 c1,.slice A2 n2 c2,.slice A3 n3 c3,.slice A4 n4 c4,.slice A5 n5 c5,.slice A6 n6 c6,.string SIL,.slice A7 n7 c7,.slice A8 n8 c8] p from q3! 16 _ _ (λk=>¬k<W0.heap.size) W1 w3 _ p ⟨F3.out.os,F3.out.tape,F3.out.output,F3.out.size,λk _ hn=>F3.out.block k (Classical.not_not.1 hn)⟩ (λ_ _ hk hn=>hn hk) (λ_ _ h=>h) P1.out)
 have G3:Hid (Below w.heap.size w w3):=F1.out.trans (F3.out.mono (by have:=HZ.out;omega))
 have hw3:W0.heap.size<w3.heap.size:=Nat.lt_of_lt_of_le R2.out.lt k3.size
 have HW3:=h! hw3
 rw[str_list]at PA
 clear k3 B3 q3 ST X1 P1 PS1 TB1 TP1 hw3 k3'
 obtain⟨S,hS⟩:∃x,x=str l2:=⟨_,rfl⟩
 rw[<-hS]at PA ⊢
 have HS:=h! hS
 clear hS
 go_wp2_with fail
 refine PA.out.mono ?_
 rintro e w4⟨nm',seats',sil',B1,m1,d1,B2,m2,d2,B3,m3,d3,B4,m4,d4,B5,m5,d5,B6,m6,d6,B7,m7,d7,B8,m8,d8,L,Cc,E,rfl,b4,h4⟩
 have F4:Below w3.heap.size w3 ((w4.alloc (.cells #[.string nm',.I seats',.slice B1 m1 d1,.slice B2 m2 d2,.slice B3 m3 d3,.slice B4 m4 d4,.slice B5 m5 d5,.slice B6 m6 d6,.string sil',.slice B7 m7 d7,.slice B8 m8 d8] 48)).alloc (.cells #[.I L,.I Cc] 50)):=(b4.al _).al _
 obtain⟨y0,_⟩:=e0! w4 48 50 #[.string nm',.I seats',.slice B1 m1 d1,.slice B2 m2 d2,.slice B3 m3 d3,.slice B4 m4 d4,.slice B5 m5 d5,.slice B6 m6 d6,.string sil',.slice B7 m7 d7,.slice B8 m8 d8] #[.I L,.I Cc]
 have Y4:=h! y0
 have X4:=b! X3 F4
 have Q4:Hid (((w4.alloc (.cells #[.string nm',.I seats',.slice B1 m1 d1,.slice B2 m2 d2,.slice B3 m3 d3,.slice B4 m4 d4,.slice B5 m5 d5,.slice B6 m6 d6,.string sil',.slice B7 m7 d7,.slice B8 m8 d8] 48)).alloc (.cells #[.I L,.I Cc] 50)).cell? ⟨W0.heap.size,3,none⟩=some (.bool b2)):=(F4.cell (p:=⟨W0.heap.size,3,none⟩) HW3.out).trans Q3.out
 have P4:=h! (PS3.out.stay F4)
 have H4:=h! (h4.kept (S:=λ_=>False) (((Kept.refl _ w4).alloc (.cells #[.string nm',.I seats',.slice B1 m1 d1,.slice B2 m2 d2,.slice B3 m3 d3,.slice B4 m4 d4,.slice B5 m5 d5,.slice B6 m6 d6,.string sil',.slice B7 m7 d7,.slice B8 m8 d8] 48)).alloc (.cells #[.I L,.I Cc] 50)) (λ_ _ _ h=>h))
 have G4:=r! G3 F4
 have HW:=h! (show w.heap.size<w4.heap.size from Nat.lt_of_lt_of_le (by have:=HZ.out;have:=HW3.out;omega) b4.size)
 clear b4 h4 y0 F4
 go_upto_region 5 with fail
 generalize (w4.alloc (.cells #[.string nm',.I seats',.slice B1 m1 d1,.slice B2 m2 d2,.slice B3 m3 d3,.slice B4 m4 d4,.slice B5 m5 d5,.slice B6 m6 d6,.string sil',.slice B7 m7 d7,.slice B8 m8 d8] 48)).alloc (.cells #[.I L,.I Cc] 50)=W4 at*
 have q3:=Q4.out
 have HNO:Hid (b2=true->∀t,¬k6! p t):=λe t ht=>by
  rcases O2.out.ill e with e|e|⟨u,e,hl⟩
  ·cases e
  ·rw[ht.1]at e;cases e
  ·rw[ht.1]at e
   injection e with e;subst e;have:=ht.2.1
   simp at hl
   omega
 cases b2 with
 |true=>
  go_wp2_with fail
  go_ret2
  exact⟨G4.out,.inr ⟨HNO.out (by simp),rfl⟩⟩
 |false=>
  have HY:Hid (rawP p=some l2):=by
   obtain⟨_,t,h1,h2⟩:=O2.out.good rfl;rw[List.nil_append]at h2;rw[h1,h2];exact rfl
  have HN2:Hid (∀t,k6! p t->t=l2):=λt ht=>Option.some.inj (ht.1.symm.trans HY.out)
  generalize hoo:progO l2=oo at*;have HO:=h! hoo;clear hoo
  cases oo with
  |bad L' C' E'=>
   obtain⟨-,-,-,hE,-⟩:=H4.out;have hE':(E==0)=false:=by simp[hE]
   clear H4;go_wp2_with fail
   go_ret2
   refine⟨G4.out,.inr ⟨λt ht=>?_,rfl⟩⟩;obtain rfl:=HN2.out t ht;obtain⟨q,hq,_⟩:=ht.2.2;rw[HO.out]at hq
   cases hq
  |ok q=>
   obtain⟨hE,-,-,hpc⟩:=H4.out;have HE:=h! hE;have hE':(E==0)=true:=by simp[hE]
   have QX:=h! (hpc.px (v7! HO.out).fit);clear H4 hE hpc;obtain⟨s0,s1,s2,s3,s4,s5,s6,s7,s8,s9,s10⟩:=X4.out.A11;obtain⟨t0,t1,t2,t3,t4,t5,t6,t7,t8,t9,t10⟩:=Y4.out.A11;have SM:=h! (a34! 16 _ _ NM SIL nm' sil' seats seats' A1 n1 c1 A2 n2 c2 A3 n3 c3 A4 n4 c4 A5 n5 c5 A6 n6 c6 A7 n7 c7 A8 n8 c8 B1 m1 d1 B2 m2 d2 B3 m3 d3 B4 m4 d4 B5 m5 d5 B6 m6 d6 B7 m7 d7 B8 m8 d8 p q.px W4 P4.out QX.out);go_wp2_with fail;refine SM.out.mono ?_;rintro e w5⟨b,rfl,hb,b5⟩;have HB5:=h! hb;have G5:=r! G4 b5;clear hb b5 SM
   cases b with
   |true=>
    go_wp2_with fail
    go_ret2
    refine⟨G5.out,.inl ⟨l2,⟨HY.out,hl2,q,HO.out,(HB5.out.1 (by simp)).symm⟩,?_⟩⟩;rw[<-HS.out]
    rfl
   |false=>
    go_wp2_with fail
    go_ret2
    refine⟨G5.out,.inr ⟨λt ht=>?_,rfl⟩⟩;obtain rfl:=HN2.out t ht;obtain⟨q',hq,he⟩:=ht.2.2;rw[HO.out]at hq;injection hq with hq;subst hq;have:=HB5.out.2 he.symm
    cases this
def ExprIs(x:Gx)(t:List UInt8):Prop:=rawE x=some t∧t.length<=65536∧∃y:Ex,exprO t=.ok y∧y.gx=x
theorem ExprIs.one{t u:List UInt8}(h:ExprIs x t)(k:ExprIs x u):t=u:=Option.some.inj (h.1.symm.trans k.1)
def i3!(x:Gx):Px:=⟨[],0,[],[],[.mk 0 [] [x] 0 0 [] []],[],[],[],[],[],[]⟩
theorem c00!{y:Gx}:i3! x=i3! y↔x=y:=by
 constructor
 ·intro h
  have:=congrArg Px.start h
  simp only[i3!,List.cons.injEq,and_true]at this
  injection this with _ _ this
  simpa using this
 ·intro h
  rw[h]
def f26!(D:Nat->Prop)(w:World)(x:Gx)(e:Ending)(w':World):Prop:=
 ∃b,e=.returned (.agg #[.E,.I 0,.N,.N,.slice (some ⟨b,0,none⟩) 1 1,.N,.N,.N,.E,.N,.N])∧Below w.heap.size w w'∧
  PX 16 (λk=>D k∨w.heap.size<=k) w' [.E,.I 0,.N,.N,.slice (some ⟨b,0,none⟩) 1 1,.N,.N,.N,.E,.N,.N] (i3! x)
theorem RowD.nil_{α:Type}(D:Nat->Prop)(s:Nat)(Q:Cel α)(w:World):RowD D s Q w ([]:List α) (.N):=⟨none,0,0,rfl,ElsG.none_ _ _ _ _ _ _⟩
theorem c01!{α:Type}{s M b:Nat}{t:TypeId}{Q:List Value->α->Prop}{x:α}(hM:1<=M)(hb:Blk w b t (List.toArray cs))(hD:D b)(hl:cs.length=s)(h:Q cs x):ElsG D w s M Q (some ⟨b,0,none⟩) 1 [x]:=by
 refine⟨cs,⟨by rw[hl,Nat.one_mul],λ_=>⟨_,rfl,hb.lt,λj u hu=>?_⟩⟩,λ_ a e=>by injection e with e;subst e;exact hD,hM,rfl,λi hi=>?_⟩
 ·rw[Addr.add_lit,Nat.zero_add,hb.cell j]
  simpa using hu
 ·obtain rfl:i=0:=by simp at hi;exact hi
  subst hl
  simpa using h
theorem c02!(D:Nat->Prop)(n:Nat)(op N:Int)(nm:ByteArray)(A:Option Addr)(len cap:Nat)(x:Gx)(w:World)(hG:GC D w 1000000 n [.I op,.I N,.string nm,.slice A len cap] x)(hF:FitG n x):
 Calls Tryz.prog 22 #[.agg #[.I op,.I N,.string nm,.slice A len cap]] w (f26! D w x):=by
 have HG:=h! hG
 have HF:=h! hF
 have z1:=z! w (.cells #[.I op,.I N,.string nm,.slice A len cap] 40)
 have z2:((w.alloc (.cells #[.I op,.I N,.string nm,.slice A len cap] 40)).alloc (.cells #[.E,.I 0,.N,.N,.slice (some ⟨w.heap.size+1+1+1,0,none⟩) 1 1,.N,.N,.N,.E,.N,.N] 48)).heap.size=w.heap.size+1+1:=by simp
 have z3:(((w.alloc (.cells #[.I op,.I N,.string nm,.slice A len cap] 40)).alloc (.cells #[.E,.I 0,.N,.N,.slice (some ⟨w.heap.size+1+1+1,0,none⟩) 1 1,.N,.N,.N,.E,.N,.N] 48)).alloc (.cells #[.I op,.I N,.string nm,.slice A len cap] 40)).heap.size=w.heap.size+1+1+1:=by simp
 have b1:Blk ((((w.alloc (.cells #[.I op,.I N,.string nm,.slice A len cap] 40)).alloc (.cells #[.E,.I 0,.N,.N,.slice (some ⟨w.heap.size+1+1+1,0,none⟩) 1 1,.N,.N,.N,.E,.N,.N] 48)).alloc (.cells #[.I op,.I N,.string nm,.slice A len cap] 40)).alloc (.cells #[.I 0,.E,.slice (some ⟨w.heap.size+1+1,0,none⟩) 1 1,.I 0,.I 0,.N,.N] 95)) (w.heap.size+1) 48 #[.E,.I 0,.N,.N,.slice (some ⟨w.heap.size+1+1+1,0,none⟩) 1 1,.N,.N,.N,.E,.N,.N]:=by
  have:=((Blk.new (w.alloc (.cells #[.I op,.I N,.string nm,.slice A len cap] 40)) 48 #[.E,.I 0,.N,.N,.slice (some ⟨w.heap.size+1+1+1,0,none⟩) 1 1,.N,.N,.N,.E,.N,.N]).alloc (.cells #[.I op,.I N,.string nm,.slice A len cap] 40)).alloc (.cells #[.I 0,.E,.slice (some ⟨w.heap.size+1+1,0,none⟩) 1 1,.I 0,.I 0,.N,.N] 95)
  rwa[z1]at this
 have b2:Blk ((((w.alloc (.cells #[.I op,.I N,.string nm,.slice A len cap] 40)).alloc (.cells #[.E,.I 0,.N,.N,.slice (some ⟨w.heap.size+1+1+1,0,none⟩) 1 1,.N,.N,.N,.E,.N,.N] 48)).alloc (.cells #[.I op,.I N,.string nm,.slice A len cap] 40)).alloc (.cells #[.I 0,.E,.slice (some ⟨w.heap.size+1+1,0,none⟩) 1 1,.I 0,.I 0,.N,.N] 95)) (w.heap.size+1+1) 40 #[.I op,.I N,.string nm,.slice A len cap]:=by
  have:=(Blk.new ((w.alloc (.cells #[.I op,.I N,.string nm,.slice A len cap] 40)).alloc (.cells #[.E,.I 0,.N,.N,.slice (some ⟨w.heap.size+1+1+1,0,none⟩) 1 1,.N,.N,.N,.E,.N,.N] 48)) 40 #[.I op,.I N,.string nm,.slice A len cap]).alloc (.cells #[.I 0,.E,.slice (some ⟨w.heap.size+1+1,0,none⟩) 1 1,.I 0,.I 0,.N,.N] 95)
  rwa[z2]at this
 have b3:Blk ((((w.alloc (.cells #[.I op,.I N,.string nm,.slice A len cap] 40)).alloc (.cells #[.E,.I 0,.N,.N,.slice (some ⟨w.heap.size+1+1+1,0,none⟩) 1 1,.N,.N,.N,.E,.N,.N] 48)).alloc (.cells #[.I op,.I N,.string nm,.slice A len cap] 40)).alloc (.cells #[.I 0,.E,.slice (some ⟨w.heap.size+1+1,0,none⟩) 1 1,.I 0,.I 0,.N,.N] 95)) (w.heap.size+1+1+1) 95 #[.I 0,.E,.slice (some ⟨w.heap.size+1+1,0,none⟩) 1 1,.I 0,.I 0,.N,.N]:=by
  have:=Blk.new (((w.alloc (.cells #[.I op,.I N,.string nm,.slice A len cap] 40)).alloc (.cells #[.E,.I 0,.N,.N,.slice (some ⟨w.heap.size+1+1+1,0,none⟩) 1 1,.N,.N,.N,.E,.N,.N] 48)).alloc (.cells #[.I op,.I N,.string nm,.slice A len cap] 40)) 95 #[.I 0,.E,.slice (some ⟨w.heap.size+1+1,0,none⟩) 1 1,.I 0,.I 0,.N,.N]
  rwa[z3]at this
 have f4:Below w.heap.size w ((((w.alloc (.cells #[.I op,.I N,.string nm,.slice A len cap] 40)).alloc (.cells #[.E,.I 0,.N,.N,.slice (some ⟨w.heap.size+1+1+1,0,none⟩) 1 1,.N,.N,.N,.E,.N,.N] 48)).alloc (.cells #[.I op,.I N,.string nm,.slice A len cap] 40)).alloc (.cells #[.I 0,.E,.slice (some ⟨w.heap.size+1+1,0,none⟩) 1 1,.I 0,.I 0,.N,.N] 95)):=((((Below.refl _ w).al _).al _).al _).al _
 have B1:=h! b1
 have B2:=h! b2
 have B3:=h! b3
 have F4:=h! f4
 clear hG hF z1 z2 z3 b1 b2 b3 f4
 go_enter Tryz.func22,Tryz.ntmps22
 go_wp2_with fail
 generalize ((((w.alloc (.cells #[.I op,.I N,.string nm,.slice A len cap] 40)).alloc (.cells #[.E,.I 0,.N,.N,.slice (some ⟨w.heap.size+1+1+1,0,none⟩) 1 1,.N,.N,.N,.E,.N,.N] 48)).alloc (.cells #[.I op,.I N,.string nm,.slice A len cap] 40)).alloc (.cells #[.I 0,.E,.slice (some ⟨w.heap.size+1+1,0,none⟩) 1 1,.I 0,.I 0,.N,.N] 95))=W at*
 obtain⟨sc0,sc1,sc2,sc3,sc4,sc5,sc6,sc7,sc8,sc9,sc10⟩:=B1.out.A11
 refine bodyPost_ret (v:=.agg #[.E,.I 0,.N,.N,.slice (some ⟨w.heap.size+1+1+1,0,none⟩) 1 1,.N,.N,.N,.E,.N,.N]) (by simp[results,Tryz.results22,go_sem,sc0,sc1,sc2,sc3,sc4,sc5,sc6,sc7,sc8,sc9,sc10]) rfl ⟨_,rfl,F4.out,?_⟩
 have hx:GA (λk=>D k∨w.heap.size<=k) W [.I op,.I N,.string nm,.slice A len cap] x:=⟨n,GC.kept (Kept.of_below (S:=λ_=>False) F4.out) (λ_ _ _ h=>h) (λ_ _ h=>.inl h) n _ _ HG.out,HF.out⟩
 refine⟨⟨Nat.zero_le _,Nat.zero_le _,FitN.zero,by simp[i3!],by simp[i3!],by simp[i3!]⟩,_,_,_,_,_,_,_,_,rfl,RowD.nil_ _ _ _ _,RowD.nil_ _ _ _ _,⟨_,_,_,rfl,?_⟩,RowD.nil_ _ _ _ _,RowD.nil_ _ _ _ _,RowD.nil_ _ _ _ _,RowD.nil_ _ _ _ _,RowD.nil_ _ _ _ _⟩
 refine c01! (cs:=[.I 0,.E,.slice (some ⟨w.heap.size+1+1,0,none⟩) 1 1,.I 0,.I 0,.N,.N]) (by omega) B3.out (.inr (by omega)) rfl ?_
 refine⟨_,_,_,_,_,_,_,_,_,rfl,⟨by decide,FitN.zero,FitN.zero⟩,?_,ElsG.none_ _ _ _ _ _ _,ElsG.none_ _ _ _ _ _ _⟩
 exact c01! (by omega) B2.out (.inr (by omega)) rfl hx
theorem f27!(h:exprO l=.ok y):∃ts r,lexS l=.ok ts∧joinL (a0! 16) 5 ts=.ok y r∧(r=[]∨∃t r',r=t::r'∧t.kind=0):=by
 unfold exprO at h
 cases hl:lexS l with
 |err L C E=>rw[hl]at h;cases h
 |ok ts=>
  rw[hl]at h
  simp only at h
  cases hp:joinL (a0! 16) 5 ts with
  |bad r e=>
   rw[hp]at h
   cases r<;>cases h
  |ok x r=>
   rw[hp]at h
   cases r with
   |nil=>
    injection h with h;subst h;exact⟨ts,[],rfl,hp,.inl rfl⟩
   |cons t r=>
    simp only[endO]at h
    split at h
    ·rename_i hk
     injection h with h;subst h;exact⟨ts,_,rfl,hp,.inr ⟨t,r,rfl,hk⟩⟩
    ·cases h
theorem f28!(h:exprO l=.ok y):EvE NameP NumP y:=by
 obtain⟨ts,r,h1,h2,_⟩:=f27! h
 exact(n9! (o0! 16) 5 ts (b33! h1) y r h2).1
def ExprTo'(w:World)(x:Gx)(e:Ending)(w':World):Prop:=Below w.heap.size w w'∧((∃t,ExprIs x t∧e=.returned (.tuple #[.string (str t),.I 0]))∨((∀t,¬ExprIs x t)∧e=.returned (.tuple #[.E,.I 1])))
theorem c03!(base n:Nat)(D:Nat->Prop)(op N:Int)(nm:ByteArray)(A:Option Addr)(len cap:Nat)(x:Gx)(w:World)(hT:Tabs base w)(hb:base<=w.heap.size)(hG:GC D w 1000000 n [.I op,.I N,.string nm,.slice A len cap] x)(hF:FitG n x):
 Calls Tryz.prog 11 #[.agg #[.I op,.I N,.string nm,.slice A len cap]] w (ExprTo' w x):=by
 obtain⟨W0,eW,f0,X0,hz⟩:=n! w 40 #[.I op,.I N,.string nm,.slice A len cap]
 replace X0:=h! X0
 have F0:=h! f0
 have G0:=h! (hG.below f0)
 have TB0:=h! (hT.below f0 hb)
 have HZ:=h! hz
 have HB:=h! hb
 have HF:=h! hF
 clear f0 hT hG hz hb hF
 go_enter Tryz.func11,Tryz.ntmps11
 go_upto_region 1 with fail
 rw[eW.out]
 clear eW
 have f1:=a! W0 (.cells #[.pointer none,.N,.I ((65536:Nat):Int),.bool false] 68)
 have hbb:base<=W0.heap.size:=by have:=HZ.out;have:=HB.out;omega
 have N1:=h! (Wr.new W0.heap.size W0 65536 false (Nat.le_refl _) (by omega))
 have X1:=b! X0 f1
 have G1:=h! (show GC (λk=>k<W0.heap.size) (W0.alloc (.cells #[.pointer none,.N,.I ((65536:Nat):Int),.bool false] 68)) 1000000 n [.I op,.I N,.string nm,.slice A len cap] x from GC.kept (Kept.of_below (S:=λ_=>False) f1) (λ_ _ _ h=>h) (λ_ hk _=>hk) n _ _ G0.out)
 have TB1:=h! ((TB0.out.below f1 hbb).more hbb)
 have F1:=r! F0 f1
 have HX:=h! X0.out.lt
 clear f1 hbb X0 G0 TB0
 go_upto_region 2 with fail
 change Code.wp _ _ _ _ (W0.alloc (.cells #[.pointer none,.N,.I ((65536:Nat):Int),.bool false] 68))
 generalize W0.alloc (.cells #[.pointer none,.N,.I ((65536:Nat):Int),.bool false] 68)=W1 at*
 obtain⟨s0,s1,s2,s3⟩:=X1.out.A4
 have TX:=h! (b06! W0.heap.size n W0.heap.size 65536 none [] false op N nm A len cap x W1 TB1.out N1.out G1.out HF.out)
 go_wp2_with fail
 refine TX.out.mono ?_
 rintro e w3⟨l2,b2,rfl,t2,r2,o2⟩
 have F3:=h! (t2.low N1.out)
 have R3:=h! r2
 have O2:=h! o2
 have hl2:=o2.len
 have Q3:=h! (r2.cells_).2.1
 have X3:=h! (X1.out.below F3.out (by have:=HX.out;omega))
 have PA:=h! (d17! (str l2) w3 ((TB1.out.low F3.out).sp) (by rw[str_size];exact hl2))
 have G3:=h! (G1.out.low F3.out)
 have K3:Hid (Below w.heap.size w w3):=F1.out.trans (F3.out.mono (by have:=HZ.out;omega))
 have HW3:=h! (show W0.heap.size<w3.heap.size from r2.lt)
 rw[str_list]at PA
 obtain⟨S,hS⟩:∃y,y=str l2:=⟨_,rfl⟩
 rw[<-hS]at PA ⊢
 have HS:=h! hS
 clear hS t2 r2 o2 TX s0 s1 s2 s3 X1 G1 TB1 N1
 go_wp2_with fail
 refine PA.out.mono ?_
 rintro e w4⟨op',N',nm',B',lb,cb,L,Cc,E,rfl,b4,h4⟩
 have F4:Below w3.heap.size w3 ((w4.alloc (.cells #[.I op',.I N',.string nm',.slice B' lb cb] 40)).alloc (.cells #[.I L,.I Cc] 50)):=(b4.al _).al _
 obtain⟨y0,_⟩:=e0! w4 40 50 #[.I op',.I N',.string nm',.slice B' lb cb] #[.I L,.I Cc]
 have Y4:=h! y0
 have X4:=b! X3 F4
 have Q4:Hid (((w4.alloc (.cells #[.I op',.I N',.string nm',.slice B' lb cb] 40)).alloc (.cells #[.I L,.I Cc] 50)).cell? ⟨W0.heap.size,3,none⟩=some (.bool b2)):=(F4.cell (p:=⟨W0.heap.size,3,none⟩) HW3.out).trans Q3.out
 have G4:=h! (GC.below G3.out F4)
 have H4:=h! (h4.kept (S:=λ_=>False) (((Kept.refl _ w4).alloc (.cells #[.I op',.I N',.string nm',.slice B' lb cb] 40)).alloc (.cells #[.I L,.I Cc] 50)) (λ_ _ _ h=>h))
 have K4:=r! K3 F4
 clear b4 h4 y0 F4
 go_upto_region 4 with fail
 generalize (w4.alloc (.cells #[.I op',.I N',.string nm',.slice B' lb cb] 40)).alloc (.cells #[.I L,.I Cc] 50)=W4 at*
 have q3:=Q4.out
 have HNO:Hid (b2=true->∀t,¬ExprIs x t):=λe t ht=>by
  rcases O2.out.ill e with e|e|⟨u,e,hl⟩
  ·cases e
  ·rw[ht.1]at e;cases e
  ·rw[ht.1]at e
   injection e with e;subst e;have:=ht.2.1
   simp at hl
   omega
 cases b2 with
 |true=>
  go_quiet (fail)
  go_wp2_with fail
  go_ret2
  exact⟨K4.out.trans (a5! (Below.refl _ _) _ |>.mono K4.out.size),.inr ⟨HNO.out (by simp),rfl⟩⟩
 |false=>
  have HY:Hid (rawE x=some l2):=by
   obtain⟨_,t,h1,h2⟩:=O2.out.good rfl;rw[List.nil_append]at h2;rw[h1,h2];exact rfl
  have HN2:Hid (∀t,ExprIs x t->t=l2):=λt ht=>Option.some.inj (ht.1.symm.trans HY.out)
  generalize hoo:exprO l2=oo at*;have HO:=h! hoo;clear hoo
  cases oo with
  |bad L' C' E'=>
   obtain⟨-,-,-,hE,-⟩:=H4.out;have hE':(E==0)=false:=by simp[hE]
   clear H4
   go_quiet (fail)
   go_wp2_with fail
   go_ret2
   refine⟨K4.out.trans (a5! (Below.refl _ _) _ |>.mono K4.out.size),.inr ⟨λt ht=>?_,rfl⟩⟩;obtain rfl:=HN2.out t ht;obtain⟨q,hq,_⟩:=ht.2.2;rw[HO.out]at hq
   cases hq
  |ok q=>
   obtain⟨hE,-,-,hte⟩:=H4.out;subst hE;have QG:=h! (TE.gc (M:=1000000) (by omega) _ _ hte);have QF:=h! (FitE.gx q (m2! q (f28! HO.out)));have FB:Hid (∀W,Below W4.heap.size W4 W->W.cell? ⟨W0.heap.size,3,none⟩=some (.bool false)∧W.cell? ⟨w.heap.size,0,none⟩=some (.I op)∧W.cell? ⟨w.heap.size,1,none⟩=some (.I N)∧W.cell? ⟨w.heap.size,2,none⟩=some (.string nm)∧W.cell? ⟨w.heap.size,3,none⟩=some (.slice A len cap)∧W.cell? ⟨w4.heap.size,0,none⟩=some (.I op')∧W.cell? ⟨w4.heap.size,1,none⟩=some (.I N')∧W.cell? ⟨w4.heap.size,2,none⟩=some (.string nm')∧W.cell? ⟨w4.heap.size,3,none⟩=some (.slice B' lb cb)):=λW hW=>by
    have X:=X4.out.below hW X4.out.lt;have Y:=Y4.out.below hW Y4.out.lt;exact⟨(hW.cell (p:=⟨W0.heap.size,3,none⟩) (World.block_lt_of_cell? _ _ q3)).trans q3,X.cell 0,X.cell 1,X.cell 2,X.cell 3,Y.cell 0,Y.cell 1,Y.cell 2,Y.cell 3⟩
   have A1:=h! (λW (hW:Below W4.heap.size W4 W)=>c02! (λk=>k<W0.heap.size) n op N nm A len cap x W (G4.out.below hW) HF.out);have A2:=h! (λW (hW:Below W4.heap.size W4 W)=>c02! (λz=>w3.heap.size<=z) q.dep op' N' nm' B' lb cb q.gx W (QG.out.below hW) QF.out);have SM:Hid (∀b1 b2 W,PX 16 (λk=>k<W0.heap.size∨W4.heap.size<=k) W [.E,.I 0,.N,.N,.slice (some ⟨b1,0,none⟩) 1 1,.N,.N,.N,.E,.N,.N] (i3! x)->PX 16 (λk=>w3.heap.size<=k∨W4.heap.size<=k) W [.E,.I 0,.N,.N,.slice (some ⟨b2,0,none⟩) 1 1,.N,.N,.N,.E,.N,.N] (i3! q.gx)->Calls Tryz.prog 18 #[.agg (List.toArray [.E,.I 0,.N,.N,.slice (some ⟨b1,0,none⟩) 1 1,.N,.N,.N,.E,.N,.N]),.agg (List.toArray [.E,.I 0,.N,.N,.slice (some ⟨b2,0,none⟩) 1 1,.N,.N,.N,.E,.N,.N])] W (EqTo W (i3! x=i3! q.gx))):=λb1 b2 W h1 h2=>
    a34! 16 _ _ ⟨#[]⟩ ⟨#[]⟩ ⟨#[]⟩ ⟨#[]⟩ 0 0 none 0 0 none 0 0 (some ⟨b1,0,none⟩) 1 1 none 0 0 none 0 0 none 0 0 none 0 0 none 0 0 none 0 0 none 0 0 (some ⟨b2,0,none⟩) 1 1 none 0 0 none 0 0 none 0 0 none 0 0 none 0 0 _ _ W h1 h2
   have bb0:=h! ((Below.refl W4.heap.size W4).drew);have q0:=FB.out _ bb0.out;clear H4 hte
   go_region_held3 (λW=>W.cell? ⟨W0.heap.size,3,none⟩=some (.bool false)∧W.cell? ⟨w.heap.size,0,none⟩=some (.I op)∧W.cell? ⟨w.heap.size,1,none⟩=some (.I N)∧W.cell? ⟨w.heap.size,2,none⟩=some (.string nm)∧W.cell? ⟨w.heap.size,3,none⟩=some (.slice A len cap)∧W.cell? ⟨w4.heap.size,0,none⟩=some (.I op')∧W.cell? ⟨w4.heap.size,1,none⟩=some (.I N')∧W.cell? ⟨w4.heap.size,2,none⟩=some (.string nm')∧W.cell? ⟨w4.heap.size,3,none⟩=some (.slice B' lb cb))
    (first|exact qd|exact qb|exact qa|exact q0)
    (first
     |(go_at_call 22;(with_reducible refine(A1.out _ bb0.out).mono ?_);rintro e wa⟨ba,rfl,fa,pa⟩;have bb1:=r! bb0 fa;have qa:=FB.out _ bb1.out;have PA1:=h! (q3! 16 _ (λk=>k<W0.heap.size∨W4.heap.size<=k) (λ_=>False) _ _ _ _ (Kept.refl _ _) (λ_ _ _ h=>h) (λk _ h=>h) pa);clear fa pa)
     |(go_at_call 22;(with_reducible refine(A2.out _ bb1.out).mono ?_);rintro e wb⟨bb,rfl,fb,pb⟩;have bb2:=r! bb1 fb;have qb:=FB.out _ bb2.out;have PB1:=h! (q3! 16 _ (λk=>w3.heap.size<=k∨W4.heap.size<=k) (λ_=>False) _ _ _ _ (Kept.refl _ _) (λ_ _ _ h=>h) (λk _ h=>h.imp id (λh=>Nat.le_trans bb1.out.size h)) pb);have PA2:=h! (PA1.out.stay fb);have SM2:=h! (SM.out ba bb wb PA2.out PB1.out);clear fb pb)
     |(go_at_call 18;(with_reducible refine SM2.out.mono ?_);rintro e wc⟨b,rfl,hb5,b5⟩;have bb3:=r! bb2 b5;have qd:=FB.out _ bb3.out;have HB5:=h! hb5;clear hb5 b5))
   have K5:=h! (K4.out.trans (bb3.out.mono K4.out.size))
   cases b with
   |true=>
    go_wp2_with fail
    go_ret2
    refine⟨K5.out,.inl ⟨l2,⟨HY.out,hl2,q,HO.out,(c00!.1 (HB5.out.1 (by simp))).symm⟩,?_⟩⟩;rw[<-HS.out]
    rfl
   |false=>
    go_wp2_with fail
    go_ret2
    refine⟨K5.out,.inr ⟨λt ht=>?_,rfl⟩⟩;obtain rfl:=HN2.out t ht;obtain⟨q',hq,he⟩:=ht.2.2;rw[HO.out]at hq;injection hq with hq;subst hq;have:=HB5.out.2 (c00!.2 he.symm)
    cases this
end Go.Proofs.YtdgekckedchjbaaGreatDoor
