
/-
 What the chapter's examples say. What a parse gives, for the laws on texts; PrintTwice. (Printed by wip/tools/genv25.py.) PrintBack: what is printed is g8! as it was; a program that has no text has none by the document either. (Printed by wip/tools/genf11.py.)
-/
import Derived.Test.YtdgekckedchjbaaGreatDoorQR
import Derived.KernelRfl
import Derived.Test.YtdgekckedchjbaaGreatDoorF10
set_option maxHeartbeats 4000000
set_option maxRecDepth 100000
namespace Go.Proofs.YtdgekckedchjbaaGreatDoor
open Go.RowKit
variable {w:World}
def numG(n:Int):Gx:=.mk 0 n ⟨#[]⟩ []
def namG(s:List UInt8):Gx:=.mk 1 0 (str s) []
def toldA:Gx:=.mk 9 0 ⟨#[]⟩ [numG 1,.mk 9 0 ⟨#[]⟩ [numG 2,numG 3]]
def toldB:Gx:=.mk 3 0 ⟨#[]⟩ [.mk 8 0 ⟨#[]⟩ [namG [97],numG 1]]
def textA:List UInt8:=[49,32,45,32,40,32,50,32,45,32,51,32,41]
def textB:List UInt8:=[45,32,40,32,97,32,43,32,49,32,41]
theorem readA:exprO textA=.ok (.bin 9 (.num 1) (.bin 9 (.num 2) (.num 3))):=by kernel_rfl
theorem readB:exprO textB=.ok (.neg (.bin 8 (.nam [97]) (.num 1))):=by kernel_rfl
theorem rawA:rawE toldA=some textA:=by kernel_rfl
theorem rawB_:rawE toldB=some textB:=by kernel_rfl
theorem isA:ExprIs toldA textA:=⟨rawA,by decide,_,readA,rfl⟩
theorem isB:ExprIs toldB textB:=⟨rawB_,by decide,_,readB,rfl⟩
theorem t3!{D:Nat->Prop}(n:Nat)(op N:Int)(s:ByteArray):GC D w 1000000 (n+1) [.I op,.I N,.string s,.N] (.mk op N s []):=⟨none,0,0,rfl,ElsG.none_ _ _ _ _ _ _⟩
theorem a36!(n:Nat)(op N:Int)(s:ByteArray)(hN:FitN N)(hs:s.size<=140737488355328):FitG (n+1) (.mk op N s []):=⟨hN,hs,λx hx=>by simp at hx⟩
theorem fitA:FitG 3 toldA:=by
 have h1:∀k n:Nat,n<=10->FitG (k+1) (numG n):=λk n hn=>a36! k 0 n ⟨#[]⟩ ⟨by omega,by omega⟩ (by decide)
 refine⟨FitN.zero,by decide,λx hx=>?_⟩
 simp only[List.mem_cons,List.not_mem_nil,or_false]at hx
 rcases hx with rfl|rfl
 ·exact h1 1 1 (by omega)
 ·refine⟨FitN.zero,by decide,λx hx=>?_⟩
  simp only[List.mem_cons,List.not_mem_nil,or_false]at hx
  rcases hx with rfl|rfl
  ·exact h1 0 2 (by omega)
  ·exact h1 0 3 (by omega)
theorem fitB:FitG 3 toldB:=by
 refine⟨FitN.zero,by decide,λx hx=>?_⟩
 obtain rfl:=List.mem_singleton.1 hx
 refine⟨FitN.zero,by decide,λx hx=>?_⟩
 simp only[List.mem_cons,List.not_mem_nil,or_false]at hx
 rcases hx with rfl|rfl
 ·exact a36! 0 1 0 (str [97]) FitN.zero (by decide)
 ·exact a36! 0 0 1 ⟨#[]⟩ ⟨by omega,by omega⟩ (by decide)
theorem ExprTo'.is{w':World}{x:Gx}{t:List UInt8}{e:Ending}(h:ExprTo' w x e w')(ht:ExprIs x t):e=.returned (.tuple #[.string (str t),.I 0])∧Below w.heap.size w w':=by
 obtain⟨hb,⟨u,hu,he⟩|⟨hn,_⟩⟩:=h
 ·rw[hu.one ht]at he
  exact⟨he,hb⟩
 ·exact absurd ht (hn t)
theorem x6!(base:Nat)(w:World)(hT:Tabs base w)(hb:base<=w.heap.size):Calls Tryz.prog 10 #[] w (Tells w true):=by
 obtain⟨x0,y0⟩:=e0! w 40 40 #[.I 0,.I 2,.E,.N,.I 0,.I 3,.E,.N] #[.I 9,.I 0,.E,.slice (some ⟨w.heap.size,0,none⟩) 2 2]
 have f0:Below w.heap.size w ((w.alloc (.cells #[.I 0,.I 2,.E,.N,.I 0,.I 3,.E,.N] 40)).alloc (.cells #[.I 9,.I 0,.E,.slice (some ⟨w.heap.size,0,none⟩) 2 2] 40)):=((Below.refl _ w).al _).al _
 have X0:=h! x0
 have Y0:=h! y0
 have F0:=h! f0
 have TB1:=h! (hT.below f0 hb)
 have HB:=h! hb
 clear x0 y0 f0 hT hb
 go_enter Tryz.func10,Tryz.ntmps10
 go_upto_region 2 with fail
 generalize ((w.alloc (.cells #[.I 0,.I 2,.E,.N,.I 0,.I 3,.E,.N] 40)).alloc (.cells #[.I 9,.I 0,.E,.slice (some ⟨w.heap.size,0,none⟩) 2 2] 40))=W1 at*
 obtain⟨s0,s1,s2,s3⟩:=Y0.out.A4
 have f2:=a! W1 (.cells #[.I 0,.I 1,.E,.N,.I 9,.I 0,.E,.slice (some ⟨w.heap.size,0,none⟩) 2 2] 40)
 have b2:=Blk.new W1 40 #[.I 0,.I 1,.E,.N,.I 9,.I 0,.E,.slice (some ⟨w.heap.size,0,none⟩) 2 2]
 have g0:GC (λ_=>True) (W1.alloc (.cells #[.I 0,.I 1,.E,.N,.I 9,.I 0,.E,.slice (some ⟨w.heap.size,0,none⟩) 2 2] 40)) 1000000 2 [.I 9,.I 0,.E,.slice (some ⟨w.heap.size,0,none⟩) 2 2] (.mk 9 0 ⟨#[]⟩ [numG 2,numG 3]):=
  ⟨_,_,_,rfl,p2! (c1:=[.I 0,.I 2,.E,.N]) (c2:=[.I 0,.I 3,.E,.N]) (by omega) (X0.out.below f2 X0.out.lt) trivial rfl rfl (t3! 0 0 2 ⟨#[]⟩) (t3! 0 0 3 ⟨#[]⟩)⟩
 have g1:GC (λ_=>True) (W1.alloc (.cells #[.I 0,.I 1,.E,.N,.I 9,.I 0,.E,.slice (some ⟨w.heap.size,0,none⟩) 2 2] 40)) 1000000 3 [.I 9,.I 0,.E,.slice (some ⟨W1.heap.size,0,none⟩) 2 2] toldA:=
  ⟨_,_,_,rfl,p2! (c1:=[.I 0,.I 1,.E,.N]) (c2:=[.I 9,.I 0,.E,.slice (some ⟨w.heap.size,0,none⟩) 2 2]) (by omega) b2 trivial rfl rfl (t3! 1 0 1 ⟨#[]⟩) g0⟩
 have hbb:base<=W1.heap.size:=Nat.le_trans HB.out F0.out.size
 have E1:=h! (c03! base 3 _ 9 0 ⟨#[]⟩ (some ⟨W1.heap.size,0,none⟩) 2 2 toldA _ (TB1.out.below f2 hbb) (Nat.le_trans hbb f2.size) g1 fitA)
 have F2:=r! F0 f2
 have TB2:=h! (TB1.out.below f2 hbb)
 have HB2:=h! (Nat.le_trans hbb f2.size)
 clear f2 b2 g0 g1 hbb
 go_wp2_with fail
 refine E1.out.mono ?_
 rintro e w3 h3
 obtain⟨rfl,b3⟩:=h3.is isA
 have F3:=r! F2 b3
 have TB3:=h! (TB2.out.below b3 HB2.out)
 have HB3:=h! (Nat.le_trans HB2.out b3.size)
 have hsA:Hid ((str textA).toList=[49,32,45,32,40,32,50,32,45,32,51,32,41]):=by rw[ByteArray.toList_eq];exact str_list _
 obtain⟨SA,hSA⟩:∃x,x=str textA:=⟨_,rfl⟩
 rw[<-hSA]at hsA ⊢
 clear h3 b3 E1 s0 s1 s2 s3 hSA
 have f4:Below w3.heap.size w3 ((w3.alloc (.cells #[.I 1,.I 0,.string ⟨#[97]⟩,.N,.I 0,.I 1,.E,.N] 40)).alloc (.cells #[.I 8,.I 0,.E,.slice (some ⟨w3.heap.size,0,none⟩) 2 2] 40)):=((Below.refl _ _).al _).al _
 obtain⟨x4,y4⟩:=e0! w3 40 40 #[.I 1,.I 0,.string ⟨#[97]⟩,.N,.I 0,.I 1,.E,.N] #[.I 8,.I 0,.E,.slice (some ⟨w3.heap.size,0,none⟩) 2 2]
 have g0:GC (λ_=>True) ((w3.alloc (.cells #[.I 1,.I 0,.string ⟨#[97]⟩,.N,.I 0,.I 1,.E,.N] 40)).alloc (.cells #[.I 8,.I 0,.E,.slice (some ⟨w3.heap.size,0,none⟩) 2 2] 40)) 1000000 2 [.I 8,.I 0,.E,.slice (some ⟨w3.heap.size,0,none⟩) 2 2] (.mk 8 0 ⟨#[]⟩ [namG [97],numG 1]):=
  ⟨_,_,_,rfl,p2! (c1:=[.I 1,.I 0,.string ⟨#[97]⟩,.N]) (c2:=[.I 0,.I 1,.E,.N]) (by omega) x4 trivial rfl rfl (t3! 0 1 0 ⟨#[97]⟩) (t3! 0 0 1 ⟨#[]⟩)⟩
 have g1:GC (λ_=>True) ((w3.alloc (.cells #[.I 1,.I 0,.string ⟨#[97]⟩,.N,.I 0,.I 1,.E,.N] 40)).alloc (.cells #[.I 8,.I 0,.E,.slice (some ⟨w3.heap.size,0,none⟩) 2 2] 40)) 1000000 3 [.I 3,.I 0,.E,.slice (some ⟨w3.heap.size+1,0,none⟩) 1 1] toldB:=
  ⟨_,_,_,rfl,p1! (c1:=[.I 8,.I 0,.E,.slice (some ⟨w3.heap.size,0,none⟩) 2 2]) (by omega) y4 trivial rfl g0⟩
 have E4:=h! (c03! base 3 _ 3 0 ⟨#[]⟩ (some ⟨w3.heap.size+1,0,none⟩) 1 1 toldB _ (TB3.out.below f4 HB3.out) (Nat.le_trans HB3.out f4.size) g1 fitB)
 have F4:=r! F3 f4
 clear f4 x4 y4 g0 g1
 go_wp2_with fail
 refine E4.out.mono ?_
 rintro e w5 h5
 obtain⟨rfl,b5⟩:=h5.is isB
 have F5:=r! F4 b5
 have hsB:Hid ((str textB).toList=[45,32,40,32,97,32,43,32,49,32,41]):=by rw[ByteArray.toList_eq];exact str_list _
 obtain⟨SB,hSB⟩:∃x,x=str textB:=⟨_,rfl⟩
 rw[<-hSB]at hsB ⊢
 clear h5 b5 E4 hSB
 have e1:(SA.toList==(⟨#[49,32,45,32,40,32,50,32,45,32,51,32,41]⟩:ByteArray).toList)=true:=by rw[hsA.out,ByteArray.toList_eq];rfl
 have e2:(SB.toList==(⟨#[45,32,40,32,97,32,43,32,49,32,41]⟩:ByteArray).toList)=true:=by rw[hsB.out,ByteArray.toList_eq];rfl
 go_wp2_with fail
 go_ret
 exact⟨rfl,F5.out⟩
end Go.Proofs.YtdgekckedchjbaaGreatDoor
namespace Go.Proofs.YtdgekckedchjbaaGreatDoor
open Go.RowKit
def zeroP:Px:=⟨[],0,[],[],[],[],[],[],[],[],[]⟩
theorem g8!{b:Nat}{l:List UInt8}{cs:List Value}{L C E:Int}{w:World}(h:ExOutP b (progO l) cs L C E w):∃p,PX 16 (λk=>b<=k) w cs p∧((E=0∧∃x,progO l=.ok x∧p=x.px)∨(E≠0∧∀x,progO l≠.ok x)):=by
 cases hq:progO l with
 |ok x=>
  rw[hq]at h;obtain⟨h1,_,_,h2⟩:=h;exact⟨x.px,h2.px (v7! hq).fit,.inl ⟨h1,x,rfl,rfl⟩⟩
 |bad L' C' E'=>
  rw[hq]at h;obtain⟨_,_,_,h1,h2⟩:=h;refine⟨zeroP,?_,.inr ⟨h1,λx e=>by cases e⟩⟩;rw[h2];exact⟨⟨Nat.zero_le _,Nat.zero_le _,FitN.zero,by simp[zeroP],by simp[zeroP],by simp[zeroP]⟩,_,_,_,_,_,_,_,_,rfl,RowD.nil_ _ _ _ _,RowD.nil_ _ _ _ _,RowD.nil_ _ _ _ _,RowD.nil_ _ _ _ _,RowD.nil_ _ _ _ _,RowD.nil_ _ _ _ _,RowD.nil_ _ _ _ _,RowD.nil_ _ _ _ _⟩
end Go.Proofs.YtdgekckedchjbaaGreatDoor
set_option maxHeartbeats 8000000
set_option maxRecDepth 100000
namespace Go.Proofs.YtdgekckedchjbaaGreatDoor
open Go.RowKit
def zeroG:Pg:=⟨[],0,[],[],[],[],[],[],[],[],[]⟩
theorem f29!(t:List UInt8):¬k6! zeroG.px t:=λh=>by
 obtain⟨_,_,q,hq,hz⟩:=h
 have h1:=(v7! hq).nm.1
 exact h1 (congrArg Px.nm hz)
theorem f30!:FitP zeroG:=⟨Nat.zero_le _,Nat.zero_le _,FitN.zero,by simp[zeroG],by simp[zeroG],by simp[zeroG],by simp[zeroG,FitSs],by simp[zeroG,FitSs],by simp[zeroG,FitSs],by simp[zeroG,FitSs],by simp[zeroG,FitSs]⟩
theorem f31!:WfP zeroG:=⟨by simp[zeroG,WfSs],by simp[zeroG,WfSs],by simp[zeroG,WfSs],by simp[zeroG,WfSs],by simp[zeroG,WfSs]⟩
theorem f32!:∃T,rawP zeroG.px=some T∧T.length<=500000:=⟨_,rfl,by decide+kernel⟩
theorem c04!{l:List UInt8}{p:Pg}(h:progO l=.ok p):WfP p:=by
 obtain⟨ts,r,h1,h2,_⟩:=a08! h
 exact(e85! ts (λ_ _=>trivial) p r h2).1
theorem f33!{s:ByteArray}{x:Pg}{D:Nat->Prop}(nm:ByteArray)(seats:Int)(sil:ByteArray)(A1:Option Addr)(n1 c1:Nat)(A2:Option Addr)(n2 c2:Nat)(A3:Option Addr)(n3 c3:Nat)(A4:Option Addr)(n4 c4:Nat)(A5:Option Addr)(n5 c5:Nat)(A6:Option Addr)(n6 c6:Nat)(A7:Option Addr)(n7 c7:Nat)(A8:Option Addr)(n8 c8:Nat){w:World}(h:(∃p:Pg,progO s.data.toList=.ok p∧RPC D w [.string nm,.I seats,.slice A1 n1 c1,.slice A2 n2 c2,.slice A3 n3 c3,.slice A4 n4 c4,.slice A5 n5 c5,.slice A6 n6 c6,.string sil,.slice A7 n7 c7,.slice A8 n8 c8] p)∨([.string nm,.I seats,.slice A1 n1 c1,.slice A2 n2 c2,.slice A3 n3 c3,.slice A4 n4 c4,.slice A5 n5 c5,.slice A6 n6 c6,.string sil,.slice A7 n7 c7,.slice A8 n8 c8]:List Value)=[.E,.I 0,.N,.N,.N,.N,.N,.N,.E,.N,.N])
 (hx:progO s.data.toList=.ok x) (hno:∀t,¬k6! x.px t) (hs:s.size<=3000):Calls Tryz.prog 16 #[.agg #[.string nm,.I seats,.slice A1 n1 c1,.slice A2 n2 c2,.slice A3 n3 c3,.slice A4 n4 c4,.slice A5 n5 c5,.slice A6 n6 c6,.string sil,.slice A7 n7 c7,.slice A8 n8 c8]] w (b98! w):=by
 rcases h with⟨p,hp,hR⟩|hz
 ·rw[hx]at hp
  injection hp with hp;subst hp;obtain⟨T,hT⟩:=e87! x (c04! hx);have hl:=e65! hx hT;rw[b1!]at hl;exact b99! D nm seats sil A1 n1 c1 A2 n2 c2 A3 n3 c3 A4 n4 c4 A5 n5 c5 A6 n6 c6 A7 n7 c7 A8 n8 c8 x w T hR (v7! hx).fit (c04! hx) hT (by omega) hno
 ·simp only[List.cons.injEq,and_true,Value.string.injEq,Value.int.injEq,Value.slice.injEq,true_and]at hz
  obtain⟨rfl,rfl,⟨rfl,rfl,rfl⟩,⟨rfl,rfl,rfl⟩,⟨rfl,rfl,rfl⟩,⟨rfl,rfl,rfl⟩,⟨rfl,rfl,rfl⟩,⟨rfl,rfl,rfl⟩,rfl,⟨rfl,rfl,rfl⟩,rfl,rfl,rfl⟩:=hz;obtain⟨T,hT,hl⟩:=f32!;exact b99! (λ_=>True) ⟨#[]⟩ 0 ⟨#[]⟩ none 0 0 none 0 0 none 0 0 none 0 0 none 0 0 none 0 0 none 0 0 none 0 0 zeroG w T ⟨_,_,_,_,_,_,_,_,rfl,RowD.nil_ _ _ _ _,RowD.nil_ _ _ _ _,RowD.nil_ _ _ _ _,RowD.nil_ _ _ _ _,RowD.nil_ _ _ _ _,RowD.nil_ _ _ _ _,RowD.nil_ _ _ _ _,RowD.nil_ _ _ _ _⟩ f30! f31! hT hl f29!
theorem f34!(base:Nat)(s:ByteArray)(w:World)(hT:Tabs base w)(hP:TabP base w)(hb:base<=w.heap.size)(hs:s.size<=9223372036854775807):
 Calls Tryz.prog 4 #[.string s] w (Tells w true):=by
 have TB:=h! hT
 have TP:=h! hP
 have HB:=h! hb
 clear hT hP hb
 by_cases hlen:3000<s.size
 ·have hl:(3000:Int)<(s.size:Int):=by omega
  go_enter Tryz.func4,Tryz.ntmps4;have TD:=h! (x6! base w TB.out HB.out);go_wp2_with fail;refine TD.out.mono ?_;rintro e wt⟨rfl,bt⟩;go_wp2_with fail
  go_ret
  exact⟨rfl,(Below.refl w.heap.size w).trans (bt.mono (Below.refl w.heap.size w).size)⟩
 have hl:¬(3000:Int)<(s.size:Int):=by omega
 have hs3:s.size<=3000:=by omega
 go_enter Tryz.func4,Tryz.ntmps4
 have PA1:=h! (z2! s w (TB.out).sp (by omega))
 go_wp2_with fail
 refine PA1.out.mono ?_
 rintro e wp1⟨nm1,seats1,sil1,B11,m11,d11,B12,m12,d12,B13,m13,d13,B14,m14,d14,B15,m15,d15,B16,m16,d16,B17,m17,d17,B18,m18,d18,L1,C1,E1,rfl,bp1,hp1⟩
 obtain⟨px1,hx1,hc1⟩:=g8! hp1
 have fa1:Below w.heap.size w ((wp1.alloc (.cells #[.string nm1,.I seats1,.slice B11 m11 d11,.slice B12 m12 d12,.slice B13 m13 d13,.slice B14 m14 d14,.slice B15 m15 d15,.slice B16 m16 d16,.string sil1,.slice B17 m17 d17,.slice B18 m18 d18] 48)).alloc (.cells #[.I L1,.I C1] 50)):=(bp1.al _).al _
 obtain⟨yb1,_⟩:=e0! wp1 48 50 #[.string nm1,.I seats1,.slice B11 m11 d11,.slice B12 m12 d12,.slice B13 m13 d13,.slice B14 m14 d14,.slice B15 m15 d15,.slice B16 m16 d16,.string sil1,.slice B17 m17 d17,.slice B18 m18 d18] #[.I L1,.I C1]
 have YB1:=h! yb1
 have HX1:=h! (hx1.stay (((Below.refl _ wp1).al (.cells #[.string nm1,.I seats1,.slice B11 m11 d11,.slice B12 m12 d12,.slice B13 m13 d13,.slice B14 m14 d14,.slice B15 m15 d15,.slice B16 m16 d16,.string sil1,.slice B17 m17 d17,.slice B18 m18 d18] 48)).al (.cells #[.I L1,.I C1] 50)))
 have HC1:=h! hc1
 have Fa1:=h! ((Below.refl w.heap.size w).trans ((fa1).mono (Below.refl w.heap.size w).size))
 have TBa1:=h! ((TB.out).below (fa1) HB.out)
 have TPa1:=h! ((TP.out).low ((fa1).mono HB.out))
 have HBa1:=h! (Nat.le_trans HB.out (fa1).size)
 clear bp1 hp1 hx1 hc1 yb1 PA1 fa1
 go_upto_region 4 with fail
 generalize (wp1.alloc (.cells #[.string nm1,.I seats1,.slice B11 m11 d11,.slice B12 m12 d12,.slice B13 m13 d13,.slice B14 m14 d14,.slice B15 m15 d15,.slice B16 m16 d16,.string sil1,.slice B17 m17 d17,.slice B18 m18 d18] 48)).alloc (.cells #[.I L1,.I C1] 50)=W1 at*
 rcases HC1.out with ⟨hE1,x,hx,hpx⟩|⟨hE1,hno⟩
 rotate_left
 ·have hE1b:((E1:Int) != 0)=true:=by simp[hE1]
  have TD:=h! (x6! base W1 TBa1.out HBa1.out);go_wp2_with fail;refine TD.out.mono ?_;rintro e wt⟨rfl,bt⟩;go_wp2_with fail
  go_ret
  exact⟨rfl,Fa1.out.trans (bt.mono Fa1.out.size)⟩
 subst hE1
 have HXX:=h! hx
 have HPX:=h! hpx
 clear hx hpx HC1
 obtain⟨s0,s1,s2,s3,s4,s5,s6,s7,s8,s9,s10⟩:=YB1.out.A11
 have PR1:=h! (f25! base _ nm1 sil1 seats1 B11 m11 d11 B12 m12 d12 B13 m13 d13 B14 m14 d14 B15 m15 d15 B16 m16 d16 B17 m17 d17 B18 m18 d18 px1 W1 TBa1.out TPa1.out HBa1.out HX1.out)
 go_wp2_with fail
 refine PR1.out.mono ?_
 rintro e V1⟨bq1,h1⟩
 have YB1q1:=h! (YB1.out.below (bq1) YB1.out.lt)
 clear YB1
 have HX1q1:=h! (HX1.out.stay (bq1))
 clear HX1
 have Fq1:=h! (Fa1.out.trans ((bq1).mono Fa1.out.size))
 have TBq1:=h! ((TBa1.out).below (bq1) HBa1.out)
 have TPq1:=h! ((TPa1.out).low ((bq1).mono HBa1.out))
 have HBq1:=h! (Nat.le_trans HBa1.out (bq1).size)
 clear PR1 bq1 s0 s1 s2 s3 s4 s5 s6 s7 s8 s9 s10
 rcases h1 with⟨t,ht,rfl⟩|⟨hno,rfl⟩
 ·have HT1:=h! ht
  obtain⟨T,hT⟩:∃y,y=str t:=⟨_,rfl⟩
  rw[<-hT];have hTs:T.size<=65536:=by rw[hT,str_size];exact ht.2.1
  have HTL:Hid (T.data.toList=t):=by rw[hT];simp[Hid,str]
  have HTT:=h! hT;clear hT ht;have PA2:=h! (z2! T V1 (TBq1.out).sp hTs);go_wp2_with fail;refine PA2.out.mono ?_;rintro e wp2⟨nm2,seats2,sil2,B21,m21,d21,B22,m22,d22,B23,m23,d23,B24,m24,d24,B25,m25,d25,B26,m26,d26,B27,m27,d27,B28,m28,d28,L2,C2,E2,rfl,bp2,hp2⟩;obtain⟨px2,hx2,hc2⟩:=g8! hp2;have fa2:Below V1.heap.size V1 ((wp2.alloc (.cells #[.string nm2,.I seats2,.slice B21 m21 d21,.slice B22 m22 d22,.slice B23 m23 d23,.slice B24 m24 d24,.slice B25 m25 d25,.slice B26 m26 d26,.string sil2,.slice B27 m27 d27,.slice B28 m28 d28] 48)).alloc (.cells #[.I L2,.I C2] 50)):=(bp2.al _).al _;obtain⟨yb2,_⟩:=e0! wp2 48 50 #[.string nm2,.I seats2,.slice B21 m21 d21,.slice B22 m22 d22,.slice B23 m23 d23,.slice B24 m24 d24,.slice B25 m25 d25,.slice B26 m26 d26,.string sil2,.slice B27 m27 d27,.slice B28 m28 d28] #[.I L2,.I C2];have YB2:=h! yb2;have HX2:=h! (hx2.stay (((Below.refl _ wp2).al (.cells #[.string nm2,.I seats2,.slice B21 m21 d21,.slice B22 m22 d22,.slice B23 m23 d23,.slice B24 m24 d24,.slice B25 m25 d25,.slice B26 m26 d26,.string sil2,.slice B27 m27 d27,.slice B28 m28 d28] 48)).al (.cells #[.I L2,.I C2] 50)));have HC2:=h! hc2;have YB1q1a2:=h! (YB1q1.out.below (fa2) YB1q1.out.lt);clear YB1q1;have HX1q1a2:=h! (HX1q1.out.stay (fa2));clear HX1q1;have Fa2:=h! (Fq1.out.trans ((fa2).mono Fq1.out.size));have TBa2:=h! ((TBq1.out).below (fa2) HBq1.out);have TPa2:=h! ((TPq1.out).low ((fa2).mono HBq1.out));have HBa2:=h! (Nat.le_trans HBq1.out (fa2).size);clear bp2 hp2 hx2 hc2 yb2 PA2 fa2;go_upto_region 11 with fail;generalize (wp2.alloc (.cells #[.string nm2,.I seats2,.slice B21 m21 d21,.slice B22 m22 d22,.slice B23 m23 d23,.slice B24 m24 d24,.slice B25 m25 d25,.slice B26 m26 d26,.string sil2,.slice B27 m27 d27,.slice B28 m28 d28] 48)).alloc (.cells #[.I L2,.I C2] 50)=W2 at*;obtain⟨y,hy,hyx⟩:=HT1.out.2.2;rw[HTL.out,hy]at HC2;rcases HC2.out with ⟨hE2,x2,hx2,hpx2⟩|⟨hE2,hno⟩;rotate_left
  ·exact absurd rfl (hno y)
  subst hE2;have hpp:px2=px1:=by
   injection hx2 with hx2;subst hx2;rw[hpx2,hyx]
  subst hpp;clear HC2 hx2 hpx2;obtain⟨s0,s1,s2,s3,s4,s5,s6,s7,s8,s9,s10⟩:=YB1q1a2.out.A11;obtain⟨u0,u1,u2,u3,u4,u5,u6,u7,u8,u9,u10⟩:=YB2.out.A11;have SM:=h! (a34! 16 _ _ nm1 sil1 nm2 sil2 seats1 seats2 B11 m11 d11 B12 m12 d12 B13 m13 d13 B14 m14 d14 B15 m15 d15 B16 m16 d16 B17 m17 d17 B18 m18 d18 B21 m21 d21 B22 m22 d22 B23 m23 d23 B24 m24 d24 B25 m25 d25 B26 m26 d26 B27 m27 d27 B28 m28 d28 px2 px2 W2 HX1q1a2.out HX2.out);go_wp2_with fail;refine SM.out.mono ?_;rintro e ws⟨bb,rfl,hbb,bs⟩;obtain rfl:bb=true:=hbb.2 (by trivial);clear hbb SM s0 u0 s1 u1 s2 u2 s3 u3 s4 u4 s5 u5 s6 u6 s7 u7 s8 u8 s9 u9 s10 u10;have Fs:=h! (Fa2.out.trans ((bs).mono Fa2.out.size));have TBs:=h! ((TBa2.out).below (bs) HBa2.out);have TPs:=h! ((TPa2.out).low ((bs).mono HBa2.out));have HBs:=h! (Nat.le_trans HBa2.out (bs).size);have TD:=h! (x6! base ws TBs.out HBs.out);go_wp2_with fail;refine TD.out.mono ?_;rintro e wt⟨rfl,bt⟩;go_wp2_with fail
  go_ret
  exact⟨rfl,Fs.out.trans (bt.mono Fs.out.size)⟩
 ·have HNO:Hid (∀t,¬k6! x.px t):=by
   rw[<-HPX.out];exact hno
  have BK:=h! (f21! s V1 hs);clear hno;go_wp2_with fail;refine BK.out.mono ?_;rintro e w5⟨nm,seats,sil,A1,n1,c1,A2,n2,c2,A3,n3,c3,A4,n4,c4,A5,n5,c5,A6,n6,c6,A7,n7,c7,A8,n8,c8,rfl,b5,h5⟩;have Fb5_:=h! (Fq1.out.trans ((b5).mono Fq1.out.size));have TBb5_:=h! ((TBq1.out).below (b5) HBq1.out);have TPb5_:=h! ((TPq1.out).low ((b5).mono HBq1.out));have HBb5_:=h! (Nat.le_trans HBq1.out (b5).size);have PN:=h! (f33! _ _ _ _ _ _ _ _ _ _ _ _ _ _ _ _ _ _ _ _ _ _ _ _ _ _ _ h5 HXX.out HNO.out hs3);clear b5 h5 BK;go_wp2_with fail;refine PN.out.mono ?_;rintro e w6⟨rfl,b6⟩;have Fb6_:=h! (Fb5_.out.trans ((b6).mono Fb5_.out.size));have TBb6_:=h! ((TBb5_.out).below (b6) HBb5_.out);have TPb6_:=h! ((TPb5_.out).low ((b6).mono HBb5_.out));have HBb6_:=h! (Nat.le_trans HBb5_.out (b6).size);clear b6 PN;have TD:=h! (x6! base w6 TBb6_.out HBb6_.out);go_wp2_with fail;refine TD.out.mono ?_;rintro e wt⟨rfl,bt⟩;go_wp2_with fail
  go_ret
  exact⟨rfl,Fb6_.out.trans (bt.mono Fb6_.out.size)⟩
end Go.Proofs.YtdgekckedchjbaaGreatDoor
