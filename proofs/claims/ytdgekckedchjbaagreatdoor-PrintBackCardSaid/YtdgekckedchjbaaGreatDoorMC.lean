
/-
 The parts of a program's text. No program is named here. The document's Text of a g8! program. (Printed by wip/tools/genf8.py.)
-/
import Derived.Test.YtdgekckedchjbaaGreatDoorF7
import Derived.Deep.RegionHeld3
import Derived.Deep.DeepCutAuto
namespace Go.Proofs.YtdgekckedchjbaaGreatDoor
open Go.RowKit
variable {T:List UInt8}
def hdT(nm:List UInt8)(seats:Int):List UInt8:=[103,97,109,101,32]++nm++[10,115,101,97,116,115,32]++Lib.itoa seats++[10,115,116,97,107,101]
def stT:List Int->List UInt8
 |[]=>[]
 |n::l=>[32]++Lib.itoa n++stT l
def spT(v:Va):List UInt8:=Lib.itoa v.lo++[32]++Lib.itoa v.hi
def vaT(v:Va):List UInt8:=[118,97,114,32]++v.nm++[32]++(if v.size=0 then []else [91,32]++Lib.itoa v.size++[32,93,32])++spT v++[10]
def vasT:List Va->List UInt8
 |[]=>[]
 |v::l=>vaT v++vasT l
def paT:Bool->List Va->List UInt8
 |_,[]=>[]
 |b,v::l=>(if b then [44]else [])++([32]++v.nm++[32]++spT v)++paT true l
def ptT(first body:List UInt8):List UInt8:=first++[10]++body++[101,110,100,10]
theorem f14!(l:List Int):Lib.joinTail [32] (l.map Lib.itoa)=stT l:=by
 induction l with
 |nil=>rfl
 |cons n l ih=>
  rw[List.map_cons,stT,<-ih]
  simp[Lib.joinTail]
theorem f15!(v:Va):varB v=vaT v:=by
 unfold varB vaT lineB spT
 rw[show blanks 0=[]from rfl,List.cons_append,List.cons_append,Lib.join_cons]
 split<;>simp[Lib.joinTail]
theorem f16!(l:List Va):(l.map varB).flatten=vasT l:=by
 induction l with
 |nil=>rfl
 |cons v l ih=>rw[List.map_cons,List.flatten_cons,vasT,<-ih,f15!]
theorem f17!:∀(v:Va) (l:List Va),paT true (v::l)=[44]++paT false (v::l):=λv l=>by
 simp[paT]
theorem b96!:∀(l:List Va),Lib.joinTail [32] (f3! l)=paT false l
 |[]=>rfl
 |[v]=>by simp[f3!,paT,spT,Lib.joinTail]
 |v::u::l=>by
  have ih:=b96! (u::l);rw[paT,f17!,<-ih,f3!]
  simp[spT,Lib.joinTail]
  intro h
  cases h
theorem s9!(x:List UInt8)(l:List (List UInt8)):lineB 0 (x::l)=x++Lib.joinTail [32] l++[10]:=by
 unfold lineB
 rw[show blanks 0=[]from rfl,Lib.join_cons]
 rfl
theorem t0!{x:List UInt8}{f:List (List UInt8)}{l:List Sx}(h:partO (x::f) l=some T):∃B,rawB 1 l=some B∧T=ptT (x++Lib.joinTail [32] f) B:=by
 unfold partO at h
 obtain⟨a,b,h1,h2,rfl⟩:=j0! h
 obtain⟨c,d,h3,h4,rfl⟩:=j0! h2
 refine⟨c,h3,?_⟩
 have h1:=(Option.some.inj h1).symm
 have h4:=(Option.some.inj h4).symm
 subst h1
 subst h4
 rw[s9!,s9!,ptT]
 simp[Lib.joinTail]
theorem f18!{p:Px}(h:rawP p=some T):∃A B C D E,rawB 1 p.start=some A∧rawB 1 p.turn=some B∧rawB 1 p.play=some C∧rawB 1 p.quiet=some D∧rawB 1 p.pays=some E∧
 T=hdT p.nm p.seats++(stT p.stakes++([10]++(vasT p.vars++(ptT [115,116,97,114,116] A++(ptT [116,117,114,110] B++(ptT ([112,108,97,121]++paT false p.params) C++(ptT ([115,105,108,101,110,116,32]++p.silent) D++ptT [112,97,121] E))))))):=by
 unfold rawP at h
 obtain⟨a,b,h1,h2,rfl⟩:=j0! h
 obtain⟨c,d,h3,h4,rfl⟩:=j0! h2
 obtain⟨e,f,h5,h6,rfl⟩:=j0! h4
 obtain⟨g,i,h7,h8,rfl⟩:=j0! h6
 obtain⟨j,k,h9,h10,rfl⟩:=j0! h8
 have h1:=(Option.some.inj h1).symm
 subst h1
 obtain⟨A,a1,rfl⟩:=t0! h3
 obtain⟨B,b1,rfl⟩:=t0! h5
 obtain⟨C,c1,rfl⟩:=t0! h7
 obtain⟨D,d1,rfl⟩:=t0! h9
 obtain⟨E,e1,rfl⟩:=t0! h10
 refine⟨A,B,C,D,E,a1,b1,c1,d1,e1,?_⟩
 rw[s9!,s9!,s9!,f14!,f16!,b96!]
 simp[hdT,Lib.joinTail]
end Go.Proofs.YtdgekckedchjbaaGreatDoor
set_option maxHeartbeats 16000000
set_option maxRecDepth 100000
namespace Go.Proofs.YtdgekckedchjbaaGreatDoor
open Go.RowKit
def SaysT(w:World)(T:List UInt8)(e:Ending)(w':World):Prop:=e=.returned (.string (str T))∧Below w.heap.size w w'
theorem t1!(n:Int)(h:FitN n)(w:World):Calls Tryz.prog 42 #[.I n] w (SaysT w (Lib.itoa n)):=s3! n h.1 h.2 w
theorem b97!(v:Va)(hv:FitV v)(w:World):Calls Tryz.prog 68 #[.agg #[.string (str v.nm),.I v.size,.I v.lo,.I v.hi]] w (SaysT w (spT v)):=by
 obtain⟨NV,hNV⟩:∃x,str v.nm=x:=⟨_,rfl⟩
 obtain⟨LO,hLO⟩:∃x,str (Lib.itoa v.lo)=x:=⟨_,rfl⟩
 obtain⟨HI,hHI⟩:∃x,str (Lib.itoa v.hi)=x:=⟨_,rfl⟩
 have zLO:LO.size<=21:=by rw[<-hLO,str_size];exact f1! hv.2.2.1
 have zHI:HI.size<=21:=by rw[<-hHI,str_size];exact f1! hv.2.2.2
 have C0:=h! (λW=>t1! v.lo hv.2.2.1 W)
 have C1:=h! (λW=>t1! v.hi hv.2.2.2 W)
 unfold SaysT at C0 C1
 rw[hLO]at C0
 rw[hHI]at C1
 have HFIN:Hid (LO++(⟨#[32]⟩:ByteArray)++HI=str (spT v)):=by
  refine c0! ?_
  simp[spT,<-hLO,<-hHI,str_list,ByteArray.data_append]
 obtain⟨vs,hvs⟩:∃x,v.size=x:=⟨_,rfl⟩
 obtain⟨lo,hlo⟩:∃x,v.lo=x:=⟨_,rfl⟩
 obtain⟨hi,hhi⟩:∃x,v.hi=x:=⟨_,rfl⟩
 rw[hNV,hvs,hlo,hhi]
 rw[hlo]at C0
 rw[hhi]at C1
 obtain⟨W0,eW,f0,x0,-⟩:=n! w 133 #[.string NV,.I vs,.I lo,.I hi]
 have zz0:=x! (LO.size+1)
 have zz1:=x! (LO.size+1+HI.size)
 clear hNV hLO hHI hv hvs hlo hhi
 go_enter Tryz.func68,Tryz.ntmps68
 go_upto_region 1 with fail
 rw[eW.out]
 clear eW
 have F0:=h! f0
 have v2:=x0.c2
 have v3:=x0.c3
 have KQ:Hid (∀V,Below W0.heap.size W0 V->V.cell? ⟨w.heap.size,2,none⟩=some (.I lo)∧V.cell? ⟨w.heap.size,3,none⟩=some (.I hi)):=λV hV=>⟨(x0.below hV x0.lt).cell 2,(x0.below hV x0.lt).cell 3⟩
 clear x0 f0
 have f1:=(Below.refl W0.heap.size W0).drew
 go_region_held3 (λV=>V.cell? ⟨w.heap.size,2,none⟩=some (.I lo)∧V.cell? ⟨w.heap.size,3,none⟩=some (.I hi)) (first|(with_reducible exact KQ.out _ f3)|(with_reducible exact KQ.out _ f2)|(with_reducible exact KQ.out _ f1))
  (first
   |(go_at_call 42;(with_reducible refine(C0.out _).mono ?_);rintro e wa0⟨rfl,ba0⟩;have f2:=f1.trans (ba0.mono f1.size))
   |(go_at_call 42;(with_reducible refine(C1.out _).mono ?_);rintro e wa1⟨rfl,ba1⟩;have f3:=f2.trans (ba1.mono f2.size)))
 all_goals
  go_wp2_with fail;refine bodyPost_ret (v:=.string (LO++(⟨#[32]⟩:ByteArray)++HI)) (by simp[results,Tryz.results68,go_sem]) rfl ⟨by rw[HFIN.out],F0.out.trans (f3.mono F0.out.size)⟩
theorem t2!(n:Nat)(D:Nat->Prop)(F:ByteArray)(first:List UInt8)(hF:F=str first)(hz:F.size<=3000000)(A:Option Addr)(len cap:Nat)(l:List St)(w:World)(B:List UInt8)
 (h:ElsG D w 7 1000000 (RE D w n) A len l) (hf:FitSs l) (hw:WfSs l) (hB:rawB 1 (sxs l)=some B) (hl:B.length<=500000) (hd:1+n<=40):Calls Tryz.prog 69 #[.string F,.slice A len cap] w (i1! w (ptT first B)):=by
 have CL:=h! (b95! n 1 D A len cap l w B h hf hw hB hl hd)
 obtain⟨BS,hBS⟩:∃x,str B=x:=⟨_,rfl⟩
 have hBz:BS.size<=500000:=by rw[<-hBS,str_size];exact hl
 unfold i1! at CL
 rw[hBS]at CL
 have HFIN:Hid (F++(⟨#[10]⟩:ByteArray)++BS++(⟨#[101,110,100,10]⟩:ByteArray)=str (ptT first B)):=by
  refine c0! ?_
  simp[ptT,hF,<-hBS,str_list,ByteArray.data_append]
 have zz0:=x! (F.size+1)
 have zz1:=x! (F.size+1+BS.size)
 have zz2:=x! (F.size+1+BS.size+4)
 clear h hf hw hB hl hF hBS
 go_enter Tryz.func69,Tryz.ntmps69
 go_wp2_with fail
 refine CL.out.mono ?_
 rintro e w1⟨rfl,b1⟩
 have B1:=h! b1
 clear b1 CL
 go_wp2_with fail
 refine bodyPost_ret (v:=.tuple #[.string (F++(⟨#[10]⟩:ByteArray)++BS++(⟨#[101,110,100,10]⟩:ByteArray)),.bool true]) (by simp[results,Tryz.results69,go_sem]) rfl ⟨by rw[HFIN.out],B1.out⟩
theorem f19!(D:Nat->Prop)(NM SIL:ByteArray)(seats:Int)(A1:Option Addr)(n1 c1:Nat)(A2:Option Addr)(n2 c2:Nat)(A3:Option Addr)(n3 c3:Nat)(A4:Option Addr)(n4 c4:Nat)(A5:Option Addr)(n5 c5:Nat)(A6:Option Addr)(n6 c6:Nat)(A7:Option Addr)(n7 c7:Nat)(A8:Option Addr)(n8 c8:Nat)(p:Pg)(w:World)(T:List UInt8)(h:RPC D w [.string NM,.I seats,.slice A1 n1 c1,.slice A2 n2 c2,.slice A3 n3 c3,.slice A4 n4 c4,.slice A5 n5 c5,.slice A6 n6 c6,.string SIL,.slice A7 n7 c7,.slice A8 n8 c8] p)(hf:FitP p)(hw:WfP p)(hT:rawP p.px=some T)(hl:T.length<=500000):
 Calls Tryz.prog 31 #[.agg #[.string NM,.I seats,.slice A1 n1 c1,.slice A2 n2 c2,.slice A3 n3 c3,.slice A4 n4 c4,.slice A5 n5 c5,.slice A6 n6 c6,.string SIL,.slice A7 n7 c7,.slice A8 n8 c8]] w (i1! w T):=by
 obtain⟨v1,v2,v3,v4,v5,v6,v7,v8,h0,r1,r2,r3,r4,r5,r6,r7,r8⟩:=h
 simp only[List.cons.injEq,and_true,Value.string.injEq,Value.int.injEq,true_and]at h0
 obtain⟨e0,e1,rfl,rfl,rfl,rfl,rfl,rfl,e8,rfl,rfl⟩:=h0
 obtain⟨TA,TB,TC,TD,TE,q1,q2,q3,q4,q5,hTT⟩:=f18! hT
 have hlen:=congrArg List.length hTT
 simp only[Pg.px]at q1 q2 q3 q4 q5 hTT hlen
 obtain⟨G1,hG1⟩:∃x,hdT p.nm p.seats++stT p.stakes=x:=⟨_,rfl⟩
 obtain⟨V2,hV2⟩:∃x,vasT p.vars=x:=⟨_,rfl⟩
 obtain⟨P3,hP3⟩:∃x,[112,108,97,121]++paT false p.params=x:=⟨_,rfl⟩
 rw[<-List.append_assoc,hG1,hV2,hP3]at hTT hlen
 simp only[List.length_append,ptT,List.length_cons,List.length_nil]at hlen
 have hz0:(hdT p.nm p.seats).length<=500000:=by
  have:=congrArg List.length hG1;rw[List.length_append]at this
  omega
 have hzn:NM.size<=1000000:=by rw[e0,str_size];exact hf.nm
 have hzs:SIL.size<=1000000:=by rw[e8,str_size];exact hf.silent
 have R3:=r3.elsR
 have R4:=r4.elsR
 have R6:=r6.elsR
 have R7:=r7.elsR
 have R8:=r8.elsR
 have C3:=h! (λW (hW:Below w.heap.size w W)=>t2! 16 D (str [115,116,97,114,116]) _ rfl (by decide) A3 n3 c3 _ W TA (R3.belowRE hW) hf.start hw.start q1 (by omega) (by omega))
 have C4:=h! (λW (hW:Below w.heap.size w W)=>t2! 16 D (str [116,117,114,110]) _ rfl (by decide) A4 n4 c4 _ W TB (R4.belowRE hW) hf.turn hw.turn q2 (by omega) (by omega))
 have C6:=h! (λW (hW:Below w.heap.size w W)=>t2! 16 D (str P3) _ rfl (by rw[str_size];omega) A6 n6 c6 _ W TC (R6.belowRE hW) hf.play hw.play q3 (by omega) (by omega))
 have hSS:(⟨#[115,105,108,101,110,116,32]⟩:ByteArray)++SIL=str ([115,105,108,101,110,116,32]++p.silent):=by
  refine c0! ?_
  simp[e8,str_list,ByteArray.data_append]
 have C7:=h! (λW (hW:Below w.heap.size w W)=>t2! 16 D ((⟨#[115,105,108,101,110,116,32]⟩:ByteArray)++SIL) _ hSS (by rw[ByteArray.size_append];show 7+SIL.size<=_;omega) A7 n7 c7 _ W TD (R7.belowRE hW) hf.quiet hw.quiet q4 (by omega) (by omega))
 have C8:=h! (λW (hW:Below w.heap.size w W)=>t2! 16 D (str [112,97,121]) _ rfl (by decide) A8 n8 c8 _ W TE (R8.belowRE hW) hf.pays hw.pays q5 (by omega) (by omega))
 rw[show str [115,116,97,114,116]=⟨#[115,116,97,114,116]⟩from rfl]at C3
 rw[show str [116,117,114,110]=⟨#[116,117,114,110]⟩from rfl]at C4
 rw[show str [112,97,121]=⟨#[112,97,121]⟩from rfl]at C8
 unfold i1! at C3 C4 C6 C7 C8
 obtain⟨SA,hSA⟩:∃x,str (ptT [115,116,97,114,116] TA)=x:=⟨_,rfl⟩
 obtain⟨SB,hSB⟩:∃x,str (ptT [116,117,114,110] TB)=x:=⟨_,rfl⟩
 obtain⟨SC,hSC⟩:∃x,str (ptT P3 TC)=x:=⟨_,rfl⟩
 obtain⟨SD,hSD⟩:∃x,str (ptT ([115,105,108,101,110,116,32]++p.silent) TD)=x:=⟨_,rfl⟩
 obtain⟨SE,hSE⟩:∃x,str (ptT [112,97,121] TE)=x:=⟨_,rfl⟩
 obtain⟨SP,hSP⟩:∃x,str P3=x:=⟨_,rfl⟩
 rw[hSA]at C3
 rw[hSB]at C4
 rw[hSC,hSP]at C6
 rw[hSD]at C7
 rw[hSE]at C8
 have zSA:SA.size<=500000:=by rw[<-hSA,str_size];simp[ptT];omega
 have zSB:SB.size<=500000:=by rw[<-hSB,str_size];simp[ptT];omega
 have zSC:SC.size<=500000:=by rw[<-hSC,str_size];simp[ptT];omega
 have zSD:SD.size<=500000:=by rw[<-hSD,str_size];simp[ptT];omega
 have zSE:SE.size<=500000:=by rw[<-hSE,str_size];simp[ptT];omega
 have hG1z:G1.length<=500000:=by omega
 have hG2z:(G1++[10]++V2).length<=500000:=by simp;omega
 have hP3z:P3.length<=500000:=by omega
 obtain⟨G2,hG2⟩:∃x,G1++[10]++V2=x:=⟨_,rfl⟩
 rw[hG2]at hG2z
 have HG2Z:=h! hG2z
 have HFIN:Hid (str G2++SA++SB++SC++SD++SE=str T):=by
  refine c0! ?_;rw[hTT]
  simp[<-hSA,<-hSB,<-hSC,<-hSD,<-hSE,str_list,ByteArray.data_append,<-hG2]
 obtain⟨SN,hSN⟩:∃x,str (Lib.itoa p.seats)=x:=⟨_,rfl⟩
 have zSN:SN.size<=21:=by rw[<-hSN,str_size];exact f1! hf.seats
 have HHD:Hid ((⟨#[103,97,109,101,32]⟩:ByteArray)++NM++(⟨#[10,115,101,97,116,115,32]⟩:ByteArray)++SN++(⟨#[10,115,116,97,107,101]⟩:ByteArray)=str (hdT p.nm p.seats)):=by
  refine c0! ?_
  simp[hdT,e0,<-hSN,str_list,ByteArray.data_append]
 have CN:=h! (λW=>t1! p.seats hf.seats W)
 unfold SaysT at CN
 rw[hSN,<-e1]at CN
 obtain⟨xs1,R1,-,m1,l1,E1⟩:=r1.elsR
 obtain⟨xs2,R2,-,m2,l2,E2⟩:=r2.elsR
 obtain⟨xs5,R5,-,m5,l5,E5⟩:=r5.elsR
 have R1:=h! R1
 have R2:=h! R2
 have R5:=h! R5
 have E1:=h! E1
 have E2:=h! E2
 have E5:=h! E5
 have N1:=h! l1
 have N2:=h! l2
 have N5:=h! l5
 have FS:=h! hf.stakes
 have FV:=h! hf.vars
 have FP:=h! hf.params
 have HG1:=h! hG1
 have HV2:=h! hV2
 have HP3:=h! hP3
 have HSP:=h! hSP
 have HG2:=h! hG2
 have HZ0:=h! hz0
 obtain⟨W0,eW,f0,x0,-⟩:=n! w 33 #[.string NM,.I seats,.slice A1 n1 c1,.slice A2 n2 c2,.slice A3 n3 c3,.slice A4 n4 c4,.slice A5 n5 c5,.slice A6 n6 c6,.string SIL,.slice A7 n7 c7,.slice A8 n8 c8]
 clear hT hl hTT hlen hz0 r1 r2 r3 r4 r5 r6 r7 r8 R3 R4 R6 R7 R8 q1 q2 q3 q4 q5 hSA hSB hSC hSD hSE hSP hSN hG1 hV2 hP3 hG2 e0 e1 e8 hf hw hSS l1 l2 l5
 go_enter Tryz.func31,Tryz.ntmps31
 go_upto_region 1 with fail
 rw[eW.out]
 clear eW
 have F0:=h! f0
 have X0:=h! x0
 obtain⟨v0,v1⟩:=x0.A2
 have KQ:Hid (∀V,Below W0.heap.size W0 V->V.cell? ⟨w.heap.size,0,none⟩=some (.string NM)∧V.cell? ⟨w.heap.size,1,none⟩=some (.I seats)):=λV hV=>⟨(x0.below hV x0.lt).cell 0,(x0.below hV x0.lt).cell 1⟩
 have zz0:=x! (5+NM.size)
 have zz1:=x! (5+NM.size+7)
 have zz2:=x! (5+NM.size+7+SN.size)
 have zz3:=x! (5+NM.size+7+SN.size+6)
 have f1:=(Below.refl W0.heap.size W0).drew
 clear x0 f0
 obtain⟨S0,hS0⟩:∃x,str (hdT p.nm p.seats)=x:=⟨_,rfl⟩
 rw[hS0]at HHD
 go_cut [4] (λcv wc=>cv=.string S0∧Hid (Below W0.heap.size W0 wc))
 case first=>
  go_region_held3 (λV=>V.cell? ⟨w.heap.size,0,none⟩=some (.string NM)∧V.cell? ⟨w.heap.size,1,none⟩=some (.I seats)) (first|(with_reducible exact KQ.out _ f2)|(with_reducible exact KQ.out _ f1))
   (first
    |(go_at_call 42;(with_reducible refine(CN.out _).mono ?_);rintro e wa0⟨rfl,ba0⟩;have f2:=f1.trans (ba0.mono f1.size)))
  all_goals
   go_wp2_with fail;go_meet
   case rel=>exact⟨by rw[<-HHD.out],f2⟩
 case rest=>
 obtain⟨rfl,hB⟩:=hcut
 obtain⟨W1,rfl⟩:∃x,x=wc:=⟨_,rfl⟩
 have F1:=h! (F0.out.trans (hB.out.mono F0.out.size))
 have X1:=h! (X0.out.below hB.out X0.out.lt)
 have HS0:=h! hS0
 have z0:S0.size<=500000:=by rw[<-hS0,str_size];exact HZ0.out
 clear hB KQ f1 v0 v1 X0 hS0 zz0 zz1 zz2 zz3 HHD CN
 go_wp2_with fail
 go_loopw [4,5] (λs i wr=>∃(k:Nat) (U V:List UInt8) (S:ByteArray),k<=n1∧i=.I k∧s=.string S∧S.size<=500000∧Hid (S=str U)∧Hid (G1=U++V)∧Hid (stT (p.stakes.drop k)=V)∧Hid (Below w.heap.size w wr)∧Hid (Blk wr w.heap.size 33 #[.string NM,.I seats,.slice A1 n1 c1,.slice A2 n2 c2,.slice A3 n3 c3,.slice A4 n4 c4,.slice A5 n5 c5,.slice A6 n6 c6,.string SIL,.slice A7 n7 c7,.slice A8 n8 c8])) (λ_ i _=>n1-(intOf i).toNat)
 case atStart=>exact⟨0,hdT p.nm p.seats,stT p.stakes,S0,by omega,rfl,rfl,z0,HS0.out.symm,HG1.out.symm,rfl,F1.out,X1.out⟩
 case round=>
  obtain⟨k,U,V,S,hk,rfl,rfl,hs,HS,HUV,HV,hb,hx⟩:=hrel;obtain⟨wo,rfl⟩:∃x,x=wr:=⟨_,rfl⟩
  have vc:=hx.out.c2
  by_cases hlt:k<n1
  ·have hkk:k<p.stakes.length:=by rw[N1.out];exact hlt
   have ec:=E1.out k hkk;have hv:=HV.out;rw[List.drop_eq_getElem_cons hkk,stT]at hv;have hF:=FS.out _ (List.getElem_mem hkk);generalize p.stakes[k]=g at*;obtain⟨b1,o1,rfl,hb1,q⟩:=R1.out.chunk (by omega) hlt ec;have q0:wo.cell? ⟨b1,o1+k,none⟩=some (.I g):=by simpa using (hb.out.cell (p:=⟨b1,o1+k*1,none⟩) hb1).trans (q 0 _ rfl)
   obtain⟨SK,hSK⟩:∃x,str (Lib.itoa g)=x:=⟨_,rfl⟩
   have CK:=h! (t1! g hF wo);unfold SaysT at CK;rw[hSK]at CK;have zk:SK.size=(Lib.itoa g).length:=by rw[<-hSK,str_size]
   have hUz:S.size=U.length:=by rw[HS.out,str_size]
   have hlen:=congrArg List.length HUV.out;rw[<-hv]at hlen
   simp only[List.length_append,List.length_cons,List.length_nil]at hlen
   have g1:(0:Int)<=(k:Int):=by omega
   have g2:(k:Int)<(n1:Int):=by omega
   have wi:=y! ((k:Int)+1);have HU2:Hid (S++(⟨#[32]⟩:ByteArray)++SK=str (U++([32]++Lib.itoa g))):=by
    refine c0! ?_
    simp[HS.out,<-hSK,str_list,ByteArray.data_append]
   have HV2':Hid (G1=(U++([32]++Lib.itoa g))++stT (p.stakes.drop (k+1))):=by
    rw[Hid,HUV.out,<-hv]
    simp[List.append_assoc]
   have HSZ:Hid ((S++(⟨#[32]⟩:ByteArray)++SK).size<=500000):=by
    rw[Hid,ByteArray.size_append,ByteArray.size_append]
    show S.size+1+SK.size<=_
    omega
   have zz0:=x! (S.size+1);have zz1:=x! (S.size+1+SK.size);clear q ec hv hF hSK zk hUz hlen HUV HV;go_wp2_with fail;refine CK.out.mono ?_;rintro e w2⟨rfl,b2⟩;have F2:=r! hb b2;have X2:=b! hx b2;clear b2 CK q0 vc;go_wp2_with fail
   go_roundw
   case rel=>exact⟨k+1,_,_,_,by omega,by go_num,rfl,HSZ.out,HU2.out,HV2'.out,rfl,F2.out,X2.out⟩
   case measure=>simp[intOf];omega
  ·obtain rfl:n1=k:=by omega
   have hV:V=[]:=by
    have hv:=HV.out;rw[List.drop_of_length_le (by rw[N1.out];exact Nat.le_refl _)]at hv;rw[<-hv]
    first|rfl|(cases decide (0<n1)<;>rfl)
   have HU:Hid (S=str (G1)):=by
    rw[Hid,HS.out,HUV.out,hV,List.append_nil]
   clear HUV HV HS hV;obtain⟨S1,rfl⟩:∃x,x=S:=⟨_,rfl⟩
   obtain⟨w1b,rfl⟩:∃x,x=wo:=⟨_,rfl⟩
   have Fa:=h! hb.out;have Xa:=h! hx.out;have HS1:Hid (S1++(⟨#[10]⟩:ByteArray)=str (G1++[10])):=by
    refine c0! ?_
    simp[HU.out,str_list,ByteArray.data_append]
   have hs1z:Hid ((S1++(⟨#[10]⟩:ByteArray)).size<=500000):=by
    rw[Hid,HS1.out,str_size];have h1:=congrArg List.length HG2.out;have h2:=HG2Z.out
    simp at h1 ⊢
    omega
   have zz0:=x! (S1.size+1);clear HU hb hx hs hk hlt;go_wp2_with fail;clear vc
   go_loopw [4,6] (λs i wr=>∃(k:Nat) (U V:List UInt8) (S:ByteArray),k<=n2∧i=.I k∧s=.string S∧S.size<=500000∧Hid (S=str U)∧Hid (G2=U++V)∧Hid (vasT (p.vars.drop k)=V)∧Hid (Below w.heap.size w wr)∧Hid (Blk wr w.heap.size 33 #[.string NM,.I seats,.slice A1 n1 c1,.slice A2 n2 c2,.slice A3 n3 c3,.slice A4 n4 c4,.slice A5 n5 c5,.slice A6 n6 c6,.string SIL,.slice A7 n7 c7,.slice A8 n8 c8])) (λ_ i _=>n2-(intOf i).toNat)
   case atStart=>exact⟨0,G1++[10],V2,S1++⟨#[10]⟩,by omega,rfl,rfl,hs1z.out,HS1,HG2.out.symm,HV2.out,Fa.out,Xa.out⟩
   case round=>
    obtain⟨k,U,V,S,hk,rfl,rfl,hs,HS,HUV,HV,hb,hx⟩:=hrel;obtain⟨wo,rfl⟩:∃x,x=wr:=⟨_,rfl⟩
    have vc:=hx.out.c3
    by_cases hlt:k<n2
    ·have hkk:k<p.vars.length:=by rw[N2.out];exact hlt
     have ec:=E2.out k hkk;have hv:=HV.out;rw[List.drop_eq_getElem_cons hkk,vasT]at hv;have hF:=FV.out _ (List.getElem_mem hkk);generalize p.vars[k]=g at*;obtain⟨b1,o1,rfl,hb1,q⟩:=R2.out.chunk (by omega) hlt (show _=d0! g from ec);have CS:=h! (λW=>b97! g hF W);unfold SaysT at CS;obtain⟨GN,hGN⟩:∃x,str g.nm=x:=⟨_,rfl⟩
     obtain⟨GS,hGS⟩:∃x,str (spT g)=x:=⟨_,rfl⟩
     obtain⟨gz,hgz⟩:∃x,g.size=x:=⟨_,rfl⟩
     obtain⟨gl,hgl⟩:∃x,g.lo=x:=⟨_,rfl⟩
     obtain⟨gh,hgh⟩:∃x,g.hi=x:=⟨_,rfl⟩
     rw[hGN,hGS,hgz,hgl,hgh]at CS;unfold d0! at q;rw[hGN,hgz,hgl,hgh]at q;have q0:=(hb.out.cell (p:=⟨b1,o1+k*4,none⟩) hb1).trans (q 0 _ rfl);have q1:=(hb.out.cell (p:=⟨b1,o1+k*4+1,none⟩) hb1).trans (q 1 _ rfl);have q2:=(hb.out.cell (p:=⟨b1,o1+k*4+2,none⟩) hb1).trans (q 2 _ rfl);have q3:=(hb.out.cell (p:=⟨b1,o1+k*4+3,none⟩) hb1).trans (q 3 _ rfl);have zn:GN.size=g.nm.length:=by rw[<-hGN,str_size]
     have zs:GS.size=(spT g).length:=by rw[<-hGS,str_size]
     have hUz:S.size=U.length:=by rw[HS.out,str_size]
     have hlen:=congrArg List.length HUV.out;rw[<-hv]at hlen;have g1:(0:Int)<=(k:Int):=by omega
     have g2:(k:Int)<(n2:Int):=by omega
     have wi:=y! ((k:Int)+1);rw[List.length_append,List.length_append]at hlen
     by_cases hz:gz=0
     ·have hz0:((gz:Int) != 0)=false:=by simp[hz]
      have hva:vaT g=[118,97,114,32]++g.nm++[32]++[]++spT g++[10]:=by
       unfold vaT;rw[hgz,if_pos hz]
      rw[hva]at hlen
      simp only[List.length_append,List.length_cons,List.length_nil]at hlen
      have HU2:Hid (S++(⟨#[118,97,114,32]⟩:ByteArray)++GN++(⟨#[32]⟩:ByteArray)++GS++(⟨#[10]⟩:ByteArray)=str (U++vaT g)):=by
       refine c0! ?_;rw[hva]
       simp[HS.out,<-hGN,<-hGS,str_list,ByteArray.data_append]
      have HV2':Hid (G2=(U++vaT g)++vasT (p.vars.drop (k+1))):=by
       rw[Hid,HUV.out,<-hv,List.append_assoc]
      have HSZ:Hid ((S++(⟨#[118,97,114,32]⟩:ByteArray)++GN++(⟨#[32]⟩:ByteArray)++GS++(⟨#[10]⟩:ByteArray)).size<=500000):=by
       rw[Hid,HU2.out,str_size,hva]
       simp
       omega
      have zz0:=x! (S.size+4);have zz1:=x! (S.size+4+GN.size);have zz2:=x! (S.size+4+GN.size+1);have zz3:=x! (S.size+4+GN.size+1+GS.size);have zz4:=x! (S.size+4+GN.size+1+GS.size+1);clear q ec hv hF hGN hGS hgz hgl hgh zn zs hUz hlen HUV HV hz hva;go_wp2_with fail;refine(CS.out _).mono ?_;rintro e w3⟨rfl,b3⟩;have F3:=r! hb b3;have X3:=b! hx b3;clear b3 CS q0 q1 q2 q3 vc;go_wp2_with fail
      go_roundw
      case rel=>exact⟨k+1,_,_,_,by omega,by go_num,rfl,HSZ.out,HU2.out,HV2'.out,rfl,F3.out,X3.out⟩
      case measure=>simp[intOf];omega
     ·have hz0:((gz:Int) != 0)=true:=by simp[hz]
      obtain⟨GZ,hGZ⟩:∃x,str (Lib.itoa gz)=x:=⟨_,rfl⟩
      have CZ:=h! (λW=>t1! gz (by rw[<-hgz];exact hF.2.1) W);unfold SaysT at CZ;rw[hGZ]at CZ;have zg:GZ.size=(Lib.itoa gz).length:=by rw[<-hGZ,str_size]
      have hva:vaT g=[118,97,114,32]++g.nm++[32]++([91,32]++Lib.itoa gz++[32,93,32])++spT g++[10]:=by
       unfold vaT;rw[hgz,if_neg hz]
      rw[hva]at hlen
      simp only[List.length_append,List.length_cons,List.length_nil]at hlen
      have HU2:Hid (S++(⟨#[118,97,114,32]⟩:ByteArray)++GN++(⟨#[32]⟩:ByteArray)++(⟨#[91,32]⟩:ByteArray)++GZ++(⟨#[32,93,32]⟩:ByteArray)++GS++(⟨#[10]⟩:ByteArray)=str (U++vaT g)):=by
       refine c0! ?_;rw[hva]
       simp[HS.out,<-hGN,<-hGS,<-hGZ,str_list,ByteArray.data_append]
      have HV2':Hid (G2=(U++vaT g)++vasT (p.vars.drop (k+1))):=by
       rw[Hid,HUV.out,<-hv,List.append_assoc]
      have HSZ:Hid ((S++(⟨#[118,97,114,32]⟩:ByteArray)++GN++(⟨#[32]⟩:ByteArray)++(⟨#[91,32]⟩:ByteArray)++GZ++(⟨#[32,93,32]⟩:ByteArray)++GS++(⟨#[10]⟩:ByteArray)).size<=500000):=by
       rw[Hid,HU2.out,str_size,hva]
       simp
       omega
      have zz0:=x! (S.size+4);have zz1:=x! (S.size+4+GN.size);have zz2:=x! (S.size+4+GN.size+1);have zz3:=x! (S.size+4+GN.size+1+2);have zz4:=x! (S.size+4+GN.size+1+2+GZ.size);have zz5:=x! (S.size+4+GN.size+1+2+GZ.size+3);have zz6:=x! (S.size+4+GN.size+1+2+GZ.size+3+GS.size);have zz7:=x! (S.size+4+GN.size+1+2+GZ.size+3+GS.size+1);clear q ec hv hF hGN hGS hgz hgl hgh zn zs hUz hlen HUV HV hz hva hGZ zg;go_wp2_with fail;refine(CZ.out _).mono ?_;rintro e w2⟨rfl,b2⟩;have F2:=r! hb b2;have X2:=b! hx b2;have vc:=X2.out.c3;have hb1':b1<wo.heap.size:=by have:=hb.out.size;omega
      have q0:=(b2.cell (p:=⟨b1,o1+k*4,none⟩) hb1').trans q0;have q1:=(b2.cell (p:=⟨b1,o1+k*4+1,none⟩) hb1').trans q1;have q2:=(b2.cell (p:=⟨b1,o1+k*4+2,none⟩) hb1').trans q2;have q3:=(b2.cell (p:=⟨b1,o1+k*4+3,none⟩) hb1').trans q3;clear b2 CZ hb1';go_wp2_with fail;refine(CS.out _).mono ?_;rintro e w3⟨rfl,b3⟩;have F3:=r! F2 b3;have X3:=b! X2 b3;clear b3 CS q0 q1 q2 q3 vc F2 X2;go_wp2_with fail
      go_roundw
      case rel=>exact⟨k+1,_,_,_,by omega,by go_num,rfl,HSZ.out,HU2.out,HV2'.out,rfl,F3.out,X3.out⟩
      case measure=>simp[intOf];omega
    ·obtain rfl:n2=k:=by omega
     have hV:V=[]:=by
      have hv:=HV.out;rw[List.drop_of_length_le (by rw[N2.out];exact Nat.le_refl _)]at hv;rw[<-hv]
      first|rfl|(cases decide (0<n2)<;>rfl)
     have HU:Hid (S=str (G2)):=by
      rw[Hid,HS.out,HUV.out,hV,List.append_nil]
     clear HUV HV HS hV;have HS2:=HU;obtain⟨S2,rfl⟩:∃x,x=S:=⟨_,rfl⟩
     obtain⟨w2b,rfl⟩:∃x,x=wo:=⟨_,rfl⟩
     have Fb:=h! hb.out;have Xb:=h! hx.out;have hs2:=hs;clear HU hb hx hs hk hlt;go_wp2_with fail;clear vc
     go_loopw [7,8] (λs i wr=>∃(k:Nat) (U V:List UInt8) (S:ByteArray),k<=n5∧i=.I k∧s=.string S∧S.size<=500000∧Hid (S=str U)∧Hid (P3=U++V)∧Hid (paT (decide (0<k)) (p.params.drop k)=V)∧Hid (Below w.heap.size w wr)∧Hid (Blk wr w.heap.size 33 #[.string NM,.I seats,.slice A1 n1 c1,.slice A2 n2 c2,.slice A3 n3 c3,.slice A4 n4 c4,.slice A5 n5 c5,.slice A6 n6 c6,.string SIL,.slice A7 n7 c7,.slice A8 n8 c8])) (λ_ i _=>n5-(intOf i).toNat)
     case atStart=>exact⟨0,[112,108,97,121],paT false p.params,⟨#[112,108,97,121]⟩,by omega,rfl,rfl,by decide,rfl,HP3.out.symm,rfl,Fb.out,Xb.out⟩
     case round=>
      obtain⟨k,U,V,S,hk,rfl,rfl,hs,HS,HUV,HV,hb,hx⟩:=hrel;obtain⟨wo,rfl⟩:∃x,x=wr:=⟨_,rfl⟩
      have vc:=hx.out.c6
      by_cases hlt:k<n5
      ·have hkk:k<p.params.length:=by rw[N5.out];exact hlt
       have ec:=E5.out k hkk;have hv:=HV.out;rw[List.drop_eq_getElem_cons hkk,paT]at hv;have hF:=FP.out _ (List.getElem_mem hkk);generalize p.params[k]=g at*;obtain⟨b1,o1,rfl,hb1,q⟩:=R5.out.chunk (by omega) hlt (show _=d0! g from ec);have CS:=h! (λW=>b97! g hF W);unfold SaysT at CS;obtain⟨GN,hGN⟩:∃x,str g.nm=x:=⟨_,rfl⟩
       obtain⟨GS,hGS⟩:∃x,str (spT g)=x:=⟨_,rfl⟩
       obtain⟨gz,hgz⟩:∃x,g.size=x:=⟨_,rfl⟩
       obtain⟨gl,hgl⟩:∃x,g.lo=x:=⟨_,rfl⟩
       obtain⟨gh,hgh⟩:∃x,g.hi=x:=⟨_,rfl⟩
       rw[hGN,hGS,hgz,hgl,hgh]at CS;unfold d0! at q;rw[hGN,hgz,hgl,hgh]at q;have q0:=(hb.out.cell (p:=⟨b1,o1+k*4,none⟩) hb1).trans (q 0 _ rfl);have q1:=(hb.out.cell (p:=⟨b1,o1+k*4+1,none⟩) hb1).trans (q 1 _ rfl);have q2:=(hb.out.cell (p:=⟨b1,o1+k*4+2,none⟩) hb1).trans (q 2 _ rfl);have q3:=(hb.out.cell (p:=⟨b1,o1+k*4+3,none⟩) hb1).trans (q 3 _ rfl);have zn:GN.size=g.nm.length:=by rw[<-hGN,str_size]
       have zs:GS.size=(spT g).length:=by rw[<-hGS,str_size]
       have hUz:S.size=U.length:=by rw[HS.out,str_size]
       have hlen:=congrArg List.length HUV.out;rw[<-hv]at hlen;have g1:(0:Int)<=(k:Int):=by omega
       have g2:(k:Int)<(n5:Int):=by omega
       have wi:=y! ((k:Int)+1)
       by_cases h0:k=0
       ·have hk0:decide ((0:Int)<(k:Int))=false:=by simp[h0]
        have hk1:¬(0:Int)<(k:Int):=by omega
        have hkd:decide (0<k)=false:=by simp[h0]
        rw[hkd]at hv hlen;have HU2:Hid (S++(⟨#[32]⟩:ByteArray)++GN++(⟨#[32]⟩:ByteArray)++GS=str (U++([]++([32]++g.nm++[32]++spT g)))):=by
         refine c0! ?_
         simp[HS.out,<-hGN,<-hGS,str_list,ByteArray.data_append]
        have HV2':Hid (P3=(U++([]++([32]++g.nm++[32]++spT g)))++paT (decide (0<k+1)) (p.params.drop (k+1))):=by
         rw[Hid,HUV.out,<-hv,show decide (0<k+1)=true from by simp]
         simp
        simp only[List.length_append,List.length_cons,List.length_nil,if_false,Bool.false_eq_true]at hlen
        have HSZ:Hid ((S++(⟨#[32]⟩:ByteArray)++GN++(⟨#[32]⟩:ByteArray)++GS).size<=500000):=by
         rw[Hid,HU2.out,str_size]
         simp
         omega
        have KQ5:Hid (∀V,Below wo.heap.size wo V->V.cell? ⟨w.heap.size,6,none⟩=some (.slice (some ⟨b1,o1,none⟩) n5 c5)∧V.cell? ⟨b1,o1+k*4,none⟩=some (.string GN)∧V.cell? ⟨b1,o1+k*4+1,none⟩=some (.I gz)∧V.cell? ⟨b1,o1+k*4+2,none⟩=some (.I gl)∧V.cell? ⟨b1,o1+k*4+3,none⟩=some (.I gh)):=λV hV=>⟨(hx.out.below hV hx.out.lt).cell 6,(hV.cell (p:=⟨b1,o1+k*4,none⟩) (by have:=hb.out.size;show b1<_;omega)).trans q0,(hV.cell (p:=⟨b1,o1+k*4+1,none⟩) (by have:=hb.out.size;show b1<_;omega)).trans q1,(hV.cell (p:=⟨b1,o1+k*4+2,none⟩) (by have:=hb.out.size;show b1<_;omega)).trans q2,(hV.cell (p:=⟨b1,o1+k*4+3,none⟩) (by have:=hb.out.size;show b1<_;omega)).trans q3⟩
        have zz0:=x! (S.size+1);have zz1:=x! (S.size+1+GN.size);have zz2:=x! (S.size+1+GN.size+1);have zz3:=x! (S.size+1+GN.size+1+GS.size);have f1:=(Below.refl wo.heap.size wo).drew;clear q ec hv hF hGN hGS hgz hgl hgh zn zs hUz hlen HUV HV hkd h0;go_upto_region 20 with fail
        go_region_held3 (λV=>V.cell? ⟨w.heap.size,6,none⟩=some (.slice (some ⟨b1,o1,none⟩) n5 c5)∧V.cell? ⟨b1,o1+k*4,none⟩=some (.string GN)∧V.cell? ⟨b1,o1+k*4+1,none⟩=some (.I gz)∧V.cell? ⟨b1,o1+k*4+2,none⟩=some (.I gl)∧V.cell? ⟨b1,o1+k*4+3,none⟩=some (.I gh)) (first|(with_reducible exact KQ5.out _ f2)|(with_reducible exact KQ5.out _ f1))
         (first
          |(go_at_call 68;(with_reducible refine(CS.out _).mono ?_);rintro e wa0⟨rfl,ba0⟩;have f2:=f1.trans (ba0.mono f1.size)))
        all_goals
         go_wp2_with fail
         go_roundw
         case rel=>exact⟨k+1,_,_,_,by omega,by go_num,rfl,HSZ.out,HU2.out,HV2'.out,rfl,hb.out.trans (f2.mono hb.out.size),hx.out.below f2 hx.out.lt⟩
         case measure=>simp[intOf];omega
       ·have hk0:decide ((0:Int)<(k:Int))=true:=by simp;omega
        have hk1:(0:Int)<(k:Int):=by omega
        have hkd:decide (0<k)=true:=by simp;omega
        rw[hkd]at hv hlen;have HU2:Hid (S++(⟨#[44]⟩:ByteArray)++(⟨#[32]⟩:ByteArray)++GN++(⟨#[32]⟩:ByteArray)++GS=str (U++([44]++([32]++g.nm++[32]++spT g)))):=by
         refine c0! ?_
         simp[HS.out,<-hGN,<-hGS,str_list,ByteArray.data_append]
        have HV2':Hid (P3=(U++([44]++([32]++g.nm++[32]++spT g)))++paT (decide (0<k+1)) (p.params.drop (k+1))):=by
         rw[Hid,HUV.out,<-hv,show decide (0<k+1)=true from by simp]
         simp
        simp only[List.length_append,List.length_cons,List.length_nil,if_true]at hlen
        have HSZ:Hid ((S++(⟨#[44]⟩:ByteArray)++(⟨#[32]⟩:ByteArray)++GN++(⟨#[32]⟩:ByteArray)++GS).size<=500000):=by
         rw[Hid,HU2.out,str_size]
         simp
         omega
        have KQ5:Hid (∀V,Below wo.heap.size wo V->V.cell? ⟨w.heap.size,6,none⟩=some (.slice (some ⟨b1,o1,none⟩) n5 c5)∧V.cell? ⟨b1,o1+k*4,none⟩=some (.string GN)∧V.cell? ⟨b1,o1+k*4+1,none⟩=some (.I gz)∧V.cell? ⟨b1,o1+k*4+2,none⟩=some (.I gl)∧V.cell? ⟨b1,o1+k*4+3,none⟩=some (.I gh)):=λV hV=>⟨(hx.out.below hV hx.out.lt).cell 6,(hV.cell (p:=⟨b1,o1+k*4,none⟩) (by have:=hb.out.size;show b1<_;omega)).trans q0,(hV.cell (p:=⟨b1,o1+k*4+1,none⟩) (by have:=hb.out.size;show b1<_;omega)).trans q1,(hV.cell (p:=⟨b1,o1+k*4+2,none⟩) (by have:=hb.out.size;show b1<_;omega)).trans q2,(hV.cell (p:=⟨b1,o1+k*4+3,none⟩) (by have:=hb.out.size;show b1<_;omega)).trans q3⟩
        have zz0:=x! (S.size+1);have zz1:=x! (S.size+1+1);have zz2:=x! (S.size+1+1+GN.size);have zz3:=x! (S.size+1+1+GN.size+1);have zz4:=x! (S.size+1+1+GN.size+1+GS.size);have f1:=(Below.refl wo.heap.size wo).drew;clear q ec hv hF hGN hGS hgz hgl hgh zn zs hUz hlen HUV HV hkd h0;go_upto_region 20 with fail
        go_region_held3 (λV=>V.cell? ⟨w.heap.size,6,none⟩=some (.slice (some ⟨b1,o1,none⟩) n5 c5)∧V.cell? ⟨b1,o1+k*4,none⟩=some (.string GN)∧V.cell? ⟨b1,o1+k*4+1,none⟩=some (.I gz)∧V.cell? ⟨b1,o1+k*4+2,none⟩=some (.I gl)∧V.cell? ⟨b1,o1+k*4+3,none⟩=some (.I gh)) (first|(with_reducible exact KQ5.out _ f2)|(with_reducible exact KQ5.out _ f1))
         (first
          |(go_at_call 68;(with_reducible refine(CS.out _).mono ?_);rintro e wa0⟨rfl,ba0⟩;have f2:=f1.trans (ba0.mono f1.size)))
        all_goals
         go_wp2_with fail
         go_roundw
         case rel=>exact⟨k+1,_,_,_,by omega,by go_num,rfl,HSZ.out,HU2.out,HV2'.out,rfl,hb.out.trans (f2.mono hb.out.size),hx.out.below f2 hx.out.lt⟩
         case measure=>simp[intOf];omega
      ·obtain rfl:n5=k:=by omega
       have hV:V=[]:=by
        have hv:=HV.out;rw[List.drop_of_length_le (by rw[N5.out];exact Nat.le_refl _)]at hv;rw[<-hv]
        first|rfl|(cases decide (0<n5)<;>rfl)
       have HU:Hid (S=str (P3)):=by
        rw[Hid,HS.out,HUV.out,hV,List.append_nil]
       clear HUV HV HS hV;have HSS:Hid (S=SP):=by rw[Hid,HU.out,HSP.out]
       obtain rfl:=HSS.out;clear HU;have vc:=hx.out.c4;have CC:=h! (C3.out _ hb.out);go_wp2_with fail;refine CC.out.mono ?_;rintro e y0⟨rfl,b0⟩;have G0:=r! hb b0;have Y0:=b! hx b0;clear b0 CC vc C3;have vc:=Y0.out.c5;have CC:=h! (C4.out _ G0.out);go_wp2_with fail;refine CC.out.mono ?_;rintro e y1⟨rfl,b1⟩;have G1:=r! G0 b1;have Y1:=b! Y0 b1;clear b1 CC vc C4;have vc:=Y1.out.c7;have CC:=h! (C6.out _ G1.out);go_wp2_with fail;refine CC.out.mono ?_;rintro e y2⟨rfl,b2⟩;have G2:=r! G1 b2;have Y2:=b! Y1 b2;clear b2 CC vc C6;have vc:=Y2.out.c9;have vd:=Y2.out.c8;have zs:=x! (7+SIL.size);have CC:=h! (C7.out _ G2.out);go_wp2_with fail;refine CC.out.mono ?_;rintro e y3⟨rfl,b3⟩;have G3:=r! G2 b3;have Y3:=b! Y2 b3;clear b3 CC vc C7 vd zs;have vc:=Y3.out.c10;have CC:=h! (C8.out _ G3.out);go_wp2_with fail;refine CC.out.mono ?_;rintro e y4⟨rfl,b4⟩;have G4:=r! G3 b4;have Y4:=b! Y3 b4;clear b4 CC vc C8;have zz0:=x! (S2.size+SA.size);have zz1:=x! (S2.size+SA.size+SB.size);have zz2:=x! (S2.size+SA.size+SB.size+SC.size);have zz3:=x! (S2.size+SA.size+SB.size+SC.size+SD.size);have zz4:=x! (S2.size+SA.size+SB.size+SC.size+SD.size+SE.size);go_wp2_with fail;refine bodyPost_ret (v:=.tuple #[.string (S2++SA++SB++SC++SD++SE),.bool true]) (by simp[results,Tryz.results31,go_sem]) rfl ⟨by rw[HS2.out,HFIN.out],G4.out⟩
end Go.Proofs.YtdgekckedchjbaaGreatDoor
