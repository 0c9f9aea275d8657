
/-
 The document's lines: a statement's. (Printed by wip/tools/genf7.py.)
-/
import Derived.Test.YtdgekckedchjbaaGreatDoorMA
import Derived.Test.YtdgekckedchjbaaGreatDoorMB
import Derived.Deep.RegionHeld3
import Derived.Deep.DeepCutAuto
import Derived.BigQuiet
set_option maxHeartbeats 16000000
set_option maxRecDepth 100000
namespace Go.Proofs.YtdgekckedchjbaaGreatDoor
open Go.RowKit
variable {T:List UInt8} {w:World} {d:Nat}
theorem f06!:(Tryz.prog.info? 9).map (λi=>(i.zero,i.size,i.bytes))=some (some (.string ByteArray.empty),1,16):=by kernel_rfl
theorem c0!{X:ByteArray}(h:X.data.toList=T):X=str T:=by
 apply j2!
 rw[str_list]
 exact h
def TxRow(w:World)(base:Nat)(v:Value)(T:List (List UInt8)):Prop:=w.ownsRow base 9 1 v T.length (T.map λt=>.string (str t))
theorem b93!:∀{E:List Ex} {T:List (List UInt8)},rawEs (E.map Ex.gx)=some T->T.length=E.length∧∀i (h:i<E.length) (h9:i<T.length),rawE (E[i]'h).gx=some (T[i]'h9)
 |[],T,h=>by
  injection h with h;subst h;exact⟨rfl,λi h=>absurd h (by simp)⟩
 |e::E,T,h=>by
  rw[List.map_cons,rawEs]at h
  cases h1:rawE e.gx with
  |none=>rw[h1]at h;cases h
  |some a=>
   cases h2:rawEs (E.map Ex.gx)with
   |none=>rw[h1,h2]at h;cases h
   |some b=>
    rw[h1,h2]at h;injection h with h;subst h;obtain⟨h3,h4⟩:=b93! h2;refine⟨by simp[h3],λi hi hi'=>?_⟩
    cases i with
    |zero=>exact h1
    |succ i=>exact h4 i (by simpa using hi) (by simpa using hi')
theorem f07!{D:Nat->Prop}{op N:Int}{nm:ByteArray}{A:Option Addr}{l c:Nat}{e:Ex}{t:List UInt8}(h:QG D w [.I op,.I N,.string nm,.slice A l c] e)(hf:FitE e)(ho:OpE e)(ht:rawE e.gx=some t)(hl:t.length<=500000):
 Calls Tryz.prog 23 #[.agg #[.I op,.I N,.string nm,.slice A l c]] w (i1! w t):=by
 obtain⟨t',h1,h2⟩:=m9! e ho
 rw[ht]at h1
 obtain rfl:=Option.some.inj h1
 refine(a29! e.dep op N nm A l c e.gx w (GC.kept (Kept.refl (λ_=>False) w) (λ_ _ _ h=>h) (λ_ _ _=>trivial) _ _ _ (GC.widen (by decide) _ _ _ h)) (FitE.gx e hf) (by omega)).mono ?_
 rintro e' w'⟨s,b,rfl,hb,_,hs⟩
 rcases hs with⟨rfl,hs⟩|⟨_,hs⟩
 ·rw[ht]at hs
  have:=Option.some.inj hs;refine⟨?_,hb⟩;rw[this];have e2:str s.data.toList=s:=by
   apply j2!
   rw[str_list]
  rw[e2]
 ·rw[ht]at hs
  cases hs
theorem b94!(d:Nat)(l:List (List UInt8)):lineB d l≠[]:=by
 unfold lineB
 simp
theorem f08!{s:Sx}:rawS d s≠some []:=λh=>by
 obtain⟨k,nm,E,lo,hi,L,El⟩:=s
 rw[rawS]at h
 split at h
 ·split at h
  ·cases h
  ·repeat' split at h
   all_goals first
    |exact b94! _ _ (Option.some.inj h)
    |(obtain⟨a,b,h1,h2,h3⟩:=j0! h;have h1:=(Option.some.inj h1).symm;have h4:=(List.append_eq_nil_iff.1 h3.symm).1;rw[h1]at h4;exact b94! _ _ h4)
 ·cases h
theorem f09!{l:List Sx}(hl:l≠[]):rawB d l≠some []:=λh=>by
 cases l with
 |nil=>exact hl rfl
 |cons s l=>
  rw[rawB]at h;obtain⟨a,b,h1,h2,h3⟩:=j0! h;obtain⟨rfl,-⟩:=List.append_eq_nil_iff.1 h3.symm;exact f08! h1
theorem f10!{base size n:Nat}{e:TypeId}{v:Value}{xs:List Value}(h:w.ownsRow base e size v n xs)(hn:0<n):∃g cap,v=.slice (some ⟨g,0,none⟩) n cap∧base<=g∧g<w.heap.size:=by
 rcases h.2 with ⟨rfl,h0⟩|⟨g,cap,cur,rfl,hg,hh,_⟩
 ·omega
 ·exact⟨g,_,rfl,hg,(Array.getElem?_eq_some_iff.1 hh).1⟩
theorem f11!(t:List UInt8):t.length<=(payB t).length:=by
 unfold payB
 split
 ·simp;omega
 ·exact Nat.le_refl _
theorem f12!{deep:Nat}{k:Int}{nm:List UInt8}{TE:List (List UInt8)}{lo hi:Int}{L El:List Sx}{TL TX:List UInt8}(h:stmtO deep k nm TE lo hi L El=some T)(hk:0<=k∧k<10)(hm:TE.length=partsS k)
 (hL:rawB (deep+1) L=some TL) (hX:rawB (deep+1) El=some TX) (h1:k≠2->k≠3->L=[]) (h2:k≠2->El=[]):(∀t∈TE,t.length<=T.length)∧TL.length<=T.length∧TX.length<=T.length:=by
 have nL:L=[]->TL=[]:=λe=>by
  rw[e]at hL;exact(Option.some.inj hL).symm
 have nX:El=[]->TX=[]:=λe=>by
  rw[e]at hX;exact(Option.some.inj hX).symm
 have hc:k=0∨k=1∨k=2∨k=3∨k=4∨k=5∨k=6∨k=7∨k=8∨k=9:=by omega
 have z1:partsS k=1->∃t,TE=[t]:=λe=>List.length_eq_one_iff.1 (by rw[hm,e])
 have z0:partsS k=0->TE=[]:=λe=>List.length_eq_zero_iff.1 (by rw[hm,e])
 have z2:partsS k=2->∃a b,TE=[a,b]:=λe=>by
  rw[e]at hm
  match TE,hm with
  |[a,b],_=>exact⟨a,b,rfl⟩
 clear hm
 rcases hc with rfl|rfl|rfl|rfl|rfl|rfl|rfl|rfl|rfl|rfl
 ·obtain⟨t,rfl⟩:=z1 (by decide)
  rw[nL (h1 (by decide) (by decide)),nX (h2 (by decide))]
  simp[stmtO,lineB,Lib.join]at h
  subst h
  simp
  omega
 ·obtain⟨a,b,rfl⟩:=z2 (by decide)
  rw[nL (h1 (by decide) (by decide)),nX (h2 (by decide))]
  simp[stmtO,lineB,Lib.join]at h
  subst h
  simp
  omega
 ·obtain⟨t,rfl⟩:=z1 (by decide)
  simp only[stmtO]at h
  rw[if_neg (by decide),if_neg (by decide),if_pos trivial,hL,hX]at h
  by_cases e:El.length=0
  ·rw[if_pos e]at h
   rw[nX (List.length_eq_zero_iff.1 e)]
   simp[ocat,lineB,Lib.join]at h
   subst h
   simp
   omega
  ·rw[if_neg e]at h
   simp[ocat,lineB,Lib.join]at h
   subst h
   simp
   omega
 ·rw[z0 (by decide),nX (h2 (by decide))]
  simp only[stmtO]at h
  rw[if_neg (by decide),if_neg (by decide),if_neg (by decide),if_pos trivial,hL]at h
  simp[ocat,lineB,Lib.join]at h
  subst h
  simp
  omega
 ·rw[z0 (by decide),nL (h1 (by decide) (by decide)),nX (h2 (by decide))]
  simp
 ·rw[z0 (by decide),nL (h1 (by decide) (by decide)),nX (h2 (by decide))]
  simp
 ·obtain⟨t,rfl⟩:=z1 (by decide)
  rw[nL (h1 (by decide) (by decide)),nX (h2 (by decide))]
  simp[stmtO,lineB,Lib.join]at h
  subst h
  simp
  omega
 ·rw[z0 (by decide),nL (h1 (by decide) (by decide)),nX (h2 (by decide))]
  simp
 ·obtain⟨a,b,rfl⟩:=z2 (by decide)
  rw[nL (h1 (by decide) (by decide)),nX (h2 (by decide))];have hp:=f11! b
  simp[stmtO,lineB,Lib.join]at h
  subst h
  simp
  omega
 ·obtain⟨t,rfl⟩:=z1 (by decide)
  rw[nL (h1 (by decide) (by decide)),nX (h2 (by decide))]
  simp[stmtO,lineB,Lib.join]at h
  subst h
  simp
  omega
theorem f13!(n:Nat)(H:a31! n):b79! (n+1):=by
 intro deep D kind lo hi S A1 l1 c1 A2 l2 c2 A3 l3 c3 s w T hR hF hW hT hl hd
 obtain⟨k,nm,E,lo',hi',L,El⟩:=s
 obtain⟨B1,m1,d1,B2,m2,d2,B3,m3,d3,hcs,hE,hL,hEl⟩:=hR
 simp only[List.cons.injEq,Value.int.injEq,Value.string.injEq,Value.slice.injEq,true_and,and_true]at hcs
 obtain⟨rfl,hS,⟨rfl,rfl,rfl⟩,rfl,rfl,⟨rfl,rfl,rfl⟩,rfl,rfl,rfl⟩:=hcs
 rw[WfS]at hW
 obtain⟨⟨hk,hm⟩,hO,hw1,hw2,hWL,hWX⟩:=hW
 rw[FitS]at hF
 obtain⟨hnl,hFE0,hlo,hhi,hFL,hFX⟩:=hF
 obtain⟨TE,hTE⟩:=a30! E hO
 obtain⟨TL,hTL⟩:=i9! (deep+1) L hWL
 obtain⟨TX,hTX⟩:=i9! (deep+1) El hWX
 rw[St.sx,g2! ⟨hk.1,hk.2,by rw[List.length_map];exact hm⟩ hTE]at hT
 obtain⟨hTn,hTat⟩:=b93! hTE
 obtain⟨q1,q2,q3⟩:=f12! hT hk (by rw[hTn,hm]) hTL hTX (λa b=>by rw[hw1 a b];rfl) (λa=>by rw[hw2 a];rfl)
 have hlL:TL.length<=500000:=by omega
 have hlX:TX.length<=500000:=by omega
 obtain⟨xs,r1,-,hm1,n1,e1⟩:=hE
 have hlm:l1=partsS kind:=by omega
 have hTm:TE.length=l1:=by omega
 have HC:Hid (kind=0∨kind=1∨kind=2∨kind=3∨kind=4∨kind=5∨kind=6∨kind=7∨kind=8∨kind=9):=by
  rw[Hid]
  omega
 have HLM:=h! hlm
 have R1:=h! r1
 have E1:=h! e1
 have HTAT:=h! hTat
 have HTL:Hid (∀t∈TE,t.length<=500000):=λt ht=>by have:=q1 t ht;omega
 have HFE:=h! hFE0
 have HOE:=h! hO
 have HTM:=h! hTm
 have HTN:=h! hTn
 have x0:=Blk.new w 29 #[.I kind,.string S,.slice A1 l1 c1,.I lo,.I hi,.slice A2 l2 c2,.slice A3 l3 c3]
 have f0:=a! w (.cells #[.I kind,.string S,.slice A1 l1 c1,.I lo,.I hi,.slice A2 l2 c2,.slice A3 l3 c3] 29)
 have X0:=h! x0
 have F0:=h! f0
 have CL:=h! (λ(W:World) (hW:Below w.heap.size w W)=>H (deep+1) D A2 l2 c2 L W TL (hL.belowRE hW) hFL hWL hTL hlL (by omega))
 have CX:=h! (λ(W:World) (hW:Below w.heap.size w W)=>H (deep+1) D A3 l3 c3 El W TX (hEl.belowRE hW) hFX hWX hTX hlX (by omega))
 have ND:=h! (λ(W:World)=>e92! kind W hk.1 hk.2)
 rw[<-hlm]at ND
 have BL:=h! (λ(W:World)=>e90! deep (by omega) W)
 have HS:=h! hS
 have HTLB:=h! hTL
 have HTXB:=h! hTX
 have HT:=h! hT
 have HL:=h! hl
 have HHI:=h! hhi
 have HLO:=h! hlo
 have hbz:(str (blanks deep)).size=2*deep:=by rw[str_size,e89!]
 have hSz:S.size<=1000000:=by rw[hS,str_size];exact hnl
 obtain⟨BS,hBS⟩:∃x,str (blanks deep)=x:=⟨_,rfl⟩
 obtain⟨LS,hLS⟩:∃x,str TL=x:=⟨_,rfl⟩
 obtain⟨XS,hXS⟩:∃x,str TX=x:=⟨_,rfl⟩
 have hLz:LS.size<=500000:=by rw[<-hLS,str_size];exact hlL
 have hXz:XS.size<=500000:=by rw[<-hXS,str_size];exact hlX
 unfold i1! at CL CX
 rw[hLS]at CL
 rw[hXS]at CX
 rw[hBS]at BL hbz
 replace hbz:BS.size<=80:=by omega
 have HBS:=h! hBS
 have HLS:=h! hLS
 have HXS:=h! hXS
 have wd:IntKind.i64.wrap ((deep:Int)+1)=((deep+1:Nat):Int):=(IntWalk.i64_in _ ⟨by omega,by omega⟩).trans (by omega)
 have hd0:decide (kind<0)=false:=by simpa using hk.1
 have hd9:decide (9<kind)=false:=by simp;omega
 have hln:l1<=2:=by rw[hlm];unfold partsS;split<;>first|omega|(split<;>omega)
 clear hTn hTat hTm hFE0 hO r1 e1 x0 f0 hL hEl hFL hFX hWL hWX hTL hTX hlL hlX H hS hT hhi hlo hnl hBS hLS hXS hTE hm hm1 hw1 hw2 hk hlm q1 q2 q3 n1
 go_enter Tryz.func137,Tryz.ntmps137
 go_upto_region 1 with fail
 generalize w.alloc (.cells #[.I kind,.string S,.slice A1 l1 c1,.I lo,.I hi,.slice A2 l2 c2,.slice A3 l3 c3] 29)=W0 at*
 have hx0:=X0.out
 have v0:=hx0.c0
 have v2:=hx0.c2
 have KQ:Hid (∀W,Below W0.heap.size W0 W->W.cell? ⟨w.heap.size,0,none⟩=some (.I kind)∧W.cell? ⟨w.heap.size,2,none⟩=some (.slice A1 l1 c1)):=λW hW=>⟨(hx0.below hW hx0.lt).cell 0,(hx0.below hW hx0.lt).cell 2⟩
 have f1:=(Below.refl W0.heap.size W0).drew
 go_cut [31] (λcv wc=>cv=.bool false∧Hid (Below W0.heap.size W0 wc))
 case first=>
  go_region_held3 (λV=>V.cell? ⟨w.heap.size,0,none⟩=some (.I kind)∧V.cell? ⟨w.heap.size,2,none⟩=some (.slice A1 l1 c1)) (first|(with_reducible exact KQ.out _ f1)|(with_reducible exact KQ.out _ f2))
   (first
    |(go_at_call 151;(with_reducible refine(ND.out _).mono ?_);rintro e wa⟨rfl,ba⟩;have f2:=f1.trans ba))
  all_goals
   go_wp2_with fail;go_meet
   case rel=>exact⟨rfl,by first|exact f2|exact f1|exact f1.trans ba⟩
 case rest=>
 obtain⟨rfl,hB⟩:=hcut
 obtain⟨W1,rfl⟩:∃x,x=wc:=⟨_,rfl⟩
 have F1:=h! (F0.out.trans (hB.out.mono F0.out.size))
 have X1:=h! (X0.out.below hB.out X0.out.lt)
 clear hB KQ f1 v0 v2 hx0 ND X0 hd0 hd9
 go_wp2_with fail
 go_loopw [6,7] (λev iv wr=>∃k:Nat,k<=l1∧iv=.I k∧Hid (Below w.heap.size w wr)∧Hid (W1.heap.size<=wr.heap.size)∧Hid (Blk wr w.heap.size 29 #[.I kind,.string S,.slice A1 l1 c1,.I lo,.I hi,.slice A2 l2 c2,.slice A3 l3 c3])∧Hid (TxRow wr W1.heap.size ev (TE.take k))) (λ_ iv _=>l1-(intOf iv).toNat)
 case atStart=>exact⟨0,by omega,rfl,F1.out,Nat.le_refl _,X1.out,World.ownsRow_nil _ _ _ _⟩
 case round=>
  obtain⟨k,hk,rfl,hb,hsz,hx,htx⟩:=hrel;obtain⟨wo,rfl⟩:∃x,x=wr:=⟨_,rfl⟩
  have v2:=hx.out.c2
  by_cases hlt:k<l1
  ·have hkk:k<E.length:=by have h1:=HTM.out;have h2:=HTN.out;omega
   have hkt:k<TE.length:=by have h1:=HTM.out;omega
   have ec:=E1.out k hkk;have hF:=HFE.out _ (List.getElem_mem hkk);have hO:=HOE.out _ (List.getElem_mem hkk);have ht:=HTAT.out k hkk hkt;have htl:=HTL.out _ (List.getElem_mem hkt);have HTK:Hid (TE.take (k+1)=TE.take k++[TE[k]]):=List.take_succ_eq_append_getElem hkt;generalize TE[k]=tk at*;generalize E[k]=g at*;obtain⟨op,N,nm1,Ax,lx,cx,hcs⟩:=GC.form ec;rw[hcs]at ec;obtain⟨b1,o1,rfl,hb1,q⟩:=R1.out.chunk (by omega) hlt hcs;have q0:=(hb.out.cell (p:=⟨b1,o1+k*4,none⟩) hb1).trans (q 0 _ rfl);have q1:=(hb.out.cell (p:=⟨b1,o1+k*4+1,none⟩) hb1).trans (q 1 _ rfl);have q2:=(hb.out.cell (p:=⟨b1,o1+k*4+2,none⟩) hb1).trans (q 2 _ rfl);have q3:=(hb.out.cell (p:=⟨b1,o1+k*4+3,none⟩) hb1).trans (q 3 _ rfl);have RW:=h! (f07! (f5! _ (λ_=>True) (λ_=>False) w wo _ _ (Kept.of_below (S:=λ_=>False) hb.out) (λ_ _ _ h=>h) (λ_ _ _=>trivial) ec) hF hO ht htl);have g1:(0:Int)<=(k:Int):=by omega
   have g2:(k:Int)<(l1:Int):=by omega
   obtain⟨SK,hSK⟩:∃x,str tk=x:=⟨_,rfl⟩
   unfold i1! at RW;rw[hSK]at RW;have HSK:=h! hSK;have htx0:=htx.out;unfold TxRow at htx0;have hlk:(TE.take k).length=k:=by rw[List.length_take];have h1:=HTM.out;omega
   rw[hlk]at htx0;have HOW:=h! htx0;have wi:=y! ((k:Int)+1);clear q hcs ec hF hO ht htl hSK htx0 htx;go_wp2_with fail;refine RW.out.mono ?_;rintro e w2⟨rfl,b2⟩;have F2:=r! hb b2;have X2:=b! hx b2;have o2:=h! (World.ownsRow.alloc (a6! HOW.out (Kept.of_below (S:=λ_=>False) b2) (λ_ _ h=>h)) (.cells #[.string SK] 9));have RD:=h! (d1! w2 9 #[.string SK] 1 rfl);have ONE:Hid (∀u∈([.string SK]:List Value),u.oneCell'=true):=λu hu=>by rw[List.mem_singleton]at hu;rw[hu];rfl
   obtain⟨i0,hi0,hz0,hz1,hz2⟩:=info_parts f06!;have hog:=h! (f2! HOW.out);have z2:=b2.size;have zo:=hb.out.size;have zw:=hsz.out;have zx:=X1.out.lt;have WI:=h! wi;clear q0 q1 q2 q3 b2 RW v2
   go_wp2_with (at_builtin;refine e5! _ rfl (.tmp 50) (.tmp 52) 59 rfl W1.heap.size 9 i0 _ 1 16 Tryz.underlying59 hi0 hz0 hz1 hz2 rfl (by omega) _ k _ rfl o2.out _ _ 1 1 [.string SK] rfl RD.out ONE.out (by unfold maxLen;omega) (by omega) (by simp;omega) ?_;intro v8 w8 o8 g8 at8)
   have K8:Kept (λz=>u6.ownBlock=some z) w2 w8:=((Kept.refl (λz=>u6.ownBlock=some z) w2).alloc _).then_ (Kept.of_grown g8 (λ_ e=>e)) (λ_ _ e=>e);have F8:Hid (Below w.heap.size w w8):=(F2.out.al _).grown g8 (by have:=F2.out.al (.cells #[.string SK] 9);have:=this.size;omega) (λz e=>by have:=hog.out z e;omega);have X8:Hid (Blk w8 w.heap.size 29 _):=X2.out.kept K8 (λe=>by have:=hog.out _ e;omega);have Z8:Hid (W1.heap.size<=w8.heap.size):=by
    have h1:=K8.size;rw[Hid]
    omega
   have HTX8:Hid (TxRow w8 W1.heap.size v8 (TE.take (k+1))):=by
    unfold Hid TxRow;rw[HTK.out,List.length_append,List.length_singleton,hlk,List.map_append];rw[<-HSK.out]at o8;exact o8
   clear o8 g8 at8 K8 hi0 hz0 hz1 hz2 o2;have wi':=WI.out;go_wp2_with fail
   go_roundw
   case rel=>exact⟨k+1,by omega,by go_num,F8.out,Z8.out,X8.out,HTX8.out⟩
   case measure=>simp[intOf];omega
  ·obtain rfl:l1=k:=by omega
   have HTX:Hid (TxRow wo W1.heap.size u6 TE):=by
    have h:=htx.out;rw[List.take_of_length_le (by rw[HTM.out];exact Nat.le_refl _)]at h;exact h
   clear htx;have v5:=hx.out.c5;go_wp2_with fail;refine(BL.out _).mono ?_;rintro e w3⟨rfl,rfl⟩;have C3:=h! (CL.out _ hb.out);go_wp2_with fail;refine C3.out.mono ?_;rintro e w4⟨rfl,b4⟩;have F4:=r! hb b4;have X4:=b! hx b4;have B4:=h! b4;have v6:=X4.out.c6;have C4:=h! (CX.out _ F4.out);clear v5 b4 C3;go_wp2_with fail;refine C4.out.mono ?_;rintro e w5⟨rfl,b5⟩;have F5:=r! F4 b5;have X5:=b! X4 b5;have TX5:Hid (TxRow w5 W1.heap.size u6 TE):=a6! (a6! HTX.out (Kept.of_below (S:=λ_=>False) B4.out) (λ_ _ h=>h)) (Kept.of_below (S:=λ_=>False) b5) (λ_ _ h=>h);have v0:=X5.out.c0;clear v6 b5 C4 B4 X4 BL CL CX v2 hlt hk;go_upto_region 14 with fail;rcases HC.out with rfl|rfl|rfl|rfl|rfl|rfl|rfl|rfl|rfl|rfl
   ·as_aux_lemma=>
    have hl1:l1=1:=HLM.out;subst hl1;clear HC HLM;obtain⟨t0,rfl⟩:∃t,TE=[t]:=List.length_eq_one_iff.1 HTM.out
    obtain⟨A0,c0,rfl,-⟩:=b2! TX5.out;obtain⟨S0,hS0⟩:∃x,str t0=x:=⟨_,rfl⟩
    have z0:S0.size<=500000:=by rw[<-hS0,str_size];exact HTL.out _ (by simp)
    have RX:Reads w5 w5.heap.size 1 A0 1 [.string S0]:=by rw[<-hS0];exact Reads.of_own TX5.out
    obtain⟨b0,o0,rfl,hb0,q⟩:=RX.chunk (k:=0) (by omega) (by omega) rfl;have q0:w5.cell? ⟨b0,o0,none⟩=some (.string S0):=by simpa using q 0 _ rfl
    clear q RX;have v1:=X5.out.c1;have zz1:=x! (BS.size+S.size);have zz2:=x! (BS.size+S.size+3);have zz3:=x! (BS.size+S.size+3+S0.size);have zz4:=x! (BS.size+S.size+3+S0.size+1);have HFIN:Hid (BS++S++(⟨#[32,61,32]⟩:ByteArray)++S0++(⟨#[10]⟩:ByteArray)=str T):=by
     have hT:=HT.out;have hS:=HS.out;have hBS:=HBS.out
     simp[stmtO,lineB,Lib.join]at hT
     refine c0! ?_;rw[<-hT]
     simp[<-hBS,hS,<-hS0,str_list,ByteArray.data_append]
    have KQ5:Hid (∀V,Below w5.heap.size w5 V->V.cell? ⟨w.heap.size,1,none⟩=some (.string S)∧V.cell? ⟨b0,o0,none⟩=some (.string S0)):=λV hV=>⟨(X5.out.below hV X5.out.lt).cell 1,(hV.cell (p:=⟨b0,o0,none⟩) hb0).trans q0⟩
    have f1:=(Below.refl w5.heap.size w5).drew;go_upto_region 16 with fail
    go_region_held3 (λV=>V.cell? ⟨w.heap.size,1,none⟩=some (.string S)∧V.cell? ⟨b0,o0,none⟩=some (.string S0)) (first|(with_reducible exact KQ5.out _ f1)) (fail)
    all_goals
     go_wp2_with fail;refine bodyPost_ret (v:=.tuple #[.string (BS++S++(⟨#[32,61,32]⟩:ByteArray)++S0++(⟨#[10]⟩:ByteArray)),.bool true]) (by simp[results,Tryz.results137,go_sem]) rfl ⟨by rw[HFIN.out],F5.out.drew⟩
   ·as_aux_lemma=>
    have hl1:l1=2:=HLM.out;subst hl1;clear HC HLM;obtain⟨t0,t1,rfl⟩:∃a b,TE=[a,b]:=by
     have h:=HTM.out
     match TE,h with
     |[a,b],_=>exact⟨a,b,rfl⟩
    obtain⟨A0,c0,rfl,-⟩:=b2! TX5.out;obtain⟨S0,hS0⟩:∃x,str t0=x:=⟨_,rfl⟩
    obtain⟨S1,hS1⟩:∃x,str t1=x:=⟨_,rfl⟩
    have z0:S0.size<=500000:=by rw[<-hS0,str_size];exact HTL.out _ (by simp)
    have z1:S1.size<=500000:=by rw[<-hS1,str_size];exact HTL.out _ (by simp)
    have RX:Reads w5 w5.heap.size 1 A0 2 [.string S0,.string S1]:=by rw[<-hS0,<-hS1];exact Reads.of_own TX5.out
    obtain⟨b0,o0,rfl,hb0,q⟩:=RX.chunk (k:=0) (by omega) (by omega) rfl;obtain⟨b1,o1,e1,-,q'⟩:=RX.chunk (k:=1) (by omega) (by omega) rfl;obtain⟨rfl,rfl⟩:b0=b1∧o0=o1:=by
     injection e1 with e1;injection e1 with e2 e3 _;exact⟨e2,e3⟩
    have q0:w5.cell? ⟨b0,o0,none⟩=some (.string S0):=by simpa using q 0 _ rfl
    have q1:w5.cell? ⟨b0,o0+1,none⟩=some (.string S1):=by simpa using q' 0 _ rfl
    clear q q' RX e1;have v1:=X5.out.c1;have zz1:=x! (BS.size+S.size);have zz2:=x! (BS.size+S.size+3);have zz3:=x! (BS.size+S.size+3+S0.size);have zz4:=x! (BS.size+S.size+3+S0.size+5);have zz5:=x! (BS.size+S.size+3+S0.size+5+S1.size);have zz6:=x! (BS.size+S.size+3+S0.size+5+S1.size+1);have HFIN:Hid (BS++S++(⟨#[32,91,32]⟩:ByteArray)++S0++(⟨#[32,93,32,61,32]⟩:ByteArray)++S1++(⟨#[10]⟩:ByteArray)=str T):=by
     have hT:=HT.out;have hS:=HS.out;have hBS:=HBS.out
     simp[stmtO,lineB,Lib.join]at hT
     refine c0! ?_;rw[<-hT]
     simp[<-hBS,hS,<-hS0,<-hS1,str_list,ByteArray.data_append]
    have KQ5:Hid (∀V,Below w5.heap.size w5 V->V.cell? ⟨w.heap.size,1,none⟩=some (.string S)∧V.cell? ⟨b0,o0,none⟩=some (.string S0)∧V.cell? ⟨b0,o0+1,none⟩=some (.string S1)):=λV hV=>⟨(X5.out.below hV X5.out.lt).cell 1,(hV.cell (p:=⟨b0,o0,none⟩) hb0).trans q0,(hV.cell (p:=⟨b0,o0+1,none⟩) hb0).trans q1⟩
    have f1:=(Below.refl w5.heap.size w5).drew;go_upto_region 18 with fail
    go_region_held3 (λV=>V.cell? ⟨w.heap.size,1,none⟩=some (.string S)∧V.cell? ⟨b0,o0,none⟩=some (.string S0)∧V.cell? ⟨b0,o0+1,none⟩=some (.string S1)) (first|(with_reducible exact KQ5.out _ f1)) (fail)
    all_goals
     go_wp2_with fail;refine bodyPost_ret (v:=.tuple #[.string (BS++S++(⟨#[32,91,32]⟩:ByteArray)++S0++(⟨#[32,93,32,61,32]⟩:ByteArray)++S1++(⟨#[10]⟩:ByteArray)),.bool true]) (by simp[results,Tryz.results137,go_sem]) rfl ⟨by rw[HFIN.out],F5.out.drew⟩
   ·as_aux_lemma=>
    have hl1:l1=1:=HLM.out;subst hl1;clear HC HLM;obtain⟨t0,rfl⟩:∃t,TE=[t]:=List.length_eq_one_iff.1 HTM.out
    obtain⟨A0,c0,rfl,-⟩:=b2! TX5.out;obtain⟨S0,hS0⟩:∃x,str t0=x:=⟨_,rfl⟩
    have z0:S0.size<=500000:=by rw[<-hS0,str_size];exact HTL.out _ (by simp)
    have RX:Reads w5 w5.heap.size 1 A0 1 [.string S0]:=by rw[<-hS0];exact Reads.of_own TX5.out
    obtain⟨b0,o0,rfl,hb0,q⟩:=RX.chunk (k:=0) (by omega) (by omega) rfl;have q0:w5.cell? ⟨b0,o0,none⟩=some (.string S0):=by simpa using q 0 _ rfl
    clear q RX
    by_cases hel:El=[]
    ·have hXe:XS=⟨#[]⟩:=by
      have h:=HTXB.out;rw[hel]at h;have h2:TX=[]:=(Option.some.inj h).symm;rw[<-HXS.out,h2]
      rfl
     have e2:XS.toList.isEmpty=true:=by rw[hXe,ByteArray.toList_eq];rfl
     have HFIN:Hid (BS++(⟨#[105,102,32]⟩:ByteArray)++S0++(⟨#[32,116,104,101,110,10]⟩:ByteArray)++LS++XS++BS++(⟨#[101,110,100,10]⟩:ByteArray)=str T):=by
      have hT:=HT.out;have hBS:=HBS.out;rw[hel]at hT
      simp[stmtO,lineB,Lib.join,sxs,HTLB.out,ocat]at hT
      refine c0! ?_;rw[<-hT]
      simp[<-hBS,<-hS0,<-HLS.out,hXe,str_list,ByteArray.data_append]
     have HXE:=h! hXe;clear hXe hel;go_wp2_with fail;refine bodyPost_ret (v:=.tuple #[.string (BS++(⟨#[105,102,32]⟩:ByteArray)++S0++(⟨#[32,116,104,101,110,10]⟩:ByteArray)++LS++XS++BS++(⟨#[101,110,100,10]⟩:ByteArray)),.bool true]) (by simp[results,Tryz.results137,go_sem]) rfl ⟨by rw[HFIN.out],F5.out⟩
    ·have hne:sxs El≠[]:=by rw[sxs_map];simpa using hel
     have e2:XS.toList.isEmpty=false:=by
      cases hq:XS.toList.isEmpty with
      |false=>rfl
      |true=>
       have h1:XS=⟨#[]⟩:=i2! (by rw[List.isEmpty_iff.1 hq,ByteArray.toList_eq]);have h2:=HXS.out;rw[h1]at h2;have h3:TX=[]:=by
        have:=congrArg ByteArray.size h2;rw[str_size]at this;exact List.length_eq_zero_iff.1 this
       exact absurd (h3▸HTXB.out) (f09! hne)
     have HFIN:Hid (BS++(⟨#[105,102,32]⟩:ByteArray)++S0++(⟨#[32,116,104,101,110,10]⟩:ByteArray)++LS++(BS++(⟨#[101,108,115,101,10]⟩:ByteArray)++XS)++BS++(⟨#[101,110,100,10]⟩:ByteArray)=str T):=by
      have hT:=HT.out;have hBS:=HBS.out
      simp[stmtO,lineB,Lib.join,hne,HTLB.out,HTXB.out,ocat]at hT
      refine c0! ?_;rw[<-hT]
      simp[<-hBS,<-hS0,<-HLS.out,<-HXS.out,str_list,ByteArray.data_append]
     clear hne hel;go_wp2_with fail;refine bodyPost_ret (v:=.tuple #[.string (BS++(⟨#[105,102,32]⟩:ByteArray)++S0++(⟨#[32,116,104,101,110,10]⟩:ByteArray)++LS++(BS++(⟨#[101,108,115,101,10]⟩:ByteArray)++XS)++BS++(⟨#[101,110,100,10]⟩:ByteArray)),.bool true]) (by simp[results,Tryz.results137,go_sem]) rfl ⟨by rw[HFIN.out],F5.out⟩
   ·as_aux_lemma=>
    have hl1:l1=0:=HLM.out;subst hl1;clear HC HLM;have v1:=X5.out.c1;have v3:=X5.out.c3;have v4:=X5.out.c4;obtain⟨SLO,hSLO⟩:∃x,x=str (Lib.itoa lo):=⟨_,rfl⟩
    have zSLO:SLO.size<=21:=by rw[hSLO,str_size];exact f1! HLO.out
    have IN0:Hid (∀W,Calls Tryz.prog 42 #[.I lo] W λe w'=>e=.returned (.string SLO)∧Below W.heap.size W w'):=λW=>by rw[hSLO];exact s3! lo HLO.out.1 HLO.out.2 W
    have HXSLO:=h! hSLO;clear hSLO;obtain⟨SHI,hSHI⟩:∃x,x=str (Lib.itoa hi):=⟨_,rfl⟩
    have zSHI:SHI.size<=21:=by rw[hSHI,str_size];exact f1! HHI.out
    have IN1:Hid (∀W,Calls Tryz.prog 42 #[.I hi] W λe w'=>e=.returned (.string SHI)∧Below W.heap.size W w'):=λW=>by rw[hSHI];exact s3! hi HHI.out.1 HHI.out.2 W
    have HXSHI:=h! hSHI;clear hSHI;have zz1:=x! (BS.size+4);have zz2:=x! (BS.size+4+S.size);have zz3:=x! (BS.size+4+S.size+1);have zz4:=x! (BS.size+4+S.size+1+SLO.size);have zz5:=x! (BS.size+4+S.size+1+SLO.size+1);have zz6:=x! (BS.size+4+S.size+1+SLO.size+1+SHI.size);have zz7:=x! (BS.size+4+S.size+1+SLO.size+1+SHI.size+4);have zz8:=x! (BS.size+4+S.size+1+SLO.size+1+SHI.size+4+LS.size);have zz9:=x! (BS.size+4+S.size+1+SLO.size+1+SHI.size+4+LS.size+BS.size);have zz10:=x! (BS.size+4+S.size+1+SLO.size+1+SHI.size+4+LS.size+BS.size+4);have HFIN:Hid (BS++(⟨#[102,111,114,32]⟩:ByteArray)++S++(⟨#[32]⟩:ByteArray)++SLO++(⟨#[32]⟩:ByteArray)++SHI++(⟨#[32,100,111,10]⟩:ByteArray)++LS++BS++(⟨#[101,110,100,10]⟩:ByteArray)=str T):=by
     have hT:=HT.out;have hS:=HS.out;have hBS:=HBS.out
     simp[stmtO,lineB,Lib.join,HTLB.out,ocat]at hT
     refine c0! ?_;rw[<-hT]
     simp[<-hBS,hS,<-HLS.out,HXSLO.out,HXSHI.out,str_list,ByteArray.data_append]
    have KQ5:Hid (∀V,Below w5.heap.size w5 V->V.cell? ⟨w.heap.size,1,none⟩=some (.string S)∧V.cell? ⟨w.heap.size,3,none⟩=some (.I lo)∧V.cell? ⟨w.heap.size,4,none⟩=some (.I hi)):=λV hV=>⟨(X5.out.below hV X5.out.lt).cell 1,(X5.out.below hV X5.out.lt).cell 3,(X5.out.below hV X5.out.lt).cell 4⟩
    have f1:=(Below.refl w5.heap.size w5).drew;go_upto_region 24 with fail
    go_region_held3 (λV=>V.cell? ⟨w.heap.size,1,none⟩=some (.string S)∧V.cell? ⟨w.heap.size,3,none⟩=some (.I lo)∧V.cell? ⟨w.heap.size,4,none⟩=some (.I hi)) (first|(with_reducible exact KQ5.out _ f3)|(with_reducible exact KQ5.out _ f2)|(with_reducible exact KQ5.out _ f1)) (first|(go_at_call 42;(with_reducible refine(IN0.out _).mono ?_);rintro e wa0⟨rfl,ba0⟩;have f2:=f1.trans (ba0.mono f1.size))|(go_at_call 42;(with_reducible refine(IN1.out _).mono ?_);rintro e wa1⟨rfl,ba1⟩;have f3:=f2.trans (ba1.mono f2.size)))
    all_goals
     go_wp2_with fail;refine bodyPost_ret (v:=.tuple #[.string (BS++(⟨#[102,111,114,32]⟩:ByteArray)++S++(⟨#[32]⟩:ByteArray)++SLO++(⟨#[32]⟩:ByteArray)++SHI++(⟨#[32,100,111,10]⟩:ByteArray)++LS++BS++(⟨#[101,110,100,10]⟩:ByteArray)),.bool true]) (by simp[results,Tryz.results137,go_sem]) rfl ⟨by rw[HFIN.out],F5.out.trans (f3.mono F5.out.size)⟩
   ·as_aux_lemma=>
    have hl1:l1=0:=HLM.out;subst hl1;clear HC HLM;have HFIN:Hid (BS++(⟨#[114,101,102,117,115,101,10]⟩:ByteArray)=str T):=by
     have hT:=HT.out;have hBS:=HBS.out
     simp[stmtO,lineB,Lib.join]at hT
     refine c0! ?_;rw[<-hT]
     simp[<-hBS,str_list,ByteArray.data_append]
    go_wp2_with fail;refine bodyPost_ret (v:=.tuple #[.string (BS++(⟨#[114,101,102,117,115,101,10]⟩:ByteArray)),.bool true]) (by simp[results,Tryz.results137,go_sem]) rfl ⟨by rw[HFIN.out],F5.out⟩
   ·as_aux_lemma=>
    have hl1:l1=0:=HLM.out;subst hl1;clear HC HLM;have v1:=X5.out.c1;have v3:=X5.out.c3;obtain⟨SLO,hSLO⟩:∃x,x=str (Lib.itoa lo):=⟨_,rfl⟩
    have zSLO:SLO.size<=21:=by rw[hSLO,str_size];exact f1! HLO.out
    have IN0:Hid (∀W,Calls Tryz.prog 42 #[.I lo] W λe w'=>e=.returned (.string SLO)∧Below W.heap.size W w'):=λW=>by rw[hSLO];exact s3! lo HLO.out.1 HLO.out.2 W
    have HXSLO:=h! hSLO;clear hSLO;have zz1:=x! (BS.size+5);have zz2:=x! (BS.size+5+S.size);have zz3:=x! (BS.size+5+S.size+1);have zz4:=x! (BS.size+5+S.size+1+SLO.size);have zz5:=x! (BS.size+5+S.size+1+SLO.size+1);have HFIN:Hid (BS++(⟨#[114,111,108,108,32]⟩:ByteArray)++S++(⟨#[32]⟩:ByteArray)++SLO++(⟨#[10]⟩:ByteArray)=str T):=by
     have hT:=HT.out;have hS:=HS.out;have hBS:=HBS.out
     simp[stmtO,lineB,Lib.join]at hT
     refine c0! ?_;rw[<-hT]
     simp[<-hBS,hS,HXSLO.out,str_list,ByteArray.data_append]
    have KQ5:Hid (∀V,Below w5.heap.size w5 V->V.cell? ⟨w.heap.size,1,none⟩=some (.string S)∧V.cell? ⟨w.heap.size,3,none⟩=some (.I lo)):=λV hV=>⟨(X5.out.below hV X5.out.lt).cell 1,(X5.out.below hV X5.out.lt).cell 3⟩
    have f1:=(Below.refl w5.heap.size w5).drew;go_upto_region 28 with fail
    go_region_held3 (λV=>V.cell? ⟨w.heap.size,1,none⟩=some (.string S)∧V.cell? ⟨w.heap.size,3,none⟩=some (.I lo)) (first|(with_reducible exact KQ5.out _ f2)|(with_reducible exact KQ5.out _ f1)) (first|(go_at_call 42;(with_reducible refine(IN0.out _).mono ?_);rintro e wa0⟨rfl,ba0⟩;have f2:=f1.trans (ba0.mono f1.size)))
    all_goals
     go_wp2_with fail;refine bodyPost_ret (v:=.tuple #[.string (BS++(⟨#[114,111,108,108,32]⟩:ByteArray)++S++(⟨#[32]⟩:ByteArray)++SLO++(⟨#[10]⟩:ByteArray)),.bool true]) (by simp[results,Tryz.results137,go_sem]) rfl ⟨by rw[HFIN.out],F5.out.trans (f2.mono F5.out.size)⟩
   ·as_aux_lemma=>
    have hl1:l1=1:=HLM.out;subst hl1;clear HC HLM;obtain⟨t0,rfl⟩:∃t,TE=[t]:=List.length_eq_one_iff.1 HTM.out
    obtain⟨A0,c0,rfl,-⟩:=b2! TX5.out;obtain⟨S0,hS0⟩:∃x,str t0=x:=⟨_,rfl⟩
    have z0:S0.size<=500000:=by rw[<-hS0,str_size];exact HTL.out _ (by simp)
    have RX:Reads w5 w5.heap.size 1 A0 1 [.string S0]:=by rw[<-hS0];exact Reads.of_own TX5.out
    obtain⟨b0,o0,rfl,hb0,q⟩:=RX.chunk (k:=0) (by omega) (by omega) rfl;have q0:w5.cell? ⟨b0,o0,none⟩=some (.string S0):=by simpa using q 0 _ rfl
    clear q RX;have HFIN:Hid (BS++(⟨#[115,101,97,116,32]⟩:ByteArray)++S0++(⟨#[10]⟩:ByteArray)=str T):=by
     have hT:=HT.out;have hBS:=HBS.out
     simp[stmtO,lineB,Lib.join]at hT
     refine c0! ?_;rw[<-hT]
     simp[<-hBS,<-hS0,str_list,ByteArray.data_append]
    go_wp2_with fail;refine bodyPost_ret (v:=.tuple #[.string (BS++(⟨#[115,101,97,116,32]⟩:ByteArray)++S0++(⟨#[10]⟩:ByteArray)),.bool true]) (by simp[results,Tryz.results137,go_sem]) rfl ⟨by rw[HFIN.out],F5.out⟩
   ·as_aux_lemma=>
    have hl1:l1=0:=HLM.out;subst hl1;clear HC HLM;have HFIN:Hid (BS++(⟨#[111,118,101,114,10]⟩:ByteArray)=str T):=by
     have hT:=HT.out;have hBS:=HBS.out
     simp[stmtO,lineB,Lib.join]at hT
     refine c0! ?_;rw[<-hT]
     simp[<-hBS,str_list,ByteArray.data_append]
    go_wp2_with fail;refine bodyPost_ret (v:=.tuple #[.string (BS++(⟨#[111,118,101,114,10]⟩:ByteArray)),.bool true]) (by simp[results,Tryz.results137,go_sem]) rfl ⟨by rw[HFIN.out],F5.out⟩
   ·as_aux_lemma=>
    have hl1:l1=2:=HLM.out;subst hl1;clear HC HLM;obtain⟨t0,t1,rfl⟩:∃a b,TE=[a,b]:=by
     have h:=HTM.out
     match TE,h with
     |[a,b],_=>exact⟨a,b,rfl⟩
    obtain⟨S0,hS0⟩:∃x,str t0=x:=⟨_,rfl⟩
    obtain⟨S1,hS1⟩:∃x,str t1=x:=⟨_,rfl⟩
    have z0:S0.size<=500000:=by rw[<-hS0,str_size];exact HTL.out _ (by simp)
    have z1:S1.size<=500000:=by rw[<-hS1,str_size];exact HTL.out _ (by simp)
    have tx:=TX5.out;unfold TxRow at tx;obtain⟨b0,cap0,rfl,hb0,hb0'⟩:=f10! tx (by simp);have q0:w5.cell? ⟨b0,0,none⟩=some (.string S0):=by rw[World.ownsRow.cellAt tx 0 (by simp),<-hS0];rfl
    have q1:w5.cell? ⟨b0,1,none⟩=some (.string S1):=by rw[World.ownsRow.cellAt tx 1 (by simp),<-hS1];rfl
    have fr1:w5.frozen? ⟨b0,1,none⟩=false:=World.ownsRow.frozenAt tx 1;have C0:=h! q0;have C1:=h! q1;have HB0:=h! hb0';have hwW:=X1.out.lt;have hl1:S1.data.toList=t1:=by rw[<-hS1];simp[str]
    clear tx
    by_cases hz:0<S1.size
    ·obtain⟨c,hcc⟩:∃c:UInt8,S1[0]=c:=⟨_,rfl⟩
     have hhd:t1.head?=some c:=by
      rw[<-hl1,List.head?_eq_getElem?,h1! S1 hz,hcc]
     by_cases h45:c=45
     ·subst h45
      have hpay:payB t1=[40,32]++t1++[32,41]:=by unfold payB;rw[if_pos hhd]
      obtain⟨S9,hS9⟩:∃x,x=(⟨#[40,32]⟩:ByteArray)++S1++(⟨#[32,41]⟩:ByteArray):=⟨_,rfl⟩
      have z9:S9.size<=500004:=by
       rw[hS9,ByteArray.size_append,ByteArray.size_append]
       show 2+S1.size+2<=_
       omega
      have HFIN:Hid (BS++(⟨#[112,97,121,32]⟩:ByteArray)++S0++(⟨#[32]⟩:ByteArray)++S9++(⟨#[10]⟩:ByteArray)=str T):=by
       have hT:=HT.out;have hBS:=HBS.out
       simp[stmtO,lineB,Lib.join,hpay]at hT
       refine c0! ?_;rw[<-hT]
       simp[<-hBS,<-hS0,hS9,<-hS1,str_list,ByteArray.data_append]
      have HS9:=h! hS9;have zz1:=x! (2+S1.size);have zz2:=x! (2+S1.size+2);clear hpay hhd hl1 hS9;go_upto_region 36 with fail;rw[<-HS9.out];have K9:=h! ((Kept.refl (λz=>z=b0) w5).setCell (p:=⟨b0,1,none⟩) (λ_=>rfl) (.string S9));have F9:=h! (F5.out.trans (K9.out.to_below F5.out.size (λq hq e=>by omega)));have C0:Hid ((w5.setCell ⟨b0,1,none⟩ (.string S9)).cell? ⟨b0,0,none⟩=some (.string S0)):=by
       rw[Hid,World.cell?_setCell_other _ _ _ _ (by simp)];exact C0.out
      have C1:Hid ((w5.setCell ⟨b0,1,none⟩ (.string S9)).cell? ⟨b0,1,none⟩=some (.string S9)):=by
       rw[Hid];exact World.cell?_setCell_same _ _ _ C1.out
      have HB0:Hid (b0<(w5.setCell ⟨b0,1,none⟩ (.string S9)).heap.size):=by
       have:=K9.out.size;have:=HB0.out;rw[Hid]
       omega
      clear q0 q1 fr1 zz1 zz2;generalize w5.setCell ⟨b0,1,none⟩ (.string S9)=W9 at*;have c0:W9.cell? ⟨b0,0,none⟩=some (.string S0):=C0.out;have c1:W9.cell? ⟨b0,1,none⟩=some (.string S9):=C1.out;have zz1:=x! (BS.size+4);have zz2:=x! (BS.size+4+S0.size);have zz3:=x! (BS.size+4+S0.size+1);have zz4:=x! (BS.size+4+S0.size+1+S9.size);have zz5:=x! (BS.size+4+S0.size+1+S9.size+1);have KQ8:Hid (∀V,Below W9.heap.size W9 V->V.cell? ⟨b0,0,none⟩=some (.string S0)∧V.cell? ⟨b0,1,none⟩=some (.string S9)):=λV hV=>⟨(hV.cell (p:=⟨b0,0,none⟩) HB0.out).trans c0,(hV.cell (p:=⟨b0,1,none⟩) HB0.out).trans c1⟩
      have f1:=(Below.refl W9.heap.size W9).drew
      go_region_held3 (λV=>V.cell? ⟨b0,0,none⟩=some (.string S0)∧V.cell? ⟨b0,1,none⟩=some (.string S9)) (first|(with_reducible exact KQ8.out _ f1)) (fail)
      all_goals
       go_wp2_with fail;refine bodyPost_ret (v:=.tuple #[.string (BS++(⟨#[112,97,121,32]⟩:ByteArray)++S0++(⟨#[32]⟩:ByteArray)++S9++(⟨#[10]⟩:ByteArray)),.bool true]) (by simp[results,Tryz.results137,go_sem]) rfl ⟨by rw[HFIN.out],F9.out.drew⟩
     ·have hpay:payB t1=t1:=by unfold payB;rw[if_neg (by rw[hhd];simpa using h45)]
      have hcb:((((c.toNat:Nat):Int))==(45:Int))=false:=m3! (n:=45) (by decide) h45;clear h45 hhd hl1 fr1;have HFIN:Hid (BS++(⟨#[112,97,121,32]⟩:ByteArray)++S0++(⟨#[32]⟩:ByteArray)++S1++(⟨#[10]⟩:ByteArray)=str T):=by
       have hT:=HT.out;have hBS:=HBS.out
       simp[stmtO,lineB,Lib.join,hpay]at hT
       refine c0! ?_;rw[<-hT]
       simp[<-hBS,<-hS0,<-hS1,str_list,ByteArray.data_append]
      clear hpay;go_upto_region 36 with fail;have c0:w5.cell? ⟨b0,0,none⟩=some (.string S0):=C0.out;have c1:w5.cell? ⟨b0,1,none⟩=some (.string S1):=C1.out;have zz1:=x! (BS.size+4);have zz2:=x! (BS.size+4+S0.size);have zz3:=x! (BS.size+4+S0.size+1);have zz4:=x! (BS.size+4+S0.size+1+S1.size);have zz5:=x! (BS.size+4+S0.size+1+S1.size+1);have KQ8:Hid (∀V,Below w5.heap.size w5 V->V.cell? ⟨b0,0,none⟩=some (.string S0)∧V.cell? ⟨b0,1,none⟩=some (.string S1)):=λV hV=>⟨(hV.cell (p:=⟨b0,0,none⟩) HB0.out).trans c0,(hV.cell (p:=⟨b0,1,none⟩) HB0.out).trans c1⟩
      have f1:=(Below.refl w5.heap.size w5).drew
      go_region_held3 (λV=>V.cell? ⟨b0,0,none⟩=some (.string S0)∧V.cell? ⟨b0,1,none⟩=some (.string S1)) (first|(with_reducible exact KQ8.out _ f1)) (fail)
      all_goals
       go_wp2_with fail;refine bodyPost_ret (v:=.tuple #[.string (BS++(⟨#[112,97,121,32]⟩:ByteArray)++S0++(⟨#[32]⟩:ByteArray)++S1++(⟨#[10]⟩:ByteArray)),.bool true]) (by simp[results,Tryz.results137,go_sem]) rfl ⟨by rw[HFIN.out],F5.out.drew⟩
    ·have hs0:S1.size=0:=by omega
     have hpay:payB t1=t1:=by
      have:t1=[]:=by
       rw[<-hl1];exact List.length_eq_zero_iff.1 (by rw[b1!];exact hs0)
      rw[this]
      rfl
     have hs0':¬(0:Int)<(S1.size:Int):=by omega
     clear hs0 hz hl1 fr1;have HFIN:Hid (BS++(⟨#[112,97,121,32]⟩:ByteArray)++S0++(⟨#[32]⟩:ByteArray)++S1++(⟨#[10]⟩:ByteArray)=str T):=by
      have hT:=HT.out;have hBS:=HBS.out
      simp[stmtO,lineB,Lib.join,hpay]at hT
      refine c0! ?_;rw[<-hT]
      simp[<-hBS,<-hS0,<-hS1,str_list,ByteArray.data_append]
     clear hpay;go_upto_region 36 with fail;have c0:w5.cell? ⟨b0,0,none⟩=some (.string S0):=C0.out;have c1:w5.cell? ⟨b0,1,none⟩=some (.string S1):=C1.out;have zz1:=x! (BS.size+4);have zz2:=x! (BS.size+4+S0.size);have zz3:=x! (BS.size+4+S0.size+1);have zz4:=x! (BS.size+4+S0.size+1+S1.size);have zz5:=x! (BS.size+4+S0.size+1+S1.size+1);have KQ8:Hid (∀V,Below w5.heap.size w5 V->V.cell? ⟨b0,0,none⟩=some (.string S0)∧V.cell? ⟨b0,1,none⟩=some (.string S1)):=λV hV=>⟨(hV.cell (p:=⟨b0,0,none⟩) HB0.out).trans c0,(hV.cell (p:=⟨b0,1,none⟩) HB0.out).trans c1⟩
     have f1:=(Below.refl w5.heap.size w5).drew
     go_region_held3 (λV=>V.cell? ⟨b0,0,none⟩=some (.string S0)∧V.cell? ⟨b0,1,none⟩=some (.string S1)) (first|(with_reducible exact KQ8.out _ f1)) (fail)
     all_goals
      go_wp2_with fail;refine bodyPost_ret (v:=.tuple #[.string (BS++(⟨#[112,97,121,32]⟩:ByteArray)++S0++(⟨#[32]⟩:ByteArray)++S1++(⟨#[10]⟩:ByteArray)),.bool true]) (by simp[results,Tryz.results137,go_sem]) rfl ⟨by rw[HFIN.out],F5.out.drew⟩
   ·as_aux_lemma=>
    have hl1:l1=1:=HLM.out;subst hl1;clear HC HLM;obtain⟨t0,rfl⟩:∃t,TE=[t]:=List.length_eq_one_iff.1 HTM.out
    obtain⟨A0,c0,rfl,-⟩:=b2! TX5.out;obtain⟨S0,hS0⟩:∃x,str t0=x:=⟨_,rfl⟩
    have z0:S0.size<=500000:=by rw[<-hS0,str_size];exact HTL.out _ (by simp)
    have RX:Reads w5 w5.heap.size 1 A0 1 [.string S0]:=by rw[<-hS0];exact Reads.of_own TX5.out
    obtain⟨b0,o0,rfl,hb0,q⟩:=RX.chunk (k:=0) (by omega) (by omega) rfl;have q0:w5.cell? ⟨b0,o0,none⟩=some (.string S0):=by simpa using q 0 _ rfl
    clear q RX;have HFIN:Hid (BS++(⟨#[114,101,115,116,32]⟩:ByteArray)++S0++(⟨#[10]⟩:ByteArray)=str T):=by
     have hT:=HT.out;have hBS:=HBS.out
     simp[stmtO,lineB,Lib.join]at hT
     refine c0! ?_;rw[<-hT]
     simp[<-hBS,<-hS0,str_list,ByteArray.data_append]
    go_wp2_with fail;refine bodyPost_ret (v:=.tuple #[.string (BS++(⟨#[114,101,115,116,32]⟩:ByteArray)++S0++(⟨#[10]⟩:ByteArray)),.bool true]) (by simp[results,Tryz.results137,go_sem]) rfl ⟨by rw[HFIN.out],F5.out⟩
theorem b95!:∀n,a31! n
 |0=>b80! 0 (λ_ _ _ _ _ _ _ _ _ _ _ _ _ _ _ s _ _ h=>absurd h (by cases s;exact id))
 |n+1=>b80! (n+1) (f13! n (b95! n))
end Go.Proofs.YtdgekckedchjbaaGreatDoor
