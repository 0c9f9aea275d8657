
/-
 The writer's program. (Printed by wip/tools/genv16.py.)
-/
import Derived.Test.YtdgekckedchjbaaGreatDoorQO
import Derived.Deep.DeepCutAuto
set_option maxHeartbeats 16000000
set_option maxRecDepth 100000
namespace Go.Proofs.YtdgekckedchjbaaGreatDoor
open Go.RowKit
variable {D:Nat->Prop} {w:World} {A:Option Addr} {i len:Nat}
def GrowI(W:World)(v:Value)(ps:List ByteArray)(wr:World):Prop:=Below W.heap.size W wr∧OS wr W.heap.size v ps
theorem GrowI.push{W wr wi w2:World}{v v2:Value}{ps qs:List ByteArray}(h:GrowI W v ps wr)(hb:Below wr.heap.size wr wi)(ho:w2.ownsRow W.heap.size 9 1 v2 (ps.length+qs.length) (ps.map Value.string++qs.map Value.string))(hg:wi.grownBy w2 v.ownBlock):GrowI W v2 (ps++qs) w2:=by
 refine⟨?_,OS.more ho⟩
 have h1:=h.1.trans (hb.mono h.1.size)
 exact h1.grown hg h1.size (λk hk=>(h.2.lt k hk).1)
theorem f22!{s:ByteArray}{l:List UInt8}(h:s.data.toList=l):s=str l:=by
 subst h
 simp[str]
theorem ElsG.int_at{l:List Int}(h:ElsG D w 1 1000000 (QI D w) A len l)(hi:i<l.length):∃b o,A=some ⟨b,o,none⟩∧D b∧b<w.heap.size∧w.cell? ⟨b,o+i,none⟩=some (.I l[i]):=by
 obtain⟨xs,h1,h0,-,h4,h5⟩:=h
 have hc:=h5 i hi
 obtain⟨b,o,hA,hb,hq⟩:=h1.chunk (by omega) (show i<len by omega) hc
 refine⟨b,o,hA,h0 (by omega) _ hA,hb,?_⟩
 have:=hq 0 _ rfl
 simpa using this
theorem ElsG.va_at{l:List Va}(h:ElsG D w 4 1000000 (QV D w) A len l)(hi:i<l.length):∃b o,A=some ⟨b,o,none⟩∧D b∧b<w.heap.size∧w.cell? ⟨b,o+i*4,none⟩=some (.string (str l[i].nm))∧w.cell? ⟨b,o+i*4+1,none⟩=some (.I l[i].size)∧
 w.cell? ⟨b,o+i*4+2,none⟩=some (.I l[i].lo)∧w.cell? ⟨b,o+i*4+3,none⟩=some (.I l[i].hi):=by
 obtain⟨xs,h1,h0,-,h4,h5⟩:=h
 have hc:=h5 i hi
 obtain⟨b,o,hA,hb,hq⟩:=h1.chunk (by omega) (show i<len by omega) hc
 exact⟨b,o,hA,h0 (by omega) _ hA,hb,hq 0 _ rfl,hq 1 _ rfl,hq 2 _ rfl,hq 3 _ rfl⟩
def g7!(l:List Int):List ByteArray:=l.map λn=>str (Lib.itoa n)
theorem f23!(base d g room:Nat)(ob:Option Nat)(l:List UInt8)(bad:Bool)(p:Px)(NM SIL:ByteArray)(seats:Int)(A1:Option Addr)(n1 c1:Nat)(A2:Option Addr)(n2 c2:Nat)(A3:Option Addr)(n3 c3:Nat)(A4:Option Addr)(n4 c4:Nat)(A5:Option Addr)(n5 c5:Nat)
 (A6:Option Addr) (n6 c6:Nat) (A7:Option Addr) (n7 c7:Nat) (A8:Option Addr) (n8 c8:Nat) (w:World) (hT:Tabs base w) (hP:TabP base w) (h:Wr base w g ob room l bad) (hd:d<=800)
 (hpx:PX d (λk=>k<base) w (#[.string NM,.I seats,.slice A1 n1 c1,.slice A2 n2 c2,.slice A3 n3 c3,.slice A4 n4 c4,.slice A5 n5 c5,.slice A6 n6 c6,.string SIL,.slice A7 n7 c7,.slice A8 n8 c8]:Array Value).toList p):
 Calls Tryz.prog 29 #[.pointer (some ⟨g,0,none⟩),.agg #[.string NM,.I seats,.slice A1 n1 c1,.slice A2 n2 c2,.slice A3 n3 c3,.slice A4 n4 c4,.slice A5 n5 c5,.slice A6 n6 c6,.string SIL,.slice A7 n7 c7,.slice A8 n8 c8]] w (b5! base w g ob room l bad (rawP p)):=by
 obtain⟨hfit,v1,v2,v3,v4,v5,v6,v7,v8,hcs,k1,k2,k3,k4,k5,k6,k7,k8⟩:=hpx
 simp only[List.cons.injEq]at hcs
 obtain⟨e0,e1,rfl,rfl,rfl,rfl,rfl,rfl,e8,rfl,rfl,-⟩:=hcs
 injection e0 with e0
 injection e1 with _ e1
 injection e8 with e8
 obtain⟨_,_,_,q,k1⟩:=k1
 injection q with q1 q2 q3
 subst q1 q2 q3
 obtain⟨_,_,_,q,k2⟩:=k2
 injection q with q1 q2 q3
 subst q1 q2 q3
 obtain⟨_,_,_,q,k3⟩:=k3
 injection q with q1 q2 q3
 subst q1 q2 q3
 obtain⟨_,_,_,q,k4⟩:=k4
 injection q with q1 q2 q3
 subst q1 q2 q3
 obtain⟨_,_,_,q,k5⟩:=k5
 injection q with q1 q2 q3
 subst q1 q2 q3
 obtain⟨_,_,_,q,k6⟩:=k6
 injection q with q1 q2 q3
 subst q1 q2 q3
 obtain⟨_,_,_,q,k7⟩:=k7
 injection q with q1 q2 q3
 subst q1 q2 q3
 obtain⟨_,_,_,q,k8⟩:=k8
 injection q with q1 q2 q3
 subst q1 q2 q3
 have hn1:n1<=1000000∧p.stakes.length=n1:=by obtain⟨_,_,_,a,b,_⟩:=k1;exact⟨a,b⟩
 have hn2:n2<=1000000∧p.vars.length=n2:=by obtain⟨_,_,_,a,b,_⟩:=k2;exact⟨a,b⟩
 have hn5:n5<=1000000∧p.params.length=n5:=by obtain⟨_,_,_,a,b,_⟩:=k5;exact⟨a,b⟩
 have K1:=h! k1
 have K2:=h! k2
 have K3:=h! k3
 have K4:=h! k4
 have K5:=h! k5
 have K6:=h! k6
 have K7:=h! k7
 have K8:=h! k8
 have HFit:=h! hfit
 have HNM:Hid (NM.data.toList=p.nm):=by rw[e0];exact str_list _
 have HSIL:Hid (SIL.data.toList=p.silent):=by rw[e8];exact str_list _
 have HSE:=h! e1
 have zNM:NM.data.size<=1000000:=by rw[e0];simpa[str]using hfit.1
 have zSIL:SIL.data.size<=1000000:=by rw[e8];simpa[str]using hfit.2.1
 have hm1:=hn1.1
 have hm2:=hn2.1
 have hm5:=hn5.1
 have HN1:=h! hn1.2
 have HN2:=h! hn2.2
 have HN5:=h! hn5.2
 have fSE:FitN seats:=e1▸hfit.2.2.1
 have f0:=a! w (.cells #[.string NM,.I seats,.slice A1 n1 c1,.slice A2 n2 c2,.slice A3 n3 c3,.slice A4 n4 c4,.slice A5 n5 c5,.slice A6 n6 c6,.string SIL,.slice A7 n7 c7,.slice A8 n8 c8] 48)
 have HH:=h! h
 have H0:=h! (h.below f0)
 have X0:=h! (Blk.new w 48 #[.string NM,.I seats,.slice A1 n1 c1,.slice A2 n2 c2,.slice A3 n3 c3,.slice A4 n4 c4,.slice A5 n5 c5,.slice A6 n6 c6,.string SIL,.slice A7 n7 c7,.slice A8 n8 c8])
 have FX0:=h! (Far.new h (.cells #[.string NM,.I seats,.slice A1 n1 c1,.slice A2 n2 c2,.slice A3 n3 c3,.slice A4 n4 c4,.slice A5 n5 c5,.slice A6 n6 c6,.string SIL,.slice A7 n7 c7,.slice A8 n8 c8] 48))
 have T0:=h! (Turns.of_below (g:=g) (ob:=ob) f0)
 have TB0:=h! (hT.low (f0.mono h.low))
 have TP0:=h! (hP.low (f0.mono h.low))
 have hr1:=h.2.2.1
 have hr2:=h.2.2.2.1
 clear f0 hT hP h k1 k2 k3 k4 k5 k6 k7 k8 hfit e0 e1 e8 hn1 hn2 hn5
 go_enter Tryz.func29,Tryz.ntmps29
 go_upto_region 1 with fail
 generalize w.alloc (.cells #[.string NM,.I seats,.slice A1 n1 c1,.slice A2 n2 c2,.slice A3 n3 c3,.slice A4 n4 c4,.slice A5 n5 c5,.slice A6 n6 c6,.string SIL,.slice A7 n7 c7,.slice A8 n8 c8] 48)=W0 at*
 have s0:=(X0.out).c0
 have f21:=a! W0 (.cells #[.string ⟨#[103,97,109,101]⟩,.string NM] 9)
 have R21:=h! (k1! W0 ⟨#[103,97,109,101]⟩ NM)
 have H21:=h! ((H0.out).below f21)
 have A21:=h! (Turns.of_below (g:=g) (ob:=ob) f21)
 clear f21
 go_wp2_with fail
 refine(c6! base g room 0 ob l bad _ 2 2 [⟨#[103,97,109,101]⟩,NM] _ H21.out (by omega) R21.out (by omega) (by omega) (by omega) (b6! (by simp only[List.map_cons,List.map_nil,List.sum_cons,List.sum_nil,List.size_toArray,List.length_cons,List.length_nil];omega))).mono ?_
 rintro e w21⟨rfl,ob21,l21,b21,t21,r21,o21⟩
 have T21':=h! ((T0.out).trans (A21.out.trans t21))
 have FX21:=h! ((FX0.out).turn (A21.out.trans t21))
 have X21:=h! ((FX0.out).blk (A21.out.trans t21) (X0.out))
 have TB21:=h! ((TB0.out).low ((A21.out.trans t21).low H0.out))
 have TP21:=h! ((TP0.out).low ((A21.out.trans t21).low H0.out))
 have HR21:=h! r21
 have HO21:=h! o21
 clear t21 r21 o21
 clear s0
 have s1:=(X21.out).c1
 obtain⟨SEt,hSEt⟩:∃x,x=str (Lib.itoa seats):=⟨_,rfl⟩
 have zSEt:SEt.data.size<=21:=by rw[hSEt];simpa[str]using f1! fSE
 have HSEt:Hid (SEt.data.toList=Lib.itoa seats):=by rw[hSEt];exact str_list _
 have ISEt:Hid (Calls Tryz.prog 66 #[.I seats] w21 λe w'=>e=.returned (.string SEt)∧Below w21.heap.size w21 w'):=by rw[hSEt];exact h7! base seats w21 TB21.out fSE
 clear hSEt
 go_wp2_with fail
 refine ISEt.out.mono ?_
 rintro e w22⟨rfl,bb22⟩
 clear ISEt
 have H22:=h! ((HR21.out).below (bb22))
 have T22:=h! ((T21'.out).below (bb22))
 have FX22:=h! ((FX21.out).below (bb22))
 have X22:=h! ((X21.out).below (bb22) (X21.out).lt)
 have TB22:=h! ((TB21.out).low ((bb22).mono (HR21.out).low))
 have TP22:=h! ((TP21.out).low ((bb22).mono (HR21.out).low))
 have f23:=a! w22 (.cells #[.string ⟨#[115,101,97,116,115]⟩,.string SEt] 9)
 have R23:=h! (k1! w22 ⟨#[115,101,97,116,115]⟩ SEt)
 have H23:=h! ((H22.out).below f23)
 have A23:=h! (Turns.of_below (g:=g) (ob:=ob21) f23)
 clear f23
 go_wp2_with fail
 refine(c6! base g room 0 ob21 l21 b21 _ 2 2 [⟨#[115,101,97,116,115]⟩,SEt] _ H23.out (by omega) R23.out (by omega) (by omega) (by omega) (b6! (by simp only[List.map_cons,List.map_nil,List.sum_cons,List.sum_nil,List.size_toArray,List.length_cons,List.length_nil];omega))).mono ?_
 rintro e w23⟨rfl,ob23,l23,b23,t23,r23,o23⟩
 have T23':=h! ((T22.out).trans (A23.out.trans t23))
 have FX23:=h! ((FX22.out).turn (A23.out.trans t23))
 have X23:=h! ((FX22.out).blk (A23.out.trans t23) (X22.out))
 have TB23:=h! ((TB22.out).low ((A23.out.trans t23).low H22.out))
 have TP23:=h! ((TP22.out).low ((A23.out.trans t23).low H22.out))
 have HR23:=h! r23
 have HO23:=h! ((HO21.out).then_ o23)
 clear t23 r23 o23
 clear s1
 obtain⟨WS,hWS⟩:∃x,x=w23:=⟨_,rfl⟩
 have LT:=h! (OS.lit1 w23 ⟨#[115,116,97,107,101]⟩ (Nat.le_refl w23.heap.size))
 have FS:=a! w23 (.cells #[.string ⟨#[115,116,97,107,101]⟩] 9)
 have GS0:Hid (GrowI w23 (.slice (some ⟨w23.heap.size,0,none⟩) 1 1) [⟨#[115,116,97,107,101]⟩] (w23.alloc (.cells #[.string ⟨#[115,116,97,107,101]⟩] 9))):=⟨FS,LT.out⟩
 have xq:=(X23.out).below FS (X23.out).lt
 have x2:=xq.c2
 clear LT FS xq hWS
 go_upto_region 4 with fail
 generalize w23.alloc (.cells #[.string ⟨#[115,116,97,107,101]⟩] 9)=WT at*
 go_wp2_with fail
 clear x2
 go_loopw [4,29] (λv i wr=>∃k:Nat,k<=n1∧i=.I k∧Hid (GrowI w23 v (⟨#[115,116,97,107,101]⟩::g7! (p.stakes.take k)) wr)) (λ_ i _=>n1-(intOf i).toNat)
 case atStart=>exact⟨0,by omega,rfl,GS0.out⟩
 case round=>
  obtain⟨k,hk,rfl,hg⟩:=hrel
  by_cases hlt:k<n1
  ·have hkl:k<p.stakes.length:=by rw[HN1.out];exact hlt
   obtain⟨b,o,rfl,hbb,hb,hc⟩:=K1.out.int_at hkl;have FN:=HFit.out.2.2.2.1 _ (List.getElem_mem hkl);have HTK:Hid (g7! (p.stakes.take (k+1))=g7! (p.stakes.take k)++[str (Lib.itoa p.stakes[k])]):=by
    unfold g7!;rw[List.take_succ_eq_append_getElem hkl,List.map_append]
    rfl
   generalize p.stakes[k]=sk at*;have hlow:Below base w wr:=((T23'.out).low HH.out).trans (hg.out.1.mono (HR23.out).low);have c0:wr.cell? ⟨b,o+k,none⟩=some (.I sk):=(hlow.cell (p:=⟨b,o+k,none⟩) hbb).trans hc;have g1:(0:Int)<=(k:Int):=by omega
   have g2:(k:Int)<(n1:Int):=by omega
   obtain⟨S,hS⟩:∃x,x=str (Lib.itoa sk):=⟨_,rfl⟩
   have IS:Hid (Calls Tryz.prog 66 #[.I sk] wr λe w'=>e=.returned (.string S)∧Below wr.heap.size wr w'):=by rw[hS];exact h7! base sk wr (((TB23.out).low (hg.out.1.mono (HR23.out).low))) FN
   have HSX:=h! hS;obtain⟨i0,hi0,hz0,hz1,hz2⟩:=info_parts v1!;clear hc hlow hS;go_wp2_with fail;refine IS.out.mono ?_;rintro e wi⟨rfl,bi⟩;have BI:=h! bi;have RD:=h! (show Reads (wi.alloc (.cells #[.string S] 9)) (wi.heap.size+1) 1 (some ⟨wi.heap.size,0,none⟩) 1 [.string S]from d1! wi 9 #[.string S] 1 rfl);have OI:=h! (World.ownsRow.alloc (hg.out.2.below bi) (.cells #[.string S] 9));have hsz:=h! (Nat.le_trans hg.out.1.size bi.size);have hlen:(⟨#[115,116,97,107,101]⟩::g7! (p.stakes.take k)).length=k+1:=by
    unfold g7!;rw[List.length_cons,List.length_map,List.length_take,Nat.min_eq_left (by omega)]
   have HLN:=h! hlen;clear bi IS c0 hlen
   go_wp2_with (at_builtin;refine e5! _ (by rfl) (.tmp 33) (.tmp 36) 59 rfl w23.heap.size 9 i0 _ 1 16 Tryz.underlying59 hi0 hz0 hz1 hz2 rfl (by omega) _ _ _ rfl OI.out _ _ 1 1 [.string S] rfl RD.out (v2! [S]) (by rw[HLN.out];unfold maxLen;omega) (by rw[HLN.out];omega) (by have:=hsz.out;simp;omega) ?_)
   intro v8 w8 o8 g8 _
   have NG:Hid (GrowI w23 v8 (⟨#[115,116,97,107,101]⟩::g7! (p.stakes.take (k+1))) w8):=by
    have:=hg.out.push (qs:=[S]) (BI.out.al _) o8 g8;rw[HTK.out,<-HSX.out];exact this
   clear o8 g8;go_wp2_with fail
   go_roundw
   case rel=>exact⟨k+1,by omega,by go_num,NG⟩
   case measure=>simp[intOf];omega
  ·obtain rfl:k=n1:=by omega
   obtain⟨SA,sc,hv,hsc,hrv⟩:=hg.out.2.form;obtain⟨m,hm⟩:∃m,m=((⟨#[115,116,97,107,101]⟩:ByteArray)::g7! (p.stakes.take k)).length:=⟨_,rfl⟩
   rw[<-hm]at hv hsc hrv;subst hv;have hmk:m=k+1:=by
    rw[hm];unfold g7!;rw[List.length_cons,List.length_map,List.length_take,Nat.min_eq_left (by have:=HN1.out;omega)]
   have hm0:0<m∧m<=10000000:=by omega
   have hjn:(Lib.join (((⟨#[115,116,97,107,101]⟩:ByteArray)::g7! (p.stakes.take k)).map (·.data.toList)) [32]).length<=140737488355328:=by
    refine b6! (Nat.le_trans (a01! (B:=30) ?_) ?_)
    ·intro x hx
     rcases List.mem_cons.1 hx with rfl|hx
     ·decide
     ·obtain⟨y,hy,rfl⟩:=List.mem_map.1 hx
      have:=f1! (HFit.out.2.2.2.1 y (List.mem_of_mem_take hy))
      simpa[str]using Nat.le_trans this (by decide)
    ·rw[<-hm]
     omega
   have HM:=h! hmk;have HSC:=h! hsc;have HRV:=h! hrv;have HJN:=h! hjn;clear hm hmk hsc hrv hjn;obtain⟨WA,rfl⟩:∃x,x=wr:=⟨_,rfl⟩
   have H40:=h! ((HR23.out).below (hg.out.1));have T40:=h! ((T23'.out).below (hg.out.1));have FX40:=h! ((FX23.out).below (hg.out.1));have X40:=h! ((X23.out).below (hg.out.1) (X23.out).lt);have TB40:=h! ((TB23.out).low ((hg.out.1).mono (HR23.out).low));have TP40:=h! ((TP23.out).low ((hg.out.1).mono (HR23.out).low));go_wp2_with fail;refine(c6! base g room 0 ob23 l23 b23 SA m sc _ WA H40.out (by omega) HRV.out hm0.1 HSC.out hm0.2 HJN.out).mono ?_;rintro e w41⟨rfl,ob41,l41,b41,t41,r41,o41⟩;have T41':=h! ((T40.out).trans (t41));have FX41:=h! ((FX40.out).turn (t41));have X41:=h! ((FX40.out).blk (t41) (X40.out));have TB41:=h! ((TB40.out).low ((t41).low H40.out));have TP41:=h! ((TP40.out).low ((t41).low H40.out));have HR41:=h! r41;have HO41:=h! ((HO23.out).then_ o41);clear t41 r41 o41;have s3:=(X41.out).c3;go_wp2_with fail;clear s3
   go_loopw [45] (λi wr=>∃k:Nat,k<=n2∧i=.I k∧Hid (Wrote base w41 g ob41 room l41 b41 (some ((p.vars.take k).map varB).flatten) wr)) (λi _=>n2-(intOf i).toNat)
   case atStart=>exact⟨0,by omega,rfl,Wrote.none_ HR41.out⟩
   case round=>
    obtain⟨k2,hk2,rfl,hw⟩:=hrel;obtain⟨ob1,l1,b1,t1,w1,o1⟩:=hw.out;have T1:=h! t1;have R1:=h! w1;have O1:=h! o1;clear hw t1 w1 o1
    by_cases hlt:k2<n2
    ·have hkl:k2<p.vars.length:=by rw[HN2.out];exact hlt
     obtain⟨b,o,rfl,hbb,hb,c0,c1',c2',c3'⟩:=K2.out.va_at hkl;obtain⟨fvn,fvs,fvl,fvh⟩:=HFit.out.2.2.2.2.1 _ (List.getElem_mem hkl);have HTK:Hid (((p.vars.take (k2+1)).map varB).flatten=((p.vars.take k2).map varB).flatten++varB p.vars[k2]):=by
      rw[List.take_succ_eq_append_getElem hkl,List.map_append,List.flatten_append]
      simp[Hid]
     generalize p.vars[k2]=va at*;obtain⟨vn,vs,vl,vh⟩:=va
     simp only at c0 c1' c2' c3' fvn fvs fvl fvh
     obtain⟨VN,hVN⟩:∃x,x=str vn:=⟨_,rfl⟩
     rw[<-hVN]at c0;have hlow:Below base w wr:=((T41'.out).low HH.out).trans (T1.out.low HR41.out);have q0:=(hlow.cell (p:=⟨b,o+k2*4,none⟩) hbb).trans c0;have q1:=(hlow.cell (p:=⟨b,o+k2*4+1,none⟩) hbb).trans c1';have q2:=(hlow.cell (p:=⟨b,o+k2*4+2,none⟩) hbb).trans c2';have q3:=(hlow.cell (p:=⟨b,o+k2*4+3,none⟩) hbb).trans c3';have zVN:VN.data.size<=1000000:=by rw[hVN];simpa[str]using fvn
     have HVN:Hid (VN.data.toList=vn):=by rw[hVN];exact str_list _
     obtain⟨W3,eW,f3,E3,-⟩:=n! wr 89 #[.string VN,.I vs,.I vl,.I vh];replace E3:=h! E3;have R3:=h! (R1.out.below f3);have T3:=h! (T1.out.below f3);have TB3:=h! (((TB41.out).low (T1.out.low HR41.out)).low (f3.mono R1.out.low));have g1:(0:Int)<=(k2:Int):=by omega
     have g2:(k2:Int)<(n2:Int):=by omega
     clear c0 c1' c2' c3' hVN hlow f3;go_upto_region 13 with fail;clear q0 q1 q2 q3;rw[eW.out];clear eW;have e0:=E3.out.c0;have GI0:Hid (GrowI W3 (.slice (some ⟨W3.heap.size,0,none⟩) 2 2) [⟨#[118,97,114]⟩,VN] (W3.alloc (.cells #[.string ⟨#[118,97,114]⟩,.string VN] 9))):=⟨(Below.refl _ _).al _,OS.lit2 W3 _ _ (Nat.le_refl _)⟩;have e1:(W3.alloc (.cells #[.string ⟨#[118,97,114]⟩,.string VN] 9)).cell? ⟨wr.heap.size,1,none⟩=some (.I vs):=(E3.out.alloc _).cell 1;go_upto_region 14 with fail;clear e0;generalize W3.alloc (.cells #[.string ⟨#[118,97,114]⟩,.string VN] 9)=W4 at*;obtain⟨ps9,hps9⟩:∃ps9,ps9=if vs=0 then [(⟨#[118,97,114]⟩:ByteArray),VN]else [⟨#[118,97,114]⟩,VN,⟨#[91]⟩,str (Lib.itoa vs),⟨#[93]⟩]:=⟨_,rfl⟩
     have HPS:=h! hps9;clear hps9
     go_upto_if 54 with fail
     go_cut [9] (λv wx=>Hid (GrowI W3 v ps9 wx))
     case first=>
      by_cases hv0:vs=0
      ·have hv0':(vs==0)=true:=by simp[hv0]
       have HV0:=h! hv0;clear hv0;go_wp2_with fail;go_meet
       case rel=>rw[HPS.out,if_pos HV0.out];exact GI0.out
      ·have hv0':(vs==0)=false:=by simp[hv0]
       have HV0:=h! hv0;clear hv0;obtain⟨S,hS⟩:∃x,x=str (Lib.itoa vs):=⟨_,rfl⟩
       have IS:Hid (Calls Tryz.prog 66 #[.I vs] W4 λe w'=>e=.returned (.string S)∧Below W4.heap.size W4 w'):=by rw[hS];exact h7! base vs W4 (TB3.out.low (GI0.out.1.mono R3.out.low)) fvs
       have HSX:=h! hS;obtain⟨i0,hi0,hz0,hz1,hz2⟩:=info_parts v1!;clear hS;go_wp2_with fail;refine IS.out.mono ?_;rintro e wi⟨rfl,bi⟩;have BI:=h! bi;have RD:=h! (j8! wi ⟨#[91]⟩ S ⟨#[93]⟩);have OI:=h! (World.ownsRow.alloc (GI0.out.2.below bi) (.cells #[.string ⟨#[91]⟩,.string S,.string ⟨#[93]⟩] 9));have hsz:=h! (Nat.le_trans GI0.out.1.size bi.size);clear bi IS
       go_wp2_with (at_builtin;refine e5! _ (by rfl) (.tmp 55) (.tmp 59) 59 rfl W3.heap.size 9 i0 _ 1 16 Tryz.underlying59 hi0 hz0 hz1 hz2 rfl (by omega) _ _ _ rfl OI.out _ _ 3 3 ([(⟨#[91]⟩:ByteArray),S,⟨#[93]⟩].map Value.string) rfl RD.out (v2! _) (by simp;unfold maxLen;omega) (by simp) (by have:=hsz.out;simp;omega) ?_)
       intro v8 w8 o8 g8 _
       have NG:Hid (GrowI W3 v8 ps9 w8):=by
        have:=GI0.out.push (qs:=[⟨#[91]⟩,S,⟨#[93]⟩]) (BI.out.al _) o8 g8;rw[HPS.out,if_neg HV0.out,<-HSX.out];exact this
       clear o8 g8;go_wp2_with fail;go_meet
       case rel=>exact NG.out
     case rest=>
     obtain⟨v9,rfl⟩:∃x,x=u9:=⟨_,rfl⟩
     have GI:=h! hcut.out;have hlen9:ps9.length<=5:=by rw[HPS.out];split<;>simp
     clear hcut GI0;obtain⟨SL,hSL⟩:∃x,x=str (Lib.itoa vl):=⟨_,rfl⟩
     obtain⟨SH,hSH⟩:∃x,x=str (Lib.itoa vh):=⟨_,rfl⟩
     have HSL:=h! hSL;have HSH:=h! hSH;have IL:Hid (∀W,Below wc.heap.size wc W->Calls Tryz.prog 66 #[.I vl] W λe w'=>e=.returned (.string SL)∧Below W.heap.size W w'):=λW hW=>by rw[HSL.out];exact h7! base vl W (TB3.out.low ((GI.out.1.trans (hW.mono GI.out.1.size)).mono R3.out.low)) fvl
     have IH:Hid (∀W,Below wc.heap.size wc W->Calls Tryz.prog 66 #[.I vh] W λe w'=>e=.returned (.string SH)∧Below W.heap.size W w'):=λW hW=>by rw[HSH.out];exact h7! base vh W (TB3.out.low ((GI.out.1.trans (hW.mono GI.out.1.size)).mono R3.out.low)) fvh
     have FB:Hid (∀W,Below W3.heap.size W3 W->W.cell? ⟨wr.heap.size,2,none⟩=some (.I vl)∧W.cell? ⟨wr.heap.size,3,none⟩=some (.I vh)):=λW hW=>⟨(E3.out.below hW E3.out.lt).cell 2,(E3.out.below hW E3.out.lt).cell 3⟩
     have hj9:(Lib.join ((ps9++[SL,SH]).map (·.data.toList)) [32]).length<=140737488355328:=by
      refine b6! (Nat.le_trans (a01! (B:=1000000) ?_) (by simp;omega))
      intro x hx
      have hit:∀n,FitN n->(str (Lib.itoa n)).data.size<=1000000:=λn hn=>by
       have:=f1! hn
       simpa[str]using Nat.le_trans this (by decide)
      rcases List.mem_append.1 hx with hx|hx
      ·rw[HPS.out]at hx
       split at hx<;>simp only[List.mem_cons,List.not_mem_nil,or_false]at hx
       ·rcases hx with rfl|rfl
        ·decide
        ·exact zVN
       ·rcases hx with rfl|rfl|rfl|rfl|rfl
        ·decide
        ·exact zVN
        ·decide
        ·exact hit _ fvs
        ·decide
      ·simp only[List.mem_cons,List.not_mem_nil,or_false]at hx
       rcases hx with rfl|rfl
       ·rw[HSL.out];exact hit _ fvl
       ·rw[HSH.out];exact hit _ fvh
     have LN:Hid (∀W A c,GrowI W3 (.slice A (ps9.length+2) c) (ps9++[SL,SH]) W->ps9.length+2<=c->RV W A (ps9.length+2) ((ps9++[SL,SH]).map Value.string)->Calls Tryz.prog 65 #[.pointer (some ⟨g,0,none⟩),.I 0,.slice A (ps9.length+2) c] W (b5! base W g ob1 room l1 b1 (some (lineB 0 ((ps9++[SL,SH]).map (·.data.toList)))))):=λW A c hW hc hrv=>
      c6! base g room 0 ob1 l1 b1 A _ c _ W (R3.out.below hW.1) (by omega) hrv (by omega) hc (by omega) hj9
     have FT:Hid (∀W w' ob',Below W3.heap.size W3 W->Turns W g ob1 w' ob'->w'.cell? ⟨wr.heap.size,2,none⟩=some (.I vl)∧w'.cell? ⟨wr.heap.size,3,none⟩=some (.I vh)):=λW w' ob' hW ht=>by
      have FF:Far W g ob1 wr.heap.size:=(Far.below (w:=W3) ⟨λe=>by have:=R1.out.lt;omega,λe=>by have:=R1.out.own_lt_ _ e;omega,E3.out.lt⟩ hW);have BB:=FF.blk ht (E3.out.below hW E3.out.lt);exact⟨BB.cell 2,BB.cell 3⟩
     obtain⟨i0,hi0,hz0,hz1,hz2⟩:=info_parts v1!;have bb0:=h! ((Below.refl wc.heap.size wc).drew);have OW:Hid (∀W,Below wc.heap.size wc W->W.ownsRow W3.heap.size 9 1 v9 ps9.length (ps9.map Value.string)):=λW hW=>GI.out.2.below hW
     have GS9:=h! GI.out.1.size;clear hSL hSH hj9;go_upto_region 16 with fail;have q0:=FB.out _ (GI.out.1.trans (bb0.out.mono GI.out.1.size))
     go_region_held3 (λW=>W.cell? ⟨wr.heap.size,2,none⟩=some (.I vl)∧W.cell? ⟨wr.heap.size,3,none⟩=some (.I vh))
      (first|exact qe|exact qd|exact qc _|exact q2|exact q1|exact q0)
      (first
       |(go_at_call 66;(with_reducible refine(IL.out _ bb0.out).mono ?_);rintro e wa1⟨rfl,ba1⟩;have bb1:=r! bb0 ba1;have q1:=FB.out _ (GI.out.1.trans (bb1.out.mono GS9.out));clear ba1)
       |(go_at_call 66;(with_reducible refine(IH.out _ bb1.out).mono ?_);rintro e wa2⟨rfl,ba2⟩;have bb2:=r! bb1 ba2;have q2:=FB.out _ (GI.out.1.trans (bb2.out.mono GS9.out));have qc:=λo=>FB.out _ (GI.out.1.trans ((bb2.out.al o).mono GS9.out));have RD:=h! (k1! wa2 SL SH);have OI:=h! (OW.out _ (bb2.out.al (.cells #[.string SL,.string SH] 9)));have hsz:=h! (Nat.le_trans GS9.out bb2.out.size);clear ba2)
       |(refine g5! _ (by rfl) (.tmp 62) (.tmp 69) _ (by rfl) W3.heap.size 9 i0 _ 1 16 Tryz.underlying59 hi0 hz0 hz1 hz2 rfl (by omega) v9 ps9.length (ps9.map Value.string) (by rfl) OI.out _ _ 2 2 ([SL,SH].map Value.string) (by rfl) RD.out (v2! _) (by unfold maxLen;omega) (by omega) (by have:=hsz.out;simp;omega) ?_;intro u8 x8 r8 g8 t8;have GX:=h! (GI.out.push (qs:=[SL,SH]) (bb2.out.al (.cells #[.string SL,.string SH] 9)) r8 g8);obtain⟨AX8,cX8,hu8,hc8,hr8⟩:=OS.form GX.out.2;rw[List.length_append]at hu8 hc8 hr8;subst hu8;have qd:=FB.out _ GX.out.1;have LN8:=h! (LN.out x8 AX8 cX8 GX.out hc8 hr8);clear r8 g8 t8 hc8 hr8)
       |(go_at_call 65;(with_reducible refine LN8.out.mono ?_);rintro e w9⟨rfl,ob9,l9,b9,t9,r9,o9⟩;have qe:=FT.out x8 w9 ob9 GX.out.1 t9;have TT9:=h! t9;have RR9:=h! r9;have OO9:=h! o9;clear t9 r9 o9))
     have HVB:Hid (lineB 0 ((ps9++[SL,SH]).map (·.data.toList))=varB ⟨vn,vs,vl,vh⟩):=by
      have a1:=HVN.out;rw[HPS.out,HSL.out,HSH.out];unfold Hid varB
      simp only
      split<;>simp[str_list,a1]
     have NW:Hid (Wrote base w41 g ob41 room l41 b41 (some ((p.vars.take (k2+1)).map varB).flatten) w9):=
      ⟨ob9,l9,b9,(T3.out.below GX.out.1).trans TT9.out,RR9.out,(O1.out.then_ OO9.out).cong (by rw[l7!,HVB.out,HTK.out])⟩
     go_wp2_with fail
     go_roundw
     case rel=>exact⟨k2+1,by omega,by go_num,NW⟩
     case measure=>simp[intOf];omega
    ·obtain rfl:k2=n2:=by omega
     have T50':=h! ((T41'.out).trans T1.out);have FX50:=h! ((FX41.out).turn T1.out);have X50:=h! ((FX41.out).blk T1.out (X41.out));have TB50:=h! ((TB41.out).low (T1.out.low HR41.out));have TP50:=h! ((TP41.out).low (T1.out.low HR41.out));have HO50:=h! ((HO41.out).then_ O1.out);have HR50:=h! R1.out;rw[List.take_of_length_le (Nat.le_of_eq HN2.out)]at HO50;obtain⟨WB,rfl⟩:∃x,x=wr:=⟨_,rfl⟩
     obtain⟨ob50,rfl⟩:∃x,x=ob1:=⟨_,rfl⟩
     obtain⟨l50,rfl⟩:∃x,x=l1:=⟨_,rfl⟩
     obtain⟨b50,rfl⟩:∃x,x=b1:=⟨_,rfl⟩
     clear T1 R1 O1;have s4:=(X50.out).c4;have f51:=a! WB (.cells #[.string ⟨#[115,116,97,114,116]⟩] 9);have R51:=h! (f4! WB ⟨#[115,116,97,114,116]⟩);have H51:=h! ((HR50.out).below f51);have A51:=h! (Turns.of_below (g:=g) (ob:=ob50) f51);have TB51:=h! ((TB50.out).low (f51.mono (HR50.out).low));have TP51:=h! ((TP50.out).low (f51.mono (HR50.out).low));have L51:=h! ((K3.out.low_ ((T50'.out).low HH.out)).low_ (f51.mono (HR50.out).low));clear f51;go_wp2_with fail;refine(q6! base d g room ob50 l50 b50 A3 n3 c3 p.start _ 1 1 [⟨#[115,116,97,114,116]⟩] _ TB51.out TP51.out H51.out L51.out hd R51.out (by omega) (by omega) (by omega) (b6! (by simp only[List.map_cons,List.map_nil,List.sum_cons,List.sum_nil,List.size_toArray,List.length_cons,List.length_nil];omega))).mono ?_;rintro e w51⟨rfl,ob51,l51,b51,t51,r51,o51⟩;clear TB51 TP51 L51;have T51':=h! ((T50'.out).trans (A51.out.trans t51));have FX51:=h! ((FX50.out).turn (A51.out.trans t51));have X51:=h! ((FX50.out).blk (A51.out.trans t51) (X50.out));have TB51:=h! ((TB50.out).low ((A51.out.trans t51).low HR50.out));have TP51:=h! ((TP50.out).low ((A51.out.trans t51).low HR50.out));have HR51:=h! r51;have HO51:=h! ((HO50.out).then_ o51);clear t51 r51 o51;clear s4;have s5:=(X51.out).c5;have f52:=a! w51 (.cells #[.string ⟨#[116,117,114,110]⟩] 9);have R52:=h! (f4! w51 ⟨#[116,117,114,110]⟩);have H52:=h! ((HR51.out).below f52);have A52:=h! (Turns.of_below (g:=g) (ob:=ob51) f52);have TB52:=h! ((TB51.out).low (f52.mono (HR51.out).low));have TP52:=h! ((TP51.out).low (f52.mono (HR51.out).low));have L52:=h! ((K4.out.low_ ((T51'.out).low HH.out)).low_ (f52.mono (HR51.out).low));clear f52;go_wp2_with fail;refine(q6! base d g room ob51 l51 b51 A4 n4 c4 p.turn _ 1 1 [⟨#[116,117,114,110]⟩] _ TB52.out TP52.out H52.out L52.out hd R52.out (by omega) (by omega) (by omega) (b6! (by simp only[List.map_cons,List.map_nil,List.sum_cons,List.sum_nil,List.size_toArray,List.length_cons,List.length_nil];omega))).mono ?_;rintro e w52⟨rfl,ob52,l52,b52,t52,r52,o52⟩;clear TB52 TP52 L52;have T52':=h! ((T51'.out).trans (A52.out.trans t52));have FX52:=h! ((FX51.out).turn (A52.out.trans t52));have X52:=h! ((FX51.out).blk (A52.out.trans t52) (X51.out));have TB52:=h! ((TB51.out).low ((A52.out.trans t52).low HR51.out));have TP52:=h! ((TP51.out).low ((A52.out.trans t52).low HR51.out));have HR52:=h! r52;have HO52:=h! ((HO51.out).then_ o52);clear t52 r52 o52;clear s5;have GP0:Hid (GrowI w52 (.slice (some ⟨w52.heap.size,0,none⟩) 1 1) [⟨#[112,108,97,121]⟩] (w52.alloc (.cells #[.string ⟨#[112,108,97,121]⟩] 9))):=⟨(Below.refl _ _).al _,OS.lit1 w52 _ (Nat.le_refl _)⟩;have x6:(w52.alloc (.cells #[.string ⟨#[112,108,97,121]⟩] 9)).cell? ⟨w.heap.size,6,none⟩=some (.slice A5 n5 c5):=((X52.out).below ((Below.refl _ _).al _) (X52.out).lt).cell 6;go_upto_region 21 with fail;generalize w52.alloc (.cells #[.string ⟨#[112,108,97,121]⟩] 9)=WP0 at*;go_wp2_with fail;clear x6;obtain⟨pn,hpn⟩:∃pn:Nat->List ByteArray,pn=λk=>(([112,108,97,121]::parsK n5 p.params k).map str):=⟨_,rfl⟩
     have HPN:=h! hpn;have hp0:pn 0=[⟨#[112,108,97,121]⟩]:=by rw[hpn];rfl
     clear hpn
     go_loopw [10,87] (λv i wr=>∃k:Nat,k<=n5∧i=.I k∧Hid (GrowI w52 v (pn k) wr)) (λ_ i _=>n5-(intOf i).toNat)
     case atStart=>exact⟨0,by omega,rfl,by rw[hp0];exact GP0.out⟩
     case round=>
      clear hp0;obtain⟨k5,hk5,rfl,hg5⟩:=hrel
      by_cases hlt:k5<n5
      ·have hkl:k5<p.params.length:=by rw[HN5.out];exact hlt
       obtain⟨b,o,rfl,hbb,hb,c0,c1',c2',c3'⟩:=K5.out.va_at hkl;obtain⟨fvn,fvs,fvl,fvh⟩:=HFit.out.2.2.2.2.2 _ (List.getElem_mem hkl);have htk:pn (k5+1)=pn k5++(parP n5 k5 p.params[k5]).map str:=by
        rw[HPN.out]
        simp only[d68! hkl,List.map_cons,List.map_append,List.cons_append]
       have HTK:=h! htk;clear htk;have HPL:Hid ((pn k5).length=1+3*k5):=by
        rw[HPN.out];have:∀(l:List Va) (i:Nat),(parsI n5 i l).length=3*l.length:=by
         intro l
         induction l with
         |nil=>intro i;rfl
         |cons a l ih=>intro i;rw[parsI,List.length_append,ih,List.length_cons];simp[parP];omega
        simp only[List.length_map,List.length_cons,parsK,this,List.length_take,Nat.min_eq_left (Nat.le_of_lt hkl),Hid]
        omega
       generalize p.params[k5]=va at*;obtain⟨vn,vs,vl,vh⟩:=va
       simp only at c0 c1' c2' c3' fvn fvs fvl fvh
       obtain⟨VN,hVN⟩:∃x,x=str vn:=⟨_,rfl⟩
       rw[<-hVN]at c0;have hlow:Below base w wr:=((T52'.out).low HH.out).trans (hg5.out.1.mono (HR52.out).low);have q0:=(hlow.cell (p:=⟨b,o+k5*4,none⟩) hbb).trans c0;have q1:=(hlow.cell (p:=⟨b,o+k5*4+1,none⟩) hbb).trans c1';have q2:=(hlow.cell (p:=⟨b,o+k5*4+2,none⟩) hbb).trans c2';have q3:=(hlow.cell (p:=⟨b,o+k5*4+3,none⟩) hbb).trans c3';have HVN:=h! hVN;obtain⟨W3,eW,f3,E3,-⟩:=n! wr 89 #[.string VN,.I vs,.I vl,.I vh];replace E3:=h! E3;have F3:=h! f3;have XP:=h! (((X52.out).below hg5.out.1 (X52.out).lt).below f3 ((X52.out).below hg5.out.1 (X52.out).lt).lt);have TB3:=h! (((TB52.out).low (hg5.out.1.mono (HR52.out).low)).low (f3.mono (Nat.le_trans (HR52.out).low hg5.out.1.size)));have g1:(0:Int)<=(k5:Int):=by omega
       have g2:(k5:Int)<(n5:Int):=by omega
       clear c0 c1' c2' c3' hVN hlow f3;go_upto_region 24 with fail;clear q0 q1 q2 q3;rw[eW.out];clear eW;have e3:=E3.out.c3;obtain⟨SH,hSH⟩:∃x,x=str (Lib.itoa vh):=⟨_,rfl⟩
       have IS:Hid (Calls Tryz.prog 66 #[.I vh] W3 λe w'=>e=.returned (.string SH)∧Below W3.heap.size W3 w'):=by rw[hSH];exact h7! base vh W3 TB3.out fvh
       have zSH:SH.size<=21:=by rw[hSH,str_size];exact f1! fvh
       have HSH:=h! hSH;clear hSH;go_wp2_with fail;refine IS.out.mono ?_;rintro e W4⟨rfl,b4⟩;have B4:=r! F3 b4;have E4:=h! (E3.out.below b4 E3.out.lt);have XP4:=b! XP b4;have hw3:=h! E3.out.lt;have s6:=XP4.out.c6;have ew:IntKind.i64.wrap ((n5:Int)-1)=(n5:Int)-1:=IntWalk.i64_in _ (by omega);obtain⟨S13,hS13⟩:∃x:ByteArray,x=if k5+1<n5 then SH++⟨#[44]⟩else SH:=⟨_,rfl⟩
       have H13:=h! hS13;have D13:Hid (S13=str (Lib.itoa vh++(if k5+1<n5 then [44]else []))):=by
        refine f22! ?_;rw[hS13]
        split
        ·rw[HSH.out]
         simp[str]
        ·rw[HSH.out,List.append_nil]
         exact str_list _
       clear b4 IS hS13 E3 XP
       go_upto_if 100 with fail
       go_cut [13] (λv wx=>v=.string S13∧wx=W4)
       case first=>
        by_cases hc:k5+1<n5
        ·have hc':(k5:Int)<(n5:Int)-1:=by omega
         have nb:¬(9223372036854775807:Nat)<SH.size+(⟨#[44]⟩:ByteArray).size:=by have:(⟨#[44]⟩:ByteArray).size=1:=rfl;omega
         have HC:=h! hc;clear hc;go_wp2_with fail;go_meet
         case rel=>exact⟨by rw[H13.out,if_pos HC.out],rfl⟩
        ·have hc':¬(k5:Int)<(n5:Int)-1:=by omega
         have HC:=h! hc;clear hc;go_wp2_with fail;go_meet
         case rel=>exact⟨by rw[H13.out,if_neg HC.out],rfl⟩
       case rest=>
       obtain⟨rfl,rfl⟩:=hcut;obtain⟨SL,hSL⟩:∃x,x=str (Lib.itoa vl):=⟨_,rfl⟩
       have HSL:=h! hSL;have IL:Hid (∀W,Below wc.heap.size wc W->Calls Tryz.prog 66 #[.I vl] W λe w'=>e=.returned (.string SL)∧Below W.heap.size W w'):=λW hW=>by rw[HSL.out];exact h7! base vl W ((TB52.out).low ((hg5.out.1.trans ((B4.out.trans (hW.mono B4.out.size)).mono hg5.out.1.size)).mono (HR52.out).low)) fvl
       have FB:Hid (∀W,Below wc.heap.size wc W->W.cell? ⟨wr.heap.size,0,none⟩=some (.string VN)∧W.cell? ⟨wr.heap.size,2,none⟩=some (.I vl)):=λW hW=>⟨(E4.out.below hW E4.out.lt).cell 0,(E4.out.below hW E4.out.lt).cell 2⟩
       obtain⟨i0,hi0,hz0,hz1,hz2⟩:=info_parts v1!;have bb0:=h! ((Below.refl wc.heap.size wc).drew);have OW:Hid (∀W,Below wr.heap.size wr W->W.ownsRow w52.heap.size 9 1 u10 (pn k5).length ((pn k5).map Value.string)):=λW hW=>hg5.out.2.below hW
       have FG:Hid (∀W w2 v2,Below wr.heap.size wr W->w2.ownsRow w52.heap.size 9 1 v2 ((pn k5).length+3) ((pn k5).map Value.string++[VN,SL,S13].map Value.string)->W.grownBy w2 u10.ownBlock->GrowI w52 v2 (pn (k5+1)) w2):=λW w2 v2 hW ho hg=>by
        have:=hg5.out.push (qs:=[VN,SL,S13]) hW ho hg;rw[HTK.out,parP]
        simp only[List.map_cons,List.map_nil]
        rw[<-HVN.out,<-HSL.out,<-D13.out];exact this
       have FC:Hid (∀w2 v2,GrowI w52 v2 (pn (k5+1)) w2->∀W,Below wr.heap.size wr W->W.grownBy w2 u10.ownBlock->Blk W wr.heap.size 89 #[.string VN,.I vs,.I vl,.I vh]->Blk w2 wr.heap.size 89 #[.string VN,.I vs,.I vl,.I vh]):=λw2 v2 _ W hW hg hb=>by
        refine hb.kept (Kept.of_grown (S:=λz=>u10.ownBlock=some z) hg (λ_ e=>e)) (λe=>?_);have:=(hg5.out.2.lt _ e).2
        omega
       have GSZ:=h! hg5.out.1.size;clear hSL;go_upto_region 27 with fail;have q0:=FB.out _ bb0.out
       go_region_held3 (λW=>W.cell? ⟨wr.heap.size,0,none⟩=some (.string VN)∧W.cell? ⟨wr.heap.size,2,none⟩=some (.I vl))
        (first|exact qd|exact qc _|exact q1|exact q0)
        (first
         |(go_at_call 66;(with_reducible refine(IL.out _ bb0.out).mono ?_);rintro e wa1⟨rfl,ba1⟩;have bb1:=r! bb0 ba1;have q1:=FB.out _ bb1.out;have qc:=λo=>FB.out _ (bb1.out.al o);have RD:=h! (j8! wa1 VN SL S13);have BX:=h! (B4.out.trans ((bb1.out.al (.cells #[.string VN,.string SL,.string S13] 9)).mono B4.out.size));have OI:=h! (OW.out _ BX.out);have EX:=h! (E4.out.below (bb1.out.al (.cells #[.string VN,.string SL,.string S13] 9)) E4.out.lt);have hsz:=h! (Nat.le_trans GSZ.out BX.out.size);clear ba1)
         |(refine g5! _ (by rfl) (.tmp 103) (.tmp 110) _ (by rfl) w52.heap.size 9 i0 _ 1 16 Tryz.underlying59 hi0 hz0 hz1 hz2 rfl (by omega) u10 (pn k5).length ((pn k5).map Value.string) (by rfl) OI.out _ _ 3 3 ([VN,SL,S13].map Value.string) (by rfl) RD.out (v2! _) (by rw[HPL.out];unfold maxLen;omega) (by rw[HPL.out];omega) (by have:=hsz.out;simpa using this) ?_;intro u8 x8 r8 g8 t8;have GX:=h! (FG.out _ x8 u8 BX.out r8 g8);have qd:x8.cell? ⟨wr.heap.size,0,none⟩=some (.string VN)∧x8.cell? ⟨wr.heap.size,2,none⟩=some (.I vl):=⟨(FC.out _ _ GX.out _ BX.out g8 EX.out).cell 0,(FC.out _ _ GX.out _ BX.out g8 EX.out).cell 2⟩;clear r8 g8 t8))
       go_wp2_with fail
       go_roundw
       case rel=>exact⟨k5+1,by omega,by go_num,GX⟩
       case measure=>simp[intOf];omega
      ·obtain rfl:k5=n5:=by omega
       have hpl:(pn k5).length<=3000001∧0<(pn k5).length:=by
        rw[HPN.out];have:∀(l:List Va) (i:Nat),(parsI k5 i l).length=3*l.length:=by
         intro l
         induction l with
         |nil=>intro i;rfl
         |cons a l ih=>intro i;rw[parsI,List.length_append,ih,List.length_cons];simp[parP];omega
        simp only[List.length_map,List.length_cons,parsK,this,List.length_take]
        omega
       have hjn:(Lib.join ((pn k5).map (·.data.toList)) [32]).length<=140737488355328:=by
        refine b6! (Nat.le_trans (a01! (B:=1000000) ?_) (by omega));have hp:∀(l:List Va) (i:Nat),(∀v∈l,FitV v)->∀x∈parsI k5 i l,x.length<=1000000:=by
         intro l
         induction l with
         |nil=>intro i _ x hx;simp[parsI]at hx
         |cons a l ih=>
          intro i hf x hx
          rw[parsI]at hx;rcases List.mem_append.1 hx with hx|hx
          ·obtain⟨f1,f2,f3,f4⟩:=hf a (List.mem_cons_self ..)
           have i3:=f1! f3;have i4:=f1! f4
           simp only[parP,List.mem_cons,List.not_mem_nil,or_false]at hx
           rcases hx with rfl|rfl|rfl
           ·exact f1
           ·omega
           ·rw[List.length_append]
            split<;>simp<;>omega
          ·exact ih (i+1) (λv hv=>hf v (List.mem_cons_of_mem _ hv)) x hx
        intro x hx
        rw[HPN.out]at hx;obtain⟨y,hy,rfl⟩:=List.mem_map.1 hx;rw[show (str y).data.size=y.length from by simp[str]];rcases List.mem_cons.1 hy with rfl|hy
        ·decide
        ·exact hp _ 0 (λv hv=>HFit.out.2.2.2.2.2 v (List.mem_of_mem_take hv)) y hy
       have HPB:Hid ((pn k5).map (·.data.toList)=[112,108,97,121]::f3! p.params):=by
        rw[HPN.out]
        simp only[List.map_map]
        have:((λx:ByteArray=>x.data.toList) ∘ str)=id:=by funext x;exact str_list x
        rw[this,List.map_id,parsK,List.take_of_length_le (Nat.le_of_eq HN5.out),b16! _ _ _ (by rw[Nat.zero_add];exact HN5.out)];exact rfl
       obtain⟨PA,pc,hv,hsc,hrv⟩:=hg5.out.2.form;obtain⟨mp,hmp⟩:∃m,m=(pn k5).length:=⟨_,rfl⟩
       rw[<-hmp]at hv hsc hrv hpl;subst hv;have HSP:=h! hsc;have HRP:=h! hrv;have HJP:=h! hjn;clear hsc hrv hjn hmp;obtain⟨WQ,rfl⟩:∃x,x=wr:=⟨_,rfl⟩
       have H60:=h! ((HR52.out).below (hg5.out.1));have T60:=h! ((T52'.out).below (hg5.out.1));have FX60:=h! ((FX52.out).below (hg5.out.1));have X60:=h! ((X52.out).below (hg5.out.1) (X52.out).lt);have TB60:=h! ((TB52.out).low ((hg5.out.1).mono (HR52.out).low));have TP60:=h! ((TP52.out).low ((hg5.out.1).mono (HR52.out).low));have s7:=(X60.out).c7;have L61:=h! (K6.out.low_ ((T60.out).low HH.out));go_wp2_with fail;refine(q6! base d g room ob52 l52 b52 A6 n6 c6 p.play PA mp pc (pn k5) WQ TB60.out TP60.out H60.out L61.out hd HRP.out hpl.2 HSP.out (by omega) HJP.out).mono ?_;rintro e w61⟨rfl,ob61,l61,b61,t61,r61,o61⟩;clear L61;have T61':=h! ((T60.out).trans (t61));have FX61:=h! ((FX60.out).turn (t61));have X61:=h! ((FX60.out).blk (t61) (X60.out));have TB61:=h! ((TB60.out).low ((t61).low H60.out));have TP61:=h! ((TP60.out).low ((t61).low H60.out));have HR61:=h! r61;have HO61:=h! ((HO52.out).then_ o61);clear t61 r61 o61;clear s7;have s8:=(X61.out).c8;have s9:=(X61.out).c9;have f62:=a! w61 (.cells #[.string ⟨#[115,105,108,101,110,116]⟩,.string SIL] 9);have R62:=h! (k1! w61 ⟨#[115,105,108,101,110,116]⟩ SIL);have H62:=h! ((HR61.out).below f62);have A62:=h! (Turns.of_below (g:=g) (ob:=ob61) f62);have TB62:=h! ((TB61.out).low (f62.mono (HR61.out).low));have TP62:=h! ((TP61.out).low (f62.mono (HR61.out).low));have L62:=h! ((K7.out.low_ ((T61'.out).low HH.out)).low_ (f62.mono (HR61.out).low));clear f62;go_wp2_with fail;refine(q6! base d g room ob61 l61 b61 A7 n7 c7 p.quiet _ 2 2 [⟨#[115,105,108,101,110,116]⟩,SIL] _ TB62.out TP62.out H62.out L62.out hd R62.out (by omega) (by omega) (by omega) (b6! (by simp only[List.map_cons,List.map_nil,List.sum_cons,List.sum_nil,List.size_toArray,List.length_cons,List.length_nil];omega))).mono ?_;rintro e w62⟨rfl,ob62,l62,b62,t62,r62,o62⟩;clear TB62 TP62 L62;have T62':=h! ((T61'.out).trans (A62.out.trans t62));have FX62:=h! ((FX61.out).turn (A62.out.trans t62));have X62:=h! ((FX61.out).blk (A62.out.trans t62) (X61.out));have TB62:=h! ((TB61.out).low ((A62.out.trans t62).low HR61.out));have TP62:=h! ((TP61.out).low ((A62.out.trans t62).low HR61.out));have HR62:=h! r62;have HO62:=h! ((HO61.out).then_ o62);clear t62 r62 o62;clear s8 s9;have s10:=(X62.out).c10;have f63:=a! w62 (.cells #[.string ⟨#[112,97,121]⟩] 9);have R63:=h! (f4! w62 ⟨#[112,97,121]⟩);have H63:=h! ((HR62.out).below f63);have A63:=h! (Turns.of_below (g:=g) (ob:=ob62) f63);have TB63:=h! ((TB62.out).low (f63.mono (HR62.out).low));have TP63:=h! ((TP62.out).low (f63.mono (HR62.out).low));have L63:=h! ((K8.out.low_ ((T62'.out).low HH.out)).low_ (f63.mono (HR62.out).low));clear f63;go_wp2_with fail;refine(q6! base d g room ob62 l62 b62 A8 n8 c8 p.pays _ 1 1 [⟨#[112,97,121]⟩] _ TB63.out TP63.out H63.out L63.out hd R63.out (by omega) (by omega) (by omega) (b6! (by simp only[List.map_cons,List.map_nil,List.sum_cons,List.sum_nil,List.size_toArray,List.length_cons,List.length_nil];omega))).mono ?_;rintro e w63⟨rfl,ob63,l63,b63,t63,r63,o63⟩;clear TB63 TP63 L63;have T63':=h! ((T62'.out).trans (A63.out.trans t63));have FX63:=h! ((FX62.out).turn (A63.out.trans t63));have X63:=h! ((FX62.out).blk (A63.out.trans t63) (X62.out));have TB63:=h! ((TB62.out).low ((A63.out.trans t63).low HR62.out));have TP63:=h! ((TP62.out).low ((A63.out.trans t63).low HR62.out));have HR63:=h! r63;have HO63:=h! ((HO62.out).then_ o63);clear t63 r63 o63;go_wp2_with fail
       go_end0
       have a1:=HNM.out;have a2:=HSIL.out;have a3:=HSE.out;have a4:=HPB.out;have a5:(g7! (p.stakes.take k)).map (·.data.toList)=p.stakes.map Lib.itoa:=by
        unfold g7!;rw[List.take_of_length_le (Nat.le_of_eq HN1.out),List.map_map];refine List.map_congr_left (λn _=>?_);exact str_list _
       refine⟨rfl,ob63,l63,b63,T63'.out,HR63.out,(HO63.out).cong ?_⟩;rw[a4];unfold rawP
       simp only[i5!,List.map_cons,List.map_nil,a1,a2,a5,HSEt.out,<-a3]
       rw[<-l7!,<-l7!,<-l7!]
       simp only[i5!]
end Go.Proofs.YtdgekckedchjbaaGreatDoor
