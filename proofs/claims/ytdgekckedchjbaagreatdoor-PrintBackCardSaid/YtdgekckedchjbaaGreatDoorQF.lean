
/-
 The parser's join. (Printed by wip/tools/gens6.py.) The table of what joins. (Printed by wip/tools/gens7.py.) The parser's expression, and the closure that keeps it. The parser of programs in memory: how its steps are told; single tokens. The parser of programs: a number with a sign; which token comes next. The parser of programs: is the next token the first one of a statement?
-/
import Derived.Test.YtdgekckedchjbaaGreatDoorM4
import Derived.Deep.RegionHeld3
import Derived.Deep.DeepCutAuto
import Derived.Deep.LoopGhost
set_option maxHeartbeats 4000000
set_option maxRecDepth 100000
namespace Go.Proofs.YtdgekckedchjbaaGreatDoor
open Go.RowKit
variable {base c g i j lvl:Nat} {x:Ex} {r ts:List Tk} {dp er op:Int} {A:Option Addr} {cs:List Value} {w w':World} {D E:Nat->Prop} {P:Program} {t:Tk}
def goes(lvl:Nat)(next:List Tk->PR):PR->PR
 | .bad r e=>.bad r e
 | .ok x r=>loopJ lvl next r.length x r
theorem c50!(plain:List Tk->PR)(k:Nat)(r:List Tk):joinL plain (k+1) r=goes (4-k) (joinL plain k) (joinL plain k r):=by
 simp only[joinL]
 cases joinL plain k r<;>rfl
theorem c51!{next:List Tk->PR}(h:opAt lvl r=none):goes lvl next (.ok x r)=.ok x r:=by
 simp only[goes]
 cases hl:r.length with
 |zero=>rfl
 |succ n=>simp only[loopJ,h]
theorem c52!{next:List Tk->PR}(he:Eats next)(h:opAt lvl r=some op):goes lvl next (.ok x r)=if lvl=2 then (next r.tail).wrap (.bin op x)else goes lvl next ((next r.tail).wrap (.bin op x)):=by
 cases r with
 |nil=>simp[opAt]at h
 |cons t r=>
  simp only[goes,List.length_cons,loopJ,h,List.tail_cons]
  cases hq:next r with
  |bad r2 e=>simp[PR.wrap]
  |ok e2 r2=>
   simp only[PR.wrap]
   have h3:=he _ _ _ hq
   split
   ·rfl
   ·exact u0! he _ r2 (Nat.le_refl _) _ _ (by omega)
theorem c53!{l:Nat}{x:List UInt8}(h:(lvlT l).lookup x=some op):x≠[]:=by
 rintro rfl
 match l with
 |0|1|2|3|4=>exact absurd (show (none:Option Int)=some op from h) (by simp)
 |_+5=>exact absurd (show (none:Option Int)=some op from h) (by simp)
theorem c54!{n:Nat}{m:Nat->Nat}:∀{l:Nat},l<5->(a2! A n c m i dp er)[3+l]?=some (.map (some (m l)))
 |0,_=>rfl
 |1,_=>rfl
 |2,_=>rfl
 |3,_=>rfl
 |4,_=>rfl
 |_+5,h=>absurd h (by omega)
def PcAt(D:Nat->Prop)(ts:List Tk)(i:Nat)(er:Int)(cs:List Value)(w:World)(pc:PR):Prop:=match pc with
 | .ok x r=>r=ts.drop i∧er=0∧TE D w x cs
 | .bad r e=>r=ts.drop i∧e=er∧er≠0
theorem PcAt.ex{m:Nat->Nat}{pc:PR}(h:PcAt D ts i er cs w pc)(hD:∀k,D k->base<=k)(hi:i<ts.length)(hb:Blk w g 119 (a2! A ts.length c m i dp er)):ExAt base g c A m ts dp cs w pc:=by
 refine⟨i,er,hi,hb,?_⟩
 cases pc with
 |ok x r=>exact⟨h.1,h.2.1,h.2.2.mono (λk _=>hD k)⟩
 |bad r e=>exact h
theorem PcAt.of_ex{m:Nat->Nat}{pc:PR}(h:ExAt base g c A m ts dp cs w pc):∃i er,i<ts.length∧Blk w g 119 (a2! A ts.length c m i dp er)∧PcAt (λk=>base<=k∧k<w.heap.size) ts i er cs w pc:=by
 obtain⟨i,er,hi,hb,hp⟩:=h
 refine⟨i,er,hi,hb,?_⟩
 cases pc with
 |ok x r=>exact⟨hp.1,hp.2.1,hp.2.2.mono (λk h1 h2=>⟨h2,h1⟩)⟩
 |bad r e=>exact hp
theorem PcAt.kept{S:Nat->Prop}{pc:PR}(h:PcAt D ts i er cs w pc)(hk:Kept S w w')(hs:∀k,k<w.heap.size->D k->¬S k)(hE:∀k,k<w'.heap.size->D k->E k):PcAt E ts i er cs w' pc:=by
 cases pc with
 |ok x r=>exact⟨h.1,h.2.1,(h.2.2.kept_lt hk hs).mono hE⟩
 |bad r e=>exact h
theorem PcAt.zero{pc:PR}(h:PcAt D ts i 0 cs w pc):∃x,pc=.ok x (ts.drop i)∧TE D w x cs:=by
 cases pc with
 |ok x r=>obtain⟨rfl,-,h⟩:=h;exact⟨x,rfl,h⟩
 |bad r e=>exact absurd rfl h.2.2
theorem PcAt.bad_{pc:PR}(h:PcAt D ts i er cs w pc)(hne:er≠0)(lvl:Nat)(next:List Tk->PR):goes lvl next pc=pc:=by
 cases pc with
 |ok x r=>exact absurd h.2.1 hne
 |bad r e=>rfl
theorem PcAt.wrap{cs':List Value}{pc:PR}(f:Ex->Ex)(h:PcAt D ts i er cs w pc)(hk:∀y,TE D w y cs->TE E w' (f y) cs'):PcAt E ts i er cs' w' (pc.wrap f):=by
 cases pc with
 |ok x r=>exact⟨h.1,h.2.1,hk x h.2.2⟩
 |bad r e=>exact h
def msr(ts:List Tk)(i:Nat)(er:Int):Nat:=if er=0 then ts.length-i else 0
theorem PcAt.less{pn:PR}{next:List Tk->PR}(he:Eats next)(hpn:next (ts.drop (i+1))=pn)(h:PcAt D ts j er cs w pn)(hi:i<ts.length):msr ts j er<msr ts i 0:=by
 unfold msr
 rw[if_pos rfl]
 split
 ·rename_i h0
  subst h0;obtain⟨x,rfl,-⟩:=h.zero;have:=he _ _ _ hpn;rw[List.length_drop,List.length_drop]at this
  omega
 ·omega
theorem c55!(w:World):(zeroValue 3).run Tryz.prog w=.ok (.I 0) w:=by kernel_rfl
theorem c56!(g c:Nat)(A:Option Addr)(m:Nat->Nat)(ts:List Tk)(dp:Int)(d:Nat)(PC:h3! g c A m ts dp d):JoinC g c A m ts dp d 0:=by
 intro deep lv i w hd h0 hlv h
 obtain rfl:lv=5:=by omega
 obtain⟨W0,eW,f0,x0,z0⟩:=n! w 40 #[.I 0,.I 0,.E,.N]
 have H0:=h! (h.below f0)
 have hgl:=h.blk.lt
 have lim:=h.st.lim
 have hi:=h.at_
 have F0:=h! f0
 have X0:=h! x0
 have PW:=h! (λW hW=>PC deep i W hd h0 hW)
 obtain⟨pj,hpj⟩:∃p,a0! d (ts.drop i)=p:=⟨_,rfl⟩
 change Calls Tryz.prog 77 _ w (ExTo w g c A m ts dp (a0! d (ts.drop i)))
 rw[hpj]
 rw[hpj]at PW
 clear h f0 x0 hpj
 go_enter Tryz.func77,Tryz.ntmps77
 go_upto_region 2 with fail
 rw[eW.out]
 clear eW
 go_wp2_with fail
 refine(PW.out _ H0.out).mono ?_
 rintro e w4⟨op,N,nm,B,l,k,rfl,k4,h4⟩
 have x4:=X0.out.kept k4 (by omega)
 have K4:=h! k4
 have H4:=h! h4
 clear k4 h4 PW
 have s0:=x4.c0
 have t0:=x4.frozen 0
 have s1:=x4.c1
 have t1:=x4.frozen 1
 have s2:=x4.c2
 have t2:=x4.frozen 2
 have s3:=x4.c3
 have t3:=x4.frozen 3
 go_wp2_with fail
 clear s0 s1 s2 s3
 obtain⟨W9,e9,X9,K9⟩:=(x4).e4 (.I op) (.I N) (.string nm) (.slice B l k)
 rw[e9]
 clear e9
 obtain⟨s0,s1,s2,s3⟩:=X9.A4
 have KK:Kept (λz=>z=g) w W9:=((Kept.of_below (S:=λz=>z=g) F0.out).then_ K4.out (λ_ _ e=>e)).then_ K9 (λz hz e=>by omega)
 refine bodyPost_ret (v:=.agg #[.I op,.I N,.string nm,.slice B l k]) (by simp[results,Tryz.results77,go_sem,s0,s1,s2,s3]) rfl ⟨_,_,_,_,_,_,rfl,KK,?_⟩
 exact(H4.out.kept_lt K9 (by omega) (λz _ hz e=>by omega)).base_le (by omega)
theorem c57!(g c:Nat)(A:Option Addr)(m:Nat->Nat)(ts:List Tk)(dp:Int)(d:Nat)(k:Nat)(hk:k<5)(JC:JoinC g c A m ts dp d k):JoinC g c A m ts dp d (k+1):=by
 intro deep lv i w hd h0 hlv h
 obtain⟨W0,eW,f0,x0,z0⟩:=n! w 40 #[.I 0,.I 0,.E,.N]
 have H0:=h! (h.below f0)
 have hgl:=h.blk.lt
 have lim:=h.st.lim
 have hi:=h.at_
 have F0:=h! f0
 have X0:=h! x0
 have JW:=h! (λW hW=>JC deep (lv+1) i W hd h0 (by omega) hW)
 have JN_:=h! JC
 have EAT:=h! (n0! (t9! d) k)
 have HLV:lv=((4-k:Nat):Int):=by omega
 have hlvk:4-k<5:=by omega
 obtain⟨lvn,hlvn⟩:∃q,4-k=q:=⟨_,rfl⟩
 rw[hlvn]at HLV hlvk
 rw[c50!]
 obtain⟨p1,hp1⟩:∃p,joinL (a0! d) k (ts.drop i)=p:=⟨_,rfl⟩
 rw[hp1]at JW ⊢
 obtain⟨next,hnext⟩:∃q,joinL (a0! d) k=q:=⟨_,rfl⟩
 have HNX:=h! hnext
 rw[hnext]at EAT ⊢
 rw[hlvn]
 have HK:=h! hlvn
 have HLK:=h! hk
 have HLL:=h! hlv
 subst HLV
 obtain⟨p,hp⟩:∃p,goes lvn next p1=p:=⟨_,rfl⟩
 rw[hp]
 have HP:=h! hp
 clear h f0 x0 hp1 hp hnext hlvn hk hlv JC
 have w1:=y! ((lvn:Int)+1)
 have w5:((lvn:Int)==5)=false:=by simp;omega
 go_enter Tryz.func77,Tryz.ntmps77
 go_upto_region 3 with fail
 rw[eW.out]
 clear eW
 clear w5
 go_wp2_with fail
 refine(JW.out _ H0.out).mono ?_
 rintro e w4⟨o1,N1,nm1,B1,l1,k1,rfl,k4,h4⟩
 have K0:=h! (Kept.of_below (S:=λz=>z=g) F0.out)
 have X4:=h! ((X0.out.kept k4 (by omega)).alloc (.cells #[.I o1,.I N1,.string nm1,.slice B1 l1 k1] 40))
 have K4:=h! (k4.alloc (.cells #[.I o1,.I N1,.string nm1,.slice B1 l1 k1] 40))
 have B4:=h! (Blk.new w4 40 #[.I o1,.I N1,.string nm1,.slice B1 l1 k1])
 have H4:Hid (ExAt W0.heap.size g c A m ts dp [.I o1,.I N1,.string nm1,.slice B1 l1 k1] (w4.alloc (.cells #[.I o1,.I N1,.string nm1,.slice B1 l1 k1] 40)) p1):=h4.kept_lt (S:=λ_=>False) ((Kept.refl _ w4).alloc _) (λh=>h) (λ_ _ _ h=>h)
 have P4:=h! (H0.out)
 obtain⟨r7,hr7⟩:∃r,w4.heap.size=r:=⟨_,rfl⟩
 have z4:=k4.size
 obtain⟨i1,er1,hi1,hb1,hq1⟩:=PcAt.of_ex h4
 have Q1:Hid (PcAt (λz=>W0.heap.size<=z∧z≠r7) ts i1 er1 [.I o1,.I N1,.string nm1,.slice B1 l1 k1] (w4.alloc (.cells #[.I o1,.I N1,.string nm1,.slice B1 l1 k1] 40)) p1):=hq1.kept (S:=λ_=>False) ((Kept.refl _ w4).alloc _) (λ_ _ _ h=>h) (λz _ hz=>⟨hz.1,by omega⟩)
 have HB1:=h! (hb1.alloc (.cells #[.I o1,.I N1,.string nm1,.slice B1 l1 k1] 40))
 have HI1:=h! hi1
 have z7:r7<(w4.alloc (.cells #[.I o1,.I N1,.string nm1,.slice B1 l1 k1] 40)).heap.size:=by rw[<-hr7];exact B4.out.lt
 clear k4 h4 JW hq1 hb1 hi1
 go_upto_block 0 with fail
 rw[hr7]at B4
 have z47:W0.heap.size<=r7:=by omega
 clear hr7
 generalize w4.alloc (.cells #[.I o1,.I N1,.string nm1,.slice B1 l1 k1] 40)=W4 at*
 go_cut [8] (λ_v wc=>∃op N nm B l k,Hid (Blk wc r7 40 #[.I op,.I N,.string nm,.slice B l k])∧Hid (ExAt W0.heap.size g c A m ts dp [.I op,.I N,.string nm,.slice B l k] wc p)∧Hid (Kept (λz=>z=g∨z=r7) W4 wc))
 case first=>
  go_wp2_with fail
  go_loopg [] (msr ts i1 er1) (λgk wr=>∃(op N:Int) (nm:ByteArray) (B:Option Addr) (l k:Nat) (i':Nat) (er':Int) (pc:PR),Hid (gk=msr ts i' er')∧Hid (i'<ts.length)∧Hid (Blk wr r7 40 #[.I op,.I N,.string nm,.slice B l k])∧Hid (Blk wr g 119 (a2! A ts.length c m i' dp er'))∧Hid (PcAt (λz=>W0.heap.size<=z∧z≠r7) ts i' er' [.I op,.I N,.string nm,.slice B l k] wr pc)∧Hid (goes lvn next pc=p)∧Hid (Kept (λz=>z=g∨z=r7) W4 wr))
  case atStart=>exact⟨o1,N1,nm1,B1,l1,k1,i1,er1,p1,rfl,HI1,B4,HB1,Q1,HP,Kept.refl _ _⟩
  case round=>
   clear H4 Q1 B4 HB1;obtain⟨op,N,nm,B,l,k2,i',er',pc,hgk,hi',B7,BP,Q,GO,KR⟩:=hrel;have P:Hid (Par wr g A c m ts i' dp er'):=P4.out.put hi'.out BP.out (K4.out.then_ KR.out (λz hz e=>by omega));have hgr:=P.out.blk.lt
   by_cases he:er'=0
   ·subst he
    obtain⟨x,rfl,hx⟩:=Q.out.zero;have HX:=h! hx;obtain⟨t',ht'⟩:=ParS.at_some hi'.out;obtain⟨b,o,hA,hb,hbg,-,q1,-,-,-⟩:=P.out.st.tok ht';have HA:=h! hA;obtain⟨n,hn⟩:∃n,ts.length=n:=⟨_,rfl⟩
    have HN:=h! hn;have LK:=(((P.out.below (Below.refl _ wr).drew).st.dict lvn hlvk).lookup (P:=Tryz.prog) Tryz.underlying115 Tryz.underlying9 (c55! wr.drew) t'.text);have bp:=BP.out;have cm:wr.cell? ⟨g,3+lvn,none⟩=some (.map (some (m lvn))):=(bp.cell _).trans (c54! hlvk);unfold a2! at bp;rw[hA,hn]at bp;obtain⟨c0,c1⟩:=bp.A2;have c8:=bp.c8;have f1:=bp.frozen 1;have hin:=hi'.out;rw[hn]at hin lim;have g1:(0:Int)<=(i':Int):=by omega
    have g2:(i':Int)<(n:Int):=by omega
    have g3:(0:Int)<=(lvn:Int):=by omega
    have g4:(lvn:Int)<5:=by omega
    have HO:Hid (opAt lvn (ts.drop i')=(lvlT lvn).lookup t'.text):=by rw[a1! ht'];rfl
    obtain⟨lk,hlk⟩:∃q,(lvlT lvn).lookup t'.text=q:=⟨_,rfl⟩
    rw[hlk]at LK HO;have HLK2:=h! hlk;have HTT:=h! ht';clear hlk hA hn ht' hx Q
    cases lk with
    |none=>
     have HE:Hid (p=.ok x (ts.drop i')):=GO.out.symm.trans (c51! HO.out)
     simp only[Option.getD_none,Option.isSome_none]at LK
     go_wp2_with fail
     go_region
     go_wp2_with fail;go_meet
     case rel=>exact⟨op,N,nm,B,l,k2,B7.out.drew,⟨i',0,hi'.out,BP.out.drew,HE.out▸⟨rfl,rfl,(HX.out.kept_lt ((Kept.refl (λ_=>False) wr).drew) (λ_ _ _ h=>h)).mono (λz _ hz=>hz.1)⟩⟩,KR.out.drew⟩
    |some op2=>
     have hmore:i'+1<ts.length:=P.out.st.more HTT.out (.inr (c53! HLK2.out));have HM:=h! hmore;have GS:Hid (p=if lvn=2 then (next (ts.drop (i'+1))).wrap (.bin op2 x)else goes lvn next ((next (ts.drop (i'+1))).wrap (.bin op2 x))):=by
      rw[Hid,<-GO.out,c52! EAT.out HO.out,List.tail_drop]
     have JW:Hid (∀W,Par W g A c m ts (i'+1) dp 0->Calls Tryz.prog 77 #[.pointer (some ⟨g,0,none⟩),.I ((lvn:Int)+1),.I deep] W (ExTo W g c A m ts dp (next (ts.drop (i'+1))))):=λW hW=>by
      rw[<-HNX.out];exact JN_.out deep ((lvn:Int)+1) (i'+1) W hd h0 (by have:=HLL.out;have:=HLK.out;omega) hW
     obtain⟨pn,hpn⟩:∃q,next (ts.drop (i'+1))=q:=⟨_,rfl⟩
     rw[hpn]at GS JW;have HPN:=h! hpn;clear hpn
     simp only[Option.getD_some,Option.isSome_some]at LK
     go_wp2_with fail
     go_region
     go_upto_region 8 with fail;have k5:=((Kept.refl (λz=>z=g) wr).setCell (p:=⟨g,1,none⟩) (λ_=>rfl) (.I ((i':Int)+1))).drew;have b5:Blk (wr.setCell ⟨g,1,none⟩ (.I ((i':Int)+1))).drew g 119 (a2! A ts.length c m (i'+1) dp 0):=BP.out.set_ 1 _;generalize (wr.setCell ⟨g,1,none⟩ (.I ((i':Int)+1))).drew=W5 at*;have P5:=h! (P.out.put HM.out b5 k5);have hgr7:g≠r7:=by omega
     have B75:=h! (B7.out.kept k5 (λe=>hgr7 e.symm));have h7r:=B7.out.lt;have K5:=h! k5;have z5:=k5.size;have kk0:=(Kept.refl (λz=>z=g) W5).drew;have PD:=h! (P5.out.below (Below.refl _ W5).drew);clear c0 c1 c8 f1 cm LK q1 hb hbg k5 b5 g1 g2 g3 g4;have b75:=B75.out;obtain⟨e0,e1,e2,e3⟩:=b75.A4;clear b75
     go_region_with (first
      |(go_at_call 77;(with_reducible refine(JW.out _ PD.out).mono ?_);rintro e w6⟨o3,N3,nm3,B3,l3,k3,rfl,k6,h6⟩;have kk:=kk0.then_ k6 (λ_ _ e=>e);have n60:=B75.out.kept kk (λe=>hgr7 e.symm);have i0:=n60.c0;have i1:=n60.c1;have i2:=n60.c2;have i3:=n60.c3;have n6:=(λo=>n60.alloc o);have y0:=(λo=>(n6 o).cell 0);have y1:=(λo=>(n6 o).cell 1);have y2:=(λo=>(n6 o).cell 2);have y3:=(λo=>(n6 o).cell 3);have j0:=(λo=>(n6 o).frozen 0);have j1:=(λo=>(n6 o).frozen 1);have j2:=(λo=>(n6 o).frozen 2);have j3:=(λo=>(n6 o).frozen 3)))
     all_goals
      have n8:=Blk.new w6 40 #[.I op,.I N,.string nm,.slice B l k2,.I o3,.I N3,.string nm3,.slice B3 l3 k3];have k8:=(kk.alloc (.cells #[.I op,.I N,.string nm,.slice B l k2,.I o3,.I N3,.string nm3,.slice B3 l3 k3] 40));have KP:=Kept.put4 (w6.alloc (.cells #[.I op,.I N,.string nm,.slice B l k2,.I o3,.I N3,.string nm3,.slice B3 l3 k3] 40)) r7 (.I op2) (.I 0) (.E) (.slice (some ⟨w6.heap.size,0,none⟩) 2 2);have BP9:=(n6 (.cells #[.I op,.I N,.string nm,.slice B l k2,.I o3,.I N3,.string nm3,.slice B3 l3 k3] 40)).put4 (.I op2) (.I 0) (.E) (.slice (some ⟨w6.heap.size,0,none⟩) 2 2);have h7w:=n60.lt;have hb8':=n8.kept KP (by omega);have K6:Kept (λz=>z=r7) w6 _:=((Kept.refl (λz=>z=r7) w6).alloc _).then_ KP (λ_ _ e=>e);clear n6 y0 y1 y2 y3 j0 j1 j2 j3 i0 i1 i2 i3 e0 e1 e2 e3 KP;generalize ((((w6.alloc (.cells #[.I op,.I N,.string nm,.slice B l k2,.I o3,.I N3,.string nm3,.slice B3 l3 k3] 40)).setCell ⟨r7,0,none⟩ (.I op2)).setCell ⟨r7,1,none⟩ (.I 0)).setCell ⟨r7,2,none⟩ (.E)).setCell ⟨r7,3,none⟩ (.slice (some ⟨w6.heap.size,0,none⟩) 2 2)=W9 at*;have z6:=kk.size;have hb8:Blk W9 w6.heap.size 40 (List.toArray ([.I op,.I N,.string nm,.slice B l k2]++[.I o3,.I N3,.string nm3,.slice B3 l3 k3])):=hb8';obtain⟨i6,er6,hi6,hb6,hq6⟩:=PcAt.of_ex h6;have hb69:=hb6.kept K6 hgr7;have K59:Kept (λz=>z=g∨z=r7) W5 W9:=(kk.mono (T:=λz=>z=g∨z=r7) (λ_ _ e=>.inl e)).then_ K6 (λz _ e=>.inr e);have KR9:Kept (λz=>z=g∨z=r7) W4 W9:=(KR.out.then_ K5.out (λ_ _ e=>.inl e)).then_ K59 (λ_ _ e=>e);have hx9:TE (λz=>W0.heap.size<=z∧z≠r7) W9 x [.I op,.I N,.string nm,.slice B l k2]:=HX.out.kept_lt ((K5.out.mono (T:=λz=>z=g∨z=r7) (λ_ _ e=>.inl e)).then_ K59 (λ_ _ e=>e)) (λz _ hz e=>e.elim (λe=>by omega) (λe=>hz.2 e));have hw5:W5.drew.heap.size=W5.heap.size:=rfl;have hq9:PcAt (λz=>W0.heap.size<=z∧z≠r7) ts i6 er6 [.I op2,.I 0,.E,.slice (some ⟨w6.heap.size,0,none⟩) 2 2] W9 (pn.wrap (.bin op2 x)):=
       hq6.wrap (.bin op2 x) (λy hy=>⟨w6.heap.size,_,_,rfl,⟨by omega,by omega⟩,hb8,hx9,(hy.kept_lt K6 (λz _ hz e=>by omega)).mono (λz _ hz=>⟨by omega,by omega⟩)⟩)
      have HLT:=h! (PcAt.less EAT.out HPN.out hq6 hi'.out);have HQ9:=h! hq9;have HB9:=h! hb69;have HI6:=h! hi6;have H9:=h! BP9;have HK9:=h! KR9;clear hq9 hb69 hi6 BP9 KR9 hx9 K59 hq6 hb6 h6 hb8 n8 k8 kk n60
      by_cases h2:lvn=2
      ·have h2':((lvn:Int)==2)=true:=by simp[h2]
       have HE:Hid (p=pn.wrap (.bin op2 x)):=by have:=GS.out;rw[if_pos h2]at this;exact this
       clear h2;go_wp2_with fail;go_meet
       case rel=>exact⟨_,_,_,_,_,_,H9,HE.out▸HQ9.out.ex (λz hz=>hz.1) HI6.out HB9.out,HK9⟩
      ·have h2':((lvn:Int)==2)=false:=by simp;omega
       have HE:Hid (goes lvn next (pn.wrap (.bin op2 x))=p):=by have:=GS.out;rw[if_neg h2]at this;exact this.symm
       clear h2;go_wp2_with fail
       go_roundg (msr ts i6 er6)
       case rel=>exact⟨_,_,_,_,_,_,i6,er6,_,rfl,HI6,H9,HB9,HQ9,HE,HK9⟩
       case measure=>rw[hgk.out];exact HLT.out
   ·have he':(er'==0)=false:=by simp[he]
    have bp:=BP.out;unfold a2! at bp;have c8:=bp.c8;have HE:Hid (p=pc):=GO.out.symm.trans (Q.out.bad_ he lvn next);clear bp;go_wp2_with fail;go_meet
    case rel=>exact⟨op,N,nm,B,l,k2,B7,HE.out▸Q.out.ex (λz hz=>hz.1) hi'.out BP.out,KR⟩
 case rest=>
  obtain⟨op,N,nm,B,l,k,B7,H9,KR⟩:=hcut;obtain⟨wr,rfl⟩:∃x,x=wc:=⟨_,rfl⟩
  have x7:=X4.out.kept KR.out (by omega);have b7:=B7.out;obtain⟨y0,y1,y2,y3⟩:=b7.A4;have s0:=x7.c0;have t0:=x7.frozen 0;have s1:=x7.c1;have t1:=x7.frozen 1;have s2:=x7.c2;have t2:=x7.frozen 2;have s3:=x7.c3;have t3:=x7.frozen 3;go_wp2_with fail;clear s0 s1 s2 s3;obtain⟨W9,e9,X9,K9⟩:=(x7).e4 (.I op) (.I N) (.string nm) (.slice B l k);rw[e9];clear e9;obtain⟨s0,s1,s2,s3⟩:=X9.A4;have KK:Kept (λz=>z=g) w W9:=((K0.out.then_ K4.out (λ_ _ e=>e)).then_ KR.out (λz hz e=>by omega)).then_ K9 (λz hz e=>by omega);refine bodyPost_ret (v:=.agg #[.I op,.I N,.string nm,.slice B l k]) (by simp[results,Tryz.results77,go_sem,s0,s1,s2,s3]) rfl ⟨_,_,_,_,_,_,rfl,KK,?_⟩;exact(H9.out.kept_lt K9 (by omega) (λz _ hz e=>by omega)).base_le (by omega)
theorem a66!{s:List UInt8}{v:Int}:∀{l:List (List UInt8×Int)},l.lookup s=some v->∃p∈l,p.1=s
 |[],h=>by simp at h
 |p::l,h=>by
  by_cases hp:s=p.1
  ·exact⟨p,List.mem_cons_self ..,hp.symm⟩
  ·rw[List.lookup,show (s==p.1)=false from by simp[hp]]at h
   obtain⟨q,hq,e⟩:=a66! h;exact⟨q,List.mem_cons_of_mem _ hq,e⟩
theorem g0!{ops:Array Oper}{rest:List Oper}{o:Oper}{a:Act}{Q:Exit->Act->World->Prop}(hgd:Region.wanted o (yielded ops a.tmps)=true)(m x y:Operand){t k e:TypeId}(r:Nat)(l:List (List UInt8×Int))(s:List UInt8)(v:Int)
 (ho:o.op=.insert t m x y) (hd:o.dst=none) (ht:P.underlying t=some (.map k e)) (hk:P.underlying k=some .string) (hm:DictIs w r l) (em:a.eval m=.map (some r)) (ex:a.eval x=.string (str s)) (ey:a.eval y=.I v) (hs:s∉l.map Prod.fst)
 (h:∀w',DictIs w' r (l++[(s,v)])->Kept (λz=>z=r) w w'->wpList P ops Q rest a w'):wpList P ops Q (o::rest) a w:=by
 obtain⟨hn,es,c,hb,hl⟩:=hm
 have hf:Instr.findNow .string (.string (str s)) es.toList 0=some none:=by
  rcases DictIs.find hn hl s with ⟨_,h2⟩|⟨v2,_,h1,_⟩
  ·exact h2
  ·exfalso
   refine hs ?_;have:∃p∈l,p.1=s:=a66! h1
   obtain⟨p,hp,rfl⟩:=this;exact List.mem_map.2 ⟨p,hp,rfl⟩
 refine BigFrame.wpList_want hgd λK hK=>?_
 have hr:(Instr.mapUpdate t (.map (some r)) (.string (str s)) (.I v)).run P w=.ok () {w with heap:=w.heap.setIfInBounds r (.map (es.push {key:=.string (str s),val:=.I v,born:=c}) (c+1))}:=by
  unfold Instr.mapUpdate
  simp only[run_underlying ht,Sem.run_bind,Result.andThen_ok,Go.MapKept.run_getObj_map hb,Go.MapKept.run_checkKey (P:=P) (w:=w) hk (k:=.string (str s)) trivial,Go.MapKept.run_findKey hk hf,Go.MapKept.run_setObj_map _ hb]
 have hh:=Go.MapKept.heap_set (o':=.map (es.push {key:=.string (str s),val:=.I v,born:=c}) (c+1)) hb
 have hw:=h {w with heap:=w.heap.setIfInBounds r (.map (es.push {key:=.string (str s),val:=.I v,born:=c}) (c+1))}
  ⟨by
   rw[List.map_append,List.nodup_append];exact⟨hn,by simp,λa ha b hb e=>hs (by simp at hb;rw[<-hb,<-e];exact ha)⟩,_,_,hh.1,by simp[hl]⟩
  ⟨rfl,rfl,rfl,by simp,λz _ hz=>hh.2 z hz⟩
 unfold Oper.wp
 simp only[execOp,ho,em,ex,ey,hr,Sem.run_bind,Result.andThen_ok,Sem.run_pure,Oper.upon,hd]
 exact hK _ _ hw
theorem c58!(t:TypeId)(w:World):(Instr.makeMap t none).run P w=.ok (.map (some w.heap.size)) (w.alloc (.map #[] 0)):=by
 simp[Instr.makeMap]
def c59!(w:World)(e:Ending)(w':World):Prop:=∃m:Nat->Nat,e=.returned (.agg #[.map (some (m 0)),.map (some (m 1)),.map (some (m 2)),.map (some (m 3)),.map (some (m 4))])∧Below w.heap.size w w'∧∀k,k<5->DictIs w' (m k) (lvlT k)∧w.heap.size<=m k
theorem a67!(w:World):Calls Tryz.prog 52 #[] w (c59! w):=by
 obtain⟨W0,eW,f0,x0,-⟩:=n! w 116 #[.map none,.map none,.map none,.map none,.map none]
 have F0:=h! f0
 have X0:=h! x0
 have z0:=f0.size
 have l0:=x0.lt
 clear f0 x0
 have hmk:=λW=>c58! (P:=Tryz.prog) 115 W
 go_enter Tryz.func52,Tryz.ntmps52
 go_upto_region 1 with fail
 rw[eW.out]
 clear eW
 go_wp2_with (first
  |((with_reducible show wpList _ _ _ (⟨none,Op.insert _ (.tmp 1) _ _,_,_,_,_⟩::_) _ _);refine g0! (by rfl) _ _ _ W0.heap.size [] [111,114] 17 rfl rfl Tryz.underlying115 Tryz.underlying9 (DictIs.new W0) rfl rfl rfl (by decide) ?_;intro W0_0 D0_1 k0_0;have K1:=(((Kept.refl (λz=>z=W0.heap.size) W0).alloc (.map #[] 0)).then_ k0_0 (λ_ _ e=>e));have X1:=k! X0 K1;have F1:=h! (F0.out.trans (K1.to_below (by omega) (λq hq e=>by omega)));have z1:=K1.size;have l1:=D0_1.lt;have E0_1:=h! D0_1)
  |((with_reducible show wpList _ _ _ (⟨none,Op.insert _ (.tmp 3) _ _,_,_,_,_⟩::_) _ _);refine g0! (by rfl) _ _ _ W0_0.heap.size [] [97,110,100] 16 rfl rfl Tryz.underlying115 Tryz.underlying9 (DictIs.new W0_0) rfl rfl rfl (by decide) ?_;intro W1_0 D1_1 k1_0;have K2:=(((Kept.refl (λz=>z=W0_0.heap.size) W0_0).alloc (.map #[] 0)).then_ k1_0 (λ_ _ e=>e));have X2:=k! X1 K2;have F2:=h! (F1.out.trans (K2.to_below (by omega) (λq hq e=>by omega)));have z2:=K2.size;have l2:=D1_1.lt;have E0_2:=h! (E0_1.out.kept K2 (by omega));have E1_2:=h! D1_1)
  |((with_reducible show wpList _ _ _ (⟨none,Op.insert _ (.tmp 5) _ _,_,_,_,_⟩::_) _ _);refine g0! (by rfl) _ _ _ W1_0.heap.size [] [61] 10 rfl rfl Tryz.underlying115 Tryz.underlying9 (DictIs.new W1_0) rfl rfl rfl (by decide) ?_;intro W2_0 D2_1 k2_0)
  |((with_reducible show wpList _ _ _ (⟨none,Op.insert _ (.tmp 5) _ _,_,_,_,_⟩::_) _ _);refine g0! (by rfl) _ _ _ W1_0.heap.size [([61],10)] [33,61] 11 rfl rfl Tryz.underlying115 Tryz.underlying9 D2_1 rfl rfl rfl (by decide) ?_;intro W2_1 D2_2 k2_1)
  |((with_reducible show wpList _ _ _ (⟨none,Op.insert _ (.tmp 5) _ _,_,_,_,_⟩::_) _ _);refine g0! (by rfl) _ _ _ W1_0.heap.size [([61],10),([33,61],11)] [60] 12 rfl rfl Tryz.underlying115 Tryz.underlying9 D2_2 rfl rfl rfl (by decide) ?_;intro W2_2 D2_3 k2_2)
  |((with_reducible show wpList _ _ _ (⟨none,Op.insert _ (.tmp 5) _ _,_,_,_,_⟩::_) _ _);refine g0! (by rfl) _ _ _ W1_0.heap.size [([61],10),([33,61],11),([60],12)] [60,61] 13 rfl rfl Tryz.underlying115 Tryz.underlying9 D2_3 rfl rfl rfl (by decide) ?_;intro W2_3 D2_4 k2_3)
  |((with_reducible show wpList _ _ _ (⟨none,Op.insert _ (.tmp 5) _ _,_,_,_,_⟩::_) _ _);refine g0! (by rfl) _ _ _ W1_0.heap.size [([61],10),([33,61],11),([60],12),([60,61],13)] [62] 14 rfl rfl Tryz.underlying115 Tryz.underlying9 D2_4 rfl rfl rfl (by decide) ?_;intro W2_4 D2_5 k2_4)
  |((with_reducible show wpList _ _ _ (⟨none,Op.insert _ (.tmp 5) _ _,_,_,_,_⟩::_) _ _);refine g0! (by rfl) _ _ _ W1_0.heap.size [([61],10),([33,61],11),([60],12),([60,61],13),([62],14)] [62,61] 15 rfl rfl Tryz.underlying115 Tryz.underlying9 D2_5 rfl rfl rfl (by decide) ?_;intro W2_5 D2_6 k2_5;have K3:=((((((((Kept.refl (λz=>z=W1_0.heap.size) W1_0).alloc (.map #[] 0)).then_ k2_0 (λ_ _ e=>e)).then_ k2_1 (λ_ _ e=>e)).then_ k2_2 (λ_ _ e=>e)).then_ k2_3 (λ_ _ e=>e)).then_ k2_4 (λ_ _ e=>e)).then_ k2_5 (λ_ _ e=>e));have X3:=k! X2 K3;have F3:=h! (F2.out.trans (K3.to_below (by omega) (λq hq e=>by omega)));have z3:=K3.size;have l3:=D2_6.lt;have E0_3:=h! (E0_2.out.kept K3 (by omega));have E1_3:=h! (E1_2.out.kept K3 (by omega));have E2_3:=h! D2_6)
  |((with_reducible show wpList _ _ _ (⟨none,Op.insert _ (.tmp 7) _ _,_,_,_,_⟩::_) _ _);refine g0! (by rfl) _ _ _ W2_5.heap.size [] [43] 8 rfl rfl Tryz.underlying115 Tryz.underlying9 (DictIs.new W2_5) rfl rfl rfl (by decide) ?_;intro W3_0 D3_1 k3_0)
  |((with_reducible show wpList _ _ _ (⟨none,Op.insert _ (.tmp 7) _ _,_,_,_,_⟩::_) _ _);refine g0! (by rfl) _ _ _ W2_5.heap.size [([43],8)] [45] 9 rfl rfl Tryz.underlying115 Tryz.underlying9 D3_1 rfl rfl rfl (by decide) ?_;intro W3_1 D3_2 k3_1;have K4:=((((Kept.refl (λz=>z=W2_5.heap.size) W2_5).alloc (.map #[] 0)).then_ k3_0 (λ_ _ e=>e)).then_ k3_1 (λ_ _ e=>e));have X4:=k! X3 K4;have F4:=h! (F3.out.trans (K4.to_below (by omega) (λq hq e=>by omega)));have z4:=K4.size;have l4:=D3_2.lt;have E0_4:=h! (E0_3.out.kept K4 (by omega));have E1_4:=h! (E1_3.out.kept K4 (by omega));have E2_4:=h! (E2_3.out.kept K4 (by omega));have E3_4:=h! D3_2)
  |((with_reducible show wpList _ _ _ (⟨none,Op.insert _ (.tmp 9) _ _,_,_,_,_⟩::_) _ _);refine g0! (by rfl) _ _ _ W3_1.heap.size [] [42] 5 rfl rfl Tryz.underlying115 Tryz.underlying9 (DictIs.new W3_1) rfl rfl rfl (by decide) ?_;intro W4_0 D4_1 k4_0)
  |((with_reducible show wpList _ _ _ (⟨none,Op.insert _ (.tmp 9) _ _,_,_,_,_⟩::_) _ _);refine g0! (by rfl) _ _ _ W3_1.heap.size [([42],5)] [47] 6 rfl rfl Tryz.underlying115 Tryz.underlying9 D4_1 rfl rfl rfl (by decide) ?_;intro W4_1 D4_2 k4_1)
  |((with_reducible show wpList _ _ _ (⟨none,Op.insert _ (.tmp 9) _ _,_,_,_,_⟩::_) _ _);refine g0! (by rfl) _ _ _ W3_1.heap.size [([42],5),([47],6)] [37] 7 rfl rfl Tryz.underlying115 Tryz.underlying9 D4_2 rfl rfl rfl (by decide) ?_;intro W4_2 D4_3 k4_2;have K5:=(((((Kept.refl (λz=>z=W3_1.heap.size) W3_1).alloc (.map #[] 0)).then_ k4_0 (λ_ _ e=>e)).then_ k4_1 (λ_ _ e=>e)).then_ k4_2 (λ_ _ e=>e));have X5:=k! X4 K5;have F5:=h! (F4.out.trans (K5.to_below (by omega) (λq hq e=>by omega)));have z5:=K5.size;have l5:=D4_3.lt;have E0_5:=h! (E0_4.out.kept K5 (by omega));have E1_5:=h! (E1_4.out.kept K5 (by omega));have E2_5:=h! (E2_4.out.kept K5 (by omega));have E3_5:=h! (E3_4.out.kept K5 (by omega));have E4_5:=h! D4_3;have s0:=X5.out.c0;have t0:=X5.out.frozen 0;have s1:=X5.out.c1;have t1:=X5.out.frozen 1;have s2:=X5.out.c2;have t2:=X5.out.frozen 2;have s3:=X5.out.c3;have t3:=X5.out.frozen 3;have s4:=X5.out.c4;have t4:=X5.out.frozen 4))
 have x5:=X5.out
 clear hmk
 clear s0 s1 s2 s3 s4
 obtain⟨W9,e9,X9,K9⟩:=x5.e5 (.map (some W0.heap.size)) (.map (some W0_0.heap.size)) (.map (some W1_0.heap.size)) (.map (some W2_5.heap.size)) (.map (some W3_1.heap.size))
 rw[e9]
 clear e9
 obtain⟨s0,s1,s2,s3,s4⟩:=X9.A5
 refine bodyPost_ret (v:=.agg #[.map (some W0.heap.size),.map (some W0_0.heap.size),.map (some W1_0.heap.size),.map (some W2_5.heap.size),.map (some W3_1.heap.size)]) (by simp[results,Tryz.results52,go_sem,s0,s1,s2,s3,s4]) rfl ⟨λk=>if k=0 then W0.heap.size else if k=1 then W0_0.heap.size else if k=2 then W1_0.heap.size else if k=3 then W2_5.heap.size else W3_1.heap.size,rfl,F5.out.trans (K9.to_below (by omega) (λq hq e=>by omega)),?_⟩
 intro k hk
 match k,hk with
 |0,_=>exact⟨E0_5.out.kept K9 (by first|omega|(simp;omega)),by first|omega|(simp;omega)⟩
 |1,_=>exact⟨E1_5.out.kept K9 (by first|omega|(simp;omega)),by first|omega|(simp;omega)⟩
 |2,_=>exact⟨E2_5.out.kept K9 (by first|omega|(simp;omega)),by first|omega|(simp;omega)⟩
 |3,_=>exact⟨E3_5.out.kept K9 (by first|omega|(simp;omega)),by first|omega|(simp;omega)⟩
 |4,_=>exact⟨E4_5.out.kept K9 (by first|omega|(simp;omega)),by first|omega|(simp;omega)⟩
 |k+5,h=>exact absurd h (by omega)
section
variable (g c:Nat) (A:Option Addr) (m:Nat->Nat) (ts:List Tk) (dp:Int)
theorem y3!(d:Nat)(PC:h3! g c A m ts dp d):∀k,k<=5->JoinC g c A m ts dp d k
 |0,_=>c56! g c A m ts dp d PC
 |k+1,h=>c57! g c A m ts dp d k (by omega) (y3! d PC k (by omega))
theorem a68!:∀d,h3! g c A m ts dp d∧JoinC g c A m ts dp d 5
 |0=>
  have h:=a65! g c A m ts dp 0 (λq h=>absurd h (by omega))
  ⟨h,y3! g c A m ts dp 0 h 5 (Nat.le_refl _)⟩
 |d+1=>
  have h:=a65! g c A m ts dp (d+1) (λq h=>by
   obtain rfl:d=q:=by omega
   exact a68! d)
  ⟨h,y3! g c A m ts dp (d+1) h 5 (Nat.le_refl _)⟩
end
theorem a69!(g c:Nat)(A:Option Addr)(m:Nat->Nat)(ts:List Tk)(i:Nat)(dp:Int)(w:World)(h:Par w g A c m ts i dp 0):
 Calls Tryz.prog 40 #[.pointer (some ⟨g,0,none⟩)] w (ExTo w g c A m ts dp (joinL (a0! 16) 5 (ts.drop i))):=by
 obtain⟨W0,eW,f0,x0,z0⟩:=n! w 40 #[.I 0,.I 0,.E,.N]
 have JC:=h! ((a68! g c A m ts dp 16).2 0 0 i _ (by omega) (by omega) (by omega) (h.below f0))
 have hgl:=h.blk.lt
 have F0:=h! f0
 have X0:=h! x0
 clear h f0 x0
 generalize joinL (a0! 16) 5 (ts.drop i)=p at*
 go_enter Tryz.func40,Tryz.ntmps40
 go_upto_region 1 with fail
 rw[eW.out]
 clear eW
 go_wp2_with fail
 refine JC.out.mono ?_
 rintro e w4⟨op,N,nm,B,l,k,rfl,k4,h4⟩
 have x4:=X0.out.kept k4 (by omega)
 have K4:=h! k4
 have H4:=h! h4
 clear k4 h4 JC
 obtain⟨s0,s1,s2,s3⟩:=x4.A4
 obtain⟨t0,t1,t2,t3⟩:=x4.F4
 go_wp2_with fail
 clear s0 s1 s2 s3
 obtain⟨W9,e9,X9,K9⟩:=x4.e4 (.I op) (.I N) (.string nm) (.slice B l k)
 rw[e9]
 clear e9
 obtain⟨s0,s1,s2,s3⟩:=X9.A4
 have KK:Kept (λz=>z=g) w W9:=((Kept.of_below (S:=λz=>z=g) F0.out).then_ K4.out (λ_ _ e=>e)).then_ K9 (λz hz e=>by omega)
 refine bodyPost_ret (v:=.agg #[.I op,.I N,.string nm,.slice B l k]) (by simp[results,Tryz.results40,go_sem,s0,s1,s2,s3]) rfl ⟨_,_,_,_,_,_,rfl,KK,?_⟩
 exact(H4.out.kept_lt K9 (by omega) (λz _ hz e=>by omega)).base_le (by omega)
def CloTo(w:World)(g c:Nat)(A:Option Addr)(m:Nat->Nat)(ts:List Tk)(dp:Int)(r:Nat)(p:PR)(e:Ending)(w':World):Prop:=
 ∃(op N:Int) (nm:ByteArray) (B:Option Addr) (l k:Nat),e=.returned (.tuple #[])∧Kept (λz=>z=g∨z=r) w w'∧Blk w' r 40 #[.I op,.I N,.string nm,.slice B l k]∧
  ExAt w.heap.size g c A m ts dp [.I op,.I N,.string nm,.slice B l k] w' p
theorem c60!(g c:Nat)(A:Option Addr)(m:Nat->Nat)(ts:List Tk)(i:Nat)(dp:Int)(r:Nat)(a b d e:Value)(w:World)(h:Par w g A c m ts i dp 0)(hb:Blk w r 40 #[a,b,d,e])(hgr:g≠r):
 Calls Tryz.prog 39 #[.pointer (some ⟨g,0,none⟩),.pointer (some ⟨r,0,none⟩)] w (CloTo w g c A m ts dp r (joinL (a0! 16) 5 (ts.drop i))):=by
 have JC:=h! (a69! g c A m ts i dp w h)
 have HB:=h! hb
 have hgl:=h.blk.lt
 have hrl:=hb.lt
 clear h hb
 generalize joinL (a0! 16) 5 (ts.drop i)=p at*
 go_enter Tryz.func39,Tryz.ntmps39
 go_wp2_with fail
 refine JC.out.mono ?_
 rintro e' w4⟨op,N,nm,B,l,k,rfl,k4,h4⟩
 have x4:=HB.out.kept k4 (by omega)
 have K4:=h! k4
 have H4:=h! h4
 clear k4 h4 JC
 have s0:w4.cell? ⟨r,0,none⟩=some a:=x4.cell 0
 have s1:w4.cell? ⟨r,1,none⟩=some b:=x4.cell 1
 have s2:w4.cell? ⟨r,2,none⟩=some d:=x4.cell 2
 have s3:w4.cell? ⟨r,3,none⟩=some e:=x4.cell 3
 obtain⟨t0,t1,t2,t3⟩:=x4.F4
 go_wp2_with fail
 clear s0 s1 s2 s3
 obtain⟨W9,e9,X9,K9⟩:=x4.e4 (.I op) (.I N) (.string nm) (.slice B l k)
 rw[e9]
 clear e9
 go_end0
 exact⟨_,_,_,_,_,_,rfl,(K4.out.mono (T:=λz=>z=g∨z=r) (λ_ _ e=>.inl e)).then_ K9 (λ_ _ e=>.inr e),X9,H4.out.kept_lt K9 hgr (λz _ hz e=>by omega)⟩
def PsAt{α:Type}(ts:List Tk)(i:Nat)(er:Int)(p:PS α)(Q:α->Prop):Prop:=match p with
 | .ok a r=>r=ts.drop i∧er=0∧Q a
 | .bad r e=>r=ts.drop i∧e=er∧er≠0
def stP{α:Type}(f:List Tk->PS α)(ts:List Tk)(i:Nat)(er:Int):PS α:=if er=0 then f (ts.drop i)else .bad (ts.drop i) er
theorem PS.bind_assoc{α β γ:Type}(p:PS α)(f:α->List Tk->PS β)(k:β->List Tk->PS γ):(p.bind f).bind k=p.bind λa r=>(f a r).bind k:=by cases p<;>rfl
theorem PS.ok_bind{α β:Type}(a:α)(r:List Tk)(f:α->List Tk->PS β):(PS.ok a r).bind f=f a r:=rfl
theorem PsAt.mono{α:Type}{p:PS α}{Q Q':α->Prop}(h:PsAt ts i er p Q)(hq:∀a,Q a->Q' a):PsAt ts i er p Q':=by
 cases p with
 |ok a r=>exact⟨h.1,h.2.1,hq a h.2.2⟩
 |bad r e=>exact h
theorem PsAt.then_{α β:Type}{er':Int}{p:PS α}{f:List Tk->PS β}{Q:α->Prop}{Q':β->Prop}(h:PsAt ts i er p Q)(h2:PsAt ts j er' (stP f ts i er) Q'):
 PsAt ts j er' (p.bind λa r=>(f r).bind λb r=>.ok (a,b) r) (λab=>Q ab.1∧Q' ab.2):=by
 cases p with
 |ok a r=>
  obtain⟨rfl,rfl,hq⟩:=h;unfold stP at h2;rw[if_pos rfl]at h2
  show PsAt ts j er' ((f (ts.drop i)).bind λb r=>.ok (a,b) r) _
  cases hf:f (ts.drop i)with
  |ok b r=>
   rw[hf]at h2;exact⟨h2.1,h2.2.1,hq,h2.2.2⟩
  |bad r e=>
   rw[hf]at h2;exact h2
 |bad r e=>
  obtain⟨rfl,rfl,hne⟩:=h;unfold stP at h2;rw[if_neg hne]at h2;exact h2
theorem PsAt.map{α β:Type}{p:PS α}{Q:α->Prop}{Q':β->Prop}(k:α->β)(h:PsAt ts i er p Q)(hq:∀a,Q a->Q' (k a)):PsAt ts i er (p.bind λa r=>.ok (k a) r) Q':=by
 cases p with
 |ok a r=>exact⟨h.1,h.2.1,hq a h.2.2⟩
 |bad r e=>exact h
theorem PsAt.st{α:Type}{a:α}{Q:α->Prop}(hq:Q a):PsAt ts i er (stP (λr=>.ok a r) ts i er) Q:=by
 unfold stP
 split
 ·rename_i h
  exact⟨rfl,h,hq⟩
 ·rename_i h
  exact⟨rfl,rfl,h⟩
def a8!{α:Type}(w:World)(g c:Nat)(A:Option Addr)(m:Nat->Nat)(ts:List Tk)(dp:Int)(p:PS α)(R:World->α->Value->Prop)(Sh:World->Value->Prop)(e:Ending)(w':World):Prop:=
 ∃v,e=.returned v∧Kept (λz=>z=g) w w'∧Sh w' v∧∃(i:Nat) (er:Int),Par w' g A c m ts i dp er∧PsAt ts i er p (λa=>R w' a v)
theorem c61!(ht:ts[i]?=some t)(x:List UInt8):PsAt ts (if hasB t er x then i+1 else i) (mustE t er x) (stP (mustP x) ts i er) (λ_=>True):=by
 by_cases he:er=0
 ·subst he
  have e1:hasB t 0 x=hasT x (ts.drop i):=by rw[a1! ht];exact j4!
  unfold stP mustP mustE;rw[if_pos rfl,e1]
  cases hasT x (ts.drop i)with
  |true=>exact⟨by simp,by simp,trivial⟩
  |false=>
   have e2:b9! t 0=d7! (ts.drop i):=by rw[a1! ht];rfl
   exact⟨by simp,by simp[e2],by simp[e2,u2!]⟩
 ·have e0:hasB t er x=false:=by simp[hasB,he]
  unfold stP mustE;rw[if_neg he,e0];exact⟨rfl,by simp[b9!,he],by simp[b9!,he]⟩
theorem a70!(ht:ts[i]?=some t)(k:Int):PsAt ts (if nextB t er k then i+1 else i) (if nextB t er k then er else b9! t er) (stP (takeP k) ts i er) (λa=>a=if nextB t er k then t else noTk):=by
 by_cases he:er=0
 ·subst he
  unfold stP;rw[if_pos rfl,a1! ht];unfold takeP
  by_cases hk:t.kind=k
  ·have:nextB t 0 k=true:=by simp[nextB,hk]
   rw[this]
   simp only[hk,if_pos]
   exact⟨rfl,rfl,rfl⟩
  ·have:nextB t 0 k=false:=by simp[nextB,hk]
   rw[this]
   simp only[hk,if_false,Bool.false_eq_true]
   exact⟨(a1! ht).symm,rfl,by rw[c38! (r:=[])];exact u2! _⟩
 ·have e0:nextB t er k=false:=by simp[nextB,he]
  unfold stP;rw[if_neg he,e0];exact⟨rfl,by simp[b9!,he],by simp[b9!,he]⟩
theorem c62!(ts:List Tk)(i:Nat)(er:Int):stP nameP ts i er=(stP (takeP 1) ts i er).bind λt r=>.ok t.text r:=by
 unfold stP
 split<;>rfl
theorem c63!(ts:List Tk)(i:Nat)(er:Int):stP numP ts i er=(stP (takeP 2) ts i er).bind λt r=>.ok t.n r:=by
 unfold stP
 split<;>rfl
theorem j7!(w:World)(t:Tk):Sem.run Tryz.prog (Instr.field 122 (tkVal t) 1) w=.ok (.string (str t.text)) w:=by rfl
theorem c64!(w:World)(t:Tk):Sem.run Tryz.prog (Instr.field 122 (tkVal t) 2) w=.ok (.I t.n) w:=by rfl
def IsS(_:World)(s:List UInt8)(v:Value):Prop:=v=.string (str s)
def ShS(_:World)(v:Value):Prop:=∃s:ByteArray,v=.string s
def IsN(_:World)(n:Int)(v:Value):Prop:=v=.I n
def ShN(_:World)(v:Value):Prop:=∃n:Int,v=.I n
theorem n4!(g c:Nat)(A:Option Addr)(m:Nat->Nat)(ts:List Tk)(i:Nat)(dp er:Int)(w:World)(h:Par w g A c m ts i dp er):
 Calls Tryz.prog 56 #[.pointer (some ⟨g,0,none⟩)] w (a8! w g c A m ts dp (stP nameP ts i er) IsS ShS):=by
 obtain⟨t,ht⟩:=ParS.at_some h.at_
 have TK:=h! (e9! g c A m ts i dp er 1 w h t ht (by decide))
 have PT:=h! (a70! (er:=er) ht 1)
 rw[c62!]
 generalize (if nextB t er 1 then t else noTk)=tk at*
 clear h ht
 go_enter Tryz.func56,Tryz.ntmps56
 go_wp2_with fail
 refine TK.out.mono ?_
 rintro e w1⟨rfl,p1,k1⟩
 go_wp2_with fail
 rw[j7!]
 go_wp2_with fail
 go_ret
 exact⟨_,rfl,k1,⟨_,rfl⟩,_,_,p1,PT.out.map Tk.text (λa ha=>by rw[ha];rfl)⟩
theorem p3!(g c:Nat)(A:Option Addr)(m:Nat->Nat)(ts:List Tk)(i:Nat)(dp er:Int)(w:World)(h:Par w g A c m ts i dp er):
 Calls Tryz.prog 57 #[.pointer (some ⟨g,0,none⟩)] w (a8! w g c A m ts dp (stP numP ts i er) IsN ShN):=by
 obtain⟨t,ht⟩:=ParS.at_some h.at_
 have TK:=h! (e9! g c A m ts i dp er 2 w h t ht (by decide))
 have PT:=h! (a70! (er:=er) ht 2)
 rw[c63!]
 generalize (if nextB t er 2 then t else noTk)=tk at*
 clear h ht
 go_enter Tryz.func57,Tryz.ntmps57
 go_wp2_with fail
 refine TK.out.mono ?_
 rintro e w1⟨rfl,p1,k1⟩
 go_wp2_with fail
 rw[c64!]
 go_wp2_with fail
 go_ret
 exact⟨_,rfl,k1,⟨_,rfl⟩,_,_,p1,PT.out.map Tk.n (λa ha=>by rw[ha];rfl)⟩
theorem c65!{α β:Type}(f:List Tk->PS α)(k:α->List Tk->PS β)(ts:List Tk)(i:Nat)(er:Int):stP (λr=>(f r).bind k) ts i er=(stP f ts i er).bind k:=by
 unfold stP
 split<;>rfl
theorem u3!{α:Type}(ht:ts[i]?=some t)(x:List UInt8)(f a b:List Tk->PS α)(hf:∀r,f r=if hasT x r then a r.tail else b r):
 (hasB t er x=true->er=0∧stP f ts i er=stP a ts (i+1) er)∧(hasB t er x=false->stP f ts i er=stP b ts i er):=by
 by_cases he:er=0
 ·subst he
  have e1:hasB t 0 x=hasT x (ts.drop i):=by rw[a1! ht];exact j4!
  unfold stP;rw[if_pos rfl,if_pos rfl,if_pos rfl,hf,e1];refine⟨λh=>⟨rfl,?_⟩,λh=>?_⟩
  ·rw[if_pos h,List.tail_drop]
  ·rw[if_neg (by rw[h];decide)]
 ·have e0:hasB t er x=false:=by simp[hasB,he]
  unfold stP;rw[if_neg he,if_neg he,if_neg he,e0];exact⟨λh=>absurd h (by decide),λ_=>rfl⟩
def stB(f:List Tk->Bool)(ts:List Tk)(i:Nat)(er:Int):Bool:=(er==0)&&f (ts.drop i)
theorem a71!(ht:ts[i]?=some t)(k:Int):nextB t er k=stB (kindT k) ts i er:=by
 unfold nextB stB
 rw[a1! ht]
 congr 1
theorem a72!(ht:ts[i]?=some t)(x:List UInt8):hasB t er x=stB (hasT x) ts i er:=by
 unfold stB
 by_cases he:er=0
 ·subst he
  rw[a1! ht,j4! (r:=ts.drop (i+1))]
  rfl
 ·have he':(er==0)=false:=by simp[he]
  simp[hasB,he']
theorem y4!(g c:Nat)(A:Option Addr)(m:Nat->Nat)(ts:List Tk)(i:Nat)(dp er:Int)(w:World)(h:Par w g A c m ts i dp er):
 Calls Tryz.prog 89 #[.pointer (some ⟨g,0,none⟩)] w (a8! w g c A m ts dp (stP b4! ts i er) IsN ShN):=by
 obtain⟨t,ht⟩:=ParS.at_some h.at_
 have SK:=h! (l6! g c A m ts i dp er [45] w h t ht)
 have PT:=h! (u3! (er:=er) ht [45] b4! (λr=>(numP r).bind λn r=>.ok (IntKind.i64.wrap (-n)) r) numP (λr=>rfl))
 have NU:=h! (λw' i' (h':Par w' g A c m ts i' dp er)=>p3! g c A m ts i' dp er w' h')
 generalize hasB t er [45]=b at*
 clear h ht
 cases b
 ·go_enter Tryz.func89,Tryz.ntmps89
  go_wp2_with fail;refine SK.out.mono ?_;rintro e w1⟨rfl,p1,k1⟩;go_wp2_with fail;refine(NU.out w1 i p1).mono ?_;rintro e w2⟨v,rfl,k2,⟨n,rfl⟩,j,er2,p2,ps⟩;go_wp2_with fail
  go_ret
  exact⟨_,rfl,k1.then_ k2 (λ_ _ e=>e),⟨_,rfl⟩,_,_,p2,by rw[PT.out.2 trivial];exact ps⟩
 ·go_enter Tryz.func89,Tryz.ntmps89
  go_wp2_with fail;refine SK.out.mono ?_;rintro e w1⟨rfl,p1,k1⟩;go_wp2_with fail;refine(NU.out w1 (i+1) p1).mono ?_;rintro e w2⟨v,rfl,k2,⟨n,rfl⟩,j,er2,p2,ps⟩;go_wp2_with fail
  go_ret
  refine⟨_,rfl,k1.then_ k2 (λ_ _ e=>e),⟨_,rfl⟩,_,_,p2,?_⟩;rw[(PT.out.1 trivial).2,c65!];refine ps.map (λn=>IntKind.i64.wrap (-n)) λa ha=>?_
  injection ha with _ ha;rw[<-ha]
  show Value.int .i64 (wrap64 (-n))=Value.int .i64 (IntKind.i64.wrap (-n))
  rw[IntWalk.i64_left]
theorem c66!(g c:Nat)(A:Option Addr)(m:Nat->Nat)(ts:List Tk)(i:Nat)(dp er:Int)(w:World)(h:Par w g A c m ts i dp er):
 Calls Tryz.prog 59 #[.pointer (some ⟨g,0,none⟩)] w (Still w (.bool (stB (kindT 2) ts i er))):=by
 obtain⟨t,ht⟩:=ParS.at_some h.at_
 have HX:=h! (c9! g c A m ts i dp er 2 w h t ht)
 rw[<-a71! ht]
 clear h ht
 go_enter Tryz.func59,Tryz.ntmps59
 go_wp2_with fail
 refine HX.out.mono ?_
 rintro e w1⟨rfl,q,rfl⟩
 go_wp2_with fail
 go_ret
 exact⟨rfl,_,rfl⟩
theorem c67!(g c:Nat)(A:Option Addr)(m:Nat->Nat)(ts:List Tk)(i:Nat)(dp er:Int)(w:World)(h:Par w g A c m ts i dp er):
 Calls Tryz.prog 61 #[.pointer (some ⟨g,0,none⟩)] w (Still w (.bool (stB (hasT [118,97,114]) ts i er))):=by
 obtain⟨t,ht⟩:=ParS.at_some h.at_
 have HX:Hid (Calls Tryz.prog 88 #[.pointer (some ⟨g,0,none⟩),.string ⟨#[118,97,114]⟩] w (Still w (.bool (hasB t er [118,97,114])))):=n2! g c A m ts i dp er [118,97,114] w h t ht
 rw[<-a72! ht]
 clear h ht
 go_enter Tryz.func61,Tryz.ntmps61
 go_wp2_with fail
 refine HX.out.mono ?_
 rintro e w1⟨rfl,q,rfl⟩
 go_wp2_with fail
 go_ret
 exact⟨rfl,_,rfl⟩
theorem c68!(g c:Nat)(A:Option Addr)(m:Nat->Nat)(ts:List Tk)(i:Nat)(dp er:Int)(w:World)(h:Par w g A c m ts i dp er):
 Calls Tryz.prog 94 #[.pointer (some ⟨g,0,none⟩)] w (Still w (.bool (stB (hasT [44]) ts i er))):=by
 obtain⟨t,ht⟩:=ParS.at_some h.at_
 have HX:Hid (Calls Tryz.prog 88 #[.pointer (some ⟨g,0,none⟩),.string ⟨#[44]⟩] w (Still w (.bool (hasB t er [44])))):=n2! g c A m ts i dp er [44] w h t ht
 rw[<-a72! ht]
 clear h ht
 go_enter Tryz.func94,Tryz.ntmps94
 go_wp2_with fail
 refine HX.out.mono ?_
 rintro e w1⟨rfl,q,rfl⟩
 go_wp2_with fail
 go_ret
 exact⟨rfl,_,rfl⟩
theorem h4!(a b:List UInt8):((str a).toList==b)=decide (a=b):=by
 rw[ByteArray.toList_eq,str_list]
 by_cases h:a=b<;>simp[h]
theorem w!{s l:List UInt8}(m:List UInt8)(b:Bool)(h:s=l)(hd:decide (l=m)=b:=by decide):((str s).toList==m)=b:=(h4! _ _).trans (by rw[h];exact hd)
theorem c69!(ht:ts[i]?=some t):stB a7! ts i er=(nextB t er 1||(nextB t er 3&&(decide (t.text=[105,102])||decide (t.text=[102,111,114])||decide (t.text=[114,101,102,117,115,101])||decide (t.text=[114,111,108,108])||decide (t.text=[115,101,97,116])||decide (t.text=[111,118,101,114])||decide (t.text=[112,97,121])||decide (t.text=[114,101,115,116])))):=by
 unfold stB nextB
 rw[a1! ht]
 by_cases he:er=0
 ·subst he
  simp only[a7!,beginW,List.mem_cons,List.not_mem_nil,or_false,Bool.decide_or,Bool.or_assoc,beq_self_eq_true,Bool.true_and]
  rfl
 ·have he':(er==0)=false:=by simp[he]
  simp only[he',Bool.false_and,Bool.false_or]
theorem eight:∀d0 d1 d2 d3 d4 d5 d6 d7:Bool,(d0=true)∨(d0=false∧d1=true)∨(d0=false∧d1=false∧d2=true)∨(d0=false∧d1=false∧d2=false∧d3=true)∨(d0=false∧d1=false∧d2=false∧d3=false∧d4=true)∨(d0=false∧d1=false∧d2=false∧d3=false∧d4=false∧d5=true)∨(d0=false∧d1=false∧d2=false∧d3=false∧d4=false∧d5=false∧d6=true)∨(d0=false∧d1=false∧d2=false∧d3=false∧d4=false∧d5=false∧d6=false∧d7=true)∨(d0=false∧d1=false∧d2=false∧d3=false∧d4=false∧d5=false∧d6=false∧d7=false):=by
 intro d0 d1 d2 d3 d4 d5 d6 d7
 cases d0<;>simp
 cases d1<;>simp
 cases d2<;>simp
 cases d3<;>simp
 cases d4<;>simp
 cases d5<;>simp
 cases d6<;>simp
theorem c70!(g c:Nat)(A:Option Addr)(m:Nat->Nat)(ts:List Tk)(i:Nat)(dp er:Int)(w:World)(h:Par w g A c m ts i dp er):
 Calls Tryz.prog 91 #[.pointer (some ⟨g,0,none⟩)] w (Still w (.bool (stB a7! ts i er))):=by
 obtain⟨t,ht⟩:=ParS.at_some h.at_
 have HB:=h! (c69! (er:=er) ht)
 have N1:=h! (c9! g c A m ts i dp er 1 w h t ht)
 have N3:=h! (λq=>Still.in_ (c9! g c A m ts i dp er 3 (w.drewN q) (h.drewN q) t ht))
 obtain⟨b,o,rfl,hb,hbg,q0,q1,q2,q3,q4⟩:=h.st.tok ht
 have hi:=h.at_
 obtain⟨n,hn⟩:∃n,ts.length=n:=⟨_,rfl⟩
 have B:=h.blk
 rw[hn]at B hi
 obtain⟨c0,c1⟩:=B.A2
 have g1:(0:Int)<=(i:Int):=by omega
 have g2:(i:Int)<(n:Int):=by omega
 have e0:((str t.text).toList==[105,102])=decide (t.text=[105,102]):=h4! _ _
 have e1:((str t.text).toList==[102,111,114])=decide (t.text=[102,111,114]):=h4! _ _
 have e2:((str t.text).toList==[114,101,102,117,115,101])=decide (t.text=[114,101,102,117,115,101]):=h4! _ _
 have e3:((str t.text).toList==[114,111,108,108])=decide (t.text=[114,111,108,108]):=h4! _ _
 have e4:((str t.text).toList==[115,101,97,116])=decide (t.text=[115,101,97,116]):=h4! _ _
 have e5:((str t.text).toList==[111,118,101,114])=decide (t.text=[111,118,101,114]):=h4! _ _
 have e6:((str t.text).toList==[112,97,121])=decide (t.text=[112,97,121]):=h4! _ _
 have e7:((str t.text).toList==[114,101,115,116])=decide (t.text=[114,101,115,116]):=h4! _ _
 generalize stB a7! ts i er=res at*
 generalize nextB t er 1=b1 at*
 generalize nextB t er 3=b3 at*
 generalize decide (t.text=[105,102])=d0 at*
 generalize decide (t.text=[102,111,114])=d1 at*
 generalize decide (t.text=[114,101,102,117,115,101])=d2 at*
 generalize decide (t.text=[114,111,108,108])=d3 at*
 generalize decide (t.text=[115,101,97,116])=d4 at*
 generalize decide (t.text=[111,118,101,114])=d5 at*
 generalize decide (t.text=[112,97,121])=d6 at*
 generalize decide (t.text=[114,101,115,116])=d7 at*
 clear q0 q2 q3 q4 B h hn ht
 cases b1
 ·cases b3
  ·have HR:Hid (res=false):=by rw[Hid,HB.out];rfl
   clear HB e0 e1 e2 e3 e4 e5 e6 e7;go_enter Tryz.func91,Tryz.ntmps91;go_wp2_with fail;refine N1.out.mono ?_;rintro e w1⟨rfl,q1,rfl⟩;go_wp2_with fail;refine(N3.out q1).mono ?_;rintro e w1⟨rfl,q2,rfl⟩;go_wp2_with fail
   go_ret
   exact⟨by rw[HR.out];rfl,_,rfl⟩
  ·rcases eight d0 d1 d2 d3 d4 d5 d6 d7 with rfl|⟨rfl,rfl⟩|⟨rfl,rfl,rfl⟩|⟨rfl,rfl,rfl,rfl⟩|⟨rfl,rfl,rfl,rfl,rfl⟩|⟨rfl,rfl,rfl,rfl,rfl,rfl⟩|⟨rfl,rfl,rfl,rfl,rfl,rfl,rfl⟩|⟨rfl,rfl,rfl,rfl,rfl,rfl,rfl,rfl⟩|⟨rfl,rfl,rfl,rfl,rfl,rfl,rfl,rfl⟩
   ·have HR:Hid (res=true):=by rw[Hid,HB.out];rfl
    clear HB;go_enter Tryz.func91,Tryz.ntmps91;go_wp2_with fail;refine N1.out.mono ?_;rintro e w1⟨rfl,q1,rfl⟩;go_wp2_with fail;refine(N3.out q1).mono ?_;rintro e w1⟨rfl,q2,rfl⟩;go_upto_region 5 with fail
    go_quiet (fail)
    go_wp2_with fail
    go_ret
    exact⟨by rw[HR.out];rfl,_,rfl⟩
   ·have HR:Hid (res=true):=by rw[Hid,HB.out];rfl
    clear HB;go_enter Tryz.func91,Tryz.ntmps91;go_wp2_with fail;refine N1.out.mono ?_;rintro e w1⟨rfl,q1,rfl⟩;go_wp2_with fail;refine(N3.out q1).mono ?_;rintro e w1⟨rfl,q2,rfl⟩;go_upto_region 5 with fail
    go_quiet (fail)
    go_wp2_with fail
    go_ret
    exact⟨by rw[HR.out];rfl,_,rfl⟩
   ·have HR:Hid (res=true):=by rw[Hid,HB.out];rfl
    clear HB;go_enter Tryz.func91,Tryz.ntmps91;go_wp2_with fail;refine N1.out.mono ?_;rintro e w1⟨rfl,q1,rfl⟩;go_wp2_with fail;refine(N3.out q1).mono ?_;rintro e w1⟨rfl,q2,rfl⟩;go_upto_region 5 with fail
    go_quiet (fail)
    go_wp2_with fail
    go_ret
    exact⟨by rw[HR.out];rfl,_,rfl⟩
   ·have HR:Hid (res=true):=by rw[Hid,HB.out];rfl
    clear HB;go_enter Tryz.func91,Tryz.ntmps91;go_wp2_with fail;refine N1.out.mono ?_;rintro e w1⟨rfl,q1,rfl⟩;go_wp2_with fail;refine(N3.out q1).mono ?_;rintro e w1⟨rfl,q2,rfl⟩;go_upto_region 5 with fail
    go_quiet (fail)
    go_wp2_with fail
    go_ret
    exact⟨by rw[HR.out];rfl,_,rfl⟩
   ·have HR:Hid (res=true):=by rw[Hid,HB.out];rfl
    clear HB;go_enter Tryz.func91,Tryz.ntmps91;go_wp2_with fail;refine N1.out.mono ?_;rintro e w1⟨rfl,q1,rfl⟩;go_wp2_with fail;refine(N3.out q1).mono ?_;rintro e w1⟨rfl,q2,rfl⟩;go_upto_region 5 with fail
    go_quiet (fail)
    go_wp2_with fail
    go_ret
    exact⟨by rw[HR.out];rfl,_,rfl⟩
   ·have HR:Hid (res=true):=by rw[Hid,HB.out];rfl
    clear HB;go_enter Tryz.func91,Tryz.ntmps91;go_wp2_with fail;refine N1.out.mono ?_;rintro e w1⟨rfl,q1,rfl⟩;go_wp2_with fail;refine(N3.out q1).mono ?_;rintro e w1⟨rfl,q2,rfl⟩;go_upto_region 5 with fail
    go_quiet (fail)
    go_wp2_with fail
    go_ret
    exact⟨by rw[HR.out];rfl,_,rfl⟩
   ·have HR:Hid (res=true):=by rw[Hid,HB.out];rfl
    clear HB;go_enter Tryz.func91,Tryz.ntmps91;go_wp2_with fail;refine N1.out.mono ?_;rintro e w1⟨rfl,q1,rfl⟩;go_wp2_with fail;refine(N3.out q1).mono ?_;rintro e w1⟨rfl,q2,rfl⟩;go_upto_region 5 with fail
    go_quiet (fail)
    go_wp2_with fail
    go_ret
    exact⟨by rw[HR.out];rfl,_,rfl⟩
   ·have HR:Hid (res=true):=by rw[Hid,HB.out];rfl
    clear HB;go_enter Tryz.func91,Tryz.ntmps91;go_wp2_with fail;refine N1.out.mono ?_;rintro e w1⟨rfl,q1,rfl⟩;go_wp2_with fail;refine(N3.out q1).mono ?_;rintro e w1⟨rfl,q2,rfl⟩;go_upto_region 5 with fail
    go_quiet (fail)
    go_wp2_with fail
    go_ret
    exact⟨by rw[HR.out];rfl,_,rfl⟩
   ·have HR:Hid (res=false):=by rw[Hid,HB.out];rfl
    clear HB;go_enter Tryz.func91,Tryz.ntmps91;go_wp2_with fail;refine N1.out.mono ?_;rintro e w1⟨rfl,q1,rfl⟩;go_wp2_with fail;refine(N3.out q1).mono ?_;rintro e w1⟨rfl,q2,rfl⟩;go_upto_region 5 with fail
    go_quiet (fail)
    go_wp2_with fail
    go_ret
    exact⟨by rw[HR.out];rfl,_,rfl⟩
 ·have HR:Hid (res=true):=by rw[Hid,HB.out];rfl
  clear HB e0 e1 e2 e3 e4 e5 e6 e7;go_enter Tryz.func91,Tryz.ntmps91;go_wp2_with fail;refine N1.out.mono ?_;rintro e w1⟨rfl,q1,rfl⟩;go_wp2_with fail
  go_ret
  exact⟨by rw[HR.out];rfl,_,rfl⟩
end Go.Proofs.YtdgekckedchjbaaGreatDoor
