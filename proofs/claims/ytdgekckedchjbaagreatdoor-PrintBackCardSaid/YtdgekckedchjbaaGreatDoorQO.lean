
/-
 The writer's statements: what is asked, and plain laws for it. The writer's stmt. (Printed by wip/tools/genv13.py.) The writer's block; statements at any depth. The writer's part; rows of texts that grow; the pieces of a program's lines.
-/
import Derived.Test.YtdgekckedchjbaaGreatDoorQN
set_option maxHeartbeats 8000000
set_option maxRecDepth 100000
namespace Go.Proofs.YtdgekckedchjbaaGreatDoor
open Go.RowKit
variable {base deep len n room:Nat} {w w':World} {E:List Gx} {x:Gx} {nm t:List UInt8} {hi k lo:Int} {A:Option Addr} {s:ByteArray} {v:Value}
structure TabP (base:Nat) (w:World):Prop where
 at_:∀k:Nat,k<10->w.cell? ⟨1,k,none⟩=some (.I (partsS (k:Int):Nat))
 lt:4<=base
theorem TabP.low(h:TabP base w)(hb:Below base w w'):TabP base w':=
 ⟨λk hk=>(hb.cell (p:=⟨1,k,none⟩) (by have:=h.lt;show (1:Nat)<base;omega)).trans (h.at_ k hk),h.lt⟩
theorem TabP.more{base':Nat}(h:TabP base w)(hb:base<=base'):TabP base' w:=⟨h.at_,Nat.le_trans h.lt hb⟩
theorem Tabs.low(h:Tabs base w)(hb:Below base w w'):Tabs base w':=h.below hb (Nat.le_refl _)
theorem b07!(xs:List (List UInt8)):(Lib.join xs [32]).length<=(xs.map λx=>x.length+1).sum:=by
 unfold Lib.join
 induction xs with
 |nil=>simp
 |cons a l ih=>
  cases l with
  |nil=>simp
  |cons b l=>
   rw[List.intercalate_cons_cons,List.length_append,List.length_append,List.map_cons,List.sum_cons]
   simp only[List.length_cons,List.length_nil]at*
   omega
theorem z6!:∀{E:List Gx} {T:List (List UInt8)},rawEs E=some T->∀x∈E,∃t∈T,rawE x=some t
 |[],_,_,x,hx=>by simp at hx
 |g::l,T,h,x,hx=>by
  rw[rawEs]at h
  cases hg:rawE g with
  |none=>rw[hg]at h;cases h
  |some a=>
   cases hl:rawEs l with
   |none=>rw[hg,hl]at h;cases h
   |some b=>
    rw[hg,hl]at h;injection h with h;subst h;rcases List.mem_cons.1 hx with rfl|hx
    ·exact⟨a,List.mem_cons_self ..,hg⟩
    ·obtain⟨t,ht,e⟩:=z6! hl x hx
     exact⟨t,List.mem_cons_of_mem _ ht,e⟩
theorem b08!:∀{E:List Gx} {T:List (List UInt8)},rawEs E=some T->T.length=E.length
 |[],_,h=>by
  rw[rawEs]at h;injection h with h;subst h
  rfl
 |g::l,T,h=>by
  rw[rawEs]at h
  cases hg:rawE g with
  |none=>rw[hg]at h;cases h
  |some a=>
   cases hl:rawEs l with
   |none=>rw[hg,hl]at h;cases h
   |some b=>
    rw[hg,hl]at h;injection h with h;subst h
    simp[b08! hl]
theorem d59!{T:List (List UInt8)}(h:rawEs E=some T)(hx:rawE x=some t):rawEs (E++[x])=some (T++[t]):=by
 induction E generalizing T with
 |nil=>
  rw[rawEs]at h;injection h with h;subst h;rw[List.nil_append,rawEs,hx,rawEs]
  rfl
 |cons g l ih=>
  rw[rawEs]at h
  cases hg:rawE g with
  |none=>rw[hg]at h;cases h
  |some a=>
   cases hl:rawEs l with
   |none=>rw[hg,hl]at h;cases h
   |some b=>
    rw[hg,hl]at h;injection h with h;subst h;rw[List.cons_append,rawEs,hg,ih hl]
    rfl
def Ill(E:List Gx)(room:Nat):Prop:=∃x∈E,rawE x=none∨∃t,rawE x=some t∧room<t.length
theorem d60!{xs:List (List UInt8)}{x:List UInt8}(h:x∈xs):x.length<=(Lib.join xs [32]).length:=by
 unfold Lib.join
 induction xs with
 |nil=>simp at h
 |cons a l ih=>
  cases l with
  |nil=>
   obtain rfl:=List.mem_singleton.1 h
   simp
  |cons b l=>
   rw[List.intercalate_cons_cons,List.length_append,List.length_append];rcases List.mem_cons.1 h with rfl|h
   ·omega
   ·have:=ih h
    omega
theorem l9!{ps:List (List UInt8)}{x:List UInt8}(h:x∈ps):x.length<=(lineB deep ps).length:=by
 unfold lineB
 have:=d60! h
 simp only[List.length_append]
 omega
theorem e4!{a b:Option (List UInt8)}(h:ocat a b=some t):∃u v,a=some u∧b=some v∧t=u++v:=by
 cases a<;>cases b<;>simp[ocat]at h
 exact⟨_,_,rfl,rfl,h.symm⟩
theorem d61!(t:List UInt8):t.length<=(payB t).length:=by
 unfold payB
 split
 ·simp
  omega
 ·exact Nat.le_refl _
theorem Sx.E_{L El:List Sx}(h:rawS deep (.mk k nm E lo hi L El)=some t):∃T,rawEs E=some T∧0<=k∧k<10∧E.length=partsS k:=by
 rw[rawS]at h
 split at h
 ·rename_i hc
  cases hE:rawEs E with
  |none=>rw[hE]at h;cases h
  |some T=>exact⟨T,rfl,hc⟩
 ·cases h
theorem d62!{L El:List Sx}(h:rawS deep (.mk k nm E lo hi L El)=some t)(hx:x∈E){u:List UInt8}(hu:rawE x=some u):u.length<=t.length:=by
 obtain⟨T,hT,h0,h10,hl⟩:=Sx.E_ h
 obtain⟨u',hm,hu'⟩:=z6! hT x hx
 obtain rfl:=Option.some.inj (hu.symm.trans hu')
 have hTl:=b08! hT
 rw[rawS,if_pos ⟨h0,h10,hl⟩,hT]at h
 simp only at h
 rw[hl]at hTl
 obtain⟨m,rfl⟩:∃m:Nat,k=(m:Int):=⟨k.toNat,by omega⟩
 have hcases:m=0∨m=1∨m=2∨m=3∨m=4∨m=5∨m=6∨m=7∨m=8∨m=9:=by omega
 have g0:1<=T.length->T.getD 0 []∈T:=λh=>by rw[List.getD_eq_getElem?_getD,List.getElem?_eq_getElem (by omega)];exact List.getElem_mem _
 have hone:T.length=1->u=T.getD 0 []:=λh=>by
  match T,h,hm with
  |[a],_,hm=>exact List.mem_singleton.1 hm
 have htwo:T.length=2->u=T.getD 0 []∨u=T.getD 1 []:=λh=>by
  match T,h,hm with
  |[a,b],_,hm=>simpa using hm
 rcases hcases with rfl|rfl|rfl|rfl|rfl|rfl|rfl|rfl|rfl|rfl<;>simp[partsS]at hTl h
 ·subst h
  rw[hone hTl];exact l9! (by simp)
 ·subst h
  rcases htwo hTl with e|e<;>rw[e]<;>exact l9! (by simp)
 ·obtain⟨a,b,ha,hb,rfl⟩:=e4! h
  injection ha with ha;have:u.length<=a.length:=by
   rw[hone hTl,<-ha];exact l9! (by simp)
  simp
  omega
 ·rw[hTl]at hm;simp at hm
 ·rw[hTl]at hm;simp at hm
 ·rw[hTl]at hm;simp at hm
 ·subst h
  rw[hone hTl];exact l9! (by simp)
 ·rw[hTl]at hm;simp at hm
 ·subst h
  rcases htwo hTl with e|e
  ·rw[e]
   exact l9! (by simp)
  ·rw[e]
   exact Nat.le_trans (d61! _) (l9! (by simp))
 ·subst h
  rw[hone hTl];exact l9! (by simp)
theorem WOut.stmt{l l':List UInt8}{bf b':Bool}{L El:List Sx}{T:List (List UInt8)}{o:Option (List UInt8)}(hg:bf=false->rawEs E=some T)(hi_:bf=true->Ill E room)
 (ho:rawEs E=some T->rawS deep (.mk k nm E lo hi L El)=o) (h:WOut room l bf o l' b'):WOut room l false (rawS deep (.mk k nm E lo hi L El)) l' b':=by
 cases bf with
 |false=>rw[ho (hg rfl)];exact h
 |true=>
  refine⟨λe=>?_,λ_=>?_,h.len⟩
  ·have:=(h.good e).1
   cases this
  ·obtain⟨x,hx,hn⟩:=hi_ rfl
   cases hS:rawS deep (.mk k nm E lo hi L El)with
   |none=>exact .inr (.inl rfl)
   |some t=>
    obtain⟨T',hT,_⟩:=Sx.E_ hS;obtain⟨u,hu,hxu⟩:=z6! hT x hx;rcases hn with hn|⟨v,hv,hl⟩
    ·rw[hn]at hxu;cases hxu
    ·exact .inr (.inr ⟨t,rfl,by have:=d62! hS hx hv;omega⟩)
theorem Kid.ofA{l:Nat}{gs:List Gx}(h:ElsG (λk=>k<base) w 4 1000000 (GA (λk=>k<base) w) A l gs){i:Nat}(hi:i<gs.length)(hb:base<=w.heap.size):
 ∃(n b o:Nat) (op N:Int) (nm:ByteArray) (A':Option Addr) (l' c':Nat),Kid base n w A i (gs[i]'hi) b o op N nm A' l' c'∧FitG n (gs[i]'hi):=by
 obtain⟨xs,h1,h0,-,h4,h5⟩:=h
 obtain⟨n,hc,hf⟩:=h5 i hi
 obtain⟨op,N,nm,A',l',c',hcs⟩:=hc.form
 obtain⟨b,o,hA,hbl,hq⟩:=h1.chunk (by omega) (show i<l by omega) hcs
 rw[hcs]at hc
 exact⟨n,b,o,op,N,nm,A',l',c',⟨hA,hc,hq 0 _ rfl,hq 1 _ rfl,hq 2 _ rfl,hq 3 _ rfl,h0 (by omega) _ hA,hb⟩,hf⟩
def b09!(base n:Nat):Prop:=∀(g room deep:Nat) (ob:Option Nat) (l:List UInt8) (kind lo hi:Int) (nm:List UInt8) (E:List Gx) (L El:List Sx) (A1:Option Addr) (l1 c1:Nat) (A2:Option Addr) (l2 c2:Nat) (A3:Option Addr) (l3 c3:Nat) (w:World),
 Tabs base w->TabP base w->Wr base w g ob room l false->(nm.length<=1000000∧FitN lo∧FitN hi)->ElsG (λk=>k<base) w 4 1000000 (GA (λk=>k<base) w) A1 l1 E->ElsG (λk=>k<base) w 7 1000000 (XE (λk=>k<base) w n) A2 l2 L->
 ElsG (λk=>k<base) w 7 1000000 (XE (λk=>k<base) w n) A3 l3 El->deep+n<=900->0<=kind->kind<10->E.length=partsS kind->
 Calls Tryz.prog 136 #[.pointer (some ⟨g,0,none⟩),.agg #[.I kind,.string (str nm),.slice A1 l1 c1,.I lo,.I hi,.slice A2 l2 c2,.slice A3 l3 c3],.I deep] w (b5! base w g ob room l false (rawS deep (.mk kind nm E lo hi L El)))
def z7!(base n:Nat):Prop:=∀(g room deep:Nat) (ob:Option Nat) (l:List UInt8) (bad:Bool) (A:Option Addr) (len cap:Nat) (L:List Sx) (w:World),
 Tabs base w->TabP base w->Wr base w g ob room l bad->ElsG (λk=>k<base) w 7 1000000 (XE (λk=>k<base) w n) A len L->deep+n<=901->
 Calls Tryz.prog 99 #[.pointer (some ⟨g,0,none⟩),.slice A len cap,.I deep] w (b5! base w g ob room l bad (rawB deep L))
theorem b10!(W:World)(a b c d e:ByteArray):RV (W.alloc (.cells #[.string a,.string b,.string c,.string d,.string e] 9)) (some ⟨W.heap.size,0,none⟩) 5 ([a,b,c,d,e].map Value.string):=by
 refine⟨rfl,λ_=>⟨_,rfl,by simp,λj u hu=>?_⟩⟩
 rw[Addr.add_lit,Nat.zero_add,(Blk.new W 9 #[.string a,.string b,.string c,.string d,.string e]).cell j]
 simpa using hu
theorem b6!{ps:List ByteArray}(h:(ps.map λs=>s.data.size+1).sum<=140737488355328):(Lib.join (ps.map (·.data.toList)) [32]).length<=140737488355328:=by
 refine Nat.le_trans (b07! _) ?_
 rw[List.map_map]
 simpa[Function.comp_def]using h
def stmtO(deep:Nat)(k:Int)(nm:List UInt8)(T:List (List UInt8))(lo hi:Int)(L El:List Sx):Option (List UInt8):=
 if k=0 then some (lineB deep [nm,[61],T.getD 0 []])
 else if k=1 then some (lineB deep [nm,[91],T.getD 0 [],[93,32,61],T.getD 1 []])
 else if k=2 then ocat (some (lineB deep [[105,102],T.getD 0 [],[116,104,101,110]])) (ocat (rawB (deep+1) L)
  (ocat (if El.length=0 then some []else ocat (some (lineB deep [[101,108,115,101]])) (rawB (deep+1) El)) (some (lineB deep [[101,110,100]]))))
 else if k=3 then ocat (some (lineB deep [[102,111,114],nm,Lib.itoa lo,Lib.itoa hi,[100,111]])) (ocat (rawB (deep+1) L) (some (lineB deep [[101,110,100]])))
 else if k=4 then some (lineB deep [[114,101,102,117,115,101]])
 else if k=5 then some (lineB deep [[114,111,108,108],nm,Lib.itoa lo])
 else if k=6 then some (lineB deep [[115,101,97,116],T.getD 0 []])
 else if k=7 then some (lineB deep [[111,118,101,114]])
 else if k=8 then some (lineB deep [[112,97,121],T.getD 0 [],payB (T.getD 1 [])])
 else some (lineB deep [[114,101,115,116],T.getD 0 []])
theorem g2!{L El:List Sx}{T:List (List UInt8)}(h:0<=k∧k<10∧E.length=partsS k)(hT:rawEs E=some T):rawS deep (.mk k nm E lo hi L El)=stmtO deep k nm T lo hi L El:=by
 rw[rawS,if_pos h,hT]
 rfl
theorem b11!{T:List (List UInt8)}(h:∀t∈T,t.length<=room)(i:Nat):(T.getD i []).length<=room:=by
 rw[List.getD_eq_getElem?_getD]
 rcases Nat.lt_or_ge i T.length with hi|hi
 ·rw[List.getElem?_eq_getElem hi]
  exact h _ (List.getElem_mem hi)
 ·rw[List.getElem?_eq_none hi]
  simp
theorem ElsG.low_{L:List Sx}(h:ElsG (λk=>k<base) w 7 1000000 (XE (λk=>k<base) w n) A len L)(hb:Below base w w'):ElsG (λk=>k<base) w' 7 1000000 (XE (λk=>k<base) w' n) A len L:=
 h.kept (S:=λk=>¬k<base) ⟨hb.os,hb.tape,hb.output,hb.size,λk _ hn=>hb.block k (Classical.not_not.1 hn)⟩ (λ_ _ hk hn=>hn hk) (λ_ _ hk=>hk)
  (XE.kept (S:=λk=>¬k<base) ⟨hb.os,hb.tape,hb.output,hb.size,λk _ hn=>hb.block k (Classical.not_not.1 hn)⟩ (λ_ _ hk hn=>hn hk) (λ_ _ hk=>hk) n)
theorem d63!(h:s.data.toList=t)(hq:Lib.hasPrefix s.data.toList (⟨#[45]⟩:ByteArray).data.toList=true):payB t=[40,32]++s.data.toList++[32,41]:=by
 unfold payB
 rw[<-h,if_pos]
 cases hs:s.data.toList with
 |nil=>rw[hs]at hq;simp[Lib.hasPrefix]at hq
 |cons a r=>rw[hs]at hq;simp[Lib.hasPrefix]at hq;simp[hq]
theorem d64!(h:s.data.toList=t)(hq:Lib.hasPrefix s.data.toList (⟨#[45]⟩:ByteArray).data.toList=false):payB t=s.data.toList:=by
 unfold payB
 rw[<-h,if_neg]
 intro e
 cases hs:s.data.toList with
 |nil=>rw[hs]at e;cases e
 |cons a r=>
  rw[hs]at e hq;injection e with e;subst e
  simp[Lib.hasPrefix]at hq
def TxI(base:Nat)(w:World)(g:Nat)(ob:Option Nat)(room:Nat)(l:List UInt8)(sb tb:Nat)(sc:Array Value)(E:List Gx)(k:Nat)(wr:World):Prop:=
 ∃(bf:Bool) (T:List (List UInt8)),Turns w g ob wr ob∧Wr base wr g ob room l bf∧Blk wr sb 95 sc∧Blk wr tb 208 #[.string (str (T.getD 0 [])),.string (str (T.getD 1 []))]∧
  T.length=k∧(∀t∈T,t.length<=room)∧(bf=false->rawEs (E.take k)=some T)∧(bf=true->Ill E room)
theorem d65!(base n:Nat)(HB:z7! base n):b09! base n:=by
 intro g room deep ob l kind lo hi nm E L El A1 l1 c1 A2 l2 c2 A3 l3 c3 w hT hP h hf hE hL hEl hd hk0 hk10 hlen
 obtain⟨NM,hNM⟩:∃s,s=str nm:=⟨_,rfl⟩
 rw[<-hNM]
 have hl1:l1=E.length:=by obtain⟨_,_,_,_,h,_⟩:=hE;exact h.symm
 have hl2:E.length<=2:=by rw[hlen];unfold partsS;split<;>(try split)<;>omega
 have f0:=a! w (.cells #[.I kind,.string NM,.slice A1 l1 c1,.I lo,.I hi,.slice A2 l2 c2,.slice A3 l3 c3] 95)
 have HH:=h! h
 have H0:=h! (h.below f0)
 have X0:=h! (Blk.new w 95 #[.I kind,.string NM,.slice A1 l1 c1,.I lo,.I hi,.slice A2 l2 c2,.slice A3 l3 c3])
 have FX0:=h! (Far.new h (.cells #[.I kind,.string NM,.slice A1 l1 c1,.I lo,.I hi,.slice A2 l2 c2,.slice A3 l3 c3] 95))
 have T0:=h! (Turns.of_below (g:=g) (ob:=ob) f0)
 have TB:=h! hT
 have TP:=h! hP
 have HE:=h! hE
 have HL:=h! hL
 have HEl:=h! hEl
 have HN:=h! hNM
 have HFt:=h! hf
 have HL1:=h! hl1
 have HLen:=h! hlen
 have HBk:=h! HB
 have hr1:=h.2.2.1
 have hr2:=h.2.2.2.1
 clear f0 hT hP h hf hE hL hEl hNM hl1 hlen HB
 go_enter Tryz.func136,Tryz.ntmps136
 go_upto_region 1 with fail
 generalize w.alloc (.cells #[.I kind,.string NM,.slice A1 l1 c1,.I lo,.I hi,.slice A2 l2 c2,.slice A3 l3 c3] 95)=W0 at*
 have f1:=a! W0 (.cells #[.E,.E] 208)
 have H1:=h! (H0.out.below f1)
 have X1:=b! X0 f1
 have Y1:=h! (Blk.new W0 208 #[.E,.E])
 have FX1:=h! (FX0.out.below f1)
 have FY1:=h! (Far.new H0.out (.cells #[.E,.E] 208))
 have T1:=h! (T0.out.below f1)
 have hxy:w.heap.size<W0.heap.size:=X0.out.lt
 have HXY:=h! hxy
 clear f1 H0 X0 FX0 T0 hxy
 go_upto_region 2 with fail
 generalize W0.alloc (.cells #[.E,.E] 208)=W1 at*
 have hAE:0<l1->∃b o,A1=some ⟨b,o,none⟩:=λhp=>by
  obtain⟨_,b,o,_,_,_,_,_,_,hk,_⟩:=Kid.ofA HE.out (i:=0) (by have:=HL1.out;omega) HH.out.low;exact⟨b,o,hk.at_⟩
 have HAE:=h! hAE
 clear hAE
 have x2:=X1.out.c2
 go_wp2_with fail
 clear x2
 go_loopw [13] (λi wr=>∃k:Nat,k<=l1∧i=.I k∧Hid (TxI base w g ob room l w.heap.size W0.heap.size #[.I kind,.string NM,.slice A1 l1 c1,.I lo,.I hi,.slice A2 l2 c2,.slice A3 l3 c3] E k wr)) (λi _=>l1-(intOf i).toNat)
 case atStart=>exact⟨0,by omega,rfl,false,[],T1.out,H1.out,X1.out,Y1.out,rfl,(λt ht=>by simp at ht),(λ_=>rfl),(λe=>by cases e)⟩
 case round=>
  obtain⟨k,hk,rfl,hi⟩:=hrel;obtain⟨bf,T,t2,r2,b2,y2,htl,htr,hgd,hil⟩:=hi.out;have T2:=h! t2;have R2:=h! r2;have B2:=h! b2;have Y2:=h! y2;have HTL:=h! htl;have HTR:=h! htr;have HGD:=h! hgd;have HIL:=h! hil;clear t2 r2 b2 y2 htl htr hgd hil hi
  by_cases hlt:k<l1
  ·have hkE:k<E.length:=by have:=HL1.out;omega
   obtain⟨b0,o0,hA⟩:=HAE.out (by omega);subst hA;obtain⟨kn,kb,ko,kop,kN,knm,kA,kl,kc,hkid,hkf⟩:=Kid.ofA HE.out (i:=k) hkE HH.out.low;obtain⟨rfl,rfl⟩:b0=kb∧o0=ko:=by
    have:=hkid.at_;injection this with this;injection this with q1 q2;exact⟨q1,q2⟩
   have HX:=h! (List.take_succ_eq_append_getElem hkE);have HM:=h! (List.getElem_mem hkE);generalize E[k]=x at*;have KD:=h! (hkid.below (T2.out.low HH.out));have KF:=h! hkf;clear hkid hkf;have c0:wr.cell? ⟨b0,o0+k*4,none⟩=some (.I kop):=KD.out.c0;have c1':wr.cell? ⟨b0,o0+k*4+1,none⟩=some (.I kN):=KD.out.c1;have c2':wr.cell? ⟨b0,o0+k*4+2,none⟩=some (.string knm):=KD.out.c2;have c3':wr.cell? ⟨b0,o0+k*4+3,none⟩=some (.slice kA kl kc):=KD.out.c3;have g1:(0:Int)<=(k:Int):=by omega
   have g2:(k:Int)<(l1:Int):=by omega
   have g3:(k:Int)<2:=by have:=HL1.out;omega
   obtain⟨W3,eW,f3,E3,-⟩:=n! wr 40 #[.I kop,.I kN,.string knm,.slice kA kl kc];replace E3:=h! E3;have R3:=h! (R2.out.below f3);have T3:=h! (Turns.of_below (g:=g) (ob:=ob) f3);have TB3:=h! ((TB.out.low (T2.out.low HH.out)).low (f3.mono R2.out.low));have G3:=h! (KD.out.gc.low (f3.mono R2.out.low));have B3:=h! (B2.out.below f3 B2.out.lt);have Y3:=b! Y2 f3;clear f3;go_upto_region 5 with fail;clear c0 c1' c2' c3';rw[eW.out];clear eW;obtain⟨e0,e1,e2,e3⟩:=E3.out.A4;have TX:=h! (b06! base kn g room ob l bf kop kN knm kA kl kc x W3 TB3.out R3.out G3.out KF.out);go_wp2_with fail;refine TX.out.mono ?_;rintro e w4⟨s4,b4,rfl,t4,r4,o4⟩;have FX4:Far wr g ob w.heap.size:=⟨FX1.out.1,FX1.out.2.1,B2.out.lt⟩;have FY4:Far wr g ob W0.heap.size:=⟨FY1.out.1,FY1.out.2.1,Y2.out.lt⟩;have T4:=h! (T3.out.trans t4);have B4:=h! (FX4.blk T4.out B2.out);have Y4:=h! (FY4.blk T4.out Y2.out);have R4:=h! r4;have O4:=h! o4;clear t4 r4 o4 e0 e1 e2 e3 TX R3 E3 T3 TB3 G3 B3 Y3;have hkk:k=0∨k=1:=by omega
   have y4:∃v,w4.cell? ⟨W0.heap.size,k,none⟩=some v:=by
    rcases hkk with rfl|rfl
    ·exact⟨_,Y4.out.cell 0⟩
    ·exact⟨_,Y4.out.cell 1⟩
   obtain⟨v4,y4⟩:=y4;have z4:w4.frozen? ⟨W0.heap.size,k,none⟩=false:=Y4.out.frozen k;go_wp2_with fail;have KS:=(Kept.refl (λz=>z=W0.heap.size) w4).setCell (p:=⟨W0.heap.size,k,none⟩) (λ_=>rfl) (.string (str s4));have NX:Hid (TxI base w g ob room l w.heap.size W0.heap.size #[.I kind,.string NM,.slice (some ⟨b0,o0,none⟩) l1 c1,.I lo,.I hi,.slice A2 l2 c2,.slice A3 l3 c3] E (k+1) (w4.setCell ⟨W0.heap.size,k,none⟩ (.string (str s4)))):=by
    have hlow:=HH.out.low;refine⟨b4,T++[s4],⟨?_,.inl rfl⟩,R4.out.kept KS (λe=>FY4.1 e.symm) (λz e e'=>FY4.2.1 (e'.symm▸e)),B4.out.kept KS (λe=>by have:=HXY.out;omega),?_,by rw[List.length_append,HTL.out];rfl,?_,?_,?_⟩
    ·exact(T2.out.trans T4.out).1.then_ KS (λz hz e=>by have:=HXY.out;omega)
    ·have ht:=HTL.out
     rcases hkk with rfl|rfl
     ·obtain rfl:=List.eq_nil_of_length_eq_zero ht
      exact Y4.out.put_ 0 _ rfl
     ·obtain⟨a,rfl⟩:=List.length_eq_one_iff.1 ht
      exact Y4.out.put_ 1 _ rfl
    ·intro t ht
     rcases List.mem_append.1 ht with ht|ht
     ·exact HTR.out t ht
     ·obtain rfl:=List.mem_singleton.1 ht
      exact O4.out.len
    ·intro e
     obtain⟨e0,t,ht,hs⟩:=O4.out.good e;rw[List.nil_append]at hs;rw[HX.out];exact d59! (HGD.out e0) (hs▸ht)
    ·intro e
     rcases O4.out.ill e with e0|e0|⟨t,e0,e1⟩
     ·exact HIL.out e0
     ·exact⟨x,HM.out,.inl e0⟩
     ·exact⟨x,HM.out,.inr ⟨t,e0,by simpa using e1⟩⟩
   clear KS FX4 FY4
   go_roundw
   case rel=>exact⟨k+1,by omega,by go_num,NX⟩
   case measure=>simp[intOf];omega
  ·obtain rfl:k=l1:=by omega
   have HGD':Hid (bf=false->rawEs E=some T):=λe=>by
    have:=HGD.out e
    rwa[List.take_of_length_le (by have:=HL1.out;omega)]at this
   obtain⟨S0,hS0⟩:∃s,s=str (T.getD 0 []):=⟨_,rfl⟩
   obtain⟨S1,hS1⟩:∃s,s=str (T.getD 1 []):=⟨_,rfl⟩
   have hz0:S0.data.size<=1073741824:=by rw[hS0];exact Nat.le_trans (by simpa[str]using b11! HTR.out 0) hr2
   have hz1:S1.data.size<=1073741824:=by rw[hS1];exact Nat.le_trans (by simpa[str]using b11! HTR.out 1) hr2
   have hzn:NM.data.size<=1000000:=by rw[HN.out];simpa[str]using HFt.out.1
   have hz0':S0.size<=1073741824:=hz0;have hz1':S1.size<=1073741824:=hz1;have hzn':NM.size<=1000000:=hzn;have HS0:Hid (S0.data.toList=T.getD 0 []):=by rw[hS0];exact str_list _
   have HS1:Hid (S1.data.toList=T.getD 1 []):=by rw[hS1];exact str_list _
   have HNM:Hid (NM.data.toList=nm):=by rw[HN.out];exact str_list _
   rw[<-hS0,<-hS1]at Y2;have hZ0:=h! hS0;clear hS0 hS1 hZ0 HGD HTR HTL;have FX:=h! (show Far wr g ob w.heap.size from⟨FX1.out.1,FX1.out.2.1,B2.out.lt⟩);have FY:=h! (show Far wr g ob W0.heap.size from⟨FY1.out.1,FY1.out.2.1,Y2.out.lt⟩);have TBr:=h! (TB.out.low (T2.out.low HH.out));have TPr:=h! (TP.out.low (T2.out.low HH.out));clear FX1 FY1 X1 Y1 H1 T1;obtain⟨s0,s1⟩:=B2.out.A2;obtain⟨y0,y1⟩:=Y2.out.A2;have hkc:kind=0∨kind=1∨kind=2∨kind=3∨kind=4∨kind=5∨kind=6∨kind=7∨kind=8∨kind=9:=by omega
   have HKR:=h! (⟨hk0,hk10,HLen.out⟩:0<=kind∧kind<10∧E.length=partsS kind);clear hk0 hk10 HLen;rcases hkc with rfl|rfl|rfl|rfl|rfl|rfl|rfl|rfl|rfl|rfl
   ·have f11:=a! wr (.cells #[.string NM,.string ⟨#[61]⟩,.string S0] 9)
    have R11:=h! (j8! wr NM ⟨#[61]⟩ S0);have H11:=h! ((R2.out).below f11);have A11:=h! (Turns.of_below (g:=g) (ob:=ob) f11);clear f11;go_wp2_with fail;refine(c6! base g room deep ob l bf _ 3 3 [NM,⟨#[61]⟩,S0] _ H11.out (by omega) R11.out (by omega) (by omega) (by omega) (b6! (by simp only[List.map_cons,List.map_nil,List.sum_cons,List.sum_nil,List.size_toArray,List.length_cons,List.length_nil];omega))).mono ?_;rintro e w11⟨rfl,ob11,l11,b11,t11,r11,o11⟩;have T11':=h! ((T2.out).trans (A11.out.trans t11));have FX11:=h! ((FX.out).turn (A11.out.trans t11));have FY11:=h! ((FY.out).turn (A11.out.trans t11));have B11:=h! ((FX.out).blk (A11.out.trans t11) (B2.out));have Y11:=h! ((FY.out).blk (A11.out.trans t11) (Y2.out));have TB11:=h! ((TBr.out).low ((A11.out.trans t11).low R2.out));have TP11:=h! ((TPr.out).low ((A11.out.trans t11).low R2.out));have HR11:=h! r11;have HO11:=h! o11;clear t11 r11 o11;go_wp2_with fail
    go_end0
    refine⟨rfl,ob11,l11,b11,T11'.out,HR11.out,WOut.stmt HGD'.out HIL.out (λhT=>?_) (HO11.out)⟩;rw[g2! HKR.out hT];have a_HNM:=HNM.out;have a_HS0:=HS0.out
    simp[stmtO,a_HNM,a_HS0]
   ·have f11:=a! wr (.cells #[.string NM,.string ⟨#[91]⟩,.string S0,.string ⟨#[93,32,61]⟩,.string S1] 9)
    have R11:=h! (b10! wr NM ⟨#[91]⟩ S0 ⟨#[93,32,61]⟩ S1);have H11:=h! ((R2.out).below f11);have A11:=h! (Turns.of_below (g:=g) (ob:=ob) f11);clear f11;go_wp2_with fail;refine(c6! base g room deep ob l bf _ 5 5 [NM,⟨#[91]⟩,S0,⟨#[93,32,61]⟩,S1] _ H11.out (by omega) R11.out (by omega) (by omega) (by omega) (b6! (by simp only[List.map_cons,List.map_nil,List.sum_cons,List.sum_nil,List.size_toArray,List.length_cons,List.length_nil];omega))).mono ?_;rintro e w11⟨rfl,ob11,l11,b11,t11,r11,o11⟩;have T11':=h! ((T2.out).trans (A11.out.trans t11));have FX11:=h! ((FX.out).turn (A11.out.trans t11));have FY11:=h! ((FY.out).turn (A11.out.trans t11));have B11:=h! ((FX.out).blk (A11.out.trans t11) (B2.out));have Y11:=h! ((FY.out).blk (A11.out.trans t11) (Y2.out));have TB11:=h! ((TBr.out).low ((A11.out.trans t11).low R2.out));have TP11:=h! ((TPr.out).low ((A11.out.trans t11).low R2.out));have HR11:=h! r11;have HO11:=h! o11;clear t11 r11 o11;go_wp2_with fail
    go_end0
    refine⟨rfl,ob11,l11,b11,T11'.out,HR11.out,WOut.stmt HGD'.out HIL.out (λhT=>?_) (HO11.out)⟩;rw[g2! HKR.out hT];have a_HNM:=HNM.out;have a_HS0:=HS0.out;have a_HS1:=HS1.out
    simp[stmtO,a_HNM,a_HS0,a_HS1]
   ·have f11:=a! wr (.cells #[.string ⟨#[105,102]⟩,.string S0,.string ⟨#[116,104,101,110]⟩] 9)
    have R11:=h! (j8! wr ⟨#[105,102]⟩ S0 ⟨#[116,104,101,110]⟩);have H11:=h! ((R2.out).below f11);have A11:=h! (Turns.of_below (g:=g) (ob:=ob) f11);clear f11;go_wp2_with fail;refine(c6! base g room deep ob l bf _ 3 3 [⟨#[105,102]⟩,S0,⟨#[116,104,101,110]⟩] _ H11.out (by omega) R11.out (by omega) (by omega) (by omega) (b6! (by simp only[List.map_cons,List.map_nil,List.sum_cons,List.sum_nil,List.size_toArray,List.length_cons,List.length_nil];omega))).mono ?_;rintro e w11⟨rfl,ob11,l11,b11,t11,r11,o11⟩;have T11':=h! ((T2.out).trans (A11.out.trans t11));have FX11:=h! ((FX.out).turn (A11.out.trans t11));have FY11:=h! ((FY.out).turn (A11.out.trans t11));have B11:=h! ((FX.out).blk (A11.out.trans t11) (B2.out));have Y11:=h! ((FY.out).blk (A11.out.trans t11) (Y2.out));have TB11:=h! ((TBr.out).low ((A11.out.trans t11).low R2.out));have TP11:=h! ((TPr.out).low ((A11.out.trans t11).low R2.out));have HR11:=h! r11;have HO11:=h! o11;clear t11 r11 o11;have s5:=(B11.out).c5;have e12:IntKind.i64.wrap ((deep:Int)+1)=((deep+1:Nat):Int):=by rw[IntKind.wrap_i64];omega
    have BK:=h! (HBk.out g room (deep+1) ob11 l11 b11 A2 l2 c2 L w11 TB11.out TP11.out (HR11.out) ((HL.out).low_ ((T11'.out).low HH.out)) (by omega));go_wp2_with fail;refine BK.out.mono ?_;rintro e w12⟨rfl,ob12,l12,b12,t12,r12,o12⟩;clear BK e12;have T12':=h! ((T11'.out).trans (t12));have FX12:=h! ((FX11.out).turn (t12));have FY12:=h! ((FY11.out).turn (t12));have B12:=h! ((FX11.out).blk (t12) (B11.out));have Y12:=h! ((FY11.out).blk (t12) (Y11.out));have TB12:=h! ((TB11.out).low ((t12).low HR11.out));have TP12:=h! ((TP11.out).low ((t12).low HR11.out));have HR12:=h! r12;have HO12:=h! ((HO11.out).then_ o12);clear t12 r12 o12;have hl3:El.length=l3:=by obtain⟨_,_,_,_,h,_⟩:=HEl.out;exact h
    have HL3:=h! hl3;clear hl3;have s6:=(B12.out).c6
    by_cases hp3:0<l3
    ·have z3:(0:Int)<(l3:Int):=by omega
     have f13:=a! w12 (.cells #[.string ⟨#[101,108,115,101]⟩] 9);have R13:=h! (f4! w12 ⟨#[101,108,115,101]⟩);have H13:=h! ((HR12.out).below f13);have A13:=h! (Turns.of_below (g:=g) (ob:=ob12) f13);clear f13;go_wp2_with fail;refine(c6! base g room deep ob12 l12 b12 _ 1 1 [⟨#[101,108,115,101]⟩] _ H13.out (by omega) R13.out (by omega) (by omega) (by omega) (b6! (by simp only[List.map_cons,List.map_nil,List.sum_cons,List.sum_nil,List.size_toArray,List.length_cons,List.length_nil];omega))).mono ?_;rintro e w13⟨rfl,ob13,l13,b13,t13,r13,o13⟩;have T13':=h! ((T12'.out).trans (A13.out.trans t13));have FX13:=h! ((FX12.out).turn (A13.out.trans t13));have FY13:=h! ((FY12.out).turn (A13.out.trans t13));have B13:=h! ((FX12.out).blk (A13.out.trans t13) (B12.out));have Y13:=h! ((FY12.out).blk (A13.out.trans t13) (Y12.out));have TB13:=h! ((TB12.out).low ((A13.out.trans t13).low HR12.out));have TP13:=h! ((TP12.out).low ((A13.out.trans t13).low HR12.out));have HR13:=h! r13;have HO13:=h! ((HO12.out).then_ o13);clear t13 r13 o13;have s6:=(B13.out).c6;have e14:IntKind.i64.wrap ((deep:Int)+1)=((deep+1:Nat):Int):=by rw[IntKind.wrap_i64];omega
     have BK:=h! (HBk.out g room (deep+1) ob13 l13 b13 A3 l3 c3 El w13 TB13.out TP13.out (HR13.out) ((HEl.out).low_ ((T13'.out).low HH.out)) (by omega));go_wp2_with fail;refine BK.out.mono ?_;rintro e w14⟨rfl,ob14,l14,b14,t14,r14,o14⟩;clear BK e14;have T14':=h! ((T13'.out).trans (t14));have FX14:=h! ((FX13.out).turn (t14));have FY14:=h! ((FY13.out).turn (t14));have B14:=h! ((FX13.out).blk (t14) (B13.out));have Y14:=h! ((FY13.out).blk (t14) (Y13.out));have TB14:=h! ((TB13.out).low ((t14).low HR13.out));have TP14:=h! ((TP13.out).low ((t14).low HR13.out));have HR14:=h! r14;have HO14:=h! ((HO13.out).then_ o14);clear t14 r14 o14;have f15:=a! w14 (.cells #[.string ⟨#[101,110,100]⟩] 9);have R15:=h! (f4! w14 ⟨#[101,110,100]⟩);have H15:=h! ((HR14.out).below f15);have A15:=h! (Turns.of_below (g:=g) (ob:=ob14) f15);clear f15;go_wp2_with fail;refine(c6! base g room deep ob14 l14 b14 _ 1 1 [⟨#[101,110,100]⟩] _ H15.out (by omega) R15.out (by omega) (by omega) (by omega) (b6! (by simp only[List.map_cons,List.map_nil,List.sum_cons,List.sum_nil,List.size_toArray,List.length_cons,List.length_nil];omega))).mono ?_;rintro e w15⟨rfl,ob15,l15,b15,t15,r15,o15⟩;have T15':=h! ((T14'.out).trans (A15.out.trans t15));have FX15:=h! ((FX14.out).turn (A15.out.trans t15));have FY15:=h! ((FY14.out).turn (A15.out.trans t15));have B15:=h! ((FX14.out).blk (A15.out.trans t15) (B14.out));have Y15:=h! ((FY14.out).blk (A15.out.trans t15) (Y14.out));have TB15:=h! ((TB14.out).low ((A15.out.trans t15).low HR14.out));have TP15:=h! ((TP14.out).low ((A15.out.trans t15).low HR14.out));have HR15:=h! r15;have HO15:=h! ((HO14.out).then_ o15);clear t15 r15 o15;have hne:¬El.length=0:=by have:=HL3.out;omega
     go_wp2_with fail
     go_end0
     refine⟨rfl,ob15,l15,b15,T15'.out,HR15.out,WOut.stmt HGD'.out HIL.out (λhT=>?_) (HO15.out)⟩;rw[g2! HKR.out hT];have a_HS0:=HS0.out
     simp[stmtO,a_HS0,hne,i5!]
    ·have z3:¬(0:Int)<(l3:Int):=by omega
     have f13:=a! w12 (.cells #[.string ⟨#[101,110,100]⟩] 9);have R13:=h! (f4! w12 ⟨#[101,110,100]⟩);have H13:=h! ((HR12.out).below f13);have A13:=h! (Turns.of_below (g:=g) (ob:=ob12) f13);clear f13;go_wp2_with fail;refine(c6! base g room deep ob12 l12 b12 _ 1 1 [⟨#[101,110,100]⟩] _ H13.out (by omega) R13.out (by omega) (by omega) (by omega) (b6! (by simp only[List.map_cons,List.map_nil,List.sum_cons,List.sum_nil,List.size_toArray,List.length_cons,List.length_nil];omega))).mono ?_;rintro e w13⟨rfl,ob13,l13,b13,t13,r13,o13⟩;have T13':=h! ((T12'.out).trans (A13.out.trans t13));have FX13:=h! ((FX12.out).turn (A13.out.trans t13));have FY13:=h! ((FY12.out).turn (A13.out.trans t13));have B13:=h! ((FX12.out).blk (A13.out.trans t13) (B12.out));have Y13:=h! ((FY12.out).blk (A13.out.trans t13) (Y12.out));have TB13:=h! ((TB12.out).low ((A13.out.trans t13).low HR12.out));have TP13:=h! ((TP12.out).low ((A13.out.trans t13).low HR12.out));have HR13:=h! r13;have HO13:=h! ((HO12.out).then_ o13);clear t13 r13 o13;have hne:El=[]:=List.eq_nil_of_length_eq_zero (by have:=HL3.out;omega);go_wp2_with fail
     go_end0
     refine⟨rfl,ob13,l13,b13,T13'.out,HR13.out,WOut.stmt HGD'.out HIL.out (λhT=>?_) (HO13.out)⟩;rw[g2! HKR.out hT];have a_HS0:=HS0.out
     simp[stmtO,a_HS0,hne,i5!,a64!]
   ·have s3:=(B2.out).c3
    have s4:=(B2.out).c4;obtain⟨SL,hSL⟩:∃x,x=str (Lib.itoa lo):=⟨_,rfl⟩
    have zSL:SL.data.size<=21:=by rw[hSL];simpa[str]using f1! HFt.out.2.1
    have HSL:Hid (SL.data.toList=Lib.itoa lo):=by rw[hSL];exact str_list _
    have ISL:Hid (∀W,Below wr.heap.size wr W->Calls Tryz.prog 66 #[.I lo] W λe w'=>e=.returned (.string SL)∧Below W.heap.size W w'):=λW hW=>by rw[hSL];exact h7! base lo W ((TBr.out).low (hW.mono (R2.out).low)) HFt.out.2.1
    clear hSL;obtain⟨SH,hSH⟩:∃x,x=str (Lib.itoa hi):=⟨_,rfl⟩
    have zSH:SH.data.size<=21:=by rw[hSH];simpa[str]using f1! HFt.out.2.2
    have HSH:Hid (SH.data.toList=Lib.itoa hi):=by rw[hSH];exact str_list _
    have ISH:Hid (∀W,Below wr.heap.size wr W->Calls Tryz.prog 66 #[.I hi] W λe w'=>e=.returned (.string SH)∧Below W.heap.size W w'):=λW hW=>by rw[hSH];exact h7! base hi W ((TBr.out).low (hW.mono (R2.out).low)) HFt.out.2.2
    clear hSH;go_upto_region 20 with fail;have FB:Hid (∀W,Below wr.heap.size wr W->W.cell? ⟨w.heap.size,1,none⟩=some (.string NM)∧W.cell? ⟨w.heap.size,3,none⟩=some (.I lo)∧W.cell? ⟨w.heap.size,4,none⟩=some (.I hi)):=λW hW=>⟨((B2.out).below hW (B2.out).lt).cell 1,((B2.out).below hW (B2.out).lt).cell 3,((B2.out).below hW (B2.out).lt).cell 4⟩
    have LN:Hid (∀W,Below wr.heap.size wr W->Calls Tryz.prog 65 #[.pointer (some ⟨g,0,none⟩),.I deep,.slice (some ⟨W.heap.size,0,none⟩) 5 5] (W.alloc (.cells #[.string ⟨#[102,111,114]⟩,.string NM,.string SL,.string SH,.string ⟨#[100,111]⟩] 9)) (b5! base (W.alloc (.cells #[.string ⟨#[102,111,114]⟩,.string NM,.string SL,.string SH,.string ⟨#[100,111]⟩] 9)) g ob room l bf (some (lineB deep ([⟨#[102,111,114]⟩,NM,SL,SH,⟨#[100,111]⟩].map (·.data.toList)))))):=λW hW=>
     c6! base g room deep ob l bf _ 5 5 [⟨#[102,111,114]⟩,NM,SL,SH,⟨#[100,111]⟩] _ (((R2.out).below hW).al _) (by omega) (b10! W ⟨#[102,111,114]⟩ NM SL SH ⟨#[100,111]⟩) (by omega) (by omega) (by omega) (b6! (by simp only[List.map_cons,List.map_nil,List.sum_cons,List.sum_nil,List.size_toArray,List.length_cons,List.length_nil];omega))
    have FT:Hid (∀W w' ob',Below wr.heap.size wr W->Turns (W.alloc (.cells #[.string ⟨#[102,111,114]⟩,.string NM,.string SL,.string SH,.string ⟨#[100,111]⟩] 9)) g ob w' ob'->w'.cell? ⟨w.heap.size,1,none⟩=some (.string NM)∧w'.cell? ⟨w.heap.size,3,none⟩=some (.I lo)∧w'.cell? ⟨w.heap.size,4,none⟩=some (.I hi)):=λW w' ob' hW ht=>⟨(((FX.out).below (hW.al _)).blk ht ((B2.out).below (hW.al _) (B2.out).lt)).cell 1,(((FX.out).below (hW.al _)).blk ht ((B2.out).below (hW.al _) (B2.out).lt)).cell 3,(((FX.out).below (hW.al _)).blk ht ((B2.out).below (hW.al _) (B2.out).lt)).cell 4⟩
    have bb0:=h! ((Below.refl wr.heap.size wr).drew);have q0:=FB.out _ bb0.out
    go_region_held3 (λW=>W.cell? ⟨w.heap.size,1,none⟩=some (.string NM)∧W.cell? ⟨w.heap.size,3,none⟩=some (.I lo)∧W.cell? ⟨w.heap.size,4,none⟩=some (.I hi))
     (first|exact qd|exact qc _|exact q2|exact q1|exact q0)
     (first
      |(go_at_call 66;(with_reducible refine(ISL.out _ bb0.out).mono ?_);rintro e wa1⟨rfl,ba1⟩;have bb1:=r! bb0 ba1;have q1:=FB.out _ bb1.out;clear ba1)
      |(go_at_call 66;(with_reducible refine(ISH.out _ bb1.out).mono ?_);rintro e wa2⟨rfl,ba2⟩;have bb2:=r! bb1 ba2;have q2:=FB.out _ bb2.out;clear ba2;have qc:=λo=>FB.out _ (bb2.out.al o))
      |(go_at_call 65;(with_reducible refine(LN.out wa2 bb2.out).mono ?_);rintro e w11⟨rfl,ob11,l11,b11,t11,r11,o11⟩;have qd:=FT.out wa2 w11 ob11 bb2.out t11;have TT11:=h! t11;have RR11:=h! r11;have OO11:=h! o11;clear t11 r11 o11))
    have t11:=TT11.out;have r11:=RR11.out;have o11:=OO11.out;have A11:Turns wr g ob (wa2.alloc (.cells #[.string ⟨#[102,111,114]⟩,.string NM,.string SL,.string SH,.string ⟨#[100,111]⟩] 9)) ob:=Turns.of_below (bb2.out.al _);have T11':=h! ((T2.out).trans (A11.trans t11));have FX11:=h! ((FX.out).turn (A11.trans t11));have FY11:=h! ((FY.out).turn (A11.trans t11));have B11:=h! ((FX.out).blk (A11.trans t11) (B2.out));have Y11:=h! ((FY.out).blk (A11.trans t11) (Y2.out));have TB11:=h! ((TBr.out).low ((A11.trans t11).low R2.out));have TP11:=h! ((TPr.out).low ((A11.trans t11).low R2.out));have HR11:=h! r11;have HO11:=h! o11;clear t11 r11 o11;have s5:=(B11.out).c5;have e12:IntKind.i64.wrap ((deep:Int)+1)=((deep+1:Nat):Int):=by rw[IntKind.wrap_i64];omega
    have BK:=h! (HBk.out g room (deep+1) ob11 l11 b11 A2 l2 c2 L w11 TB11.out TP11.out (HR11.out) ((HL.out).low_ ((T11'.out).low HH.out)) (by omega));go_wp2_with fail;refine BK.out.mono ?_;rintro e w12⟨rfl,ob12,l12,b12,t12,r12,o12⟩;clear BK e12;have T12':=h! ((T11'.out).trans (t12));have FX12:=h! ((FX11.out).turn (t12));have FY12:=h! ((FY11.out).turn (t12));have B12:=h! ((FX11.out).blk (t12) (B11.out));have Y12:=h! ((FY11.out).blk (t12) (Y11.out));have TB12:=h! ((TB11.out).low ((t12).low HR11.out));have TP12:=h! ((TP11.out).low ((t12).low HR11.out));have HR12:=h! r12;have HO12:=h! ((HO11.out).then_ o12);clear t12 r12 o12;have f13:=a! w12 (.cells #[.string ⟨#[101,110,100]⟩] 9);have R13:=h! (f4! w12 ⟨#[101,110,100]⟩);have H13:=h! ((HR12.out).below f13);have A13:=h! (Turns.of_below (g:=g) (ob:=ob12) f13);clear f13;go_wp2_with fail;refine(c6! base g room deep ob12 l12 b12 _ 1 1 [⟨#[101,110,100]⟩] _ H13.out (by omega) R13.out (by omega) (by omega) (by omega) (b6! (by simp only[List.map_cons,List.map_nil,List.sum_cons,List.sum_nil,List.size_toArray,List.length_cons,List.length_nil];omega))).mono ?_;rintro e w13⟨rfl,ob13,l13,b13,t13,r13,o13⟩;have T13':=h! ((T12'.out).trans (A13.out.trans t13));have FX13:=h! ((FX12.out).turn (A13.out.trans t13));have FY13:=h! ((FY12.out).turn (A13.out.trans t13));have B13:=h! ((FX12.out).blk (A13.out.trans t13) (B12.out));have Y13:=h! ((FY12.out).blk (A13.out.trans t13) (Y12.out));have TB13:=h! ((TB12.out).low ((A13.out.trans t13).low HR12.out));have TP13:=h! ((TP12.out).low ((A13.out.trans t13).low HR12.out));have HR13:=h! r13;have HO13:=h! ((HO12.out).then_ o13);clear t13 r13 o13;go_wp2_with fail
    go_end0
    refine⟨rfl,ob13,l13,b13,T13'.out,HR13.out,WOut.stmt HGD'.out HIL.out (λhT=>?_) (HO13.out)⟩;rw[g2! HKR.out hT];have a_HNM:=HNM.out;have a_HSL:=HSL.out;have a_HSH:=HSH.out
    simp[stmtO,a_HNM,a_HSL,a_HSH,i5!]
   ·have f11:=a! wr (.cells #[.string ⟨#[114,101,102,117,115,101]⟩] 9)
    have R11:=h! (f4! wr ⟨#[114,101,102,117,115,101]⟩);have H11:=h! ((R2.out).below f11);have A11:=h! (Turns.of_below (g:=g) (ob:=ob) f11);clear f11;go_wp2_with fail;refine(c6! base g room deep ob l bf _ 1 1 [⟨#[114,101,102,117,115,101]⟩] _ H11.out (by omega) R11.out (by omega) (by omega) (by omega) (b6! (by simp only[List.map_cons,List.map_nil,List.sum_cons,List.sum_nil,List.size_toArray,List.length_cons,List.length_nil];omega))).mono ?_;rintro e w11⟨rfl,ob11,l11,b11,t11,r11,o11⟩;have T11':=h! ((T2.out).trans (A11.out.trans t11));have FX11:=h! ((FX.out).turn (A11.out.trans t11));have FY11:=h! ((FY.out).turn (A11.out.trans t11));have B11:=h! ((FX.out).blk (A11.out.trans t11) (B2.out));have Y11:=h! ((FY.out).blk (A11.out.trans t11) (Y2.out));have TB11:=h! ((TBr.out).low ((A11.out.trans t11).low R2.out));have TP11:=h! ((TPr.out).low ((A11.out.trans t11).low R2.out));have HR11:=h! r11;have HO11:=h! o11;clear t11 r11 o11;go_wp2_with fail
    go_end0
    refine⟨rfl,ob11,l11,b11,T11'.out,HR11.out,WOut.stmt HGD'.out HIL.out (λhT=>?_) (HO11.out)⟩;rw[g2! HKR.out hT]
    simp[stmtO]
   ·obtain⟨SL,hSL⟩:∃x,x=str (Lib.itoa lo):=⟨_,rfl⟩
    have zSL:SL.data.size<=21:=by rw[hSL];simpa[str]using f1! HFt.out.2.1
    have HSL:Hid (SL.data.toList=Lib.itoa lo):=by rw[hSL];exact str_list _
    have ISL:Hid (∀W,Below wr.heap.size wr W->Calls Tryz.prog 66 #[.I lo] W λe w'=>e=.returned (.string SL)∧Below W.heap.size W w'):=λW hW=>by rw[hSL];exact h7! base lo W ((TBr.out).low (hW.mono (R2.out).low)) HFt.out.2.1
    clear hSL;go_upto_region 28 with fail;have FB:Hid (∀W,Below wr.heap.size wr W->W.cell? ⟨w.heap.size,1,none⟩=some (.string NM)∧W.cell? ⟨w.heap.size,3,none⟩=some (.I lo)):=λW hW=>⟨((B2.out).below hW (B2.out).lt).cell 1,((B2.out).below hW (B2.out).lt).cell 3⟩
    have LN:Hid (∀W,Below wr.heap.size wr W->Calls Tryz.prog 65 #[.pointer (some ⟨g,0,none⟩),.I deep,.slice (some ⟨W.heap.size,0,none⟩) 3 3] (W.alloc (.cells #[.string ⟨#[114,111,108,108]⟩,.string NM,.string SL] 9)) (b5! base (W.alloc (.cells #[.string ⟨#[114,111,108,108]⟩,.string NM,.string SL] 9)) g ob room l bf (some (lineB deep ([⟨#[114,111,108,108]⟩,NM,SL].map (·.data.toList)))))):=λW hW=>
     c6! base g room deep ob l bf _ 3 3 [⟨#[114,111,108,108]⟩,NM,SL] _ (((R2.out).below hW).al _) (by omega) (j8! W ⟨#[114,111,108,108]⟩ NM SL) (by omega) (by omega) (by omega) (b6! (by simp only[List.map_cons,List.map_nil,List.sum_cons,List.sum_nil,List.size_toArray,List.length_cons,List.length_nil];omega))
    have FT:Hid (∀W w' ob',Below wr.heap.size wr W->Turns (W.alloc (.cells #[.string ⟨#[114,111,108,108]⟩,.string NM,.string SL] 9)) g ob w' ob'->w'.cell? ⟨w.heap.size,1,none⟩=some (.string NM)∧w'.cell? ⟨w.heap.size,3,none⟩=some (.I lo)):=λW w' ob' hW ht=>⟨(((FX.out).below (hW.al _)).blk ht ((B2.out).below (hW.al _) (B2.out).lt)).cell 1,(((FX.out).below (hW.al _)).blk ht ((B2.out).below (hW.al _) (B2.out).lt)).cell 3⟩
    have bb0:=h! ((Below.refl wr.heap.size wr).drew);have q0:=FB.out _ bb0.out
    go_region_held3 (λW=>W.cell? ⟨w.heap.size,1,none⟩=some (.string NM)∧W.cell? ⟨w.heap.size,3,none⟩=some (.I lo))
     (first|exact qd|exact qc _|exact q1|exact q0)
     (first
      |(go_at_call 66;(with_reducible refine(ISL.out _ bb0.out).mono ?_);rintro e wa1⟨rfl,ba1⟩;have bb1:=r! bb0 ba1;have q1:=FB.out _ bb1.out;clear ba1;have qc:=λo=>FB.out _ (bb1.out.al o))
      |(go_at_call 65;(with_reducible refine(LN.out wa1 bb1.out).mono ?_);rintro e w11⟨rfl,ob11,l11,b11,t11,r11,o11⟩;have qd:=FT.out wa1 w11 ob11 bb1.out t11;have TT11:=h! t11;have RR11:=h! r11;have OO11:=h! o11;clear t11 r11 o11))
    have t11:=TT11.out;have r11:=RR11.out;have o11:=OO11.out;have A11:Turns wr g ob (wa1.alloc (.cells #[.string ⟨#[114,111,108,108]⟩,.string NM,.string SL] 9)) ob:=Turns.of_below (bb1.out.al _);have T11':=h! ((T2.out).trans (A11.trans t11));have FX11:=h! ((FX.out).turn (A11.trans t11));have FY11:=h! ((FY.out).turn (A11.trans t11));have B11:=h! ((FX.out).blk (A11.trans t11) (B2.out));have Y11:=h! ((FY.out).blk (A11.trans t11) (Y2.out));have TB11:=h! ((TBr.out).low ((A11.trans t11).low R2.out));have TP11:=h! ((TPr.out).low ((A11.trans t11).low R2.out));have HR11:=h! r11;have HO11:=h! o11;clear t11 r11 o11;go_wp2_with fail
    go_end0
    refine⟨rfl,ob11,l11,b11,T11'.out,HR11.out,WOut.stmt HGD'.out HIL.out (λhT=>?_) (HO11.out)⟩;rw[g2! HKR.out hT];have a_HNM:=HNM.out;have a_HSL:=HSL.out
    simp[stmtO,a_HNM,a_HSL]
   ·have f11:=a! wr (.cells #[.string ⟨#[115,101,97,116]⟩,.string S0] 9)
    have R11:=h! (k1! wr ⟨#[115,101,97,116]⟩ S0);have H11:=h! ((R2.out).below f11);have A11:=h! (Turns.of_below (g:=g) (ob:=ob) f11);clear f11;go_wp2_with fail;refine(c6! base g room deep ob l bf _ 2 2 [⟨#[115,101,97,116]⟩,S0] _ H11.out (by omega) R11.out (by omega) (by omega) (by omega) (b6! (by simp only[List.map_cons,List.map_nil,List.sum_cons,List.sum_nil,List.size_toArray,List.length_cons,List.length_nil];omega))).mono ?_;rintro e w11⟨rfl,ob11,l11,b11,t11,r11,o11⟩;have T11':=h! ((T2.out).trans (A11.out.trans t11));have FX11:=h! ((FX.out).turn (A11.out.trans t11));have FY11:=h! ((FY.out).turn (A11.out.trans t11));have B11:=h! ((FX.out).blk (A11.out.trans t11) (B2.out));have Y11:=h! ((FY.out).blk (A11.out.trans t11) (Y2.out));have TB11:=h! ((TBr.out).low ((A11.out.trans t11).low R2.out));have TP11:=h! ((TPr.out).low ((A11.out.trans t11).low R2.out));have HR11:=h! r11;have HO11:=h! o11;clear t11 r11 o11;go_wp2_with fail
    go_end0
    refine⟨rfl,ob11,l11,b11,T11'.out,HR11.out,WOut.stmt HGD'.out HIL.out (λhT=>?_) (HO11.out)⟩;rw[g2! HKR.out hT];have a_HS0:=HS0.out
    simp[stmtO,a_HS0]
   ·have f11:=a! wr (.cells #[.string ⟨#[111,118,101,114]⟩] 9)
    have R11:=h! (f4! wr ⟨#[111,118,101,114]⟩);have H11:=h! ((R2.out).below f11);have A11:=h! (Turns.of_below (g:=g) (ob:=ob) f11);clear f11;go_wp2_with fail;refine(c6! base g room deep ob l bf _ 1 1 [⟨#[111,118,101,114]⟩] _ H11.out (by omega) R11.out (by omega) (by omega) (by omega) (b6! (by simp only[List.map_cons,List.map_nil,List.sum_cons,List.sum_nil,List.size_toArray,List.length_cons,List.length_nil];omega))).mono ?_;rintro e w11⟨rfl,ob11,l11,b11,t11,r11,o11⟩;have T11':=h! ((T2.out).trans (A11.out.trans t11));have FX11:=h! ((FX.out).turn (A11.out.trans t11));have FY11:=h! ((FY.out).turn (A11.out.trans t11));have B11:=h! ((FX.out).blk (A11.out.trans t11) (B2.out));have Y11:=h! ((FY.out).blk (A11.out.trans t11) (Y2.out));have TB11:=h! ((TBr.out).low ((A11.out.trans t11).low R2.out));have TP11:=h! ((TPr.out).low ((A11.out.trans t11).low R2.out));have HR11:=h! r11;have HO11:=h! o11;clear t11 r11 o11;go_wp2_with fail
    go_end0
    refine⟨rfl,ob11,l11,b11,T11'.out,HR11.out,WOut.stmt HGD'.out HIL.out (λhT=>?_) (HO11.out)⟩;rw[g2! HKR.out hT]
    simp[stmtO]
   ·have HPX:=h! (Tryz.strings_HasPrefix S1 ⟨#[45]⟩ wr)
    go_wp2_with fail;refine HPX.out.mono ?_;rintro e wp⟨rfl,rfl⟩;clear HPX;obtain⟨q,hq⟩:∃q,q=Lib.hasPrefix S1.data.toList (⟨#[45]⟩:ByteArray).data.toList:=⟨_,rfl⟩
    rw[<-hq];have HQ:=h! hq;clear hq
    cases q
    ·have f11:=a! wp (.cells #[.string ⟨#[112,97,121]⟩,.string S0,.string S1] 9)
     have R11:=h! (j8! wp ⟨#[112,97,121]⟩ S0 S1);have H11:=h! ((R2.out).below f11);have A11:=h! (Turns.of_below (g:=g) (ob:=ob) f11);clear f11;go_wp2_with fail;refine(c6! base g room deep ob l bf _ 3 3 [⟨#[112,97,121]⟩,S0,S1] _ H11.out (by omega) R11.out (by omega) (by omega) (by omega) (b6! (by simp only[List.map_cons,List.map_nil,List.sum_cons,List.sum_nil,List.size_toArray,List.length_cons,List.length_nil];omega))).mono ?_;rintro e w11⟨rfl,ob11,l11,b11,t11,r11,o11⟩;have T11':=h! ((T2.out).trans (A11.out.trans t11));have FX11:=h! ((FX.out).turn (A11.out.trans t11));have FY11:=h! ((FY.out).turn (A11.out.trans t11));have B11:=h! ((FX.out).blk (A11.out.trans t11) (B2.out));have Y11:=h! ((FY.out).blk (A11.out.trans t11) (Y2.out));have TB11:=h! ((TBr.out).low ((A11.out.trans t11).low R2.out));have TP11:=h! ((TPr.out).low ((A11.out.trans t11).low R2.out));have HR11:=h! r11;have HO11:=h! o11;clear t11 r11 o11;go_wp2_with fail
     go_end0
     refine⟨rfl,ob11,l11,b11,T11'.out,HR11.out,WOut.stmt HGD'.out HIL.out (λhT=>?_) (HO11.out)⟩;rw[g2! HKR.out hT]
     show some (lineB deep [[112,97,121],T.getD 0 [],payB (T.getD 1 [])])=some (lineB deep [[112,97,121],S0.data.toList,S1.data.toList])
     rw[HS0.out,d64! HS1.out HQ.out.symm]
    ·have nb1:¬(9223372036854775807:Nat)<(⟨#[40,32]⟩:ByteArray).size+S1.size:=by have:(⟨#[40,32]⟩:ByteArray).size=2:=rfl;omega
     have nb2:¬(9223372036854775807:Nat)<(⟨#[40,32]⟩++S1:ByteArray).size+(⟨#[32,41]⟩:ByteArray).size:=by
      have e1:(⟨#[40,32]⟩++S1:ByteArray).size=(⟨#[40,32]⟩:ByteArray).size+S1.size:=by simp
      have e2:(⟨#[40,32]⟩:ByteArray).size=2:=rfl;have e3:(⟨#[32,41]⟩:ByteArray).size=2:=rfl
      omega
     have fz:=Y2.out.frozen 1;go_upto_region 36 with fail;obtain⟨S2,hS2⟩:∃x:ByteArray,x=⟨#[40,32]⟩++S1++⟨#[32,41]⟩:=⟨_,rfl⟩
     rw[<-hS2];have zS2:S2.data.size<=1073741828:=by
      have e1:S2.size=(⟨#[40,32]⟩:ByteArray).size+S1.size+(⟨#[32,41]⟩:ByteArray).size:=by rw[hS2];simp
      have e2:(⟨#[40,32]⟩:ByteArray).size=2:=rfl;have e3:(⟨#[32,41]⟩:ByteArray).size=2:=rfl
      show S2.size<=_
      omega
     have HS2:Hid (S2.data.toList=payB (T.getD 1 [])):=by
      show S2.data.toList=_
      rw[hS2,d63! HS1.out HQ.out.symm]
      simp
     clear hS2 nb1 nb2;have KS:=(Kept.refl (λz=>z=W0.heap.size) wp).setCell (p:=⟨W0.heap.size,1,none⟩) (λ_=>rfl) (.string S2);have hlow:=HH.out.low;have H5:=h! (R2.out.kept KS (λe=>FY.out.1 e.symm) (λz e e'=>FY.out.2.1 (e'.symm▸e)));have B5:=h! (B2.out.kept KS (λe=>by have:=HXY.out;omega));have Y5:=h! (Y2.out.put_ 1 (.string S2) rfl);have T5:Hid (Turns w g ob (wp.setCell ⟨W0.heap.size,1,none⟩ (.string S2)) ob):=⟨T2.out.1.then_ KS (λz hz e=>by have:=HXY.out;omega),.inl rfl⟩;have FX5:=h! (show Far (wp.setCell ⟨W0.heap.size,1,none⟩ (.string S2)) g ob w.heap.size from⟨FX.out.1,FX.out.2.1,B5.out.lt⟩);have FY5:=h! (show Far (wp.setCell ⟨W0.heap.size,1,none⟩ (.string S2)) g ob W0.heap.size from⟨FY.out.1,FY.out.2.1,Y5.out.lt⟩);have KB:Below base wp (wp.setCell ⟨W0.heap.size,1,none⟩ (.string S2)):=KS.to_below R2.out.low (λz hz e=>by have:=HXY.out;omega);have TB5:=h! (TBr.out.low KB);have TP5:=h! (TPr.out.low KB);clear KS KB hlow s0 s1 y0 y1 fz;generalize wp.setCell ⟨W0.heap.size,1,none⟩ (.string S2)=W5 at*;obtain⟨y0,y1⟩:=Y5.out.A2;have f11:=a! W5 (.cells #[.string ⟨#[112,97,121]⟩,.string S0,.string S2] 9);have R11:=h! (j8! W5 ⟨#[112,97,121]⟩ S0 S2);have H11:=h! ((H5.out).below f11);have A11:=h! (Turns.of_below (g:=g) (ob:=ob) f11);clear f11;go_wp2_with fail;refine(c6! base g room deep ob l bf _ 3 3 [⟨#[112,97,121]⟩,S0,S2] _ H11.out (by omega) R11.out (by omega) (by omega) (by omega) (b6! (by simp only[List.map_cons,List.map_nil,List.sum_cons,List.sum_nil,List.size_toArray,List.length_cons,List.length_nil];omega))).mono ?_;rintro e w11⟨rfl,ob11,l11,b11,t11,r11,o11⟩;have T11':=h! ((T5.out).trans (A11.out.trans t11));have FX11:=h! ((FX5.out).turn (A11.out.trans t11));have FY11:=h! ((FY5.out).turn (A11.out.trans t11));have B11:=h! ((FX5.out).blk (A11.out.trans t11) (B5.out));have Y11:=h! ((FY5.out).blk (A11.out.trans t11) (Y5.out));have TB11:=h! ((TB5.out).low ((A11.out.trans t11).low H5.out));have TP11:=h! ((TP5.out).low ((A11.out.trans t11).low H5.out));have HR11:=h! r11;have HO11:=h! o11;clear t11 r11 o11;go_wp2_with fail
     go_end0
     refine⟨rfl,ob11,l11,b11,T11'.out,HR11.out,WOut.stmt HGD'.out HIL.out (λhT=>?_) (HO11.out)⟩;rw[g2! HKR.out hT]
     show some (lineB deep [[112,97,121],T.getD 0 [],payB (T.getD 1 [])])=some (lineB deep [[112,97,121],S0.data.toList,S2.data.toList])
     rw[HS0.out,HS2.out]
   ·have f11:=a! wr (.cells #[.string ⟨#[114,101,115,116]⟩,.string S0] 9)
    have R11:=h! (k1! wr ⟨#[114,101,115,116]⟩ S0);have H11:=h! ((R2.out).below f11);have A11:=h! (Turns.of_below (g:=g) (ob:=ob) f11);clear f11;go_wp2_with fail;refine(c6! base g room deep ob l bf _ 2 2 [⟨#[114,101,115,116]⟩,S0] _ H11.out (by omega) R11.out (by omega) (by omega) (by omega) (b6! (by simp only[List.map_cons,List.map_nil,List.sum_cons,List.sum_nil,List.size_toArray,List.length_cons,List.length_nil];omega))).mono ?_;rintro e w11⟨rfl,ob11,l11,b11,t11,r11,o11⟩;have T11':=h! ((T2.out).trans (A11.out.trans t11));have FX11:=h! ((FX.out).turn (A11.out.trans t11));have FY11:=h! ((FY.out).turn (A11.out.trans t11));have B11:=h! ((FX.out).blk (A11.out.trans t11) (B2.out));have Y11:=h! ((FY.out).blk (A11.out.trans t11) (Y2.out));have TB11:=h! ((TBr.out).low ((A11.out.trans t11).low R2.out));have TP11:=h! ((TPr.out).low ((A11.out.trans t11).low R2.out));have HR11:=h! r11;have HO11:=h! o11;clear t11 r11 o11;go_wp2_with fail
    go_end0
    refine⟨rfl,ob11,l11,b11,T11'.out,HR11.out,WOut.stmt HGD'.out HIL.out (λhT=>?_) (HO11.out)⟩;rw[g2! HKR.out hT];have a_HS0:=HS0.out
    simp[stmtO,a_HS0]
theorem z8!(deep:Nat)(a b:List Sx):rawB deep (a++b)=ocat (rawB deep a) (rawB deep b):=by
 induction a with
 |nil=>rw[List.nil_append,rawB,a64!]
 |cons s a ih=>rw[List.cons_append,rawB,rawB,ih,i5!]
theorem b12!(deep:Nat)(s:Sx):rawB deep [s]=rawS deep s:=by rw[rawB,rawB,c40!]
theorem d66!{L:List Sx}{k:Nat}(h:k<L.length):rawB deep (L.take (k+1))=ocat (rawB deep (L.take k)) (rawS deep L[k]):=by
 rw[List.take_succ_eq_append_getElem h,z8!,b12!]
theorem d67!{L:List Sx}{k:Nat}(h:k<L.length):rawB deep L=ocat (rawB deep (L.take k)) (ocat (rawS deep L[k]) (rawB deep (L.drop (k+1)))):=by
 conv=>lhs;rw[<-List.take_append_drop k L]
 rw[z8!,List.drop_eq_getElem_cons h,rawB]
theorem z9!(o:Option (List UInt8)):ocat none o=none:=rfl
theorem ElsG.lowA(h:ElsG (λk=>k<base) w 4 1000000 (GA (λk=>k<base) w) A len E)(hb:Below base w w'):ElsG (λk=>k<base) w' 4 1000000 (GA (λk=>k<base) w') A len E:=
 h.kept (S:=λk=>¬k<base) ⟨hb.os,hb.tape,hb.output,hb.size,λk _ hn=>hb.block k (Classical.not_not.1 hn)⟩ (λ_ _ hk hn=>hn hk) (λ_ _ hk=>hk)
  (λcs x h=>u9! _ _ (λk=>¬k<base) w w' cs x ⟨hb.os,hb.tape,hb.output,hb.size,λk _ hn=>hb.block k (Classical.not_not.1 hn)⟩ (λ_ _ hk hn=>hn hk) (λ_ _ hk=>hk) h)
theorem a00!{L El:List Sx}(h:¬(0<=k∧k<10∧E.length=partsS k)):rawS deep (.mk k nm E lo hi L El)=none:=by
 unfold rawS
 exact if_neg h
theorem b13!(base n:Nat)(HS:∀q,n=q+1->b09! base q):z7! base n:=by
 intro g room deep ob l bad A len cap L w hT hP h hL hd
 obtain⟨xs,r0,d0,hM,n0,e0⟩:=hL
 have HH:=h! h
 have TB:=h! hT
 have TP:=h! hP
 have RD:=h! r0
 have DD:=h! d0
 have NL:=h! n0
 have EL:=h! e0
 have HQ:=h! HS
 have hr1:=h.2.2.1
 have hr2:=h.2.2.2.1
 clear hT hP h r0 d0 n0 e0 HS
 go_enter Tryz.func99,Tryz.ntmps99
 go_wp2_with fail
 go_loopw [10] (λi wr=>∃k:Nat,k<=len∧i=.I k∧Hid (Wrote base w g ob room l bad (rawB deep (L.take k)) wr)) (λi _=>len-(intOf i).toNat)
 case atStart=>exact⟨0,by omega,rfl,(Wrote.none_ HH.out)⟩
 case round=>
  obtain⟨k,hk,rfl,hw⟩:=hrel;obtain⟨ob1,l1,b1,t1,w1,o1⟩:=hw.out;have T1:=h! t1;have R1:=h! w1;have O1:=h! o1;have hr3:=w1.2.2.1;clear hw t1 w1 o1
  by_cases hlt:k<len
  ·have hkL:k<L.length:=by rw[NL.out];exact hlt
   have ec:=EL.out k hkL;obtain⟨q,rfl⟩:∃q,n=q+1:=by
    cases n with
    |zero=>exact absurd ec id
    |succ q=>exact⟨q,rfl⟩
   have HTK:=h! (d66! (deep:=deep) hkL);have HSP:=h! (d67! (deep:=deep) hkL);generalize L[k]=sx at*;obtain⟨kind,nm,E,lo,hi,SL,SE⟩:=sx;obtain⟨A1,l1',c1,A2,l2,c2,A3,l3,c3,hcs,hf,hE,hSL,hSE⟩:=ec;obtain⟨NM,hNM⟩:∃s,s=str nm:=⟨_,rfl⟩
   rw[<-hNM]at hcs;obtain⟨b,o,rfl,hb,qq⟩:=RD.out.chunk (by omega) hlt hcs;have hbb:b<base:=DD.out (by omega) _ rfl;have hlow:=T1.out.low HH.out;have q0:=(hlow.cell (p:=⟨b,o+k*7,none⟩) hbb).trans (qq 0 _ rfl);have q1:=(hlow.cell (p:=⟨b,o+k*7+1,none⟩) hbb).trans (qq 1 _ rfl);have q2:=(hlow.cell (p:=⟨b,o+k*7+2,none⟩) hbb).trans (qq 2 _ rfl);have q3:=(hlow.cell (p:=⟨b,o+k*7+3,none⟩) hbb).trans (qq 3 _ rfl);have q4:=(hlow.cell (p:=⟨b,o+k*7+4,none⟩) hbb).trans (qq 4 _ rfl);have q5:=(hlow.cell (p:=⟨b,o+k*7+5,none⟩) hbb).trans (qq 5 _ rfl);have q6:=(hlow.cell (p:=⟨b,o+k*7+6,none⟩) hbb).trans (qq 6 _ rfl);have hEl:E.length=l1':=by obtain⟨_,_,_,_,h,_⟩:=hE;exact h
   have HEl:=h! hEl;obtain⟨W2,eW,f2,X2,-⟩:=n! wr 95 #[.I kind,.string NM,.slice A1 l1' c1,.I lo,.I hi,.slice A2 l2 c2,.slice A3 l3 c3];replace X2:=h! X2;have R2:=h! (R1.out.below f2);have hl2:=hlow.trans (f2.mono R1.out.low);have GE:=h! (hE.lowA hl2);have GL:=h! (hSL.low_ hl2);have GS:=h! (hSE.low_ hl2);have TB2:=h! (TB.out.low hl2);have TP2:=h! (TP.out.low hl2);have T2:=h! (T1.out.below f2);have HF:=h! hf;have HNM:=h! hNM;have g1:(0:Int)<=(k:Int):=by omega
   have g2:(k:Int)<(len:Int):=by omega
   clear qq hcs hE hSL hSE hEl f2 hl2 hlow hf hNM;go_upto_region 3 with fail;clear q0 q1 q2 q3 q4 q5 q6;rw[eW.out];clear eW;obtain⟨s0,s1,s2,s3,s4,s5,s6⟩:=X2.out.A7;obtain⟨-,p3,p4⟩:=R2.out.cells_;have FIN:Hid (∀nq o2,WOut room l1 b1 o2 l1 true->ocat (rawB deep (L.take k)) o2=rawB deep L->b5! base w g ob room l bad (rawB deep L) (.returned (.tuple #[])) ((W2.drewN nq).setCell ⟨g,3,none⟩ (.bool true))):=λnq o2 ho he=>by
    obtain⟨wb,kb⟩:=(R2.out.below (a5! (Below.refl _ W2) nq)).set_bad true;exact⟨rfl,ob1,l1,true,T2.out.trans ⟨((Kept.of_below (a5! (Below.refl _ W2) nq)).then_ kb (λ_ _ e=>e)).mono (λ_ _ e=>.inl e),.inl rfl⟩,wb,(O1.out.then_ ho).cong he⟩
   cases b1 with
   |true=>
    go_quiet (fail)
    go_wp2_with fail
    go_end0
    exact FIN.out nq _ (WOut.was hr3) HSP.out.symm
   |false=>
    by_cases h0:kind<0
    ·have hbad:rawS deep (.mk kind nm E lo hi SL SE)=none:=a00! (by omega)
     have HB:=h! hbad;clear hbad
     go_quiet (fail)
     go_wp2_with fail
     go_end0
     exact FIN.out nq none (WOut.fail hr3) (by rw[HSP.out,HB.out,z9!])
    ·by_cases h10:10<=kind
     ·have hbad:rawS deep (.mk kind nm E lo hi SL SE)=none:=a00! (by omega)
      have HB:=h! hbad;clear hbad
      go_quiet (fail)
      go_wp2_with fail
      go_end0
      exact FIN.out nq none (WOut.fail hr3) (by rw[HSP.out,HB.out,z9!])
     ·obtain⟨m,rfl⟩:∃m:Nat,kind=(m:Int):=⟨kind.toNat,by omega⟩
      have hm10:m<10:=by omega
      have pp:W2.cell? ⟨1,m,none⟩=some (.I ((partsS (m:Int):Nat):Int)):=TP2.out.at_ m hm10;have i0:(0:Int)<=(m:Int):=by omega
      have i1:(m:Int)<10:=by omega
      by_cases hp:l1'=partsS (m:Int)
      ·have hp':(((l1':Nat):Int)==((partsS (m:Int):Nat):Int))=true:=by simp[hp]
       have SM:=h! (λW (hW:Below W2.heap.size W2 W)=>HQ.out q rfl g room deep ob1 l1 (m:Int) lo hi nm E SL SE A1 l1' c1 A2 l2 c2 A3 l3 c3 W (TB2.out.low (hW.mono R2.out.low)) (TP2.out.low (hW.mono R2.out.low)) (R2.out.below hW) HF.out (GE.out.lowA (hW.mono R2.out.low)) (GL.out.low_ (hW.mono R2.out.low)) (GS.out.low_ (hW.mono R2.out.low)) (by omega) i0 i1 (by rw[HEl.out,hp]));rw[<-HNM.out]at SM;generalize partsS (m:Int)=PN at*;clear hp
       go_quiet (fail)
       have fq:=h! (a5! (Below.refl W2.heap.size W2) nq);have SN:=h! (SM.out _ fq.out);clear SM;go_wp2_with fail;refine SN.out.mono ?_;rintro e w3⟨rfl,ob3,l3',b3,t3,r3,o3⟩;have HW:Hid (Wrote base w g ob room l bad (rawB deep (L.take (k+1))) w3):=⟨ob3,l3',b3,(T2.out.below fq.out).trans t3,r3,(O1.out.then_ o3).cong HTK.out.symm⟩;clear t3 r3 o3 SN;go_wp2_with fail
       go_roundw
       case rel=>exact⟨k+1,by omega,by go_num,HW⟩
       case measure=>simp[intOf];omega
      ·have hp':(((l1':Nat):Int)==((partsS (m:Int):Nat):Int))=false:=by simp;omega
       have hbad:rawS deep (.mk (m:Int) nm E lo hi SL SE)=none:=a00! (λh=>hp (by rw[<-HEl.out];exact h.2.2));have HB:=h! hbad;clear hbad hp;generalize partsS (m:Int)=PN at*
       go_quiet (fail)
       go_wp2_with fail
       go_end0
       exact FIN.out nq none (WOut.fail hr3) (by rw[HSP.out,HB.out,z9!])
  ·obtain rfl:k=len:=by omega
   go_wp2_with fail
   go_end0
   rw[List.take_of_length_le (Nat.le_of_eq NL.out)]at O1;exact⟨rfl,ob1,l1,b1,T1.out,R1.out,O1.out⟩
theorem b14!(base:Nat):∀n,z7! base n
 |0=>b13! base 0 (λ_ h=>by omega)
 |n+1=>b13! base (n+1) (λ_ h=>Nat.succ.inj h▸d65! base n (b14! base n))
def OS(w:World)(base:Nat)(v:Value)(ps:List ByteArray):Prop:=w.ownsRow base 9 1 v ps.length (ps.map Value.string)
theorem v1!:(Tryz.prog.info? 9).map (λi=>(i.zero,i.size,i.bytes))=some (some (.string ByteArray.empty),1,16):=by kernel_rfl
theorem v2!(ps:List ByteArray):∀u∈ps.map Value.string,u.oneCell'=true:=by
 intro u hu
 obtain⟨s,_,rfl⟩:=List.mem_map.1 hu
 rfl
theorem OS.form{ps:List ByteArray}(h:OS w base v ps):∃A c,v=.slice A ps.length c∧ps.length<=c∧RV w A ps.length (ps.map Value.string):=by
 rcases h.2 with ⟨rfl,hl⟩|⟨g,cap,cur,rfl,_,_,hnc,_⟩
 ·have:ps=[]:=List.eq_nil_of_length_eq_zero hl
  subst this;exact⟨none,0,rfl,Nat.le_refl _,Reads.none_⟩
 ·exact⟨_,_,rfl,hnc,Reads.of_own h⟩
theorem OS.lit1(w:World)(a:ByteArray)(hb:base<=w.heap.size):OS (w.alloc (.cells #[.string a] 9)) base (.slice (some ⟨w.heap.size,0,none⟩) 1 1) [a]:=
 World.ownsRow_lit w #[.string a] 1 hb (by unfold maxLen;omega) rfl
theorem OS.lit2(w:World)(a b:ByteArray)(hb:base<=w.heap.size):OS (w.alloc (.cells #[.string a,.string b] 9)) base (.slice (some ⟨w.heap.size,0,none⟩) 2 2) [a,b]:=
 World.ownsRow_lit w #[.string a,.string b] 2 hb (by unfold maxLen;omega) rfl
theorem OS.below{ps:List ByteArray}(h:OS w base v ps)(hb:Below w.heap.size w w'):OS w' base v ps:=a63! h hb (Nat.le_refl _)
theorem OS.more{ps qs:List ByteArray}(h:w'.ownsRow base 9 1 v (ps.length+qs.length) (ps.map Value.string++qs.map Value.string)):OS w' base v (ps++qs):=by
 unfold OS
 rw[List.length_append,List.map_append]
 exact h
theorem a01!{ps:List ByteArray}{B:Nat}(h:∀s∈ps,s.data.size<=B):(ps.map λs=>s.data.size+1).sum<=ps.length*(B+1):=by
 induction ps with
 |nil=>simp
 |cons a l ih=>
  rw[List.map_cons,List.sum_cons,List.length_cons,Nat.succ_mul];have:=ih (λs hs=>h s (List.mem_cons_of_mem _ hs));have:=h a (List.mem_cons_self ..)
  omega
def parP(n i:Nat)(v:Va):List (List UInt8):=[v.nm,Lib.itoa v.lo,Lib.itoa v.hi++(if i+1<n then [44]else [])]
def parsI(n:Nat):Nat->List Va->List (List UInt8)
 |_,[]=>[]
 |i,v::l=>parP n i v++parsI n (i+1) l
theorem b15!(n:Nat)(v:Va):∀(l:List Va) (i:Nat),parsI n i (l++[v])=parsI n i l++parP n (i+l.length) v
 |[],i=>by simp[parsI]
 |a::l,i=>by
  rw[List.cons_append,parsI,parsI,b15! n v l (i+1),List.append_assoc,List.length_cons];rw[show i+1+l.length=i+(l.length+1) by omega]
theorem b16!(n:Nat):∀(l:List Va) (i:Nat),i+l.length=n->parsI n i l=f3! l
 |[],_,_=>rfl
 |[v],i,h=>by
  simp only[List.length_cons,List.length_nil]at h
  simp[parsI,parP,f3!]
  omega
 |v::u::l,i,h=>by
  simp only[List.length_cons]at h
  have hi:i+1<n:=by omega
  have e:f3! (v::u::l)=[v.nm,Lib.itoa v.lo,Lib.itoa v.hi++[44]]++f3! (u::l):=by
   rw[f3!]
   simp
  rw[parsI,b16! n (u::l) (i+1) (by simp;omega),e]
  simp[parP,hi]
def parsK(n:Nat)(vs:List Va)(k:Nat):List (List UInt8):=parsI n 0 (vs.take k)
theorem d68!{vs:List Va}{k:Nat}(h:k<vs.length):parsK n vs (k+1)=parsK n vs k++parP n k vs[k]:=by
 unfold parsK
 rw[List.take_succ_eq_append_getElem h,b15!,List.length_take,Nat.min_eq_left (by omega),Nat.zero_add]
theorem q6!(base n g room:Nat)(ob:Option Nat)(l:List UInt8)(bad:Bool)(A:Option Addr)(len cap:Nat)(L:List Sx)(B:Option Addr)(m c:Nat)(ps:List ByteArray)(w:World)(hT:Tabs base w)(hP:TabP base w)(h:Wr base w g ob room l bad)
 (hL:ElsG (λk=>k<base) w 7 1000000 (XE (λk=>k<base) w n) A len L) (hd:n<=800) (hr:RV w B m (ps.map Value.string)) (hm:0<m) (hc:m<=c) (hn2:m<=10000000) (hj:(Lib.join (ps.map (·.data.toList)) [32]).length<=140737488355328):
 Calls Tryz.prog 67 #[.pointer (some ⟨g,0,none⟩),.slice A len cap,.slice B m c] w (b5! base w g ob room l bad (partO (ps.map (·.data.toList)) L)):=by
 have LN:=h! (c6! base g room 0 ob l bad B m c ps w h (by omega) hr hm hc hn2 hj)
 have HH:=h! h
 have TB:=h! hT
 have TP:=h! hP
 have HL:=h! hL
 have hpo:Hid (partO (ps.map (·.data.toList)) L=ocat (some (lineB 0 (ps.map (·.data.toList)))) (ocat (rawB 1 L) (some (lineB 0 [[101,110,100]])))):=rfl
 generalize hq:lineB 0 (ps.map (·.data.toList))=q at*
 clear hT hP h hL hr hj hq
 go_enter Tryz.func67,Tryz.ntmps67
 go_wp2_with fail
 refine LN.out.mono ?_
 rintro e w1⟨rfl,ob1,l1,b1,t1,r1,o1⟩
 have T1:=h! t1
 have R1:=h! r1
 have O1:=h! o1
 have BK:=h! (b14! base n g room 1 ob1 l1 b1 A len cap L w1 (TB.out.low (t1.low HH.out)) (TP.out.low (t1.low HH.out)) r1 (HL.out.low_ (t1.low HH.out)) (by omega))
 clear t1 r1 o1 LN
 go_wp2_with fail
 refine BK.out.mono ?_
 rintro e w2⟨rfl,ob2,l2,b2,t2,r2,o2⟩
 have T2:=h! (T1.out.trans t2)
 have R2:=h! r2
 have O2:=h! (O1.out.then_ o2)
 clear t2 r2 o2 BK T1 R1 O1
 have f3:=a! w2 (.cells #[.string ⟨#[101,110,100]⟩] 9)
 have R3:=h! (R2.out.below f3)
 have T3:=h! (T2.out.below f3)
 have V3:=h! (f4! w2 ⟨#[101,110,100]⟩)
 clear f3
 go_wp2_with fail
 refine(c6! base g room 0 ob2 l2 b2 _ 1 1 [⟨#[101,110,100]⟩] _ R3.out (by omega) V3.out (by omega) (by omega) (by omega) (b6! (by simp only[List.map_cons,List.map_nil,List.sum_cons,List.sum_nil,List.size_toArray,List.length_cons,List.length_nil];omega))).mono ?_
 rintro e w4⟨rfl,ob4,l4,b4,t4,r4,o4⟩
 go_wp2_with fail
 go_end0
 refine⟨rfl,ob4,l4,b4,T3.out.trans t4,r4,?_⟩
 rw[hpo.out]
 have:=O2.out.then_ o4
 rw[i5!]at this
 exact this
end Go.Proofs.YtdgekckedchjbaaGreatDoor
