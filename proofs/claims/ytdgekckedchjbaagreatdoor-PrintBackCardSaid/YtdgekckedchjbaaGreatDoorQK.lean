
/-
 What the lexer makes of marks. The lexer's law over two texts, one behind the other, with a line feed between. LexTwo: the walk. The parser reads a whole text by a function: an expression. syntax.Expression: what it answers.
-/
import Derived.Test.YtdgekckedchjbaaGreatDoorQF
set_option maxHeartbeats 4000000
set_option maxRecDepth 100000
namespace Go.Proofs.YtdgekckedchjbaaGreatDoor
open Go.RowKit
variable {l:List UInt8} {r ts:List Tk} {C E L:Int} {w w':World} {base g n:Nat} {A:Option Addr} {t:Tk} {S:Nat->Prop}
instance tkDec:DecidableEq Tk:=λa b=>decidable_of_iff (a.kind=b.kind∧a.text=b.text∧a.n=b.n∧a.line=b.line∧a.col=b.col) (by cases a;cases b;simp)
instance resDec:DecidableEq Res
 | .ok a,.ok b=>decidable_of_iff (a=b) (by simp)
 | .err a b c,.err d e f=>decidable_of_iff (a=d∧b=e∧c=f) (by simp)
 | .ok _,.err .. =>isFalse (by simp)
 | .err ..,.ok _=>isFalse (by simp)
def glued(X Y:List UInt8):Bool:=Y==[61]&&(X==[60]||X==[62])
def f35!(w:World)(g:Nat):Prop:=∀j X,a9![j]?=some X->w.cell? ⟨g,j,none⟩=some (.string (str X))
def Tk.down(k:Int)(t:Tk):Tk:=⟨t.kind,t.text,t.n,t.line+k,t.col⟩
def Res.from_(acc:List Tk)(k:Int):Res->Res
 | .ok ts=>.ok (acc++ts.map (Tk.down k))
 | .err l c e=>.err (l+k) c e
theorem z0!{p:UInt8->Bool}:∀{l:List UInt8} {x:UInt8},x∈l.takeWhile p->p x=true
 |[],x,h=>absurd h (by simp)
 |c::l,x,h=>by
  by_cases hc:p c=true
  ·rw[List.takeWhile_cons_of_pos hc]at h
   rcases List.mem_cons.1 h with rfl|h
   ·exact hc
   ·exact z0! h
  ·rw[List.takeWhile_cons_of_neg hc]at h
   exact absurd h (by simp)
theorem q0!:∀(f:Nat) (l:List UInt8) (line col:Int) (acc ts:List Tk),l.length<f->lexF f l line col acc=.ok ts->∃us L C,ts=acc++us++[⟨0,[],0,L,C⟩]∧us.length<=l.length
 |0,_,_,_,_,_,h,_=>absurd h (by omega)
 |f+1,[],line,col,acc,ts,_,h=>by
  simp only[lexF,Res.ok.injEq]at h
  exact⟨[],line,col,by simp[<-h],by simp⟩
 |f+1,c::r,line,col,acc,ts,hf,h=>by
  have hf':r.length<f:=by simp at hf;omega
  rw[p0! rfl]at h
  by_cases h1:c=10
  ·rw[if_pos h1]at h
   obtain⟨us,L,C,h5,h6⟩:=q0! f r _ _ acc ts hf' h;exact⟨us,L,C,h5,by simp;omega⟩
  ·rw[if_neg h1]at h
   by_cases h2:c=32∨c=9
   ·rw[if_pos h2]at h
    obtain⟨us,L,C,h5,h6⟩:=q0! f r _ _ acc ts hf' h;exact⟨us,L,C,h5,by simp;omega⟩
   ·rw[if_neg h2]at h
    by_cases h3:c=35
    ·have hp:1<=preN nlB (c::r):=l5! (by subst h3;rfl)
     rw[if_pos h3]at h;obtain⟨us,L,C,h5,h6⟩:=q0! f _ _ _ acc ts (by simp;omega) h;exact⟨us,L,C,h5,by simp at h6;simp;omega⟩
    ·rw[if_neg h3]at h
     by_cases h4:(a3! (c::r)).err≠0
     ·rw[if_pos h4]at h
      cases h
     ·rw[if_neg h4]at h
      have hp:=(t8! (by simpa using h4) (by simp:c::r≠[])).1;obtain⟨us,L,C,h5,h6⟩:=q0! f _ _ _ _ ts (by simp;omega) h;refine⟨⟨(a3! (c::r)).kind,(a3! (c::r)).text,(a3! (c::r)).n,line,col⟩::us,L,C,by rw[h5];simp only[List.append_assoc,List.cons_append,List.nil_append],by simp at h6;simp;omega⟩
theorem a94!(h:lexS l=.ok ts):∃us L C,ts=us++[⟨0,[],0,L,C⟩]∧us.length<=l.length:=by
 obtain⟨us,L,C,h1,h2⟩:=q0! _ l 1 1 [] ts (by omega) h
 exact⟨us,L,C,by simpa using h1,h2⟩
theorem q1!:∀(f:Nat) (l:List UInt8) (line col:Int) (acc:List Tk) (L C E:Int),l.length<f->lexF f l line col acc=.err L C E->E≠0∧line<=L∧L<=line+l.length
 |0,_,_,_,_,_,_,_,h,_=>absurd h (by omega)
 |f+1,[],line,col,acc,L,C,E,_,h=>by simp[lexF]at h
 |f+1,c::r,line,col,acc,L,C,E,hf,h=>by
  have hf':r.length<f:=by simp at hf;omega
  rw[p0! rfl]at h;rw[List.length_cons]
  by_cases h1:c=10
  ·rw[if_pos h1]at h
   have:=q1! f r _ _ acc L C E hf' h;exact⟨this.1,by omega,by omega⟩
  ·rw[if_neg h1]at h
   by_cases h2:c=32∨c=9
   ·rw[if_pos h2]at h
    have:=q1! f r _ _ acc L C E hf' h;exact⟨this.1,by omega,by omega⟩
   ·rw[if_neg h2]at h
    by_cases h3:c=35
    ·have hp:1<=preN nlB (c::r):=l5! (by subst h3;rfl)
     rw[if_pos h3]at h;have:=q1! f _ _ _ acc L C E (by simp;omega) h
     simp only[List.length_drop,List.length_cons]at this
     exact⟨this.1,by omega,by omega⟩
    ·rw[if_neg h3]at h
     by_cases h4:(a3! (c::r)).err≠0
     ·rw[if_pos h4]at h
      simp only[Res.err.injEq]at h
      obtain⟨rfl,rfl,rfl⟩:=h;exact⟨h4,by omega,by omega⟩
     ·rw[if_neg h4]at h
      have hp:=(t8! (by simpa using h4) (by simp:c::r≠[])).1;have:=q1! f _ _ _ _ L C E (by simp;omega) h
      simp only[List.length_drop,List.length_cons]at this
      exact⟨this.1,by omega,by omega⟩
theorem z1!(h:lexS l=.err L C E):E≠0∧1<=L∧L<=1+l.length:=q1! _ l 1 1 [] L C E (by omega) h
theorem a95!{e:Ending}(hp:k3! l w e w'):∃A n c L C E ts,e=.returned (.tuple #[.slice A n c,.agg #[.I L,.I C],.I E])∧n=ts.length∧OT w' w.heap.size (.slice A n c) ts∧Below w.heap.size w w'∧((lexS l=.ok ts∧E=0)∨(lexS l=.err L C E∧ts=[])):=by
 cases hlx:lexS l with
 |ok ts=>
  obtain⟨A,c,he,ho,hb⟩:=c31! hlx hp;exact⟨A,_,c,0,0,0,ts,he,rfl,ho,hb,.inl ⟨rfl,rfl⟩⟩
 |err L C E=>
  obtain⟨he,hb⟩:=c32! hlx hp;exact⟨none,0,0,L,C,E,[],he,rfl,OT.nil _ _,hb,.inr ⟨rfl,rfl⟩⟩
theorem a96!{size:Nat}{e:TypeId}{v:Value}{xs:List Value}(h:w.ownsRow base e size v n xs):∀k,v.ownBlock=some k->base<=k:=by
 intro k hk
 rcases h.2 with ⟨rfl,h0⟩|⟨g,cap,cur,rfl,hg,hh,_⟩
 ·simp[Value.ownBlock]at hk
 ·simp only[Value.ownBlock,Option.some.injEq]at hk
  subst hk;exact hg
theorem OT.reads{c:Nat}(h:OT w base (.slice A n c) ts)(hn:n=ts.length):Reads w w.heap.size 5 A n (b8! ts):=by
 subst hn
 exact Reads.of_own h
inductive Out where
 |ok (x:Ex)
 |bad (L C E:Int)
def endO:PR->Out
 | .bad [] e=>.bad 0 0 e
 | .bad (t::_) e=>.bad t.line t.col e
 | .ok x []=>.ok x
 | .ok x (t::_)=>if t.kind=0 then .ok x else .bad t.line t.col 3
def exprO(l:List UInt8):Out:=match lexS l with
 | .err L C E=>.bad L C E
 | .ok ts=>endO (joinL (a0! 16) 5 ts)
def a97!(b r:Nat)(o:Out)(L C E:Int)(w':World):Prop:=match o with
 | .ok x=>E=0∧∃(op N:Int) (nm:ByteArray) (B:Option Addr) (l k:Nat),Blk w' r 40 #[.int .i64 op,.int .i64 N,.string nm,.slice B l k]∧TE (λz=>b<=z) w' x [.int .i64 op,.int .i64 N,.string nm,.slice B l k]
 | .bad L' C' E'=>L=L'∧C=C'∧E=E'∧E≠0
def d12!(w:World)(r:Nat)(o:Out)(e:Ending)(w':World):Prop:=
 ∃(L C E:Int),e=.returned (.tuple #[.agg #[.I L,.I C],.I E])∧Kept (λz=>z=r) w w'∧a97! w.heap.size r o L C E w'
theorem Kept.put2(w:World)(g:Nat)(x0 x1:Value):Kept (λk=>k=g) w ((w.setCell ⟨g,0,none⟩ x0).setCell ⟨g,1,none⟩ x1):=
 ((Kept.refl (λk=>k=g) w).setCell (p:=⟨g,0,none⟩) (λ_=>rfl) _).setCell (p:=⟨g,1,none⟩) (λ_=>rfl) _
theorem Blk.put2{t:TypeId}{a b:Value}(h:Blk w g t #[a,b])(x0 x1:Value):Blk ((w.setCell ⟨g,0,none⟩ x0).setCell ⟨g,1,none⟩ x1) g t #[x0,x1]:=(h.set_ 0 x0).set_ 1 x1
theorem Blk.e2{w:World}{g:Nat}{t:TypeId}{a0 a1:Value}(h:Blk w g t #[a0,a1])(x0 x1:Value):∃w',(w.setCell ⟨g,0,none⟩ x0).setCell ⟨g,1,none⟩ x1=w'∧Blk w' g t #[x0,x1]∧Kept (λk=>k=g) w w':=⟨_,rfl,h.put2 x0 x1,Kept.put2 w g x0 x1⟩
theorem ParS.kept'{m:Nat->Nat}(h:ParS w g A m ts)(hk:Kept S w w')(ha:∀a,A=some a->¬S a.block)(hm:∀k,k<5->¬S (m k)):ParS w' g A m ts:=
 ⟨h.rd.keptfar hk ha,h.far,λk hk'=>(h.dict k hk').kept hk (hm k hk'),h.mfar,h.lim,h.ends⟩
def endE(t:Tk)(er:Int):Int:=if nextB t er 0 then er else b9! t er
theorem d13!{e:Int}(he:e≠0):endO (.bad (t::r) e)=.bad t.line t.col (endE t e)∧endE t e≠0:=by
 have:endE t e=e:=by simp[endE,nextB,b9!,he]
 rw[this]
 exact⟨rfl,he⟩
theorem d14!{x:Ex}:(endO (.ok x (t::r))=.ok x∧endE t 0=0)∨(endO (.ok x (t::r))=.bad t.line t.col (endE t 0)∧endE t 0≠0):=by
 by_cases h:t.kind=0
 ·exact .inl ⟨by simp[endO,h],by simp[endE,nextB,h]⟩
 ·have:endE t 0=3:=by simp[endE,nextB,b9!,h]
  rw[this];exact .inr ⟨by simp[endO,h],by decide⟩
theorem d15!(s:ByteArray)(r:Nat)(w:World)(hT:Spaces w)(hs:s.size<=65536)(hb:Blk w r 40 #[.I 0,.I 0,.E,.N]):
 Calls Tryz.prog 26 #[.string s,.func (.func 39) #[] #[.pointer (some ⟨r,0,none⟩)]] w (d12! w r (exprO s.data.toList)):=by
 obtain⟨W0,eW,f0,x0,z0⟩:=n! w 50 #[.I 0,.I 0]
 have TK:=h! (a51! s _ (hT.below f0) hs)
 have HB:=h! (hb.below f0 hb.lt)
 have hrl:=hb.lt
 have F0:=h! f0
 have X0:=h! x0
 have hsz:s.data.toList.length=s.size:=by simp
 have HSZ:=h! hsz
 clear hT f0 x0 hb hsz
 go_enter Tryz.func26,Tryz.ntmps26
 go_upto_region 1 with fail
 rw[eW.out]
 clear eW
 go_wp2_with fail
 refine TK.out.mono ?_
 intro e w1 hp
 obtain⟨A,n,c,L,C,E,ts,rfl,hn,hot,hb1,hcase⟩:=a95! hp
 have x1:=h! (X0.out.below hb1 (by omega))
 have HB1:=h! (HB.out.below hb1 (by omega))
 have HOT:=h! hot
 have B1:=h! hb1
 have HN:=h! hn
 have HC:=h! hcase
 have z1:=hb1.size
 clear TK hp hot hb1 hn hcase X0 HB
 have y1:=Blk.new w1 112 #[.I L,.I C]
 have Y1:=h! y1
 have x2:=h! (x1.out.alloc (.cells #[.I L,.I C] 112))
 by_cases hE:E=0
 ·subst hE
  obtain⟨hlx,-⟩:=HC.out.resolve_right (λh=>(z1! h.1).1 rfl);have HLX:=h! hlx;clear HC;go_upto_region 4 with fail;have B2:=h! (B1.out.al (.cells #[.I L,.I C] 112));have J2:=h! (a67! (w1.alloc (.cells #[.I L,.I C] 112)));have k12:=(Kept.refl (λ_=>False) w1).alloc (.cells #[.I L,.I C] 112);generalize w1.alloc (.cells #[.I L,.I C] 112)=W2 at*;go_wp2_with fail;refine J2.out.mono ?_;rintro e w2⟨m,rfl,hb2,hd⟩;have K12:=h! (k12.then_ (Kept.of_below (S:=λ_=>False) hb2) (λ_ _ h=>h));have z12:=K12.out.size;have x22:=x2.out.below hb2 x2.out.lt;have hlt2:w.heap.size<w2.heap.size:=x22.lt;obtain⟨us,LE,CE,hts,hul⟩:=a94! HLX.out;have hlen:0<ts.length:=by rw[hts];simp
  have hlim:ts.length<=70000:=by rw[hts];simp;have:=HSZ.out;omega
  obtain⟨g',hA,hg1,hg2,-,-,-,-⟩:=HOT.out.addr (by rw[HN.out];exact hlen);have HAF:Hid (∀a,A=some a->a.block=g'):=λa ha=>by rw[hA]at ha;cases ha;rfl
  have HM:Hid (∀k,k<5->w.heap.size<m k∧m k<w2.heap.size):=λk hk=>⟨Nat.lt_of_lt_of_le (by have:=B2.out.size;have:=x2.out.lt;omega) (hd k hk).2,(hd k hk).1.lt⟩
  have P3:Hid (Par (w2.alloc (.cells (a2! A ts.length c m 0 0 0) 119)) w2.heap.size A c m ts 0 0 0):=⟨
   ⟨Reads.keptfar (HOT.out.reads HN.out |> (HN.out▸ ·)) (K12.out.alloc _) (λ_ _ h=>h),λa ha=>by rw[HAF.out a ha];omega,λk hk=>((hd k hk).1.kept (S:=λ_=>False) ((Kept.refl _ w2).alloc _) (λh=>h)),λk hk=>by have:=(HM.out k hk).2;omega,hlim,us,LE,CE,hts⟩,
   Blk.new w2 119 _,hlen⟩
  have HB3:=h! ((HB1.out.kept K12.out (λh=>h)).alloc (.cells (a2! A ts.length c m 0 0 0) 119));have X3:=h! (x22.alloc (.cells (a2! A ts.length c m 0 0 0) 119));have KW3:=h! ((((Kept.of_below (S:=λz=>z=r) F0.out).then_ (Kept.of_below (S:=λz=>z=r) B1.out) (λ_ _ h=>h)).then_ K12.out (λ_ _ h=>h.elim)).alloc (.cells (a2! A ts.length c m 0 0 0) 119));have z3:=z! w2 (.cells (a2! A ts.length c m 0 0 0) 119);have hrl2:r<w2.heap.size:=(HB1.out.kept K12.out (λh=>h)).lt;have CL:=h! (c60! w2.heap.size c A m ts 0 0 r _ _ _ _ _ P3.out HB3.out (by omega));have FO:Hid (exprO s.data.toList=endO (joinL (a0! 16) 5 ts)):=by unfold exprO;rw[HLX.out];rfl
  have HL:=h! hlen;have HTS:=h! hts;have hnl:=HN.out;rw[List.drop_zero]at CL;generalize exprO s.data.toList=oo at*;generalize joinL (a0! 16) 5 ts=p at*;clear hb2 hd J2 hts hlen hul k12 x22 hlim hA;unfold a2! at P3 HB3 X3 KW3 z3 CL;rw[<-hnl]at P3 HB3 X3 KW3 z3 CL;clear hnl;go_upto_region 5 with fail;generalize w2.alloc (.cells #[.slice A n c,.I (0:Nat),.I 0,.map (some (m 0)),.map (some (m 1)),.map (some (m 2)),.map (some (m 3)),.map (some (m 4)),.I 0] 119)=W3 at*;go_wp2_with fail;refine CL.out.mono ?_;rintro e w4⟨op,N,nm,B,l,k,rfl,k4,bb4,h4⟩;obtain⟨i',er',hi',hb',hp'⟩:=h4;have P4:Hid (Par w4 w2.heap.size A c m ts i' 0 er'):=⟨P3.out.st.kept' k4 (λa ha e=>by have h1:=HAF.out a ha;rcases e with e|e<;>omega) (λq hq e=>by have h1:=HM.out q hq;rcases e with e|e<;>omega),hb',hi'⟩;have X4:=h! (X3.out.kept k4 (λe=>by rcases e with e|e<;>omega));have KW4:=h! (KW3.out.then_ k4 (λz hz e=>by rcases e with e|e<;>omega));have z4:=k4.size;obtain⟨t',ht'⟩:=ParS.at_some hi';have NX:=h! (c9! w2.heap.size c A m ts i' 0 er' 0 w4 P4.out t' ht');have WR:=h! (λw' h'=>f9! w2.heap.size c A m ts i' 0 er' w' h' t' ht');have FINO:Hid (∀W,Kept (λz=>z=w2.heap.size∨z=w.heap.size) w4 W->a97! w.heap.size r oo t'.line t'.col (endE t' er') W):=by
   intro W hW
   rw[FO.out]
   cases p with
   |ok x r'=>
    obtain⟨rfl,rfl,hT⟩:=hp';rw[a1! ht'];rcases d14! (x:=x) (t:=t') (r:=ts.drop (i'+1))with ⟨h1,h2⟩|⟨h1,h2⟩
    ·rw[h1]
     exact⟨h2,op,N,nm,B,l,k,bb4.kept hW (λe=>by rcases e with e|e<;>omega),(hT.kept_lt hW (λz _ hz e=>by rcases e with e|e<;>omega)).mono (λz _ hz=>by omega)⟩
    ·rw[h1]
     exact⟨rfl,rfl,rfl,h2⟩
   |bad r' e=>
    obtain⟨rfl,rfl,hne⟩:=hp';rw[a1! ht'];obtain⟨h1,h2⟩:=d13! (t:=t') (r:=ts.drop (i'+1)) hne;rw[h1];exact⟨rfl,rfl,rfl,h2⟩
  have HTT:=h! ht';have HEE:Hid (endE t' er'=if nextB t' er' 0 then er' else b9! t' er'):=rfl;clear CL k4 bb4 hb' hi' hp' ht' P3 HB3 X3 KW3;generalize endE t' er'=ee at*;generalize nextB t' er' 0=b at*
  cases b
  ·rw[if_neg (by decide)]at HEE
   have HEE':=HEE.out;rw[<-HEE']at WR;clear HEE HEE';go_wp2_with fail;refine NX.out.mono ?_;rintro e w5⟨rfl,q,rfl⟩;have k5:=((Kept.refl (λz=>z=w2.heap.size) w4).drewN q);have P5':=P4.out.drewN q;have X5':=X4.out.drewN q;go_wp2_with fail;refine(WR.out _ P5').mono ?_;rintro e W5⟨rfl,p5,k5'⟩;have P5:=h! p5;have X5:=h! (X5'.kept k5' (by omega));have KW5:=h! ((KW4.out.drewN q).then_ k5' (λz hz e=>by omega));have KW45:=h! ((k5.then_ k5' (λ_ _ e=>e)).mono (T:=λz=>z=w2.heap.size∨z=w.heap.size) (λ_ _ e=>.inl e));clear p5 k5 k5' P5' X5' NX WR;go_upto_region 8 with fail;obtain⟨b,o,hA5,hbb,hbg,-,-,-,q3,q4⟩:=P5.out.st.tok HTT.out;have bp:=P5.out.blk;have hin:=P5.out.at_;unfold a2! at bp;rw[hA5]at bp;obtain⟨n5,hn5⟩:∃q,ts.length=q:=⟨_,rfl⟩
   rw[hn5]at bp hin;obtain⟨c0,c1⟩:=bp.A2;have c8:=bp.c8;have x5:=X5.out;obtain⟨s0,s1⟩:=x5.A2;obtain⟨t0,t1⟩:=x5.F2;have g1:(0:Int)<=(i':Int):=by omega
   have g2:(i':Int)<(n5:Int):=by omega
   clear hA5 bp hn5
   go_region
   go_wp2_with fail;clear s0 s1;obtain⟨W9,e9,X9,K9⟩:=x5.e2 (.I t'.line) (.I t'.col);rw[e9];clear e9;obtain⟨s0,s1⟩:=X9.A2;refine bodyPost_ret (v:=.tuple #[.agg #[.I t'.line,.I t'.col],.I ee]) (by simp[results,Tryz.results26,go_sem,s0,s1]) rfl ⟨_,_,_,rfl,(KW5.out.then_ K9 (λz hz e=>by omega)).drew,?_⟩;refine FINO.out W9.drew ((KW45.out.then_ K9 (λ_ _ e=>.inr e)).drew)
  ·rw[if_pos rfl]at HEE
   have HEE':=HEE.out;subst HEE';clear HEE;go_wp2_with fail;refine NX.out.mono ?_;rintro e w5⟨rfl,q,rfl⟩;have P5:=h! (P4.out.drewN q);have X5:=h! (X4.out.drewN q);have KW5:=h! (KW4.out.drewN q);have KW45:=h! ((Kept.refl (λz=>z=w2.heap.size∨z=w.heap.size) w4).drewN q);clear NX WR;generalize w4.drewN q=W5 at*;go_upto_region 8 with fail;obtain⟨b,o,hA5,hbb,hbg,-,-,-,q3,q4⟩:=P5.out.st.tok HTT.out;have bp:=P5.out.blk;have hin:=P5.out.at_;unfold a2! at bp;rw[hA5]at bp;obtain⟨n5,hn5⟩:∃q,ts.length=q:=⟨_,rfl⟩
   rw[hn5]at bp hin;obtain⟨c0,c1⟩:=bp.A2;have c8:=bp.c8;have x5:=X5.out;obtain⟨s0,s1⟩:=x5.A2;obtain⟨t0,t1⟩:=x5.F2;have g1:(0:Int)<=(i':Int):=by omega
   have g2:(i':Int)<(n5:Int):=by omega
   clear hA5 bp hn5
   go_region
   go_wp2_with fail;clear s0 s1;obtain⟨W9,e9,X9,K9⟩:=x5.e2 (.I t'.line) (.I t'.col);rw[e9];clear e9;obtain⟨s0,s1⟩:=X9.A2;refine bodyPost_ret (v:=.tuple #[.agg #[.I t'.line,.I t'.col],.I ee]) (by simp[results,Tryz.results26,go_sem,s0,s1]) rfl ⟨_,_,_,rfl,(KW5.out.then_ K9 (λz hz e=>by omega)).drew,?_⟩;refine FINO.out W9.drew ((KW45.out.then_ K9 (λ_ _ e=>.inr e)).drew)
 ·have hce:=HC.out.resolve_left (λh=>hE h.2)
  have HLX:=h! hce.1;have hE':(E==0)=false:=by simp[hE]
  have x22:=x2.out;obtain⟨s0,s1⟩:=x22.A2;obtain⟨t0,t1⟩:=x22.F2;obtain⟨v0,v1⟩:=y1.A2;have KK:=h! (((Kept.of_below (S:=λz=>z=r) F0.out).then_ (Kept.of_below (S:=λz=>z=r) B1.out) (λ_ _ h=>h)).alloc (.cells #[.I L,.I C] 112));clear HC hce y1 Y1;go_wp2_with fail;clear s0 s1 v0 v1;obtain⟨W9,e9,X9,K9⟩:=x22.e2 (.I L) (.I C);rw[e9];clear e9;obtain⟨s0,s1⟩:=X9.A2;refine bodyPost_ret (v:=.tuple #[.agg #[.I L,.I C],.I E]) (by simp[results,Tryz.results26,go_sem,s0,s1]) rfl ⟨_,_,_,rfl,KK.out.then_ K9 (λz hz e=>by omega),?_⟩;unfold exprO;rw[HLX.out];exact⟨rfl,rfl,rfl,hE⟩
def ExOut(b:Nat)(o:Out)(cs:List Value)(L C E:Int)(w':World):Prop:=match o with
 | .ok x=>E=0∧L=0∧C=0∧TE (λz=>b<=z) w' x cs
 | .bad L' C' E'=>L=L'∧C=C'∧E=E'∧E≠0∧cs=[.int .i64 0,.int .i64 0,.string ⟨#[]⟩,.slice none 0 0]
def d16!(w:World)(o:Out)(e:Ending)(w':World):Prop:=
 ∃(op N:Int) (nm:ByteArray) (B:Option Addr) (l k:Nat) (L C E:Int),e=.returned (.tuple #[.agg #[.I op,.I N,.string nm,.slice B l k],.agg #[.I L,.I C],.I E])∧Below w.heap.size w w'∧
  ExOut w.heap.size o [.I op,.I N,.string nm,.slice B l k] L C E w'
theorem ExOut.kept{b:Nat}{o:Out}{cs:List Value}(h:ExOut b o cs L C E w)(hk:Kept S w w')(hs:∀k,k<w.heap.size->b<=k->¬S k):ExOut b o cs L C E w':=by
 cases o with
 |ok x=>exact⟨h.1,h.2.1,h.2.2.1,h.2.2.2.kept_lt hk hs⟩
 |bad L C E=>exact h
theorem u8!(w:World)(t1 t2 t3:TypeId)(a b d:Array Value):Blk (((w.alloc (.cells a t1)).alloc (.cells b t2)).alloc (.cells d t3)) w.heap.size t1 a∧Blk (((w.alloc (.cells a t1)).alloc (.cells b t2)).alloc (.cells d t3)) (w.heap.size+1) t2 b∧Blk (((w.alloc (.cells a t1)).alloc (.cells b t2)).alloc (.cells d t3)) (w.heap.size+2) t3 d:=by
 obtain⟨h1,h2⟩:=e0! w t1 t2 a b
 refine⟨h1.alloc _,h2.alloc _,?_⟩
 have:=Blk.new ((w.alloc (.cells a t1)).alloc (.cells b t2)) t3 d
 rwa[show ((w.alloc (.cells a t1)).alloc (.cells b t2)).heap.size=w.heap.size+2 from by simp]at this
theorem d17!(s:ByteArray)(w:World)(hT:Spaces w)(hs:s.size<=65536):
 Calls Tryz.prog 21 #[.string s] w (d16! w (exprO s.data.toList)):=by
 have f0:Below w.heap.size w (((w.alloc (.cells #[.I 0,.I 0,.E,.N] 40)).alloc (.cells #[.I 0,.I 0] 50)).alloc (.cells #[.I 0,.I 0,.E,.N] 40)):=(((Below.refl _ w).al _).alloc (by simp) _).alloc (by simp;omega) _
 obtain⟨x1,x2,x3⟩:=u8! w 40 50 40 #[.I 0,.I 0,.E,.N] #[.I 0,.I 0] #[.I 0,.I 0,.E,.N]
 have RD:=h! (d15! s (w.heap.size+2) _ (hT.below f0) hs x3)
 have F0:=h! f0
 have X1:=h! x1
 have X2:=h! x2
 have z0:(((w.alloc (.cells #[.I 0,.I 0,.E,.N] 40)).alloc (.cells #[.I 0,.I 0] 50)).alloc (.cells #[.I 0,.I 0,.E,.N] 40)).heap.size=w.heap.size+3:=by simp
 clear hT f0 x1 x2 x3
 generalize exprO s.data.toList=oo at*
 go_enter Tryz.func21,Tryz.ntmps21
 go_upto_region 2 with fail
 generalize ((w.alloc (.cells #[.I 0,.I 0,.E,.N] 40)).alloc (.cells #[.I 0,.I 0] 50)).alloc (.cells #[.I 0,.I 0,.E,.N] 40)=W0 at*
 go_wp2_with fail
 refine RD.out.mono ?_
 rintro e w1⟨L,C,E,rfl,k1,h1⟩
 have X1':=h! ((X1.out.kept k1 (by omega)).alloc (.cells #[.I L,.I C] 50))
 have X2':=h! ((X2.out.kept k1 (by omega)).alloc (.cells #[.I L,.I C] 50))
 have Y1:=h! (Blk.new w1 50 #[.I L,.I C])
 have z1:=k1.size
 have F1:=h! ((F0.out.trans (k1.to_below (B:=w.heap.size) (by omega) (λq hq e=>by omega))).alloc (by omega) (.cells #[.I L,.I C] 50))
 have H1:=h! h1
 have K1:=h! ((Kept.refl (λ_=>False) w1).alloc (.cells #[.I L,.I C] 50))
 have z2:=z! w1 (.cells #[.I L,.I C] 50)
 clear k1 h1 RD X1 X2
 by_cases hE:E=0
 ·subst hE
  cases oo with
  |bad L' C' E'=>exact absurd H1.out.2.2.1 (by have:=H1.out.2.2.2;exact absurd rfl this)
  |ok x=>
   obtain⟨-,op,N,nm,B,l,k,hb,hT⟩:=H1.out;have HB:=h! (hb.kept K1.out (λh=>h));have HTE:=h! (hT.kept_lt K1.out (λ_ _ _ h=>h));clear hb hT H1;go_upto_region 5 with fail;generalize w1.alloc (.cells #[.I L,.I C] 50)=W2 at*;have x1:=X1'.out;have x2:=X2'.out;have hb:=HB.out;obtain⟨s0,s1,s2,s3⟩:=x1.A4;obtain⟨t0,t1,t2,t3⟩:=x1.F4;obtain⟨p0,p1⟩:=x2.A2;obtain⟨q0,q1⟩:=x2.F2;obtain⟨v0,v1,v2,v3⟩:=hb.A4;go_wp2_with fail;clear s0 s1 s2 s3 p0 p1 v0 v1 v2 v3;have K9:=(Kept.put4 W2 w.heap.size (.I op) (.I N) (.string nm) (.slice B l k));have X9:=x1.put4 (.I op) (.I N) (.string nm) (.slice B l k);have Y9:=x2.kept K9 (by omega);generalize (((W2.setCell ⟨w.heap.size,0,none⟩ (.I op)).setCell ⟨w.heap.size,1,none⟩ (.I N)).setCell ⟨w.heap.size,2,none⟩ (.string nm)).setCell ⟨w.heap.size,3,none⟩ (.slice B l k)=W8 at*;have K8:=Kept.put2 W8 (w.heap.size+1) (.I 0) (.I 0);have X8:=X9.kept K8 (by omega);have Y8:=Y9.put2 (.I 0) (.I 0);generalize (W8.setCell ⟨w.heap.size+1,0,none⟩ (.I 0)).setCell ⟨w.heap.size+1,1,none⟩ (.I 0)=W9 at*;obtain⟨s0,s1,s2,s3⟩:=X8.A4;obtain⟨p0,p1⟩:=Y8.A2;have K89:Kept (λz=>z=w.heap.size∨z=w.heap.size+1) W2 W9:=(K9.mono (T:=λz=>z=w.heap.size∨z=w.heap.size+1) (λ_ _ e=>.inl e)).then_ K8 (λ_ _ e=>.inr e);refine bodyPost_ret (v:=.tuple #[.agg #[.I op,.I N,.string nm,.slice B l k],.agg #[.I 0,.I 0],.I 0]) (by simp[results,Tryz.results21,go_sem,s0,s1,s2,s3,p0,p1]) rfl ⟨_,_,_,_,_,_,_,_,_,rfl,F1.out.trans (K89.to_below (by omega) (λq hq e=>by rcases e with e|e<;>omega)),rfl,rfl,rfl,(HTE.out.kept_lt K89 (λz _ hz e=>by rcases e with e|e<;>omega)).mono (λz _ hz=>by omega)⟩
 ·cases oo with
  |ok x=>exact absurd H1.out.1 hE
  |bad L' C' E'=>
   obtain⟨rfl,rfl,rfl,-⟩:=H1.out;have hE':(E==0)=false:=by simp[hE]
   clear H1;go_upto_region 4 with fail;generalize w1.alloc (.cells #[.I L,.I C] 50)=W2 at*;have x1:=X1'.out;have x2:=X2'.out;have y1:=Y1.out;obtain⟨s0,s1,s2,s3⟩:=x1.A4;obtain⟨t0,t1,t2,t3⟩:=x1.F4;obtain⟨p0,p1⟩:=x2.A2;obtain⟨q0,q1⟩:=x2.F2;obtain⟨v0,v1⟩:=y1.A2
   go_region
   go_wp2_with fail;clear s0 s1 s2 s3 p0 p1 v0 v1;have K9:=(Kept.put4 W2 w.heap.size (.I 0) (.I 0) (.E) (.N));have X9:=x1.put4 (.I 0) (.I 0) (.E) (.N);have Y9:=x2.kept K9 (by omega);generalize (((W2.setCell ⟨w.heap.size,0,none⟩ (.I 0)).setCell ⟨w.heap.size,1,none⟩ (.I 0)).setCell ⟨w.heap.size,2,none⟩ (.E)).setCell ⟨w.heap.size,3,none⟩ (.N)=W8 at*;have K8:=(Kept.put2 W8 (w.heap.size+1) (.I L) (.I C)).drew;have X8:=X9.kept K8 (by omega);have Y8:=(Y9.put2 (.I L) (.I C)).drew;generalize ((W8.setCell ⟨w.heap.size+1,0,none⟩ (.I L)).setCell ⟨w.heap.size+1,1,none⟩ (.I C)).drew=W9 at*;obtain⟨s0,s1,s2,s3⟩:=X8.A4;obtain⟨p0,p1⟩:=Y8.A2;have K89:Kept (λz=>z=w.heap.size∨z=w.heap.size+1) W2 W9:=(K9.mono (T:=λz=>z=w.heap.size∨z=w.heap.size+1) (λ_ _ e=>.inl e)).then_ K8 (λ_ _ e=>.inr e);refine bodyPost_ret (v:=.tuple #[.agg #[.I 0,.I 0,.E,.N],.agg #[.I L,.I C],.I E]) (by simp[results,Tryz.results21,go_sem,s0,s1,s2,s3,p0,p1]) rfl ⟨_,_,_,_,_,_,_,_,_,rfl,F1.out.trans (K89.to_below (by omega) (λq hq e=>by rcases e with e|e<;>omega)),rfl,rfl,rfl,hE,rfl⟩
end Go.Proofs.YtdgekckedchjbaaGreatDoor
