
/-
 The document's parser of programs: how its steps are told; single tokens, a number with a sign. The document's parser of programs in memory: statements, and how a list is read. The document's stmts: statements, up to what is none.
-/
import Derived.Test.YtdgekckedchjbaaGreatDoorM7
import Derived.Deep.RegionHeld3
set_option maxHeartbeats 2000000
set_option maxRecDepth 100000
namespace Go.Proofs.YtdgekckedchjbaaGreatDoor
open Go.RowKit
variable {ts:List Tk} {M i:Nat} {er:Int} {w:World} {D:Nat->Prop} {x:Ex}
def DsAt{α:Type}(ts:List Tk)(i:Nat)(er:Int)(p:PS α)(Q:α->Prop):Prop:=er=0->∃a,p=.ok a (ts.drop i)∧Q a
theorem DsAt.mono{α:Type}{p:PS α}{Q Q':α->Prop}(h:DsAt ts i er p Q)(hq:∀a,Q a->Q' a):DsAt ts i er p Q':=λhe=>by
 obtain⟨a,h1,h2⟩:=h he
 exact⟨a,h1,hq a h2⟩
theorem DsAt.then_{α β:Type}{j:Nat}{er':Int}{p:PS α}{f:List Tk->PS β}{Q:α->Prop}{Q':β->Prop}(h:DsAt ts i er p Q)(h2:DsAt ts j er' (stP f ts i er) Q'):
 DsAt ts j er' (p.bind λa r=>(f r).bind λb r=>.ok (a,b) r) (λab=>Q ab.1∧Q' ab.2):=λhe=>by
 obtain⟨b,hb,qb⟩:=h2 he
 unfold stP at hb
 split at hb
 ·rename_i h0
  obtain⟨a,ha,qa⟩:=h h0;refine⟨(a,b),?_,qa,qb⟩;rw[ha]
  show (f (ts.drop i)).bind _=_
  rw[hb]
  rfl
 ·cases hb
theorem DsAt.map{α β:Type}{p:PS α}{Q:α->Prop}{Q':β->Prop}(k:α->β)(h:DsAt ts i er p Q)(hq:∀a,Q a->Q' (k a)):DsAt ts i er (p.bind λa r=>.ok (k a) r) Q':=λhe=>by
 obtain⟨a,ha,qa⟩:=h he
 exact⟨k a,by rw[ha];rfl,hq a qa⟩
theorem DsAt.st{α:Type}{a:α}{Q:α->Prop}(hq:Q a):DsAt ts i er (stP (λr=>.ok a r) ts i er) Q:=λhe=>by
 unfold stP
 rw[if_pos he]
 exact⟨a,rfl,hq⟩
theorem DsAt.no{α:Type}{p:PS α}{Q:α->Prop}(he:er≠0):DsAt ts i er p Q:=λh=>absurd h he
def DStep{α:Type}(w:World)(g c:Nat)(A:Option Addr)(ts:List Tk)(p:PS α)(R:World->α->Value->Prop)(Sh:World->Value->Prop)(e:Ending)(w':World):Prop:=
 ∃v,e=.returned v∧Kept (λz=>z=g) w w'∧Sh w' v∧∃(i:Nat) (er:Int),DP w' g A c ts i er∧DsAt ts i er p (λa=>R w' a v)
theorem k8!(x:List UInt8):(str x).data.toList=x:=by simp[str]
theorem a4!(g c:Nat)(A:Option Addr)(ts:List Tk)(i:Nat)(er:Int)(x:List UInt8)(w:World)(h:DP w g A c ts i er):
 Calls Tryz.prog 101 #[.pointer (some ⟨g,0,none⟩),.string (str x)] w (DStep w g c A ts (stP (mustP x) ts i er) IsU ShU):=by
 by_cases he:er=0
 ·subst he
  refine(a09! g c A ts i (str x) w h).mono ?_
  intro e w1 h1
  rw[k8!]at h1;unfold EatTo at h1
  split at h1
  ·rename_i hx
   obtain⟨rfl,h2,h3⟩:=h1;refine⟨_,rfl,h3,rfl,_,_,h2,λ_=>⟨(),?_,trivial⟩⟩;unfold stP mustP;rw[if_pos rfl,if_pos hx,List.tail_drop]
  ·obtain⟨er,her,rfl,h2,h3⟩:=h1
   exact⟨_,rfl,h3,rfl,_,_,h2,DsAt.no her⟩
 ·refine(a18! g c A ts (str x) i er w he h).mono ?_
  rintro e w1⟨rfl,rfl⟩;exact⟨_,rfl,Kept.refl _ _,rfl,_,_,h,DsAt.no he⟩
theorem e17!(g c:Nat)(A:Option Addr)(ts:List Tk)(i:Nat)(er:Int)(w:World)(he:er≠0)(h:DP w g A c ts i er):
 Calls Tryz.prog 102 #[.pointer (some ⟨g,0,none⟩)] w λe w'=>e=.returned (.E)∧w'=w:=by
 have c2:=h.blk.c2
 have he':((er:Int)==0)=false:=by simp[he]
 clear h
 go_enter Tryz.func102,Tryz.ntmps102
 go_wp2_with fail
 go_ret
 exact⟨rfl,rfl⟩
theorem e18!(g c:Nat)(A:Option Addr)(ts:List Tk)(i:Nat)(er:Int)(w:World)(he:er≠0)(h:DP w g A c ts i er):
 Calls Tryz.prog 103 #[.pointer (some ⟨g,0,none⟩)] w λe w'=>e=.returned (.I 0)∧w'=w:=by
 have c2:=h.blk.c2
 have he':((er:Int)==0)=false:=by simp[he]
 clear h
 go_enter Tryz.func103,Tryz.ntmps103
 go_wp2_with fail
 go_ret
 exact⟨rfl,rfl⟩
theorem k2!(g c:Nat)(A:Option Addr)(ts:List Tk)(i:Nat)(er:Int)(w:World)(h:DP w g A c ts i er):
 Calls Tryz.prog 102 #[.pointer (some ⟨g,0,none⟩)] w (DStep w g c A ts (stP nameP ts i er) IsS ShS):=by
 by_cases he:er=0
 ·subst he
  obtain⟨t,ht⟩:=h.one;refine(a10! g c A ts i w h t ht).mono ?_
  intro e w1 h1
  unfold h9! at h1
  split at h1
  ·rename_i hx
   obtain⟨rfl,h2,h3⟩:=h1;refine⟨_,rfl,h3,⟨_,rfl⟩,_,_,h2,λ_=>⟨t.text,?_,rfl⟩⟩;unfold stP nameP;rw[if_pos rfl,a1! ht,takeP,if_pos (of_decide_eq_true hx)]
   rfl
  ·obtain⟨er,her,rfl,h2,h3⟩:=h1
   exact⟨_,rfl,h3,⟨_,rfl⟩,_,_,h2,DsAt.no her⟩
 ·refine(e17! g c A ts i er w he h).mono ?_
  rintro e w1⟨rfl,rfl⟩;exact⟨_,rfl,Kept.refl _ _,⟨_,rfl⟩,_,_,h,DsAt.no he⟩
theorem m5!(g c:Nat)(A:Option Addr)(ts:List Tk)(i:Nat)(er:Int)(w:World)(h:DP w g A c ts i er):
 Calls Tryz.prog 103 #[.pointer (some ⟨g,0,none⟩)] w (DStep w g c A ts (stP numP ts i er) IsN ShN):=by
 by_cases he:er=0
 ·subst he
  obtain⟨t,ht⟩:=h.one;refine(b37! g c A ts i w h t ht).mono ?_
  intro e w1 h1
  unfold h9! at h1
  split at h1
  ·rename_i hx
   obtain⟨rfl,h2,h3⟩:=h1;refine⟨_,rfl,h3,⟨_,rfl⟩,_,_,h2,λ_=>⟨t.n,?_,rfl⟩⟩;unfold stP numP;rw[if_pos rfl,a1! ht,takeP,if_pos (of_decide_eq_true hx)]
   rfl
  ·obtain⟨er,her,rfl,h2,h3⟩:=h1
   exact⟨_,rfl,h3,⟨_,rfl⟩,_,_,h2,DsAt.no her⟩
 ·refine(e18! g c A ts i er w he h).mono ?_
  rintro e w1⟨rfl,rfl⟩;exact⟨_,rfl,Kept.refl _ _,⟨_,rfl⟩,_,_,h,DsAt.no he⟩
theorem DP.pass{g c:Nat}{A:Option Addr}(h:DP w g A c ts i er)(hi:i+1<ts.length):
 DP (w.setCell ⟨g,1,none⟩ (.I ((i:Int)+1))) g A c ts (i+1) er∧Kept (λz=>z=g) w (w.setCell ⟨g,1,none⟩ (.I ((i:Int)+1))):=by
 have K5:=(Kept.refl (λz=>z=g) w).setCell (p:=⟨g,1,none⟩) (λ_=>rfl) (.I ((i:Int)+1))
 have B5:Blk (w.setCell ⟨g,1,none⟩ (.I ((i:Int)+1))) g 105 #[.slice A ts.length c,.I ((i+1:Nat):Int),.I er]:=by
  have:=h.blk.set_ 1 (.I ((i:Int)+1))
  simpa using this
 exact⟨h.put K5 (λ_ _ e=>e) hi B5,K5⟩
theorem m6!(g c:Nat)(A:Option Addr)(ts:List Tk)(i:Nat)(er:Int)(w:World)(h:DP w g A c ts i er):
 Calls Tryz.prog 105 #[.pointer (some ⟨g,0,none⟩)] w (DStep w g c A ts (stP b4! ts i er) IsN ShN):=by
 have c2:=h.blk.c2
 have NU:=h! (λw' i' er' (h':DP w' g A c ts i' er')=>m5! g c A ts i' er' w' h')
 have HH:=h! h
 have hlim:=h.lim
 by_cases he:er=0
 ·subst he
  have IS:=h! (d3! g c A ts i 0 ⟨#[45]⟩ w h);rw[show (⟨#[45]⟩:ByteArray).data.toList=[45]from rfl]at IS;have HM:=h! (λhx=>h8! h (x:=[45]) hx);obtain⟨b,hb⟩:∃b,hasT [45] (ts.drop i)=b:=⟨_,rfl⟩
  rw[hb]at IS HM;have HB:=h! hb;have hat:=h.at_;clear h hb
  cases b
  ·go_enter Tryz.func105,Tryz.ntmps105
   go_wp2_with fail;refine IS.out.mono ?_;rintro e w1⟨rfl,b1⟩;have N2:=h! (NU.out w1 i 0 (HH.out.below b1));have K1:=o! g b1;clear c2;go_wp2_with fail;refine N2.out.mono ?_;rintro e w2⟨v,rfl,k2,⟨n,rfl⟩,j,er2,p2,ps⟩;go_wp2_with fail
   go_ret
   refine⟨_,rfl,K1.out.then_ k2 (λ_ _ e=>e),⟨_,rfl⟩,_,_,p2,λhe=>?_⟩;obtain⟨a,ha,hq⟩:=ps he;unfold stP at ha ⊢;rw[if_pos rfl]at ha ⊢;exact⟨a,by unfold b4!;rw[HB.out,if_neg (by decide)];exact ha,hq⟩
  ·have hm:=HM.out rfl
   go_enter Tryz.func105,Tryz.ntmps105;go_wp2_with fail;refine IS.out.mono ?_;rintro e w1⟨rfl,b1⟩;have D1:=HH.out.below b1;have y1:=D1.blk.c1;have u1:=D1.blk.frozen 1;have wi:=y! ((i:Int)+1);obtain⟨d5,k5⟩:=D1.pass hm;have N2:=h! (NU.out _ (i+1) 0 d5);have K1:=h! ((Kept.of_below (S:=λz=>z=g) b1).then_ k5 (λ_ _ e=>e));clear c2 d5 k5 D1;go_wp2_with fail;refine N2.out.mono ?_;rintro e w2⟨v,rfl,k2,⟨n,rfl⟩,j,er2,p2,ps⟩;go_wp2_with fail
   go_ret
   refine⟨_,rfl,K1.out.then_ k2 (λ_ _ e=>e),⟨_,rfl⟩,_,_,p2,λhe=>?_⟩;obtain⟨a,ha,hq⟩:=ps he;injection hq with _ hq;subst hq;unfold stP at ha ⊢;rw[if_pos rfl]at ha ⊢;refine⟨IntKind.i64.wrap (-n),?_,?_⟩
   ·unfold b4!
    rw[HB.out,if_pos rfl,List.tail_drop,ha]
    rfl
   ·show Value.int .i64 (wrap64 (-n))=Value.int .i64 (IntKind.i64.wrap (-n))
    rw[IntWalk.i64_left]
 ·have he':((er:Int)==0)=false:=by simp[he]
  have N2:=h! (NU.out w i er h);have HE:=h! he;clear h he;go_enter Tryz.func105,Tryz.ntmps105;go_wp2_with fail;refine N2.out.mono ?_;rintro e w2⟨v,rfl,k2,⟨n,rfl⟩,j,er2,p2,ps⟩;go_wp2_with fail
  go_ret
  refine⟨_,rfl,k2,⟨_,rfl⟩,_,_,p2,λhe=>?_⟩;obtain⟨_,ha,_⟩:=ps he;unfold stP at ha;rw[if_neg HE.out]at ha
  cases ha
def QG:Cel Ex:=λD w cs x=>GC D w 1000000 x.dep cs x.gx
theorem f5!:QKept QG:=λ_ _ _ _ _ cs _ hk hs hE h=>GC.kept hk hs hE _ cs _ h
theorem GC.less:∀(n:Nat) (x:Ex) (cs:List Value),x.dep<=n->GC D w M n cs x.gx->GC D w 1000000 n cs x.gx:=by
 intro n
 induction n with
 |zero=>intro x cs hn h;exact h
 |succ n ih=>
  have step:∀(op N:Int) (nm:ByteArray) (l:List Ex) (cs:List Value),l.length<=2->(∀e∈l,e.dep<=n)->GC D w M (n+1) cs (.mk op N nm (l.map Ex.gx))->GC D w 1000000 (n+1) cs (.mk op N nm (l.map Ex.gx)):=by
   intro op N nm l cs hl hd h
   obtain⟨A,len,cap,h1,xs,h2,h3,h4,h5,h6⟩:=h;refine⟨A,len,cap,h1,xs,h2,h3,by rw[<-h5,List.length_map];omega,h5,λi hi=>?_⟩;have hi':i<l.length:=by simpa using hi
   have:=h6 i hi;rw[List.getElem_map]at this ⊢;exact ih _ _ (hd _ (List.getElem_mem hi')) this
  intro x cs hn h
  cases x with
  |num k=>exact step 0 k ⟨#[]⟩ [] cs (by simp) (λe he=>by simp at he) h
  |nam s=>exact step 1 0 (str s) [] cs (by simp) (λe he=>by simp at he) h
  |idx s e=>exact step 2 0 (str s) [e] cs (by simp) (λe' he=>by obtain rfl:=List.mem_singleton.1 he;simp[Ex.dep]at hn;omega) h
  |neg e=>exact step 3 0 ⟨#[]⟩ [e] cs (by simp) (λe' he=>by obtain rfl:=List.mem_singleton.1 he;simp[Ex.dep]at hn;omega) h
  |non e=>exact step 4 0 ⟨#[]⟩ [e] cs (by simp) (λe' he=>by obtain rfl:=List.mem_singleton.1 he;simp[Ex.dep]at hn;omega) h
  |bin op e f=>
   refine step op 0 ⟨#[]⟩ [e,f] cs (by simp) (λe' he=>?_) h
   simp[Ex.dep]at hn
   rcases List.mem_cons.1 he with rfl|he
   ·omega
   ·obtain rfl:=List.mem_singleton.1 he
    omega
theorem GC.qg{cs:List Value}(h:GC D w M x.dep cs x.gx):QG D w cs x:=GC.less _ x cs (Nat.le_refl _) h
theorem e19!(g c:Nat)(A:Option Addr)(ts:List Tk)(dp:Int)(i:Nat)(er:Int)(w:World)(he:er≠0)(h:DP w g A c ts i er):
 Calls Tryz.prog 47 #[.pointer (some ⟨g,0,none⟩),.I dp] w λe w'=>e=.returned (.agg #[.I 0,.I 0,.E,.N])∧DP w' g A c ts i er∧Kept (λz=>z=g) w w':=by
 have HH:=h! h
 have hgl:=h.blk.lt
 have hlim:=h.lim
 have hat:=h.at_
 have x1:=Blk.new w 24 #[.I 0,.I 0,.E,.N]
 have f1:=a! w (.cells #[.I 0,.I 0,.E,.N] 24)
 have D1:=h! (h.below f1)
 have K1:=o! g f1
 have X1:=h! x1
 clear h
 go_enter Tryz.func47,Tryz.ntmps47
 go_upto_region 1 with fail
 generalize w.alloc (.cells #[.I 0,.I 0,.E,.N] 24)=W1 at*
 clear x1 f1
 have c2:=D1.out.blk.c2
 have he':((er:Int)==0)=false:=by simp[he]
 have v0:=X1.out.c0
 have y0:=X1.out.frozen 0
 have v1:=X1.out.c1
 have y1:=X1.out.frozen 1
 have v2:=X1.out.c2
 have y2:=X1.out.frozen 2
 have v3:=X1.out.c3
 have y3:=X1.out.frozen 3
 go_wp2_with fail
 clear v0 v1 v2 v3 y0 y1 y2 y3
 obtain⟨W9,e9,Y9,K9⟩:=X1.out.e4 (.I 0) (.I 0) (.E) (.N)
 rw[e9]
 clear e9
 obtain⟨s0,s1,s2,s3⟩:=Y9.A4
 refine bodyPost_ret (v:=.agg #[.I 0,.I 0,.E,.N]) (by simp[results,Tryz.results47,go_sem,s0,s1,s2,s3]) rfl ?_
 obtain⟨d9,k9,r9⟩:=c1! HH.out D1.out K1.out K9 (.inr ⟨he,_,_,rfl⟩:DRes (w.heap.size+1) ts (.bad [] 0) i er [.I 0,.I 0,.E,.N] W1)
 exact⟨rfl,d9,k9⟩
theorem PR.ps_ok{p:PR}{r:List Tk}(h:p=.ok x r):p.ps=.ok x r:=by rw[h];rfl
theorem r1!(g c:Nat)(A:Option Addr)(ts:List Tk)(i:Nat)(er:Int)(w:World)(h:DP w g A c ts i er):
 Calls Tryz.prog 47 #[.pointer (some ⟨g,0,none⟩),.I 1] w (DStep w g c A ts (stP exprP ts i er) (IsEl QG w.heap.size) ShE):=by
 by_cases he:er=0
 ·subst he
  refine((b48! g c A ts 16 (Nat.le_refl _)).2 1 i w (by decide) h).mono ?_;rintro e w1⟨op,N,nm,B,l,k,i2,er2,rfl,h2,h3,h4⟩;refine⟨_,rfl,h3,⟨op,N,nm,B,l,k,rfl⟩,i2,er2,h2,λhe=>?_⟩;rcases h4 with⟨_,x,hx,hc⟩|⟨hne,_⟩
  ·refine⟨x,?_,_,rfl,hc.qg⟩
   unfold stP;rw[if_pos rfl];exact PR.ps_ok hx
  ·exact absurd he hne
 ·refine(e19! g c A ts 1 i er w he h).mono ?_
  rintro e w1⟨rfl,h2,h3⟩;exact⟨_,rfl,h3,⟨_,_,_,_,_,_,rfl⟩,_,_,h2,DsAt.no he⟩
end Go.Proofs.YtdgekckedchjbaaGreatDoor
namespace Go.Proofs.YtdgekckedchjbaaGreatDoor
open Go.RowKit
variable {S:Nat->Prop} {w:World} {b base s:Nat} {t:TypeId} {ts:List Tk}
def RE(D:Nat->Prop)(w:World):Nat->List Value->St->Prop
 |0,_,_=>False
 |n+1,cs,.mk kind nm E lo hi L El=>∃(A1:Option Addr) (l1 c1:Nat) (A2:Option Addr) (l2 c2:Nat) (A3:Option Addr) (l3 c3:Nat),
  cs=[.I kind,.string (str nm),.slice A1 l1 c1,.I lo,.I hi,.slice A2 l2 c2,.slice A3 l3 c3]∧
  ElsG D w 4 1000000 (QG D w) A1 l1 E∧ElsG D w 7 1000000 (RE D w n) A2 l2 L∧ElsG D w 7 1000000 (RE D w n) A3 l3 El
def QR(d:Nat):Cel St:=λD w cs s=>RE D w d cs s
theorem RE.kept{D E:Nat->Prop}{w':World}(hk:Kept S w w')(hs:∀k,k<w.heap.size->D k->¬S k)(hE:∀k,k<w.heap.size->D k->E k):∀(n:Nat) (cs:List Value) (s:St),RE D w n cs s->RE E w' n cs s
 |0,_,_,h=>h
 |n+1,cs,.mk kind nm El lo hi L Ls,h=>by
  obtain⟨A1,l1,c1,A2,l2,c2,A3,l3,c3,h1,h2,h3,h4⟩:=h;exact⟨A1,l1,c1,A2,l2,c2,A3,l3,c3,h1,h2.kept hk hs hE (λcs x h=>f5! D E S w w' cs x hk hs hE h),h3.kept hk hs hE (RE.kept hk hs hE n),h4.kept hk hs hE (RE.kept hk hs hE n)⟩
theorem c7!(d:Nat):QKept (QR d):=λ_ _ _ _ _ cs s hk hs hE h=>RE.kept hk hs hE d cs s h
theorem b49!(h:Blk w b t #[])(hb:base<=b):w.ownsRow base t s (.slice (some ⟨b,0,none⟩) 0 0) 0 []:=
 ⟨by simp,.inr ⟨b,0,#[],rfl,hb,h,Nat.le_refl _,by unfold maxLen;omega,by simp,by simp⟩⟩
theorem OwnA.empty{α:Type}{Q:Cel α}(h:Blk w b t #[])(hb:base<=b):OwnA s Q w base t (.slice (some ⟨b,0,none⟩) 0 0) ([]:List α):=
 ⟨[],b49! h hb,by simp,by simp,λi hi=>by simp at hi⟩
def DLJ{α:Type}(s:Nat)(Q:Cel α)(t:TypeId)(base:Nat)(ts:List Tk)(more:List Tk->Bool)(one:List Tk->PS α)(pre:List α)(goal:PS (List α))(v:Value)(wr:World)(j:Nat)(er:Int):Prop:=
 (er=0∧∃(acc:List α) (f:Nat),OwnA s Q wr base t v (pre++acc)∧(ts.drop j).length<=f∧goal=listP more one f acc (ts.drop j)∧acc.length<=j)∨(er≠0∧∃(n:Nat) (ys:List Value),wr.ownsRow base t s v n ys∧(∀u∈ys,u.oneCell'=true)∧n<=100000)
section
variable {α:Type} {s:Nat} {Q:Cel α} {t:TypeId} {base:Nat} {ts:List Tk} {more:List Tk->Bool} {one:List Tk->PS α} {pre:List α} {goal:PS (List α)} {v v8:Value} {wr w w2 w8:World} {j j2 f:Nat} {er er2:Int}
theorem DLJ.raw(h:DLJ s Q t base ts more one pre goal v wr j er)(hj:j<=70000)(hp:pre.length<=1000):∃(n:Nat) (ys:List Value),wr.ownsRow base t s v n ys∧(∀u∈ys,u.oneCell'=true)∧n<=100000:=by
 rcases h with⟨_,acc,f,ho,_,_,hl⟩|⟨_,h⟩
 ·obtain⟨ys,o1,_,o3,_⟩:=ho
  exact⟨_,ys,o1,o3,by rw[List.length_append];omega⟩
 ·exact h
theorem DLJ.kept(hq:QKept Q)(h:DLJ s Q t base ts more one pre goal v wr j er)(hk:Kept S wr w)(hs:∀z,z<wr.heap.size->base<=z->¬S z):DLJ s Q t base ts more one pre goal v w j er:=by
 rcases h with⟨h0,acc,f,ho,h1,h2,hl⟩|⟨h0,n,ys,o1,o3,hn⟩
 ·obtain⟨ys,o1,o2,o3,o4⟩:=ho
  have hlt:=c2! o1;have hge:=f2! o1;exact .inl ⟨h0,acc,f,⟨ys,a6! o1 hk (λk hk'=>hs k (hlt k hk') (hge k hk')),o2,o3,λi hi=>hq _ _ S wr w _ _ hk (λk h1 h2=>hs k h1 h2.1) (λ_ _ h=>h) (o4 i hi)⟩,h1,h2,hl⟩
 ·exact .inr ⟨h0,n,ys,a6! o1 hk (λk hk'=>hs k (c2! o1 k hk') (f2! o1 k hk')),o3,hn⟩
theorem DLJ.done(hq:QKept Q)(h:DLJ s Q t base ts more one pre goal v wr j er)(hj:j<=70000)(hp:pre.length<=1000)(hm:er=0->more (ts.drop j)=false):ShR s wr v∧DsAt ts j er goal (λl=>IsRow s Q base wr (pre++l) v):=by
 obtain⟨n,ys,o1,o3,hn⟩:=h.raw hj hp
 obtain⟨A,c,rfl,_⟩:=b2! o1
 refine⟨⟨A,n,c,ys,rfl,Reads.of_own o1,o3,hn⟩,λhe=>?_⟩
 rcases h with⟨_,acc,f,ho,hf,rfl,hl⟩|⟨h0,_⟩
 ·refine⟨acc,?_,ho.row hq (by rw[List.length_append];omega)⟩
  cases f with
  |zero=>rfl
  |succ f=>simp only[listP];rw[hm he];rfl
 ·exact absurd he h0
theorem DLJ.go(h:DLJ s Q t base ts more one pre goal v wr j 0):∃(acc:List α) (f:Nat),OwnA s Q wr base t v (pre++acc)∧(ts.drop j).length<=f∧goal=listP more one f acc (ts.drop j)∧acc.length<=j:=by
 rcases h with⟨_,h⟩|⟨he,_⟩
 ·exact h
 ·exact absurd rfl he
theorem DLJ.next(hq:QKept Q){acc:List α}{ys cs:List Value}{R:α->Prop}
 (hm:more (ts.drop j)=true) (heat:EatsP one) (hjl:j<ts.length) (hj2:j2<ts.length) (hf:(ts.drop j).length<=f) (hg:goal=listP more one f acc (ts.drop j)) (hl:acc.length<=j) (hp:pre.length<=1000) (hps:DsAt ts j2 er2 (one (ts.drop j)) R)
 (hR:∀a,R a->Q (λk=>wr.heap.size<=k∧k<w2.heap.size) w8 cs a) (hyl:ys.length=(pre++acc).length*s) (hcs:cs.length=s) (h1:∀u∈ys,u.oneCell'=true) (hc1:∀u∈cs,u.oneCell'=true) (hlim:ts.length<=70000) (hold:∀i (h:i<(pre++acc).length),Q (λz=>base<=z∧v.ownBlock≠some z) wr ((ys.drop (i*s)).take s) ((pre++acc)[i]'h))
 (ho8:w8.ownsRow base t s v8 ((pre++acc).length+1) (ys++cs)) (hk:Kept (λz=>z<base∨v.ownBlock=some z) wr w8) (hown:∀k,v.ownBlock=some k->k<wr.heap.size) (hat:v8.ownBlock=v.ownBlock∨∃z,v8.ownBlock=some z∧w2.heap.size<=z) (hb:base<=wr.heap.size) (hz2:wr.heap.size<=w2.heap.size):
 DLJ s Q t base ts more one pre goal v8 w8 j2 er2∧(er2=0->j<j2):=by
 have hpa:(pre++acc).length=pre.length+acc.length:=List.length_append
 by_cases he:er2=0
 ·subst he
  obtain⟨a,ha,hQ⟩:=hps rfl;have hlt:=heat _ _ _ ha;rw[List.length_drop,List.length_drop]at hlt;refine⟨.inl ⟨rfl,acc++[a],f-1,?_,?_,?_,?_⟩,λ_=>by omega⟩
  ·rw[<-List.append_assoc]
   refine OwnA.push hq ho8 hyl hcs h1 hc1 hold hk (λk hk' hne e=>?_) (hR a hQ) (λk _ hd=>⟨by omega,λe=>?_⟩)
   ·rcases hat with h|⟨z,h,hz⟩
    ·exact hne (h▸e)
    ·rw[h]at e
     have:=Option.some.inj e
     omega
   ·rcases hat with h|⟨z,h,hz⟩
    ·have:=hown k (h▸e)
     omega
    ·rw[h]at e
     have:=Option.some.inj e
     omega
  ·rw[List.length_drop]at hf ⊢
   omega
  ·rw[hg]
   rw[List.length_drop]at hf;obtain⟨f',rfl⟩:∃f',f=f'+1:=⟨f-1,by omega⟩
   simp only[listP]
   rw[hm,ha]
   rfl
  ·rw[List.length_append,List.length_singleton]
   omega
 ·exact⟨.inr ⟨he,_,_,ho8,λu hu=>(List.mem_append.1 hu).elim (h1 u) (hc1 u),by omega⟩,λh=>absurd h he⟩
end
structure TW (ts:List Tk):Prop where
 word:∀t∈ts,t.text∈beginW->t.kind=3
 dash:∀t∈ts,t.text=[45]->t.kind=4
theorem e20!:∀x∈beginW,(a3! x).kind=3:=by decide+kernel
theorem e21!:(a3! [45]).kind=4:=by decide+kernel
theorem e22!:¬([]:List UInt8)∈beginW:=by decide
theorem TW.lex{l:List UInt8}(h:lexS l=.ok ts):TW ts:=by
 obtain⟨us,L,C,hts,hgood,_,hn⟩:=v6! h
 refine⟨λt ht hm=>?_,λt ht hm=>?_⟩
 ·rw[hts,List.mem_append]at ht
  rcases ht with ht|ht
  ·have:=e20! _ hm
   rw[(hgood t ht).2]at this;exact this
  ·rw[List.mem_singleton]at ht
   rw[ht]at hm;exact absurd hm e22!
 ·rw[hts,List.mem_append]at ht
  rcases ht with ht|ht
  ·have h1:=e21!
   rw[<-hm,(hgood t ht).2]at h1;exact h1
  ·rw[List.mem_singleton]at ht
   rw[ht]at hm;exact absurd hm (by simp)
theorem e23!(hw:TW ts){i:Nat}{t:Tk}(ht:ts[i]?=some t):a7! (ts.drop i)=(decide (t.kind=1)||beginW.any (λx=>hasT x (ts.drop i))):=by
 rw[a1! ht]
 have hm:t.text∈beginW->t.kind=3:=hw.word t (List.mem_of_getElem? ht)
 by_cases hb:t.text∈beginW
 ·have h3:=hm hb
  have:beginW.any (λx=>hasT x (t::ts.drop (i+1)))=true:=by
   rw[List.any_eq_true];exact⟨t.text,hb,by simp[hasT,h3]⟩
  rw[this]
  simp[a7!,h3,hb]
 ·have:beginW.any (λx=>hasT x (t::ts.drop (i+1)))=false:=by
   rw[List.any_eq_false]
   intro x hx h
   simp[hasT]at h
   exact hb (h.2▸hx)
  rw[this]
  simp[a7!,hb]
theorem e24!{x:List UInt8}{l:List (List UInt8)}{j:Nat}(h:l[j]?=some x)(p:List UInt8->Bool):(l.take (j+1)).any p=((l.take j).any p||p x):=by
 have hj:j<l.length:=(List.getElem?_eq_some_iff.1 h).1
 have hx:l[j]=x:=(List.getElem?_eq_some_iff.1 h).2
 rw[List.take_succ_eq_append_getElem hj,List.any_append,hx]
 simp
def k9!:Array Value:=#[.string ⟨#[105,102]⟩,.string ⟨#[102,111,114]⟩,.string ⟨#[114,101,102,117,115,101]⟩,.string ⟨#[114,111,108,108]⟩,.string ⟨#[115,101,97,116]⟩,.string ⟨#[111,118,101,114]⟩,.string ⟨#[112,97,121]⟩,.string ⟨#[114,101,115,116]⟩]
theorem e25!:∀j:Nat,j<8->∃x,beginW[j]?=some x∧k9![j]?=some (.string (str x)):=by
 intro j hj
 match j,hj with
 |0,_=>exact⟨_,rfl,rfl⟩
 |1,_=>exact⟨_,rfl,rfl⟩
 |2,_=>exact⟨_,rfl,rfl⟩
 |3,_=>exact⟨_,rfl,rfl⟩
 |4,_=>exact⟨_,rfl,rfl⟩
 |5,_=>exact⟨_,rfl,rfl⟩
 |6,_=>exact⟨_,rfl,rfl⟩
 |7,_=>exact⟨_,rfl,rfl⟩
end Go.Proofs.YtdgekckedchjbaaGreatDoor
set_option maxHeartbeats 8000000
set_option maxRecDepth 100000
namespace Go.Proofs.YtdgekckedchjbaaGreatDoor
open Go.RowKit
variable {ts:List Tk} {w:World} {c g j:Nat} {er:Int} {A:Option Addr}
def r2!(g c:Nat)(A:Option Addr)(ts:List Tk)(d:Nat):Prop:=∀(dp:Int) (i:Nat) (w:World),dp+(d:Int)=17->DP w g A c ts i 0->a7! (ts.drop i)=true->
 Calls Tryz.prog 153 #[.pointer (some ⟨g,0,none⟩),.I dp] w (DStep w g c A ts (stmtD d (ts.drop i)) (IsEl (QR d) w.heap.size) ShSt)
theorem DLJ.start{α:Type}{s:Nat}{Q:Cel α}{t:TypeId}{base:Nat}{more:List Tk->Bool}{one:List Tk->PS α}{v:Value}(h:OwnA s Q w base t v ([]:List α)):DLJ s Q t base ts more one [] (stP (λr=>listP more one r.length [] r) ts j er) v w j er:=by
 by_cases he:er=0
 ·subst he
  exact .inl ⟨rfl,[],_,h,Nat.le_refl _,by unfold stP;rw[if_pos rfl],by simp⟩
 ·obtain⟨ys,o1,_,o3,_⟩:=h
  exact .inr ⟨he,_,ys,o1,o3,by simp⟩
theorem e26!:(Tryz.prog.info? 29).map (λi=>(i.zero,i.size,i.bytes))=some (some (.agg #[.I 0,.string ByteArray.empty,.N,.I 0,.I 0,.N,.N]),7,112):=by kernel_rfl
theorem DP.er25{i:Nat}(h:DP w g A c ts i er)(e2:Int):
 DP (w.setCell ⟨g,2,none⟩ (.I e2)) g A c ts i e2∧Kept (λz=>z=g) w (w.setCell ⟨g,2,none⟩ (.I e2)):=by
 have K5:=(Kept.refl (λz=>z=g) w).setCell (p:=⟨g,2,none⟩) (λ_=>rfl) (.I e2)
 have B5:Blk (w.setCell ⟨g,2,none⟩ (.I e2)) g 105 #[.slice A ts.length c,.I (i:Int),.I e2]:=by
  have:=h.blk.set_ 2 (.I e2)
  simpa using this
 exact⟨h.put K5 (λ_ _ e=>e) h.at_ B5,K5⟩
theorem r3!{w':World}{j2:Nat}{er2:Int}(h:DP w g A c ts j 0)(h2:DP w' g A c ts j2 er2)(hl:er2=0->j<j2):LMd ts g w'<LMd ts g w:=by
 have:=h2.at_
 rw[w1! h,w1! h2,if_pos rfl]
 split
 ·rename_i he
  have:=hl he
  omega
 ·omega
theorem a23!(g c:Nat)(A:Option Addr)(ts:List Tk)(hw:TW ts)(d:Nat)(hd:d<=16)(H:d≠0->r2! g c A ts d)(dp:Int)(hdp:dp+(d:Int)=17)(i:Nat)(er:Int)(w:World)(h:DP w g A c ts i er):
 Calls Tryz.prog 138 #[.pointer (some ⟨g,0,none⟩),.I dp] w (DStep w g c A ts (stP (g1! d) ts i er) (IsRow 7 (QR d) w.heap.size) ShL):=by
 have HH:=h! h
 have HW:=h! hw
 have HST:=h! H
 have hgl:=h.blk.lt
 have hlim:=h.lim
 obtain⟨xs,xw⟩:=e0! w 29 9 #[] k9!
 have f1:Below w.heap.size w ((w.alloc (.cells #[] 29)).alloc (.cells k9! 9)):=((Below.refl _ w).al _).al _
 have D1:=h! (h.below f1)
 have K1:=o! g f1
 have XW:=h! xw
 have XS:=h! xs
 have LJ0:=h! (DLJ.start (s:=7) (Q:=QR d) (base:=w.heap.size) (ts:=ts) (more:=a7!) (one:=stmtD d) (j:=i) (er:=er) (OwnA.empty XS.out (Nat.le_refl _)))
 have EG:stP (g1! d) ts i er=stP (λr=>listP a7! (stmtD d) r.length [] r) ts i er:=rfl
 have zf:((w.alloc (.cells #[] 29)).alloc (.cells k9! 9)).heap.size=w.heap.size+1+1:=by simp
 rw[EG]
 generalize stP (λr=>listP a7! (stmtD d) r.length [] r) ts i er=goal at*
 clear h hw H EG f1 xs xw XS
 go_enter Tryz.func138,Tryz.ntmps138
 go_wp2_with fail
 change Code.wp _ _ _ _ ((w.alloc (.cells #[] 29)).alloc (.cells k9! 9))
 generalize (w.alloc (.cells #[] 29)).alloc (.cells k9! 9)=W1 at*
 obtain⟨wb,hwb⟩:∃b,w.heap.size+1=b:=⟨_,rfl⟩
 rw[hwb]at XW zf ⊢
 have hwb2:w.heap.size<wb:=by omega
 have HZ:=h! zf
 clear hwb zf
 go_loopw [5] (λv wr=>∃(j:Nat) (er':Int),Hid (DP wr g A c ts j er')∧Hid (Kept (λz=>z=g) w wr)∧Hid (DLJ 7 (QR d) 29 w.heap.size ts a7! (stmtD d) [] goal v wr j er')∧Hid (Blk wr wb 9 k9!)∧Hid (∀z,v.ownBlock=some z->z≠wb)) (λ_ wr=>LMd ts g wr)
 case atStart=>exact⟨i,er,D1.out,K1.out,LJ0.out,XW.out,λz hz e=>by have hz:=Option.some.inj hz;simp only at hz;omega⟩
 case round=>
  obtain⟨j,er',DD,KK,LL,WW,NW⟩:=hrel;obtain⟨wo,rfl⟩:∃x,x=wr:=⟨_,rfl⟩
  have hwz:=KK.out.size;have c2:=DD.out.blk.c2;have hjt:=DD.out.at_;have hwbl:=WW.out.lt;obtain⟨jt,HJT⟩:∃n,Hid (ts.length=n):=⟨_,rfl⟩
  by_cases he:er'=0
  rotate_left
  ·have he':((er':Int)==0)=false:=by simp[he]
   have HD:=h! (LL.out.done (c7! d) (by omega) (by simp) (λe=>absurd e he));have HQ:=h! KK.out;clear he;go_wp2_with fail
   go_ret
   exact⟨_,rfl,HQ.out,HD.out.1.shl,j,er',DD.out,HD.out.2⟩
  subst he;obtain⟨t,ht⟩:=DD.out.one;have HBW:=h! (e23! HW.out ht);have NWW:=h! (c3! g c A ts j 0 wo DD.out t ht);clear ht;go_wp2_with fail;refine NWW.out.mono ?_;rintro e w1⟨rfl,b1⟩;obtain⟨b1k,hb1k⟩:∃b,((t.kind:Int)==1)=b:=⟨_,rfl⟩
  have HBK:Hid (decide (t.kind=1)=b1k):=by
   rw[Hid,<-hb1k]
   by_cases h:t.kind=1<;>simp[h]
  rw[HBK.out]at HBW;have B1:=h! b1;clear b1 NWW;go_wp2_with fail;rw[c4!];go_wp2_with fail;clear hb1k HBK c2
  go_loopw [7,8] (λbv iv wq=>∃k:Nat,k<=8∧iv=.I k∧bv=.bool (b1k||(beginW.take k).any (λx=>hasT x (ts.drop j)))∧Hid (Below wo.heap.size wo wq)) (λ_ iv _=>8-(intOf iv).toNat)
  case atStart=>exact⟨0,by omega,rfl,by simp,B1.out⟩
  case round=>
   obtain⟨k,hk,rfl,rfl,hbq⟩:=hrel;obtain⟨wq,rfl⟩:∃x,x=wr:=⟨_,rfl⟩
   obtain⟨ov,hov⟩:∃x,(b1k||(beginW.take k).any (λx=>hasT x (ts.drop j)))=x:=⟨_,rfl⟩
   rw[hov];have HOV:=h! hov;clear hov
   by_cases hk8:k<8
   ·obtain⟨x,hx1,hx2⟩:=e25! k hk8
    have HNX:Hid ((b1k||(beginW.take (k+1)).any (λx=>hasT x (ts.drop j)))=(ov||hasT x (ts.drop j))):=by
     rw[Hid,e24! hx1,<-HOV.out,Bool.or_assoc]
    have hkz:(0:Int)<=(k:Int):=by omega
    have hkz2:(k:Int)<8:=by omega
    have wik:=y! ((k:Int)+1)
    cases ov
    ·have qm:wq.cell? ⟨wb,k,none⟩=some (.string (str x)):=((WW.out.below hbq.out WW.out.lt).cell k).trans hx2
     have IS:=h! (d3! g c A ts j 0 (str x) wq (DD.out.below hbq.out));rw[k8!]at IS;obtain⟨bm,hbm⟩:∃b,hasT x (ts.drop j)=b:=⟨_,rfl⟩
     rw[hbm]at IS HNX;clear hx1 hx2 hbm;go_wp2_with fail;refine IS.out.mono ?_;rintro e w5⟨rfl,b5⟩;have F5:=r! hbq b5;clear b5 IS qm;go_wp2_with fail
     go_roundw
     case rel=>exact⟨k+1,by omega,by go_num,by rw[HNX.out];simp,F5.out⟩
     case measure=>simp[intOf];omega
    ·clear hx1 hx2
     go_wp2_with fail
     go_roundw
     case rel=>exact⟨k+1,by omega,by go_num,by rw[HNX.out];simp,hbq.out⟩
     case measure=>simp[intOf];omega
   ·obtain rfl:k=8:=by omega
    have HBE:Hid (a7! (ts.drop j)=ov):=by
     rw[Hid,HBW.out,<-HOV.out]
     rfl
    have Dq:=h! (DD.out.below hbq.out);have Kq:=h! (KK.out.below_ hbq.out);have Wq:=h! (WW.out.below hbq.out WW.out.lt);have Lq:=h! (LL.out.kept (c7! d) (Kept.of_below (S:=λ_=>False) hbq.out) (λ_ _ _ e=>e));have hqz:=hbq.out.size
    cases ov
    ·have HD:=h! (Lq.out.done (c7! d) (by omega) (by simp) (λ_=>HBE.out))
     go_wp2_with fail
     go_ret
     exact⟨_,rfl,Kq.out,HD.out.1.shl,j,0,Dq.out,HD.out.2⟩
    ·by_cases h0:d=0
     ·have hd17:(16:Int)<dp:=by omega
      obtain⟨d5,k5⟩:=Dq.out.er25 25;have D5:=h! d5;have K5:=q! Kq k5;obtain⟨n0,ys0,o0,on0,hn0⟩:=Lq.out.raw (by omega) (by simp);have u2:=Dq.out.blk.frozen 2;have y2:=Dq.out.blk.c2;have HSH:Hid (ShL (wq.setCell ⟨g,2,none⟩ (.I 25)) u5):=by
       obtain⟨A0,c0,hv0,_⟩:=b2! o0;exact⟨A0,n0,c0,hv0⟩
      clear d5 k5 o0 on0 hn0;go_wp2_with fail
      go_ret
      exact⟨_,rfl,K5.out,HSH.out,j,25,D5.out,DsAt.no (by decide)⟩
     ·have hd17:¬(16:Int)<dp:=by omega
      have SO:=h! (HST.out h0 dp j wq hdp Dq.out HBE.out);obtain⟨acc,f,ho,hf,hg,hal⟩:=Lq.out.go;obtain⟨ys,how,hyl,hone1,hold⟩:=ho;have HG:=h! hg;have HF:=h! hf;have HON:=h! hone1;have HYL:=h! hyl;have HOLD:=h! hold;have hog:=h! (f2! how);have hol:=h! (c2! how);have halx:=h! hal;obtain⟨an,HAN⟩:∃an,Hid ((([]:List St)++acc).length=an):=⟨_,rfl⟩
      rw[show (([]:List St)++acc).length=an from HAN.out]at how;have hanj:an<=70000:=by
       have h1:=HAN.out;have h2:acc.length=an:=h1
       omega
      have HOA:=h! how;clear hg hf hal how hyl hold hone1;go_wp2_with fail;refine SO.out.mono ?_;rintro e w2⟨v2,rfl,k2,⟨kind,nm,A1,l1,c1,lo,hi,A2,l2,c2,A3,l3,c3,rfl⟩,j2,er2,p2,ps2⟩;obtain⟨i0,hi0,hz0,hz1,hz2⟩:=info_parts e26!;have z2:=k2.size;have KG:Hid (∀z,u5.ownBlock=some z->z≠g):=λz e hz=>by have:=hog.out z e;omega
      have o2:=h! (World.ownsRow.alloc (a6! HOA.out k2 KG.out) (.cells #[.I kind,.string nm,.slice A1 l1 c1,.I lo,.I hi,.slice A2 l2 c2,.slice A3 l3 c3] 29));have RD:=h! (d1! w2 29 #[.I kind,.string nm,.slice A1 l1 c1,.I lo,.I hi,.slice A2 l2 c2,.slice A3 l3 c3] 7 rfl);have ONE:Hid (∀u∈([.I kind,.string nm,.slice A1 l1 c1,.I lo,.I hi,.slice A2 l2 c2,.slice A3 l3 c3]:List Value),u.oneCell'=true):=by
       intro u hu
       simp only[List.mem_cons,List.not_mem_nil,or_false]at hu
       rcases hu with rfl|rfl|rfl|rfl|rfl|rfl|rfl<;>rfl
      have za:=z! w2 (.cells #[.I kind,.string nm,.slice A1 l1 c1,.I lo,.I hi,.slice A2 l2 c2,.slice A3 l3 c3] 29);have P2:=h! p2;have PS2:=h! ps2;have K2:=h! k2;clear p2 ps2 k2
      go_wp2_with (at_builtin;refine e5! _ rfl (.tmp 42) (.tmp 46) 27 rfl w.heap.size 29 i0 _ 7 112 Tryz.underlying27 hi0 hz0 hz1 hz2 rfl (by omega) _ an ys rfl o2.out _ _ 1 1 [.I kind,.string nm,.slice A1 l1 c1,.I lo,.I hi,.slice A2 l2 c2,.slice A3 l3 c3] rfl RD.out ONE.out (by unfold maxLen;omega) (by omega) (by simp;omega) ?_;intro v8 w8 o8 g8 at8)
      have K8:Kept (λz=>u5.ownBlock=some z) w2 w8:=((Kept.refl (λz=>u5.ownBlock=some z) w2).alloc _).then_ (Kept.of_grown g8 (λ_ e=>e)) (λ_ _ e=>e);have ho8:=o8;rw[<-show (([]:List St)++acc).length=an from HAN.out]at ho8;have KG8:Hid (Kept (λz=>z=g) w w8):=(Kq.out.then_ K2.out (λ_ _ e=>e)).then_ K8 (λz hz e=>by have:=hog.out z e;omega);have HP8:Hid (DP w8 g A c ts j2 er2):=HH.out.put KG8.out (λ_ _ e=>e) P2.out.at_ (P2.out.blk.kept K8 (λe=>KG.out g e rfl));have W8:Hid (Blk w8 wb 9 k9!):=(Wq.out.kept K2.out (by omega)).kept K8 (λe=>NW.out wb e rfl);have N8:Hid (∀z,v8.ownBlock=some z->z≠wb):=λz hz=>by
       rcases at8 with h|h
       ·exact NW.out z (h▸hz)
       ·rw[h]at hz
        have:=Option.some.inj hz
        omega
      have HN8:=h! (DLJ.next (α:=St) (pre:=[]) (wr:=wq) (w2:=w2) (v:=u5) (c7! d) HBE.out (y7! d) (by omega) P2.out.at_ HF.out HG.out halx.out (by simp) PS2.out (λa ha=>(c7! d) (λk=>wq.heap.size<=k) (λk=>wq.heap.size<=k∧k<w2.heap.size) _ w2 w8 _ a K8 (λk _ hk e=>by have:=hol.out k e;omega) (λk hk h=>⟨by omega,hk⟩) (by
       obtain⟨cs,hcs,hq⟩:=ha;have:cs=[.I kind,.string nm,.slice A1 l1 c1,.I lo,.I hi,.slice A2 l2 c2,.slice A3 l3 c3]:=by
        injection hcs with hcs;have:=congrArg Array.toList hcs
        simpa using this.symm
       rw[this]at hq;exact hq)) HYL.out rfl HON.out ONE.out hlim HOLD.out ho8 ((K2.out.mono (λz _ e=>.inl (by omega))).then_ K8 (λz _ e=>.inr e)) hol.out (by
       rcases at8 with h|h
       ·exact .inl h
       ·exact .inr ⟨_,h,by omega⟩) (by omega) (by omega))
      have HME:=h! (r3! DD.out HP8.out HN8.out.2);clear o8 g8 at8 K8 ho8;go_wp2_with fail
      go_roundw
      case rel=>exact⟨j2,er2,HP8.out,KG8.out,HN8.out.1,W8.out,N8.out⟩
      case measure=>exact HME.out
end Go.Proofs.YtdgekckedchjbaaGreatDoor
