
/-
 A g8! program has a text: what its parts are like. No program is named here. The document's blanks, needs, span. The document's Lines: the lines of g8! statements.
-/
import Derived.Test.YtdgekckedchjbaaGreatDoorV28
import Derived.Test.YtdgekckedchjbaaGreatDoorD9
import Derived.Deep.RegionHeld3
import Derived.Test.YtdgekckedchjbaaGreatDoorM8
namespace Go.Proofs.YtdgekckedchjbaaGreatDoor
open Go.RowKit
def OpE:Ex->Prop
 | .num _=>True
 | .nam _=>True
 | .idx _ e=>OpE e
 | .neg e=>OpE e
 | .non e=>OpE e
 | .bin op e f=>(5<=op∧op<=17)∧OpE e∧OpE f
def OkO(f:List Tk->PR):Prop:=∀r e r',f r=.ok e r'->OpE e
theorem e82!:∀k<5,∀p∈lvlT k,5<=p.2∧p.2<=17:=by decide+kernel
theorem e83!(k:Nat)(h:5<=k):∀p∈lvlT k,5<=p.2∧p.2<=17:=by
 intro p hp
 obtain⟨m,rfl⟩:∃m,k=m+5:=⟨k-5,by omega⟩
 simp[lvlT]at hp
theorem b75!{k:Nat}{r:List Tk}{op:Int}(h:opAt k r=some op):5<=op∧op<=17:=by
 have hall:∀p∈lvlT k,5<=p.2∧p.2<=17:=by
  rcases Nat.lt_or_ge k 5 with h5|h5
  ·exact e82! k h5
  ·exact e83! k h5
 cases r with
 |nil=>cases h
 |cons t r=>
  have h:(lvlT k).lookup t.text=some op:=h;have lm:∀(l:List (List UInt8×Int)),l.lookup t.text=some op->∃x,(x,op)∈l:=by
   intro l
   induction l with
   |nil=>intro h;cases h
   |cons a l ih=>
    intro h
    rw[List.lookup_cons]at h
    split at h
    ·injection h with h
     exact⟨a.1,by rw[<-h];exact List.mem_cons_self ..⟩
    ·obtain⟨x,hx⟩:=ih h
     exact⟨x,List.mem_cons_of_mem _ hx⟩
  obtain⟨x,hx⟩:=lm _ h;exact hall _ hx
theorem b76!{lvl:Nat}{next:List Tk->PR}(hn:OkO next):∀(f:Nat) (e:Ex),OpE e->OkO (loopJ lvl next f e)
 |0,e,he=>λr a r' h=>by
  rw[loopJ]at h;injection h with h1 h2;subst h1;exact he
 |f+1,e,he=>λr a r' h=>by
  rw[loopJ]at h
  cases ho:opAt lvl r with
  |none=>
   rw[ho]at h;injection h with h1 h2;subst h1;exact he
  |some op=>
   rw[ho]at h
   cases hq:next r.tail with
   |bad r2 er=>rw[hq]at h;cases h
   |ok e2 r2=>
    rw[hq]at h;have h1:=hn r.tail e2 r2 hq
    simp only at h
    split at h
    ·injection h with h3 h4
     subst h3;exact⟨b75! ho,he,h1⟩
    ·exact b76! hn f (.bin op e e2) ⟨b75! ho,he,h1⟩ r2 a r' h
theorem s4!{plain:List Tk->PR}(hp:OkO plain):∀k,OkO (joinL plain k)
 |0=>hp
 |k+1=>λr a r' h=>by
  rw[joinL]at h
  cases hq:joinL plain k r with
  |bad r2 er=>rw[hq]at h;cases h
  |ok e r2=>
   rw[hq]at h;exact b76! (s4! hp k) _ e (s4! hp k r e r2 hq) r2 a r' h
theorem b77!{x:List UInt8}{e:Ex}(he:OpE e):OkO (mustT x e):=λr a r' h=>by
 unfold mustT at h
 split at h
 ·injection h with h1 h2
  subst h1;exact he
 ·cases h
theorem s5!:∀d,OkO (a0! d)
 |0=>λr a r' h=>by
  cases r with
  |nil=>cases h
  |cons t r=>
   rw[a0!]at h
   split at h<;>cases h
 |d+1=>λr a r' h=>by
  cases r with
  |nil=>cases h
  |cons t r=>
   rw[a0!]at h
   split at h
   ·cases h
   split at h
   ·injection h with h1 h2
    subst h1
    trivial
   split at h
   ·split at h
    ·cases hq:joinL (a0! d) 5 r.tail with
     |bad r2 er=>rw[hq]at h;cases h
     |ok e r2=>
      rw[hq]at h;have h1:=s4! (s5! d) 5 r.tail e r2 hq;exact b77! (e:=.idx t.text e) h1 r2 a r' h
    ·injection h with h1 h2
     subst h1
     trivial
   split at h
   ·cases hq:joinL (a0! d) 5 r with
    |bad r2 er=>rw[hq]at h;cases h
    |ok e r2=>
     rw[hq]at h;exact b77! (s4! (s5! d) 5 r e r2 hq) r2 a r' h
   split at h
   ·cases hq:a0! d r with
    |bad r2 er=>rw[hq]at h;cases h
    |ok e r2=>
     rw[hq]at h;have h1:=s5! d r e r2 hq;injection h with h3 h4;subst h3;exact h1
   ·cases hq:a0! d r with
    |bad r2 er=>rw[hq]at h;cases h
    |ok e r2=>
     rw[hq]at h;have h1:=s5! d r e r2 hq;injection h with h3 h4;subst h3;exact h1
abbrev TT:Tk->Prop:=λ_=>True
theorem l2!:Ok1 TT exprP OpE:=λr hr a r' h=>by
 unfold exprP at h
 cases hq:joinL (a0! 16) 5 r with
 |bad r2 er=>rw[hq]at h;cases h
 |ok e r2=>
  rw[hq]at h;injection h with h1 h2;subst h1 h2;exact⟨s4! (s5! 16) 5 r e r2 hq,λ_ _=>trivial⟩
mutual
def WfS:St->Prop
 | .mk k _ E _ _ L El=>((0<=k∧k<10)∧E.length=partsS k)∧(∀e∈E,OpE e)∧(k≠2->k≠3->L=[])∧(k≠2->El=[])∧WfSs L∧WfSs El
def WfSs:List St->Prop
 |[]=>True
 |s::l=>WfS s∧WfSs l
end
theorem x2!:∀{l:List St},WfSs l↔∀s∈l,WfS s
 |[]=>by rw[WfSs];simp
 |s::l=>by rw[WfSs,x2!];simp
structure WfP (p:Pg):Prop where
 start:WfSs p.start
 turn:WfSs p.turn
 play:WfSs p.play
 quiet:WfSs p.quiet
 pays:WfSs p.pays
theorem any1{α:Type}(f:List Tk->PS α):Ok1 TT f (λ_=>True):=λ_ _ _ _ _=>⟨trivial,λ_ _=>trivial⟩
theorem m8!{k:Int}{nm:List UInt8}{E:List Ex}{lo hi:Int}(h:(0<=k∧k<10)∧E.length=partsS k)(hE:∀e∈E,OpE e):WfS (.mk k nm E lo hi [] []):=by
 rw[WfS]
 exact⟨h,hE,λ_ _=>rfl,λ_=>rfl,trivial,trivial⟩
theorem e84!:Ok1 TT h2! WfS:=
 Ok1.bind (any1 nameP) λnm _=>Ok1.ite
  (Ok1.tail (f:=λr=>(exprP r).bind λe r=>(mustP [93] r).bind λ_ r=>(mustP [61] r).bind λ_ r=>(exprP r).bind λe2 r=>PS.ok (St.mk 1 nm [e,e2] 0 0 [] []) r)
   (Ok1.bind l2! λe he=>Ok1.bind (any1 _) λ_ _=>Ok1.bind (any1 _) λ_ _=>Ok1.bind l2! λe2 he2=>Ok1.ok (m8! ⟨⟨by decide,by decide⟩,rfl⟩ (by simp[he,he2]))))
  (Ok1.bind (any1 _) λ_ _=>Ok1.bind l2! λe he=>Ok1.ok (m8! ⟨⟨by decide,by decide⟩,rfl⟩ (by simp[he])))
theorem b78!:∀d,Ok1 TT (stmtD d) WfS
 |0=>Ok1.bad (g:=id) (e:=λ_=>25)
 |d+1=>by
  have ih:=(m0! (more:=a7!) (b78! d) [] (by simp)).mono (λl h=>x2!.2 h);have one:∀(k:Int) (e:Ex),OpE e->(0<=k∧k<10)->partsS k=1->∀nm,WfS (.mk k nm [e] 0 0 [] []):=λk e he hk hp nm=>m8! ⟨hk,by rw[hp];rfl⟩ (by simp[he])
  exact Ok1.ite e84! (Ok1.bind (any1 wordP) λ_ _=>Ok1.ite
   (Ok1.bind l2! λe he=>Ok1.bind (any1 _) λ_ _=>Ok1.bind ih λl hl=>Ok1.bind (Ok1.ite (Ok1.tail (f:=λr=>listP a7! (stmtD d) r.length [] r) ih) (Ok1.ok (by rw[WfSs];trivial))) λel hel=>Ok1.bind (any1 _) λ_ _=>Ok1.ok (by
    rw[WfS];exact⟨⟨⟨by decide,by decide⟩,rfl⟩,by simp[he],λh=>absurd rfl h,λh=>absurd rfl h,hl,hel⟩))
   (Ok1.ite (Ok1.bind (any1 nameP) λnm _=>Ok1.bind (any1 b4!) λlo _=>Ok1.bind (any1 b4!) λhi _=>Ok1.bind (any1 _) λ_ _=>Ok1.bind ih λl hl=>Ok1.bind (any1 _) λ_ _=>Ok1.ok (by
    rw[WfS];exact⟨⟨⟨by decide,by decide⟩,rfl⟩,by simp,λ_ h=>absurd rfl h,λ_=>rfl,hl,trivial⟩))
   (Ok1.ite (Ok1.ok (m8! ⟨⟨by decide,by decide⟩,rfl⟩ (by simp))) (Ok1.ite (Ok1.bind (any1 nameP) λnm _=>Ok1.bind (any1 numP) λn _=>Ok1.ok (m8! ⟨⟨by decide,by decide⟩,rfl⟩ (by simp)))
   (Ok1.ite (Ok1.bind l2! λe he=>Ok1.ok (one 6 e he ⟨by decide,by decide⟩ rfl _)) (Ok1.ite (Ok1.ok (m8! ⟨⟨by decide,by decide⟩,rfl⟩ (by simp)))
   (Ok1.ite (Ok1.bind l2! λe he=>Ok1.bind l2! λe2 he2=>Ok1.ok (m8! ⟨⟨by decide,by decide⟩,rfl⟩ (by simp[he,he2]))) (Ok1.bind l2! λe he=>Ok1.ok (one 9 e he ⟨by decide,by decide⟩ rfl _)))))))))
theorem s6!:Ok1 TT partP WfSs:=Ok1.bind ((m0! (more:=a7!) (b78! 16) [] (by simp)).mono (λl h=>x2!.2 h)) λ_ hl=>Ok1.bind (any1 _) λ_ _=>Ok1.ok hl
theorem e85!:Ok1 TT progP WfP:=Ok1.bind (any1 _) λ_ _=>Ok1.bind (any1 _) λ_ _=>Ok1.bind (any1 _) λ_ _=>Ok1.bind (any1 _) λ_ _=>Ok1.bind (any1 _) λ_ _=>Ok1.bind (any1 _) λ_ _=>Ok1.bind (any1 _) λ_ _=>
 Ok1.bind (any1 _) λ_ _=>Ok1.bind (any1 _) λ_ _=>Ok1.bind s6! λ_ p1=>Ok1.bind (any1 _) λ_ _=>Ok1.bind s6! λ_ p2=>Ok1.bind (any1 _) λ_ _=>Ok1.bind (any1 _) λ_ _=>Ok1.bind s6! λ_ p3=>
 Ok1.bind (any1 _) λ_ _=>Ok1.bind (any1 _) λ_ _=>Ok1.bind s6! λ_ p4=>Ok1.bind (any1 _) λ_ _=>Ok1.bind s6! λ_ p5=>
 Ok1.ok ⟨p1,p2,p3,p4,p5⟩
theorem m9!:∀(e:Ex),OpE e->∃t,rawE e.gx=some t∧e.gx.wgt<=2*t.length+1
 | .num n,_=>⟨Lib.itoa n,by simp[Ex.gx,rawE,partsN],by rw[Ex.gx,wgt_mk,show (⟨#[]⟩:ByteArray).size=0 from rfl];simp⟩
 | .nam s,_=>⟨s,by simp[Ex.gx,rawE,partsN,str],by simp[Ex.gx,wgt_mk,str_size];omega⟩
 | .idx s e,h=>by
  obtain⟨t,h1,h2⟩:=m9! e h;refine⟨s++[32,91,32]++t++[32,93],by simp[Ex.gx,rawE,partsN,h1,str],?_⟩;rw[Ex.gx,wgt_one,str_size]
  simp only[List.length_append,List.length_cons,List.length_nil]
  omega
 | .neg e,h=>by
  obtain⟨t,h1,h2⟩:=m9! e h;obtain⟨u,h3,h4⟩:∃u,operO e.gx.op 6 (some t)=some u∧t.length<=u.length:=by
   unfold operO
   split
   ·exact⟨_,rfl,by simp;omega⟩
   ·exact⟨_,rfl,Nat.le_refl _⟩
  refine⟨markN 3++[32]++u,by simp[Ex.gx,rawE,partsN,h1,h3],?_⟩;rw[Ex.gx,wgt_one]
  simp only[List.length_append,List.length_cons,List.length_nil,show (⟨#[]⟩:ByteArray).size=0 from rfl]
  omega
 | .non e,h=>by
  obtain⟨t,h1,h2⟩:=m9! e h;obtain⟨u,h3,h4⟩:∃u,operO e.gx.op 6 (some t)=some u∧t.length<=u.length:=by
   unfold operO
   split
   ·exact⟨_,rfl,by simp;omega⟩
   ·exact⟨_,rfl,Nat.le_refl _⟩
  refine⟨markN 4++[32]++u,by simp[Ex.gx,rawE,partsN,h1,h3],?_⟩;rw[Ex.gx,wgt_one]
  simp only[List.length_append,List.length_cons,List.length_nil,show (⟨#[]⟩:ByteArray).size=0 from rfl]
  omega
 | .bin op e f,h=>by
  obtain⟨⟨ho1,ho2⟩,he,hf⟩:=h;obtain⟨t,h1,h2⟩:=m9! e he;obtain⟨t2,k1,k2⟩:=m9! f hf;obtain⟨u,h3,h4⟩:∃u,operO e.gx.op (leftN op) (some t)=some u∧t.length<=u.length:=by
   unfold operO
   split
   ·exact⟨_,rfl,by simp;omega⟩
   ·exact⟨_,rfl,Nat.le_refl _⟩
  obtain⟨u2,k3,k4⟩:∃u,operO f.gx.op (b0! op+1) (some t2)=some u∧t2.length<=u.length:=by
   unfold operO
   split
   ·exact⟨_,rfl,by simp;omega⟩
   ·exact⟨_,rfl,Nat.le_refl _⟩
  have hp:partsN op=2:=by unfold partsN;rw[if_neg (by omega),if_neg (by omega)]
  refine⟨u++([32]++markN op++[32]++u2),?_,?_⟩
  ·rw[Ex.gx,rawE,if_pos ⟨by omega,by omega,by rw[hp];rfl⟩]
   simp only[h1,k1,h3,k3,ocat]
  ·rw[Ex.gx,b73!]
   simp only[List.length_append,List.length_cons,List.length_nil,show (⟨#[]⟩:ByteArray).size=0 from rfl]
   omega
theorem a30!:∀(l:List Ex),(∀e∈l,OpE e)->∃T,rawEs (l.map Ex.gx)=some T
 |[],_=>⟨[],rfl⟩
 |e::l,h=>by
  obtain⟨t,h1,_⟩:=m9! e (h e (List.mem_cons_self ..));obtain⟨T,h2⟩:=a30! l (λx hx=>h x (List.mem_cons_of_mem _ hx));exact⟨t::T,by rw[List.map_cons,rawEs,h1,h2]⟩
mutual
theorem e86!(deep:Nat):∀(s:St),WfS s->∃T,rawS deep s.sx=some T
 | .mk k nm E lo hi L El,h=>by
  rw[WfS]at h;obtain⟨⟨hk,hl⟩,hE,_,_,hL,hEl⟩:=h;obtain⟨T,hT⟩:=a30! E hE;obtain⟨B,hB⟩:=i9! (deep+1) L hL;obtain⟨C,hC⟩:=i9! (deep+1) El hEl;obtain⟨U,hU⟩:∃U,(if (sxs El).length=0 then some []else ocat (some (lineB deep [[101,108,115,101]])) (rawB (deep+1) (sxs El)))=some U:=by
   split
   ·exact⟨_,rfl⟩
   ·rw[hC]
    exact⟨_,rfl⟩
  rw[St.sx,rawS,if_pos ⟨hk.1,hk.2,by rw[List.length_map];exact hl⟩,hT]
  simp only[]
  rw[hU,hB]
  simp only[ocat]
  repeat' split
  all_goals exact⟨_,rfl⟩
theorem i9!(deep:Nat):∀(l:List St),WfSs l->∃T,rawB deep (sxs l)=some T
 |[],_=>⟨[],rfl⟩
 |s::l,h=>by
  rw[WfSs]at h;obtain⟨T,hT⟩:=e86! deep s h.1;obtain⟨U,hU⟩:=i9! deep l h.2;exact⟨T++U,by rw[sxs,rawB,hT,hU];rfl⟩
end
theorem e87!(p:Pg)(h:WfP p):∃T,rawP p.px=some T:=by
 obtain⟨a,ha⟩:=i9! 1 p.start h.start
 obtain⟨b,hb⟩:=i9! 1 p.turn h.turn
 obtain⟨c,hc⟩:=i9! 1 p.play h.play
 obtain⟨d,hd⟩:=i9! 1 p.quiet h.quiet
 obtain⟨e,he⟩:=i9! 1 p.pays h.pays
 unfold rawP partO
 simp only[Pg.px,ha,hb,hc,hd,he,ocat]
 exact⟨_,rfl⟩
end Go.Proofs.YtdgekckedchjbaaGreatDoor
set_option maxHeartbeats 2000000
set_option maxRecDepth 100000
namespace Go.Proofs.YtdgekckedchjbaaGreatDoor
open Go.RowKit
theorem e88!(k:Nat):blanks (k+1)=blanks k++[32,32]:=by
 unfold blanks
 induction k with
 |zero=>rfl
 |succ k ih=>
  show [32,32]++Lib.repeatL [32,32] (k+1)=([32,32]++Lib.repeatL [32,32] k)++[32,32]
  rw[ih,List.append_assoc]
theorem e89!(k:Nat):(blanks k).length=2*k:=by
 unfold blanks
 rw[Lib.repeatL_length]
 simp
 omega
theorem e90!(d:Nat)(hd:d<=1000)(w:World):Calls Tryz.prog 152 #[.I (d:Int)] w λe w'=>e=.returned (.string (str (blanks d)))∧w'=w:=by
 have hb0:str (blanks 0)=⟨#[]⟩:=rfl
 go_enter Tryz.func152,Tryz.ntmps152
 go_wp2_with fail
 go_loopw [3,4] (λs i wr=>∃(k:Nat) (S:ByteArray),k<=d∧i=.I k∧s=.string S∧S.size=2*k∧Hid (S=str (blanks k))∧wr=w) (λ_ i _=>d-(intOf i).toNat)
 case atStart=>exact⟨0,⟨#[]⟩,by omega,rfl,rfl,rfl,h! hb0.symm,rfl⟩
 case round=>
  obtain⟨k,S1,hk,rfl,rfl,hs,HS,hw⟩:=hrel
  by_cases hkd:k<d
  ·have HAP:Hid (S1++⟨#[32,32]⟩=str (blanks (k+1))):=by
    rw[Hid,HS.out,e88!,<-n1!]
    rfl
   have z1:¬(9223372036854775807<S1.size+(⟨#[32,32]⟩:ByteArray).size):=by show ¬(9223372036854775807<S1.size+2);omega
   have z2:=x! (S1.size+2);have wi:=y! ((k:Int)+1);go_wp2_with fail
   go_roundw
   case rel=>exact⟨k+1,_,by omega,by go_num,rfl,by rw[ByteArray.size_append];show S1.size+2=2*(k+1);omega,HAP,trivial⟩
   case measure=>simp[intOf];omega
  ·obtain rfl:k=d:=by omega
   go_wp2_with fail
   go_ret
   exact⟨by rw[HS.out];rfl,rfl⟩
def s7!:Array Value:=#[.I 1,.I 2,.I 1,.I 0,.I 0,.I 0,.I 1,.I 0,.I 2,.I 1]
theorem e91!:∀k:Nat,k<10->s7![k]?=some (.I ((partsS (k:Int):Nat):Int)):=by
 intro k hk
 iterate 10
  rcases k with _|k
  ·rfl
 omega
theorem e92!(op:Int)(w:World)(h0:0<=op)(h1:op<10):Calls Tryz.prog 151 #[.I op] w λe w'=>e=.returned (.I ((partsS op:Nat):Int))∧Below w.heap.size w w':=by
 obtain⟨k,rfl⟩:∃k:Nat,op=(k:Int):=⟨op.toNat,by omega⟩
 have hk:k<10:=by omega
 have x1:=Blk.new w 3 s7!
 have c1:(w.alloc (.cells s7! 3)).cell? ⟨w.heap.size,k,none⟩=some (.I ((partsS (k:Int):Nat):Int)):=(x1.cell k).trans (e91! k hk)
 have f1:=a! w (.cells s7! 3)
 have F1:=h! f1
 unfold s7! at c1 F1
 generalize ((partsS (k:Int):Nat):Int)=tt at*
 clear x1 f1
 go_enter Tryz.func151,Tryz.ntmps151
 go_wp2_with fail
 go_ret
 exact⟨rfl,F1.out⟩
end Go.Proofs.YtdgekckedchjbaaGreatDoor
set_option maxHeartbeats 4000000
set_option maxRecDepth 100000
namespace Go.Proofs.YtdgekckedchjbaaGreatDoor
open Go.RowKit
theorem j0!{a b:Option (List UInt8)}{t:List UInt8}(h:ocat a b=some t):∃x y,a=some x∧b=some y∧t=x++y:=by
 cases a with
 |none=>cases b<;>cases h
 |some x=>
  cases b with
  |none=>cases h
  |some y=>
   injection h with h;exact⟨x,y,rfl,rfl,h.symm⟩
def i1!(w:World)(T:List UInt8)(e:Ending)(w':World):Prop:=e=.returned (.tuple #[.string (str T),.bool true])∧Below w.heap.size w w'
def b79!(n:Nat):Prop:=∀(deep:Nat) (D:Nat->Prop) (kind lo hi:Int) (S:ByteArray) (A1:Option Addr) (l1 c1:Nat) (A2:Option Addr) (l2 c2:Nat) (A3:Option Addr) (l3 c3:Nat) (s:St) (w:World) (T:List UInt8),
 RE D w n [.I kind,.string S,.slice A1 l1 c1,.I lo,.I hi,.slice A2 l2 c2,.slice A3 l3 c3] s->FitS s->WfS s->rawS deep s.sx=some T->T.length<=500000->deep+n<=40->
 Calls Tryz.prog 137 #[.agg #[.I kind,.string S,.slice A1 l1 c1,.I lo,.I hi,.slice A2 l2 c2,.slice A3 l3 c3],.I (deep:Int)] w (i1! w T)
def a31!(n:Nat):Prop:=∀(deep:Nat) (D:Nat->Prop) (A:Option Addr) (len cap:Nat) (l:List St) (w:World) (T:List UInt8),
 ElsG D w 7 1000000 (RE D w n) A len l->FitSs l->WfSs l->rawB deep (sxs l)=some T->T.length<=500000->deep+n<=40->
 Calls Tryz.prog 100 #[.slice A len cap,.I (deep:Int)] w (i1! w T)
theorem b80!(n:Nat)(H:b79! n):a31! n:=by
 intro deep D A len cap l w T h hf hw hT hl hd
 obtain⟨xs,r1,-,m1,n1,e1⟩:=h
 have R1:=h! r1
 have N1:=h! n1
 have E1:=h! e1
 have HF:=h! (λs hs=>q2! hf s hs)
 have HW:=h! (λs hs=>x2!.1 hw s hs)
 have HH:=h! H
 have HT:=h! hT
 have hb0:str []=⟨#[]⟩:=rfl
 clear r1 n1 e1 hf hw H hT
 go_enter Tryz.func100,Tryz.ntmps100
 go_wp2_with fail
 go_loopw [6,7] (λo i wr=>∃(k:Nat) (U V:List UInt8) (S:ByteArray),k<=len∧i=.I k∧o=.string S∧S.size<=500000∧Hid (S=str U)∧Hid (T=U++V)∧Hid (rawB deep (sxs (l.drop k))=some V)∧Hid (Below w.heap.size w wr)) (λ_ i _=>len-(intOf i).toNat)
 case atStart=>exact⟨0,[],T,⟨#[]⟩,by omega,rfl,rfl,by decide,h! hb0.symm,rfl,HT.out,Below.refl _ _⟩
 case round=>
  obtain⟨k,U,V,S,hk,rfl,rfl,hs,HS,HUV,HV,hb⟩:=hrel
  by_cases hlt:k<len
  ·have hkk:k<l.length:=by rw[N1.out];exact hlt
   have ec:=E1.out k hkk;have hv:=HV.out;rw[List.drop_eq_getElem_cons hkk,sxs,rawB]at hv;obtain⟨V1,V2,hv1,hv2,rfl⟩:=j0! hv;have hF:=HF.out _ (List.getElem_mem hkk);have hW:=HW.out _ (List.getElem_mem hkk);generalize l[k]=g at*;have hlen:U.length+V1.length+V2.length<=500000:=by
    have h1:=HUV.out;have h2:=congrArg List.length h1
    simp only[List.length_append]at h2
    omega
   obtain⟨q,rfl⟩:∃q,n=q+1:=by
    cases n with
    |zero=>exact absurd ec id
    |succ q=>exact⟨q,rfl⟩
   have ec2:=ec;obtain⟨kind,nm,E,lo,hi,L,El⟩:=g;obtain⟨A1,l1,c1,A2,l2,c2,A3,l3,c3,hcs,-,-,-⟩:=ec;rw[hcs]at ec2;have CL:=h! (λ(W:World) (hW':Below w.heap.size w W)=>HH.out deep D kind lo hi (str nm) A1 l1 c1 A2 l2 c2 A3 l3 c3 _ W V1 (RE.kept (Kept.of_below (S:=λ_=>False) hW') (λ_ _ _ h=>h) (λ_ _ h=>h) _ _ _ ec2) hF hW hv1 (by omega) (by omega));obtain⟨N,hN⟩:∃N,str nm=N:=⟨_,rfl⟩
   rw[hN]at hcs;have HN:=h! hN;obtain⟨b1,o1,rfl,hb1,q⟩:=R1.out.chunk (by omega) hlt hcs;have q0:=(hb.out.cell (p:=⟨b1,o1+k*7,none⟩) hb1).trans (q 0 _ rfl);have q1:=(hb.out.cell (p:=⟨b1,o1+k*7+1,none⟩) hb1).trans (q 1 _ rfl);have q2:=(hb.out.cell (p:=⟨b1,o1+k*7+2,none⟩) hb1).trans (q 2 _ rfl);have q3:=(hb.out.cell (p:=⟨b1,o1+k*7+3,none⟩) hb1).trans (q 3 _ rfl);have q4:=(hb.out.cell (p:=⟨b1,o1+k*7+4,none⟩) hb1).trans (q 4 _ rfl);have q5:=(hb.out.cell (p:=⟨b1,o1+k*7+5,none⟩) hb1).trans (q 5 _ rfl);have q6:=(hb.out.cell (p:=⟨b1,o1+k*7+6,none⟩) hb1).trans (q 6 _ rfl);rw[hN]at CL;have CC:=h! (CL.out wr hb.out);have g1:(0:Int)<=(k:Int):=by omega
   have g2:(k:Int)<(len:Int):=by omega
   have HV2:=h! hv2;have HAP:Hid (S++str V1=str (U++V1)):=by rw[Hid,HS.out,n1!]
   obtain⟨S1,hS1⟩:∃x,str V1=x:=⟨_,rfl⟩
   have hz1:S1.size<=500000:=by rw[<-hS1,str_size];omega
   have hzz:S.size+S1.size<=500000:=by rw[HS.out,<-hS1,str_size,str_size];omega
   unfold i1! at CC;rw[hS1]at CC HAP;have z1:=x! (S.size+S1.size);have HUV2:Hid (T=(U++V1)++V2):=by rw[Hid,HUV.out,List.append_assoc]
   clear q hcs ec2 hv hv1 hv2 hF hW hS1 hN CL;go_wp2_with fail;refine CC.out.mono ?_;rintro e w2⟨rfl,b2⟩;have F2:=r! hb b2;clear b2 q0 q1 q2 q3 q4 q5 q6 CC;go_wp2_with fail
   go_roundw
   case rel=>exact⟨k+1,U++V1,V2,_,by omega,by go_num,rfl,by rw[ByteArray.size_append];exact hzz,HAP,HUV2,HV2,F2⟩
   case measure=>simp[intOf];omega
  ·obtain rfl:k=len:=by omega
   have HE:Hid (str U=str T):=by
    have hv:=HV.out;rw[List.drop_of_length_le (by rw[N1.out];exact Nat.le_refl _)]at hv;have:V=[]:=(Option.some.inj hv).symm;rw[Hid,HUV.out,this,List.append_nil]
   have HSS:Hid (S=str T):=by rw[Hid,HS.out,HE.out]
   clear HS HUV HV HE;go_wp2_with fail;refine bodyPost_ret (v:=.tuple #[.string S,.bool true]) (by simp[results,Tryz.results100,go_sem]) rfl ⟨by rw[HSS.out],hb.out⟩
end Go.Proofs.YtdgekckedchjbaaGreatDoor
