
/-
 Where the tokens stand: the law. More blanks between the pieces: the law. What g8! programs are made of: names and numbers of the tokens; numbers and their digits. No program is named here. Names and numbers of good tokens; a g8! program fits. No program is named here.
-/
import Derived.Test.YtdgekckedchjbaaGreatDoorQM
namespace Go.Proofs.YtdgekckedchjbaaGreatDoor
open Go.RowKit
variable {l:List UInt8} {ts:List Tk} {u:Tk} {p:Pg}
def stF:List UInt8->Nat->List Nat
 |[],_=>[]
 |c::r,i=>if c=10 then (i+1)::stF r (i+1)else stF r (i+1)
def a03!(X:List UInt8):List Nat:=0::stF X 0
inductive Gap (X:List UInt8) (e:Nat):Nat->Prop
 |done:Gap X e e
 |blank {k:Nat} {c:UInt8} (h:k<e) (hc:X[k]?=some c) (hb:c=10∨c=32∨c=9) (hg:Gap X e (k+1)):Gap X e k
 |note {k:Nat} (h:k<e) (hc:X[k]?=some 35) (hle:k+preN nlB (X.drop k)<=e) (hg:Gap X e (k+preN nlB (X.drop k))):Gap X e k
structure b22! (X:List UInt8) (b:Nat) (t:Tk) (p:Nat):Prop where
 line1:1<=t.line
 line2:t.line<=(a03! X).length
 col:1<=t.col
 start:∃v,(a03! X)[(t.line-1).toNat]?=some v∧(v:Int)+t.col-1=p
 ahead:b<=p
 fits:p+t.text.length<=X.length
 text:(X.drop p).take t.text.length=t.text
 gap:Gap X p b
inductive a04! (X:List UInt8):Nat->List Tk->Prop
 |last {b:Nat} {t:Tk}:b22! X b t X.length->t.kind=0->t.text=[]->a04! X b [t]
 |more {b p:Nat} {t:Tk} {ts:List Tk}:b22! X b t p->t.kind≠0->ts≠[]->a04! X (p+t.text.length) ts->a04! X b (t::ts)
theorem a05!{p:UInt8->Bool}(l:List UInt8):preN p (l.take (preN p l))=preN p l:=by
 rw[a54! (by rw[<-a41!];exact λc hc=>z0! hc),List.length_take]
 exact Nat.min_eq_left (j1! _ _)
theorem d81!(h:(a3! l).err=0)(hl:l≠[]):a3! (a3! l).text=a3! l:=by
 obtain⟨c,r,rfl⟩:=List.exists_cons_of_ne_nil hl
 have hhd:∀n,1<=n->((c::r).take n).headD 0=c:=by
  intro n hn
  obtain⟨m,rfl⟩:∃m,n=m+1:=⟨n-1,by omega⟩
  rfl
 have hp1:letB c=true∨digB c=true->1<=preN innB (c::r):=λh=>l5! (by unfold innB;rcases h with h|h<;>simp[h])
 have ht:(((c::r).take (preN innB (c::r))).take (preN innB (c::r)))=(c::r).take (preN innB (c::r)):=by rw[List.take_take,Nat.min_self]
 revert h
 have hd:(c::r).headD 0=c:=rfl
 by_cases h1:letB c=true
 ·have hn:=hp1 (.inl h1)
  unfold a3!;rw[hd,if_pos h1]
  by_cases h2:30<preN innB (c::r)
  ·rw[if_pos h2]
   intro h;exact absurd h (by decide)
  ·rw[if_neg h2]
   by_cases h3:(c::r).take (preN innB (c::r))∈d6!
   ·rw[if_pos h3]
    intro _
    simp only
    rw[hhd _ hn,if_pos h1,a05!,if_neg h2,ht,if_pos h3]
   ·rw[if_neg h3]
    intro _
    simp only
    rw[hhd _ hn,if_pos h1,a05!,if_neg h2,ht,if_neg h3]
 ·by_cases h2:digB c=true
  ·have hn:=hp1 (.inr h2)
   unfold a3!;rw[hd,if_neg h1,if_pos h2]
   by_cases h3:(numS ((c::r).take (preN innB (c::r)))).2≠0
   ·rw[if_pos h3]
    intro h;exact absurd h h3
   ·rw[if_neg h3]
    intro _
    simp only
    rw[hhd _ hn,if_neg h1,if_pos h2,a05!,ht,if_neg h3]
  ·unfold a3!
   rw[hd,if_neg h1,if_neg h2]
   by_cases h3:2<=(c::r).length∧(c::r).take 2∈a9!
   ·rw[if_pos h3]
    intro _
    simp only
    rw[hhd 2 (by omega),if_neg h1,if_neg h2,List.take_take,Nat.min_self,if_pos ⟨by rw[List.length_take];omega,h3.2⟩]
   ·rw[if_neg h3]
    by_cases h4:(c::r).take 1∈a9!
    ·rw[if_pos h4]
     intro _
     simp only
     rw[hhd 1 (by omega),if_neg h1,if_neg h2,if_neg (by rw[List.length_take];simp),List.take_take,Nat.min_self,if_pos h4]
    ·rw[if_neg h4]
     intro h;exact absurd h (by decide)
def Good(u:Tk):Prop:=u.text≠[]∧a3! u.text=⟨u.kind,u.text,u.n,0⟩
def e2!(us:List Tk):Nat:=(us.map λu=>u.text.length).sum
theorem b23!(us:List Tk)(u:Tk):e2! (us++[u])=e2! us+u.text.length:=by simp[e2!]
theorem q8!:∀(f:Nat) (l:List UInt8) (line col:Int) (acc ts:List Tk),l.length<f->(∀u∈acc,Good u)->lexF f l line col acc=.ok ts->∃us L C,ts=us++[⟨0,[],0,L,C⟩]∧(∀u∈us,Good u)∧e2! us<=e2! acc+l.length∧us.length<=acc.length+l.length
 |0,_,_,_,_,_,h,_,_=>absurd h (by omega)
 |f+1,[],line,col,acc,ts,_,ha,h=>by
  simp only[lexF,Res.ok.injEq]at h
  exact⟨acc,line,col,h.symm,ha,by omega,by omega⟩
 |f+1,c::r,line,col,acc,ts,hf,ha,h=>by
  have hf':r.length<f:=by simp at hf;omega
  rw[p0! rfl]at h;rw[List.length_cons]
  by_cases h1:c=10
  ·rw[if_pos h1]at h
   obtain⟨us,L,C,h5,h6,h7,h8⟩:=q8! f r _ _ acc ts hf' ha h;exact⟨us,L,C,h5,h6,by omega,by omega⟩
  ·rw[if_neg h1]at h
   by_cases h2:c=32∨c=9
   ·rw[if_pos h2]at h
    obtain⟨us,L,C,h5,h6,h7,h8⟩:=q8! f r _ _ acc ts hf' ha h;exact⟨us,L,C,h5,h6,by omega,by omega⟩
   ·rw[if_neg h2]at h
    by_cases h3:c=35
    ·have hp:1<=preN nlB (c::r):=l5! (by subst h3;rfl)
     rw[if_pos h3]at h;obtain⟨us,L,C,h5,h6,h7,h8⟩:=q8! f _ _ _ acc ts (by simp;omega) ha h
     simp only[List.length_drop,List.length_cons]at h7 h8
     exact⟨us,L,C,h5,h6,by omega,by omega⟩
    ·rw[if_neg h3]at h
     by_cases h4:(a3! (c::r)).err≠0
     ·rw[if_pos h4]at h
      cases h
     ·rw[if_neg h4]at h
      have h9:(a3! (c::r)).err=0:=by simpa using h4
      have hp:=t8! h9 (by simp:c::r≠[]);have hs:=d81! h9 (by simp:c::r≠[]);have hp1:=hp.1;have hp2:=hp.2;obtain⟨us,L,C,h5,h6,h7,h8⟩:=q8! f _ _ _ _ ts (by simp;omega) (by
       intro u hu
       rcases List.mem_append.1 hu with hu|hu
       ·exact ha u hu
       ·simp only[List.mem_singleton]at hu
        subst hu;refine⟨λe=>by simp only at e;rw[e]at hp1;simp at hp1,?_⟩
        simp only
        rw[hs];exact(show a3! (c::r)=⟨(a3! (c::r)).kind,(a3! (c::r)).text,(a3! (c::r)).n,(a3! (c::r)).err⟩from rfl).trans (by rw[h9])) h
      simp only[List.length_drop,List.length_cons,b23!,List.length_append,List.length_nil]at h7 h8
      simp only[List.length_cons]at hp2
      exact⟨us,L,C,h5,h6,by omega,by omega⟩
theorem v6!(h:lexS l=.ok ts):∃us L C,ts=us++[⟨0,[],0,L,C⟩]∧(∀u∈us,Good u)∧e2! us<=l.length∧us.length<=l.length:=by
 obtain⟨us,L,C,h1,h2,h3,h4⟩:=q8! _ l 1 1 [] ts (by omega) (by simp) h
 exact⟨us,L,C,h1,h2,by simpa[e2!]using h3,by simpa using h4⟩
def Ok1(T:Tk->Prop){α:Type}(f:List Tk->PS α)(Q:α->Prop):Prop:=∀r,(∀t∈r,T t)->∀a r',f r=.ok a r'->Q a∧∀t∈r',T t
section
variable {T:Tk->Prop}
theorem Ok1.bind{α β:Type}{p:List Tk->PS α}{f:α->List Tk->PS β}{Q:α->Prop}{R:β->Prop}(hp:Ok1 T p Q)(hf:∀a,Q a->Ok1 T (f a) R):Ok1 T (λr=>(p r).bind (f · ·)) R:=λr hr b r' h=>by
 change (p r).bind f=_ at h
 cases hq:p r with
 |ok a r1=>
  rw[hq]at h;obtain⟨h1,h2⟩:=hp r hr a r1 hq;exact hf a h1 r1 h2 b r' h
 |bad r1 e=>rw[hq]at h;cases h
theorem Ok1.ok{α:Type}{a:α}{Q:α->Prop}(h:Q a):Ok1 T (λr=>PS.ok a r) Q:=λr hr b r' e=>by
 injection e with e1 e2
 subst e1 e2
 exact⟨h,hr⟩
theorem Ok1.ite{α:Type}{c:List Tk->Prop}[∀r,Decidable (c r)]{f g:List Tk->PS α}{Q:α->Prop}(hf:Ok1 T f Q)(hg:Ok1 T g Q):Ok1 T (λr=>if c r then f r else g r) Q:=λr hr a r' h=>by
 change (if c r then f r else g r)=_ at h
 split at h
 ·exact hf r hr a r' h
 ·exact hg r hr a r' h
theorem Ok1.tail{α:Type}{f:List Tk->PS α}{Q:α->Prop}(hf:Ok1 T f Q):Ok1 T (λr=>f r.tail) Q:=λr hr a r' h=>hf r.tail (λt ht=>hr t (List.mem_of_mem_tail ht)) a r' h
theorem Ok1.bad{α:Type}{Q:α->Prop}{g:List Tk->List Tk}{e:List Tk->Int}:Ok1 T (λr=>(PS.bad (g r) (e r):PS α)) Q:=λr hr a r' h=>by cases h
theorem Ok1.mono{α:Type}{f:List Tk->PS α}{Q R:α->Prop}(hf:Ok1 T f Q)(h:∀a,Q a->R a):Ok1 T f R:=λr hr a r' e=>⟨h a (hf r hr a r' e).1,(hf r hr a r' e).2⟩
theorem d2!(x:List UInt8):Ok1 T (mustP x) (λ_=>True):=λr hr a r' h=>by
 unfold mustP at h
 split at h
 ·injection h with _ h
  subst h;exact⟨trivial,λt ht=>hr t (List.mem_of_mem_tail ht)⟩
 ·cases h
theorem a06!(k:Int):Ok1 T (takeP k) (λt=>T t∧t.kind=k):=λr hr a r' h=>by
 cases r with
 |nil=>cases h
 |cons t r=>
  rw[takeP]at h
  by_cases hk:t.kind=k
  ·rw[if_pos hk]at h
   injection h with h1 h2;subst h1 h2;exact⟨⟨hr _ (List.mem_cons_self ..),hk⟩,λu hu=>hr u (List.mem_cons_of_mem _ hu)⟩
  ·rw[if_neg hk]at h
   cases h
theorem b24!{α:Type}{more:List Tk->Bool}{one:List Tk->PS α}{Q:α->Prop}(h1:Ok1 T one Q):∀(f:Nat) (acc:List α),(∀a∈acc,Q a)->Ok1 T (listP more one f acc) (λl=>∀a∈l,Q a)
 |0,acc,ha=>Ok1.ok ha
 |f+1,acc,ha=>λr hr l r' h=>by
  rw[listP]at h
  split at h
  ·cases hq:one r with
   |ok a r1=>
    rw[hq]at h;obtain⟨h2,h3⟩:=h1 r hr a r1 hq;exact b24! h1 f (acc++[a]) (λb hb=>by
     rcases List.mem_append.1 hb with hb|hb
     ·exact ha b hb
     ·rw[List.mem_singleton.1 hb];exact h2) r1 h3 l r' h
   |bad r1 e=>rw[hq]at h;cases h
  ·injection h with h2 h3
   subst h2 h3;exact⟨ha,hr⟩
theorem m0!{α:Type}{more:List Tk->Bool}{one:List Tk->PS α}{Q:α->Prop}(h1:Ok1 T one Q)(acc:List α)(ha:∀a∈acc,Q a):Ok1 T (λr=>listP more one r.length acc r) (λl=>∀a∈l,Q a):=
 λr hr l r' h=>b24! h1 r.length acc ha r hr l r' h
end
def EvE(P:List UInt8->Prop)(N:Int->Prop):Ex->Prop
 | .num n=>N n
 | .nam s=>P s
 | .idx s e=>P s∧EvE P N e
 | .neg e=>EvE P N e
 | .non e=>EvE P N e
 | .bin _ e f=>EvE P N e∧EvE P N f
def TkOk(P:List UInt8->Prop)(N:Int->Prop)(t:Tk):Prop:=(t.kind=1->P t.text)∧(t.kind=2->N t.n∧N (IntKind.i64.wrap (-t.n)))
section
variable {P:List UInt8->Prop} {N:Int->Prop}
def OkR(P:List UInt8->Prop)(N:Int->Prop)(f:List Tk->PR):Prop:=∀r,(∀t∈r,TkOk P N t)->∀e r',f r=.ok e r'->EvE P N e∧∀t∈r',TkOk P N t
theorem b25!{lvl:Nat}{next:List Tk->PR}(hn:OkR P N next):∀(f:Nat) (e:Ex),EvE P N e->OkR P N (loopJ lvl next f e)
 |0,e,he=>λr hr a r' h=>by
  rw[loopJ]at h;injection h with h1 h2;subst h1 h2;exact⟨he,hr⟩
 |f+1,e,he=>λr hr a r' h=>by
  rw[loopJ]at h
  cases ho:opAt lvl r with
  |none=>
   rw[ho]at h;injection h with h1 h2;subst h1 h2;exact⟨he,hr⟩
  |some op=>
   rw[ho]at h
   cases hq:next r.tail with
   |bad r2 er=>rw[hq]at h;cases h
   |ok e2 r2=>
    rw[hq]at h;obtain⟨h1,h2⟩:=hn r.tail (λt ht=>hr t (List.mem_of_mem_tail ht)) e2 r2 hq
    simp only at h
    split at h
    ·injection h with h3 h4
     subst h3 h4;exact⟨⟨he,h1⟩,h2⟩
    ·exact b25! hn f (.bin op e e2) ⟨he,h1⟩ r2 h2 a r' h
theorem n9!{plain:List Tk->PR}(hp:OkR P N plain):∀k,OkR P N (joinL plain k)
 |0=>hp
 |k+1=>λr hr a r' h=>by
  rw[joinL]at h
  cases hq:joinL plain k r with
  |bad r2 er=>rw[hq]at h;cases h
  |ok e r2=>
   rw[hq]at h;obtain⟨h1,h2⟩:=n9! hp k r hr e r2 hq;exact b25! (n9! hp k) _ e h1 r2 h2 a r' h
theorem b26!{x:List UInt8}{e:Ex}(he:EvE P N e):OkR P N (mustT x e):=λr hr a r' h=>by
 unfold mustT at h
 split at h
 ·injection h with h1 h2
  subst h1 h2;exact⟨he,λt ht=>hr t (List.mem_of_mem_tail ht)⟩
 ·cases h
theorem o0!:∀d,OkR P N (a0! d)
 |0=>λr hr a r' h=>by
  cases r with
  |nil=>cases h
  |cons t r=>
   rw[a0!]at h
   split at h<;>cases h
 |d+1=>λr hr a r' h=>by
  cases r with
  |nil=>cases h
  |cons t r=>
   have ht:=hr t (List.mem_cons_self ..);have hr':∀u∈r,TkOk P N u:=λu hu=>hr u (List.mem_cons_of_mem _ hu)
   rw[a0!]at h
   split at h
   ·cases h
   split at h
   ·rename_i hk
    injection h with h1 h2;subst h1 h2;exact⟨(ht.2 hk).1,hr'⟩
   split at h
   ·rename_i hk
    split at h
    ·cases hq:joinL (a0! d) 5 r.tail with
     |bad r2 er=>rw[hq]at h;cases h
     |ok e r2=>
      rw[hq]at h;obtain⟨h1,h2⟩:=n9! (o0! d) 5 r.tail (λu hu=>hr' u (List.mem_of_mem_tail hu)) e r2 hq;exact b26! (e:=.idx t.text e) ⟨ht.1 hk,h1⟩ r2 h2 a r' h
    ·injection h with h1 h2
     subst h1 h2;exact⟨ht.1 hk,hr'⟩
   split at h
   ·cases hq:joinL (a0! d) 5 r with
    |bad r2 er=>rw[hq]at h;cases h
    |ok e r2=>
     rw[hq]at h;obtain⟨h1,h2⟩:=n9! (o0! d) 5 r hr' e r2 hq;exact b26! h1 r2 h2 a r' h
   split at h
   ·cases hq:a0! d r with
    |bad r2 er=>rw[hq]at h;cases h
    |ok e r2=>
     rw[hq]at h;obtain⟨h1,h2⟩:=o0! d r hr' e r2 hq;injection h with h3 h4;subst h3 h4;exact⟨h1,h2⟩
   ·cases hq:a0! d r with
    |bad r2 er=>rw[hq]at h;cases h
    |ok e r2=>
     rw[hq]at h;obtain⟨h1,h2⟩:=o0! d r hr' e r2 hq;injection h with h3 h4;subst h3 h4;exact⟨h1,h2⟩
theorem k7!:Ok1 (TkOk P N) exprP (EvE P N):=λr hr a r' h=>by
 unfold exprP at h
 cases hq:joinL (a0! 16) 5 r with
 |bad r2 er=>rw[hq]at h;cases h
 |ok e r2=>
  rw[hq]at h;injection h with h1 h2;subst h1 h2;exact n9! (o0! 16) 5 r hr e r2 hq
theorem m1!:Ok1 (TkOk P N) nameP P:=Ok1.bind (a06! 1) λ_ ht=>Ok1.ok (ht.1.1 ht.2)
theorem d82!:Ok1 (TkOk P N) wordP (λ_=>True):=Ok1.bind (a06! 3) λ_ _=>Ok1.ok trivial
theorem b27!:Ok1 (TkOk P N) numP (λn=>N n∧N (IntKind.i64.wrap (-n))):=Ok1.bind (a06! 2) λ_ ht=>Ok1.ok (ht.1.2 ht.2)
theorem o1!:Ok1 (TkOk P N) numP N:=b27!.mono λ_ h=>h.1
theorem o2!:Ok1 (TkOk P N) b4! N:=Ok1.ite (Ok1.tail (f:=λr=>(numP r).bind λn r=>PS.ok (IntKind.i64.wrap (-n)) r) (Ok1.bind b27! λ_ hn=>Ok1.ok hn.2)) o1!
mutual
def EvS(P:List UInt8->Prop)(N:Int->Prop):St->Prop
 | .mk k nm E lo hi L El=>(P nm∨(nm=[]∧k≠0∧k≠1∧k≠3∧k≠5))∧(∀e∈E,EvE P N e)∧N lo∧N hi∧EvSs P N L∧EvSs P N El
def EvSs(P:List UInt8->Prop)(N:Int->Prop):List St->Prop
 |[]=>True
 |s::l=>EvS P N s∧EvSs P N l
end
theorem a07!:∀{l:List St},EvSs P N l↔∀s∈l,EvS P N s
 |[]=>by rw[EvSs];simp
 |s::l=>by rw[EvSs,a07!];simp
def EvV(P:List UInt8->Prop)(N:Int->Prop)(v:Va):Prop:=P v.nm∧N v.size∧N v.lo∧N v.hi
structure EvP (P:List UInt8->Prop) (N:Int->Prop) (p:Pg):Prop where
 nm:P p.nm
 silent:P p.silent
 seats:N p.seats
 stakes:∀n∈p.stakes,N n
 vars:∀v∈p.vars,EvV P N v
 params:∀v∈p.params,EvV P N v
 start:EvSs P N p.start
 turn:EvSs P N p.turn
 play:EvSs P N p.play
 quiet:EvSs P N p.quiet
 pays:EvSs P N p.pays
theorem d83!(h0:N 0):Ok1 (TkOk P N) h2! (EvS P N):=
 Ok1.bind m1! λnm hn=>Ok1.ite
  (Ok1.tail (f:=λr=>(exprP r).bind λe r=>(mustP [93] r).bind λ_ r=>(mustP [61] r).bind λ_ r=>(exprP r).bind λe2 r=>PS.ok (St.mk 1 nm [e,e2] 0 0 [] []) r)
   (Ok1.bind k7! λe he=>Ok1.bind (d2! _) λ_ _=>Ok1.bind (d2! _) λ_ _=>Ok1.bind k7! λe2 he2=>Ok1.ok ⟨.inl hn,by simp[he,he2],h0,h0,trivial,trivial⟩))
  (Ok1.bind (d2! _) λ_ _=>Ok1.bind k7! λe he=>Ok1.ok ⟨.inl hn,by simp[he],h0,h0,trivial,trivial⟩)
theorem b28!(h0:N 0):∀d,Ok1 (TkOk P N) (stmtD d) (EvS P N)
 |0=>Ok1.bad (g:=id) (e:=λ_=>25)
 |d+1=>by
  have ih:=(m0! (more:=a7!) (b28! h0 d) [] (by simp)).mono (λl h=>a07!.2 h);have hno:∀k:Int,(k=2∨k=4∨k=6∨k=7∨k=8∨k=9)->P []∨(([]:List UInt8)=[]∧k≠0∧k≠1∧k≠3∧k≠5):=λk hk=>.inr ⟨rfl,by omega,by omega,by omega,by omega⟩
  exact Ok1.ite (d83! h0) (Ok1.bind d82! λ_ _=>Ok1.ite
   (Ok1.bind k7! λe he=>Ok1.bind (d2! _) λ_ _=>Ok1.bind ih λl hl=>Ok1.bind (Ok1.ite (Ok1.tail (f:=λr=>listP a7! (stmtD d) r.length [] r) ih) (Ok1.ok (by rw[EvSs];trivial))) λel hel=>Ok1.bind (d2! _) λ_ _=>Ok1.ok ⟨hno 2 (by omega),by simp[he],h0,h0,hl,hel⟩)
   (Ok1.ite (Ok1.bind m1! λnm hn=>Ok1.bind o2! λlo hlo=>Ok1.bind o2! λhi hhi=>Ok1.bind (d2! _) λ_ _=>Ok1.bind ih λl hl=>Ok1.bind (d2! _) λ_ _=>Ok1.ok ⟨.inl hn,by simp,hlo,hhi,hl,trivial⟩)
   (Ok1.ite (Ok1.ok ⟨hno 4 (by omega),by simp,h0,h0,trivial,trivial⟩) (Ok1.ite (Ok1.bind m1! λnm hn=>Ok1.bind o1! λn hnn=>Ok1.ok ⟨.inl hn,by simp,hnn,h0,trivial,trivial⟩)
   (Ok1.ite (Ok1.bind k7! λe he=>Ok1.ok ⟨hno 6 (by omega),by simp[he],h0,h0,trivial,trivial⟩) (Ok1.ite (Ok1.ok ⟨hno 7 (by omega),by simp,h0,h0,trivial,trivial⟩)
   (Ok1.ite (Ok1.bind k7! λe he=>Ok1.bind k7! λe2 he2=>Ok1.ok ⟨hno 8 (by omega),by simp[he,he2],h0,h0,trivial,trivial⟩) (Ok1.bind k7! λe he=>Ok1.ok ⟨hno 9 (by omega),by simp[he],h0,h0,trivial,trivial⟩))))))))
theorem q9!(h0:N 0):Ok1 (TkOk P N) partP (EvSs P N):=Ok1.bind ((m0! (more:=a7!) (b28! h0 16) [] (by simp)).mono (λl h=>a07!.2 h)) λ_ hl=>Ok1.bind (d2! _) λ_ _=>Ok1.ok hl
theorem d84!(h0:N 0):Ok1 (TkOk P N) d8! (EvV P N):=Ok1.bind (d2! _) λ_ _=>Ok1.bind m1! λ_ hn=>
 Ok1.bind (Q:=N) (Ok1.ite (Ok1.tail (f:=λr=>(numP r).bind λn r=>(mustP [93] r).bind λ_ r=>PS.ok n r) (Ok1.bind o1! λ_ hn=>Ok1.bind (d2! _) λ_ _=>Ok1.ok hn)) (Ok1.ok h0)) λ_ hs=>
 Ok1.bind o2! λ_ hl=>Ok1.bind o2! λ_ hh=>Ok1.ok ⟨hn,hs,hl,hh⟩
theorem b29!(h0:N 0):Ok1 (TkOk P N) c8! (EvV P N):=Ok1.bind m1! λ_ hn=>Ok1.bind o2! λ_ hl=>Ok1.bind o2! λ_ hh=>Ok1.ok ⟨hn,h0,hl,hh⟩
theorem d85!(h0:N 0):Ok1 (TkOk P N) e8! (EvV P N):=Ok1.bind (d2! _) λ_ _=>b29! h0
theorem d86!(h0:N 0):Ok1 (TkOk P N) d9! (λl=>∀v∈l,EvV P N v):=Ok1.ite (Ok1.ok (by simp)) (Ok1.ite (Ok1.ok (by simp)) (Ok1.bind (b29! h0) λv hv=>m0! (d85! h0) [v] (by simp[hv])))
theorem d87!(h0:N 0):Ok1 (TkOk P N) progP (EvP P N):=Ok1.bind (d2! _) λ_ _=>Ok1.bind m1! λ_ hn=>Ok1.bind (d2! _) λ_ _=>Ok1.bind o1! λ_ hs=>Ok1.bind (d2! _) λ_ _=>Ok1.bind o1! λ_ hs0=>Ok1.bind (m0! o1! [] (by simp)) λ_ hss=>
 Ok1.bind (m0! (d84! h0) [] (by simp)) λ_ hv=>Ok1.bind (d2! _) λ_ _=>Ok1.bind (q9! h0) λ_ p1=>Ok1.bind (d2! _) λ_ _=>Ok1.bind (q9! h0) λ_ p2=>Ok1.bind (d2! _) λ_ _=>Ok1.bind (d86! h0) λ_ hp=>Ok1.bind (q9! h0) λ_ p3=>
 Ok1.bind (d2! _) λ_ _=>Ok1.bind m1! λ_ hsi=>Ok1.bind (q9! h0) λ_ p4=>Ok1.bind (d2! _) λ_ _=>Ok1.bind (q9! h0) λ_ p5=>
 Ok1.ok ⟨hn,hsi,hs,by simpa using ⟨hs0,hss⟩,hv,hp,p1,p2,p3,p4,p5⟩
end
def NameP(s:List UInt8):Prop:=s≠[]∧letB (s.headD 0)=true∧(∀c∈s,innB c=true)∧s.length<=30∧s∉d6!
theorem b30!{p:UInt8->Bool}(h:preN p l=l.length):∀c∈l,p c=true:=by
 intro c hc
 have hpre:=List.takeWhile_prefix p (l:=l)
 have:l.takeWhile p=l:=List.IsPrefix.eq_of_length hpre h
 rw[<-this]at hc
 exact z0! hc
theorem d88!(h:Good u)(hk:u.kind=1):NameP u.text:=by
 obtain⟨h0,h1⟩:=h
 unfold a3! at h1
 have hall:∀{p:UInt8->Bool} {l:List UInt8},l.take (preN p l)=l->∀c∈l,p c=true:=by
  intro p l e
  refine b30! ?_;have:=congrArg List.length e;rw[List.length_take]at this;have:=j1! p l
  omega
 split at h1
 ·rename_i hl
  split at h1
  ·unfold noPc at h1
   injection h1 with e1
   omega
  ·rename_i h30
   split at h1
   ·injection h1 with e1
    omega
   ·rename_i hw
    injection h1 with e1 e2;rw[e2]at hw;refine⟨h0,hl,hall e2,?_,hw⟩;have:=congrArg List.length e2;rw[List.length_take]at this;have:=j1! innB u.text
    omega
 ·split at h1
  ·split at h1
   ·unfold noPc at h1
    injection h1 with e1
    omega
   ·injection h1 with e1
    omega
  ·split at h1
   ·injection h1 with e1
    omega
   ·split at h1
    ·injection h1 with e1
     omega
    ·unfold noPc at h1
     injection h1 with e1
     omega
theorem b31!:∀(l:List UInt8) (a:Nat) (n:Int),0<a->(∀c∈l,digB c=true)->numF (a:Int) l=(n,0)->(a:Int)<=2147483647->0<=n∧n<=2147483647∧Lib.decDigits n.toNat=Lib.decDigits a++l
 |[],a,n,_,_,h,ha=>by
  rw[numF]at h;injection h with h _;subst h;exact⟨by omega,ha,by simp⟩
 |c::l,a,n,h0,hd,h,_=>by
  have hc:=l4!.1 (hd c (List.mem_cons_self ..));rw[numF]at h
  split at h
  ·injection h with _ h
   cases h
  ·rename_i hle
   have e:10*(a:Int)+((c.toNat:Int)-48)=((10*a+(c.toNat-48):Nat):Int):=by omega
   rw[e]at h;obtain⟨h1,h2,h3⟩:=b31! l (10*a+(c.toNat-48)) n (by omega) (λx hx=>hd x (List.mem_cons_of_mem _ hx)) h (by omega);refine⟨h1,h2,?_⟩;rw[h3];have hbig:¬10*a+(c.toNat-48)<10:=by omega
   rw[Lib.decDigits,dif_neg hbig];rw[show (10*a+(c.toNat-48))/10=a by omega,show (10*a+(c.toNat-48))%10=c.toNat-48 by omega];rw[show UInt8.ofNat (48+(c.toNat-48))=c by rw[show 48+(c.toNat-48)=c.toNat by omega];simp]
   simp
theorem b32!(h:Good u)(hk:u.kind=2):0<=u.n∧u.n<=2147483647∧Lib.itoa u.n=u.text:=by
 obtain⟨h0,h1⟩:=h
 unfold a3! at h1
 have key:∀l:List UInt8,(numS l).2=0->0<=(numS l).1∧(numS l).1<=2147483647∧Lib.itoa (numS l).1=l:=by
  intro l hl
  unfold numS at hl ⊢
  split
  ·rename_i hc
   rw[if_pos hc]at hl
   cases hl
  ·rename_i hc
   rw[if_neg hc]at hl;have hne:l≠[]:=λe=>hc (.inl e)
   have hall:∀c∈l,digB c=true:=b30! (Classical.not_not.1 (λe=>hc (.inr (.inl e))))
   cases l with
   |nil=>exact absurd rfl hne
   |cons c r=>
    have hcd:=l4!.1 (hall c (List.mem_cons_self ..));rw[numF]at hl ⊢;rw[if_neg (by omega)]at hl ⊢;have e:10*(0:Int)+((c.toNat:Int)-48)=((c.toNat-48:Nat):Int):=by omega
    rw[e]at hl ⊢;have hone:Lib.decDigits (c.toNat-48)=[c]:=by
     rw[Lib.decDigits,dif_pos (by omega)];rw[show UInt8.ofNat (48+(c.toNat-48))=c by rw[show 48+(c.toNat-48)=c.toNat by omega];simp]
    cases r with
    |nil=>
     rw[numF];refine⟨by simp,by simp only;omega,?_⟩;rw[Lib.itoa_nonneg,hone]
    |cons c2 r=>
     have h48:c.toNat≠48:=λe=>hc (.inr (.inr ⟨by simp,by
      rw[List.head?_cons]
      congr 1
      exact UInt8.toNat_inj.1 e⟩))
     have hh:numF ((c.toNat-48:Nat):Int) (c2::r)=((numF ((c.toNat-48:Nat):Int) (c2::r)).1,0):=by rw[<-hl]
     obtain⟨h1,h2,h3⟩:=b31! (c2::r) (c.toNat-48) _ (by omega) (λx hx=>hall x (List.mem_cons_of_mem _ hx)) hh (by omega);refine⟨h1,h2,?_⟩;obtain⟨k,hk⟩:=Int.eq_ofNat_of_zero_le h1;rw[hk]at h3 ⊢;rw[Lib.itoa_nonneg];rw[Int.toNat_natCast]at h3;rw[h3,hone]
     rfl
 split at h1
 ·split at h1
  ·unfold noPc at h1
   injection h1 with e1
   omega
  ·split at h1
   ·injection h1 with e1
    omega
   ·injection h1 with e1
    omega
 ·split at h1
  ·split at h1
   ·unfold noPc at h1
    injection h1 with e1
    omega
   ·rename_i hn
    injection h1 with e1 e2 e3;have:=key _ (Classical.not_not.1 hn);rw[e3,e2]at this;exact this
  ·split at h1
   ·injection h1 with e1
    omega
   ·split at h1
    ·injection h1 with e1
     omega
    ·unfold noPc at h1
     injection h1 with e1
     omega
def NumP(n:Int):Prop:= -2147483647<=n∧n<=2147483647
theorem b33!(h:lexS l=.ok ts):∀t∈ts,TkOk NameP NumP t:=by
 obtain⟨us,L,C,rfl,hg,_⟩:=v6! h
 intro t ht
 rcases List.mem_append.1 ht with ht|ht
 ·refine⟨λhk=>d88! (hg t ht) hk,λhk=>?_⟩
  obtain⟨h1,h2,_⟩:=b32! (hg t ht) hk;refine⟨⟨by omega,h2⟩,?_⟩;rw[IntWalk.i64_in _ (by omega)];exact⟨by omega,by omega⟩
 ·rw[List.mem_singleton.1 ht]
  exact⟨λh=>(by simp at h),λh=>(by simp at h)⟩
theorem a08!(h:progO l=.ok p):∃ts r,lexS l=.ok ts∧progP ts=.ok p r∧(r=[]∨∃t r',r=t::r'∧t.kind=0):=by
 unfold progO at h
 cases hl:lexS l with
 |err L C E=>rw[hl]at h;cases h
 |ok ts=>
  rw[hl]at h
  simp only at h
  cases hp:progP ts with
  |bad r e=>
   rw[hp]at h
   cases r<;>cases h
  |ok x r=>
   rw[hp]at h
   cases r with
   |nil=>
    injection h with h;subst h;exact⟨ts,[],rfl,hp,.inl rfl⟩
   |cons t r=>
    simp only[endP]at h
    split at h
    ·rename_i hk
     injection h with h;subst h;exact⟨ts,_,rfl,hp,.inr ⟨t,r,rfl,hk⟩⟩
    ·cases h
theorem v7!(h:progO l=.ok p):EvP NameP NumP p:=by
 obtain⟨ts,r,h1,h2,_⟩:=a08! h
 exact(d87! ⟨by decide,by decide⟩ ts (b33! h1) p r h2).1
theorem NumP.fit{n:Int}(h:NumP n):FitN n:=⟨by have:=h.1;omega,by have:=h.2;omega⟩
theorem NameP.len{s:List UInt8}(h:NameP s):s.length<=1000000:=Nat.le_trans h.2.2.2.1 (by decide)
theorem m2!:∀(e:Ex),EvE NameP NumP e->FitE e
 | .num _,h=>NumP.fit h
 | .nam _,h=>NameP.len h
 | .idx _ e,h=>⟨h.1.len,m2! e h.2⟩
 | .neg e,h=>m2! e h
 | .non e,h=>m2! e h
 | .bin _ e f,h=>⟨m2! e h.1,m2! f h.2⟩
mutual
theorem EvS.fit:∀{s:St},EvS NameP NumP s->FitS s
 | .mk _ nm _ _ _ _ _,h=>by
  rw[EvS]at h;rw[FitS];obtain⟨h1,h2,h3,h4,h5,h6⟩:=h;refine⟨?_,λe he=>m2! e (h2 e he),h3.fit,h4.fit,EvSs.fit h5,EvSs.fit h6⟩;rcases h1 with h1|⟨rfl,_⟩
  ·exact h1.len
  ·decide
theorem EvSs.fit:∀{l:List St},EvSs NameP NumP l->FitSs l
 |[],_=>by rw[FitSs];trivial
 |s::l,h=>by
  rw[EvSs]at h;rw[FitSs];exact⟨EvS.fit h.1,EvSs.fit h.2⟩
end
theorem EvV.fit{v:Va}(h:EvV NameP NumP v):FitV v:=⟨h.1.len,h.2.1.fit,h.2.2.1.fit,h.2.2.2.fit⟩
theorem EvP.fit(h:EvP NameP NumP p):FitP p:=
 ⟨h.nm.len,h.silent.len,h.seats.fit,λn hn=>(h.stakes n hn).fit,λv hv=>(h.vars v hv).fit,λv hv=>(h.params v hv).fit,EvSs.fit h.start,EvSs.fit h.turn,EvSs.fit h.play,EvSs.fit h.quiet,EvSs.fit h.pays⟩
end Go.Proofs.YtdgekckedchjbaaGreatDoor
