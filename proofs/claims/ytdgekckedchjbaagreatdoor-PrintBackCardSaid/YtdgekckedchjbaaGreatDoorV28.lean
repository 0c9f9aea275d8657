
/-
 How long a g8! program's text is, by the bytes of its tokens. No program is named here.
-/
import Derived.Test.YtdgekckedchjbaaGreatDoorQO
import Derived.Test.YtdgekckedchjbaaGreatDoorQQ
namespace Go.Proofs.YtdgekckedchjbaaGreatDoor
variable {t x:List UInt8} {op:Int} {r:List Tk} {deep v w:Nat} {l:List St}
def TkW(t:Tk):Prop:=(t.kind=2->0<=t.n∧t.n<=2147483647∧Lib.itoa t.n=t.text)∧(t.kind≠0->t.text≠[])
def OkC{α:Type}(f:List Tk->PS α)(Q:α->Nat->Prop):Prop:=
 ∀r,(∀t∈r,TkW t)->∀a r',f r=.ok a r'->(∀t∈r',TkW t)∧∃w,e2! r=w+e2! r'∧Q a w
theorem textsLen_cons(t:Tk)(r:List Tk):e2! (t::r)=t.text.length+e2! r:=by simp[e2!]
section
variable {α β:Type}
theorem OkC.bind{p:List Tk->PS α}{f:α->List Tk->PS β}{Q:α->Nat->Prop}{R:β->Nat->Prop}(hp:OkC p Q)(hf:∀a w,Q a w->OkC (f a) (λb v=>R b (w+v))):OkC (λr=>(p r).bind (f · ·)) R:=λr hr b r' h=>by
 change (p r).bind f=_ at h
 cases hq:p r with
 |ok a r1=>
  rw[hq]at h;obtain⟨h1,w,hw,h2⟩:=hp r hr a r1 hq;obtain⟨h3,v,hv,h4⟩:=hf a w h2 r1 h1 b r' h;exact⟨h3,w+v,by omega,h4⟩
 |bad r1 e=>rw[hq]at h;cases h
theorem OkC.ok{a:α}{Q:α->Nat->Prop}(h:Q a 0):OkC (λr=>PS.ok a r) Q:=λr hr b r' e=>by
 injection e with e1 e2
 subst e1 e2
 exact⟨hr,0,by omega,h⟩
theorem OkC.ite{c:List Tk->Prop}[∀r,Decidable (c r)]{f g:List Tk->PS α}{Q:α->Nat->Prop}(hf:OkC f Q)(hg:OkC g Q):OkC (λr=>if c r then f r else g r) Q:=λr hr a r' h=>by
 change (if c r then f r else g r)=_ at h
 split at h
 ·exact hf r hr a r' h
 ·exact hg r hr a r' h
theorem OkC.mono{f:List Tk->PS α}{Q R:α->Nat->Prop}(hf:OkC f Q)(h:∀a w,Q a w->R a w):OkC f R:=λr hr a r' e=>by
 obtain⟨h1,w,h2,h3⟩:=hf r hr a r' e
 exact⟨h1,w,h2,h a w h3⟩
theorem OkC.bad{Q:α->Nat->Prop}{g:List Tk->List Tk}{e:List Tk->Int}:OkC (λr=>(PS.bad (g r) (e r):PS α)) Q:=λr hr a r' h=>by cases h
theorem OkC.tail{f g:List Tk->PS α}{Q:α->Nat->Prop}(hf:OkC f (λa v=>Q a (x.length+v)))(hg:OkC g Q):OkC (λr=>if hasT x r then f r.tail else g r) Q:=λr hr a r' h=>by
 change (if hasT x r then f r.tail else g r)=_ at h
 split at h
 ·rename_i hx
  cases r with
  |nil=>cases hx
  |cons t r=>
   have ht:t.text=x:=by
    simp[hasT]at hx
    exact hx.2
   obtain⟨h1,w,h2,h3⟩:=hf r (λu hu=>hr u (List.mem_cons_of_mem _ hu)) a r' h;exact⟨h1,x.length+w,by rw[textsLen_cons,ht,h2];omega,h3⟩
 ·exact hg r hr a r' h
end
theorem e54!(x:List UInt8):OkC (mustP x) (λ_ w=>w=x.length):=
 OkC.tail (f:=λr=>PS.ok () r) (g:=λr=>PS.bad r (d7! r)) (OkC.ok (by simp)) (OkC.bad (g:=id) (e:=d7!))
theorem a27!{k:Int}(hk:k≠0):OkC (takeP k) (λt w=>TkW t∧t.kind=k∧w=t.text.length∧1<=w):=λr hr a r' h=>by
 cases r with
 |nil=>cases h
 |cons t r=>
  rw[takeP]at h
  by_cases e:t.kind=k
  ·rw[if_pos e]at h
   injection h with h1 h2;subst h1 h2;have ht:=hr t (List.mem_cons_self ..);exact⟨λu hu=>hr u (List.mem_cons_of_mem _ hu),t.text.length,textsLen_cons _ _,ht,e,rfl,List.length_pos_iff.2 (ht.2 (by omega))⟩
  ·rw[if_neg e]at h
   cases h
theorem m7!:OkC nameP (λs w=>w=s.length∧1<=w):=OkC.bind (a27! (by decide)) λt w h=>OkC.ok ⟨by simpa using h.2.2.1,by have:=h.2.2.2;omega⟩
theorem e55!:OkC wordP (λs w=>w=s.length∧1<=w):=OkC.bind (a27! (by decide)) λt w h=>OkC.ok ⟨by simpa using h.2.2.1,by have:=h.2.2.2;omega⟩
def lenN(n:Int):Nat:=(Lib.itoa n).length
theorem b59!:OkC numP (λn w=>lenN n=w∧1<=w∧0<=n∧n<=2147483647):=OkC.bind (a27! (by decide)) λt w h=>by
 obtain⟨h1,h2,h3⟩:=h.1.1 h.2.1
 exact OkC.ok ⟨by rw[lenN,h3];simpa using h.2.2.1.symm,by have:=h.2.2.2;omega,h1,h2⟩
theorem o6!:OkC numP (λn w=>lenN n<=w∧1<=w):=b59!.mono λ_ _ h=>⟨by omega,h.2.1⟩
theorem e56!{n:Int}(h0:0<=n)(h1:n<=2147483647):lenN (IntKind.i64.wrap (-n))<=lenN n+1:=by
 have e:IntKind.i64.wrap (-n)= -n:=IntWalk.i64_in (-n) (by omega)
 rw[e]
 obtain⟨k,rfl⟩:=Int.eq_ofNat_of_zero_le h0
 unfold lenN
 cases k with
 |zero=>
  show (Lib.itoa 0).length<=(Lib.itoa 0).length+1
  omega
 |succ k=>
  rw[Lib.itoa_neg _ (by omega),Lib.itoa_nonneg]
  simp
theorem o7!:OkC b4! (λn w=>lenN n<=w∧1<=w):=by
 refine OkC.tail (x:=[45]) (f:=λr=>(numP r).bind λn r=>PS.ok (IntKind.i64.wrap (-n)) r) (g:=numP) (OkC.bind b59! λn w h=>OkC.ok ?_) o6!
 have:=e56! h.2.2.1 h.2.2.2
 simp
 omega
def lenE:Ex->Nat
 | .num n=>lenN n
 | .nam s=>s.length
 | .idx s e=>s.length+lenE e+5
 | .neg e=>lenE e+6
 | .non e=>lenE e+8
 | .bin op e f=>lenE e+lenE f+10+(markN op).length
theorem x0!{t:Int}{o:Option (List UInt8)}{s:List UInt8}{m:Nat}(h:∀s,o=some s->s.length<=m)(e:operO op t o=some s):s.length<=m+4:=by
 unfold operO at e
 split at e
 ·cases o with
  |none=>cases e
  |some s'=>
   injection e with e;subst e;have:=h _ rfl
   simp
   omega
 ·have:=h _ e
  omega
theorem g3!:∀(e:Ex) (t:List UInt8),rawE e.gx=some t->t.length<=lenE e
 | .num n,t,h=>by
  simp[Ex.gx,rawE,partsN]at h
  subst h;exact Nat.le_refl _
 | .nam s,t,h=>by
  simp[Ex.gx,rawE,partsN]at h
  subst h;exact Nat.le_refl _
 | .idx s e,t,h=>by
  simp[Ex.gx,rawE,partsN]at h
  obtain⟨u,hu,rfl⟩:=h;have:=g3! e u hu;rw[str_list]
  simp[lenE]
  omega
 | .neg e,t,h=>by
  simp[Ex.gx,rawE,partsN]at h
  obtain⟨u,hu,rfl⟩:=h;have:=x0! (λs hs=>g3! e s hs) hu
  simp[lenE,markN]
  omega
 | .non e,t,h=>by
  simp[Ex.gx,rawE,partsN]at h
  obtain⟨u,hu,rfl⟩:=h;have:=x0! (λs hs=>g3! e s hs) hu
  simp[lenE,markN]
  omega
 | .bin op a b,t,h=>by
  rw[Ex.gx,rawE]at h
  split at h
  ·obtain⟨u,v,hu,hv,rfl⟩:=e4! h
   obtain⟨m,v2,hm,hv2,rfl⟩:=e4! hv;injection hm with hm;subst hm;have h1:=x0! (λs hs=>g3! a s hs) hu;have h2:=x0! (λs hs=>g3! b s hs) hv2
   simp[lenE]
   omega
  ·cases h
def OkX(f:List Tk->PR):Prop:=∀r,(∀t∈r,TkW t)->∀e r',f r=.ok e r'->(∀t∈r',TkW t)∧∃w,e2! r=w+e2! r'∧lenE e+4<=7*w
theorem e57!{lvl:Nat}{t:Tk}(h:opAt lvl (t::r)=some op):t.text.length=(markN op).length∧1<=t.text.length:=by
 have key:∀(l:List (List UInt8×Int)) (x:List UInt8),l.all (λp=>decide (p.1.length=(markN p.2).length∧1<=p.1.length))=true->l.lookup x=some op->x.length=(markN op).length∧1<=x.length:=by
  intro l x ha hl
  induction l with
  |nil=>cases hl
  |cons p l ih=>
   rw[List.all_cons,Bool.and_eq_true]at ha;obtain⟨a,b⟩:=p;rw[List.lookup_cons]at hl
   split at hl
   ·rename_i hx
    injection hl with hl;subst hl;have:x=a:=by simpa using hx
    subst this
    simpa using ha.1
   ·exact ih ha.2 hl
 refine key (lvlT lvl) t.text ?_ h
 match lvl with
 |0=>decide
 |1=>decide
 |2=>decide
 |3=>decide
 |4=>decide
 |n+5=>rfl
theorem b60!{lvl:Nat}{next:List Tk->PR}(hn:OkX next):∀(f:Nat) (e:Ex) (r:List Tk),(∀t∈r,TkW t)->∀w0,lenE e+4<=7*w0->∀a r',loopJ lvl next f e r=.ok a r'->(∀t∈r',TkW t)∧∃w,w0+e2! r=w+e2! r'∧lenE a+4<=7*w
 |0,e,r,hr,w0,h0,a,r',h=>by
  rw[loopJ]at h;injection h with h1 h2;subst h1 h2;exact⟨hr,w0,rfl,h0⟩
 |f+1,e,r,hr,w0,h0,a,r',h=>by
  rw[loopJ]at h
  cases ho:opAt lvl r with
  |none=>
   rw[ho]at h;injection h with h1 h2;subst h1 h2;exact⟨hr,w0,rfl,h0⟩
  |some op=>
   cases r with
   |nil=>cases ho
   |cons t r=>
    obtain⟨hl,hl1⟩:=e57! ho;rw[ho]at h;rw[List.tail_cons]at h
    cases hq:next r with
    |bad r2 er=>rw[hq]at h;cases h
    |ok e2 r2=>
     rw[hq]at h;obtain⟨h1,w,hw,h2⟩:=hn r (λu hu=>hr u (List.mem_cons_of_mem _ hu)) e2 r2 hq;have hb:lenE (.bin op e e2)+4<=7*(w0+t.text.length+w):=by
      rw[lenE]
      omega
     simp only at h
     split at h
     ·injection h with h3 h4
      subst h3 h4;exact⟨h1,w0+t.text.length+w,by rw[textsLen_cons];omega,hb⟩
     ·obtain⟨h3,v,hv,h4⟩:=b60! hn f (.bin op e e2) r2 h1 _ hb a r' h
      exact⟨h3,v,by rw[textsLen_cons];omega,h4⟩
theorem r7!{plain:List Tk->PR}(hp:OkX plain):∀k,OkX (joinL plain k)
 |0=>hp
 |k+1=>λr hr a r' h=>by
  rw[joinL]at h
  cases hq:joinL plain k r with
  |bad r2 er=>rw[hq]at h;cases h
  |ok e r2=>
   rw[hq]at h;obtain⟨h1,w,hw,h2⟩:=r7! hp k r hr e r2 hq;obtain⟨h3,v,hv,h4⟩:=b60! (r7! hp k) _ e r2 h1 w h2 a r' h;exact⟨h3,v,by omega,h4⟩
theorem b61!{e:Ex}(hr:∀t∈r,TkW t){a:Ex}{r':List Tk}(h:mustT x e r=.ok a r'):a=e∧(∀t∈r',TkW t)∧e2! r=x.length+e2! r':=by
 unfold mustT at h
 split at h
 ·rename_i hx
  injection h with h1 h2;subst h1 h2
  cases r with
  |nil=>cases hx
  |cons t r=>
   have ht:t.text=x:=by
    simp[hasT]at hx
    exact hx.2
   exact⟨rfl,λu hu=>hr u (List.mem_cons_of_mem _ hu),by rw[textsLen_cons,ht];rfl⟩
 ·cases h
theorem r8!:∀d,OkX (a0! d)
 |0=>λr hr a r' h=>by
  cases r with
  |nil=>cases h
  |cons t r=>
   rw[a0!]at h
   split at h<;>cases h
 |d+1=>λr hr a r' h=>by
  cases r with
  |nil=>cases h
  |cons t r=>
   have ht:=hr t (List.mem_cons_self ..);have hr':∀u∈r,TkW u:=λu hu=>hr u (List.mem_cons_of_mem _ hu)
   rw[a0!]at h
   split at h
   ·cases h
   rename_i hop
   split at h
   ·rename_i hk
    injection h with h1 h2;subst h1 h2;have h3:=(ht.1 hk).2.2;have h4:=List.length_pos_iff.2 (ht.2 (by omega));refine⟨hr',t.text.length,textsLen_cons _ _,?_⟩;rw[lenE,lenN,h3]
    omega
   rename_i hk2
   split at h
   ·rename_i hk
    have h4:=List.length_pos_iff.2 (ht.2 (by omega))
    split at h
    ·rename_i hx
     cases r with
     |nil=>cases hx
     |cons u r=>
      have hu:u.text=[91]:=by
       simp[hasT]at hx
       exact hx.2
      rw[List.tail_cons]at h
      cases hq:joinL (a0! d) 5 r with
      |bad r2 er=>rw[hq]at h;cases h
      |ok e r2=>
       rw[hq]at h;obtain⟨h1,w,hw,h2⟩:=r7! (r8! d) 5 r (λv hv=>hr' v (List.mem_cons_of_mem _ hv)) e r2 hq;obtain⟨rfl,h5,h6⟩:=b61! h1 h;refine⟨h5,t.text.length+1+w+1,?_,?_⟩
       ·rw[textsLen_cons,textsLen_cons,hu,hw,h6]
        simp
        omega
       ·rw[lenE]
        omega
    ·injection h with h1 h2
     subst h1 h2;refine⟨hr',t.text.length,textsLen_cons _ _,?_⟩;rw[lenE]
     omega
   rename_i hk1
   split at h
   ·rename_i hx
    cases hq:joinL (a0! d) 5 r with
    |bad r2 er=>rw[hq]at h;cases h
    |ok e r2=>
     rw[hq]at h;obtain⟨h1,w,hw,h2⟩:=r7! (r8! d) 5 r hr' e r2 hq;obtain⟨rfl,h5,h6⟩:=b61! h1 h;refine⟨h5,1+w+1,?_,by omega⟩;rw[textsLen_cons,hx,hw,h6]
     simp
     omega
   rename_i hx0
   split at h
   ·rename_i hx
    cases hq:a0! d r with
    |bad r2 er=>rw[hq]at h;cases h
    |ok e r2=>
     rw[hq]at h;injection h with h3 h4;subst h3 h4;obtain⟨h1,w,hw,h2⟩:=r8! d r hr' e r2 hq;refine⟨h1,1+w,?_,?_⟩
     ·rw[textsLen_cons,hx,hw]
      simp
      omega
     ·rw[lenE]
      omega
   rename_i hx1
   ·cases hq:a0! d r with
    |bad r2 er=>rw[hq]at h;cases h
    |ok e r2=>
     rw[hq]at h;injection h with h3 h4;subst h3 h4;obtain⟨h1,w,hw,h2⟩:=r8! d r hr' e r2 hq;have hx:t.text=[110,111,116]:=by
      simp[openT,hasT,hk1,hk2,hx0,hx1]at hop
      exact hop.2
     refine⟨h1,3+w,?_,?_⟩
     ·rw[textsLen_cons,hx,hw]
      simp
      omega
     ·rw[lenE]
      omega
theorem l1!:OkC exprP (λe w=>lenE e+4<=7*w):=λr hr a r' h=>by
 unfold exprP at h
 cases hq:joinL (a0! 16) 5 r with
 |bad r2 er=>rw[hq]at h;cases h
 |ok e r2=>
  rw[hq]at h;injection h with h1 h2;subst h1 h2;exact r7! (r8! 16) 5 r hr e r2 hq
theorem b62!{α:Type}{more:List Tk->Bool}{one:List Tk->PS α}{Q:α->Nat->Prop}{R:List α->Nat->Prop}(h1:OkC one Q)(hs:∀l v a w,R l v->Q a w->R (l++[a]) (v+w)):∀(f:Nat) (acc:List α) (v:Nat),R acc v->OkC (listP more one f acc) (λl w=>R l (v+w))
 |0,acc,v,ha=>OkC.ok (by simpa using ha)
 |f+1,acc,v,ha=>λr hr l r' h=>by
  rw[listP]at h
  split at h
  ·cases hq:one r with
   |ok a r1=>
    rw[hq]at h;obtain⟨h2,w,hw,h3⟩:=h1 r hr a r1 hq;obtain⟨h4,u,hu,h5⟩:=b62! h1 hs f (acc++[a]) (v+w) (hs acc v a w ha h3) r1 h2 l r' h;exact⟨h4,w+u,by omega,by show R l (v+(w+u));rw[<-Nat.add_assoc];exact h5⟩
   |bad r1 e=>rw[hq]at h;cases h
  ·injection h with h2 h3
   subst h2 h3;exact⟨hr,0,by omega,ha⟩
theorem r9!{α:Type}{more:List Tk->Bool}{one:List Tk->PS α}{Q:α->Nat->Prop}{R:List α->Nat->Prop}(h1:OkC one Q)(hs:∀l v a w,R l v->Q a w->R (l++[a]) (v+w))(acc:List α)(v:Nat)(ha:R acc v):OkC (λr=>listP more one r.length acc r) (λl w=>R l (v+w)):=
 λr hr l r' h=>b62! h1 hs r.length acc v ha r hr l r' h
theorem OkC.if_{α:Type}{c:Prop}[Decidable c]{f g:List Tk->PS α}{Q:α->Nat->Prop}(hf:c->OkC f Q)(hg:¬c->OkC g Q):OkC (λr=>if c then f r else g r) Q:=λr hr a r' h=>by
 change (if c then f r else g r)=_ at h
 split at h
 ·rename_i hc
  exact hf hc r hr a r' h
 ·rename_i hc
  exact hg hc r hr a r' h
theorem d4!(x:List UInt8)(n:Nat)(hn:x.length=n):OkC (mustP x) (λ_ w=>w=n):=(e54! x).mono λ_ _ h=>h.trans hn
theorem a28!{α:Type}(n:Nat)(hn:x.length=n){f g:List Tk->PS α}{Q:α->Nat->Prop}(hf:OkC f (λa v=>Q a (n+v)))(hg:OkC g Q):OkC (λr=>if hasT x r then f r.tail else g r) Q:=by
 subst hn
 exact OkC.tail hf hg
theorem d5!(deep:Nat)(ps:List (List UInt8)):(lineB deep ps).length<=2*deep+(ps.map λx=>x.length+1).sum+1:=by
 have h1:=b07! ps
 unfold lineB blanks
 rw[List.length_append,List.length_append,Lib.repeatL_length]
 simp only[List.length_cons,List.length_nil]
 omega
theorem e58!(t:List UInt8):(payB t).length<=t.length+4:=by
 unfold payB
 split
 ·simp
 ·omega
def SzS(deep:Nat)(s:St)(w:Nat):Prop:=∀t,rawS deep s.sx=some t->t.length<=21*w
def SzB(deep:Nat)(l:List St)(w:Nat):Prop:=∀t,rawB deep (sxs l)=some t->t.length<=21*w
def SzE(deep:Nat)(l:List St)(w:Nat):Prop:=∀t,(if (sxs l).length=0 then some []else ocat (some (lineB deep [[101,108,115,101]])) (rawB (deep+1) (sxs l)))=some t->t.length<=21*w
theorem SzB.nil(deep:Nat):SzB deep [] 0:=λt h=>by
 rw[sxs,rawB]at h
 injection h with h
 subst h
 simp
theorem e59!(a b:List St):sxs (a++b)=sxs a++sxs b:=by rw[sxs_map,sxs_map,sxs_map,List.map_append]
theorem SzB.snoc{a:St}(h1:SzB deep l v)(h2:SzS deep a w):SzB deep (l++[a]) (v+w):=λt h=>by
 rw[e59!,z8!,sxs,sxs,b12!]at h
 obtain⟨x,y,hx,hy,rfl⟩:=e4! h
 have e1:=h1 x hx
 have e2:=h2 y hy
 rw[List.length_append]
 omega
theorem SzE.nil(deep:Nat):SzE deep [] 0:=λt h=>by
 simp[sxs]at h
 subst h
 simp
theorem SzE.some(hd:deep<=16)(h1:SzB (deep+1) l w):SzE deep l (4+w):=λt h=>by
 split at h
 ·injection h with h
  subst h
  simp
 ·obtain⟨x,y,hx,hy,rfl⟩:=e4! h
  injection hx with hx;subst hx;have e1:=d5! deep [[101,108,115,101]];have e2:=h1 y hy;rw[List.length_append]
  simp at e1
  omega
section
variable {deep:Nat} (hd:deep<=16) {nm:List UInt8} {e f:Ex} {we wf wl wel w:Nat} {lo hi:Int} {l el:List St}
include hd
theorem sz0(hn:1<=nm.length)(he:lenE e+4<=7*we)(hw:nm.length+(1+we)<=w):SzS deep (.mk 0 nm [e] 0 0 [] []) w:=λt h=>by
 cases ha:rawE e.gx with
 |none=>simp[St.sx,rawS,partsS,rawEs,ha]at h
 |some a=>
  have h1:=g3! e a ha
  simp[St.sx,rawS,partsS,rawEs,ha]at h
  subst h;have h2:=d5! deep [nm,[61],a]
  simp at h2
  omega
theorem sz1(hn:1<=nm.length)(he:lenE e+4<=7*we)(hf:lenE f+4<=7*wf)(hw:nm.length+(1+(we+(1+(1+wf))))<=w):SzS deep (.mk 1 nm [e,f] 0 0 [] []) w:=λt h=>by
 cases ha:rawE e.gx with
 |none=>simp[St.sx,rawS,partsS,rawEs,ha]at h
 |some a=>
  cases hb:rawE f.gx with
  |none=>simp[St.sx,rawS,partsS,rawEs,ha,hb]at h
  |some b=>
   have h1:=g3! e a ha;have h3:=g3! f b hb
   simp[St.sx,rawS,partsS,rawEs,ha,hb]at h
   subst h;have h2:=d5! deep [nm,[91],a,[93,32,61],b]
   simp at h2
   omega
theorem sz2(he:lenE e+4<=7*we)(hl:SzB (deep+1) l wl)(hel:SzE deep el wel)(hw:2+(we+(4+(wl+(wel+3))))<=w):SzS deep (.mk 2 [] [e] 0 0 l el) w:=λt h=>by
 cases ha:rawE e.gx with
 |none=>simp[St.sx,rawS,partsS,rawEs,ha]at h
 |some a=>
  have h1:=g3! e a ha;rw[St.sx,rawS]at h
  split at h
  ·have hE:rawEs ([e].map Ex.gx)=some [a]:=by simp[rawEs,ha]
   rw[hE]at h
   simp only at h
   rw[if_neg (by decide),if_neg (by decide),if_pos trivial]at h;obtain⟨x,r1,hx,k1,rfl⟩:=e4! h;obtain⟨y,r2,hy,k2,rfl⟩:=e4! k1;obtain⟨z,q,hz,k3,rfl⟩:=e4! k2;injection hx with hx;injection k3 with k3;subst hx k3;have e1:=d5! deep [[105,102],[a].getD 0 [],[116,104,101,110]];have e2:=d5! deep [[101,110,100]];have e3:=hl y hy;have e4:=hel z hz
   simp at e1 e2
   simp only[List.length_append]
   simp
   omega
  ·cases h
theorem sz3(hn:1<=nm.length)(hlo:lenN lo<=we)(hhi:lenN hi<=wf)(hl:SzB (deep+1) l wl)(hw:3+(nm.length+(we+(wf+(2+(wl+3)))))<=w):SzS deep (.mk 3 nm [] lo hi l []) w:=λt h=>by
 rw[St.sx,rawS]at h
 split at h
 ·have hE:rawEs (([]:List Ex).map Ex.gx)=some []:=by simp[rawEs]
  rw[hE]at h
  simp only at h
  rw[if_neg (by decide),if_neg (by decide),if_neg (by decide),if_pos trivial]at h;obtain⟨x,r1,hx,k1,rfl⟩:=e4! h;obtain⟨y,r2,hy,k2,rfl⟩:=e4! k1;injection hx with hx;injection k2 with k2;subst hx k2;have e1:=d5! deep [[102,111,114],nm,Lib.itoa lo,Lib.itoa hi,[100,111]];have e2:=d5! deep [[101,110,100]];have e3:=hl y hy;unfold lenN at hlo hhi
  simp at e1 e2
  simp only[List.length_append]
  omega
 ·cases h
theorem sz4(hw:6<=w):SzS deep (.mk 4 [] [] 0 0 [] []) w:=λt h=>by
 simp[St.sx,rawS,partsS,rawEs]at h
 subst h
 have h2:=d5! deep [[114,101,102,117,115,101]]
 simp at h2
 omega
theorem sz5(hn:1<=nm.length)(hlo:lenN lo<=we)(hw:4+(nm.length+we)<=w):SzS deep (.mk 5 nm [] lo 0 [] []) w:=λt h=>by
 simp[St.sx,rawS,partsS,rawEs]at h
 subst h
 have h2:=d5! deep [[114,111,108,108],nm,Lib.itoa lo]
 unfold lenN at hlo
 simp at h2
 omega
theorem sz6(he:lenE e+4<=7*we)(hw:4+we<=w):SzS deep (.mk 6 [] [e] 0 0 [] []) w:=λt h=>by
 cases ha:rawE e.gx with
 |none=>simp[St.sx,rawS,partsS,rawEs,ha]at h
 |some a=>
  have h1:=g3! e a ha
  simp[St.sx,rawS,partsS,rawEs,ha]at h
  subst h;have h2:=d5! deep [[115,101,97,116],a]
  simp at h2
  omega
theorem sz7(hw:4<=w):SzS deep (.mk 7 [] [] 0 0 [] []) w:=λt h=>by
 simp[St.sx,rawS,partsS,rawEs]at h
 subst h
 have h2:=d5! deep [[111,118,101,114]]
 simp at h2
 omega
theorem sz8(he:lenE e+4<=7*we)(hf:lenE f+4<=7*wf)(hw:3+(we+wf)<=w):SzS deep (.mk 8 [] [e,f] 0 0 [] []) w:=λt h=>by
 cases ha:rawE e.gx with
 |none=>simp[St.sx,rawS,partsS,rawEs,ha]at h
 |some a=>
  cases hb:rawE f.gx with
  |none=>simp[St.sx,rawS,partsS,rawEs,ha,hb]at h
  |some b=>
   have h1:=g3! e a ha;have h3:=g3! f b hb
   simp[St.sx,rawS,partsS,rawEs,ha,hb]at h
   subst h;have h2:=d5! deep [[112,97,121],a,payB b];have h4:=e58! b
   simp at h2
   omega
theorem sz9(he:lenE e+4<=7*we)(hw:1+we<=w):SzS deep (.mk 9 [] [e] 0 0 [] []) w:=λt h=>by
 cases ha:rawE e.gx with
 |none=>simp[St.sx,rawS,partsS,rawEs,ha]at h
 |some a=>
  have h1:=g3! e a ha
  simp[St.sx,rawS,partsS,rawEs,ha]at h
  subst h;have h2:=d5! deep [[114,101,115,116],a]
  simp at h2
  omega
end
theorem e60!(hd:deep<=16):OkC h2! (SzS deep):=
 OkC.bind m7! λnm w hn=>a28! 1 rfl
  (f:=λr=>(exprP r).bind λe r=>(mustP [93] r).bind λ_ r=>(mustP [61] r).bind λ_ r=>(exprP r).bind λe2 r=>PS.ok (St.mk 1 nm [e,e2] 0 0 [] []) r)
  (OkC.bind l1! λe we he=>OkC.bind (d4! _ 1 rfl) λ_ w1 h1=>OkC.bind (d4! _ 1 rfl) λ_ w2 h2=>OkC.bind l1! λe2 wf hf=>OkC.ok (sz1 hd (by omega) he hf (by omega)))
  (OkC.bind (d4! _ 1 rfl) λ_ w1 h1=>OkC.bind l1! λe we he=>OkC.ok (sz0 hd (by omega) he (by omega)))
theorem lenx{y:List UInt8}{n:Nat}{P:Prop}(hx:w=x.length∧1<=w)(hc:x=y)(hn:y.length=n)(k:w=n->P):P:=k (by rw[hx.1,hc,hn])
theorem b63!:∀(d deep:Nat),deep+d<=17->OkC (stmtD d) (SzS deep)
 |0,_,_=>OkC.bad (g:=id) (e:=λ_=>25)
 |d+1,deep,h=>by
  have hd:deep<=16:=by omega
  have ih:=(r9! (more:=a7!) (b63! d (deep+1) (by omega)) (R:=SzB (deep+1)) (λl v a w h1 h2=>h1.snoc h2) [] 0 (SzB.nil _)).mono (λl w h=>by rw[Nat.zero_add]at h;exact h);exact OkC.ite (e60! hd) (OkC.bind e55! λx w hx=>OkC.if_
   (λhc=>OkC.bind l1! λe we he=>OkC.bind (d4! _ 4 rfl) λ_ w1 h1=>OkC.bind ih λl wl hl=>OkC.bind (a28! 4 rfl (f:=λr=>listP a7! (stmtD d) r.length [] r) (Q:=SzE deep) (ih.mono λel w h=>SzE.some hd h) (OkC.ok (SzE.nil deep))) λel wel hel=>OkC.bind (d4! _ 3 rfl) λ_ w2 h2=>OkC.ok (sz2 hd he hl hel (lenx hx hc rfl (by intro hxx;simp only[List.length_cons,List.length_nil]at hxx;omega))))
   λ_=>OkC.if_ (λhc=>OkC.bind m7! λnm wn hn=>OkC.bind o7! λlo we hlo=>OkC.bind o7! λhi wf hhi=>OkC.bind (d4! _ 2 rfl) λ_ w1 h1=>OkC.bind ih λl wl hl=>OkC.bind (d4! _ 3 rfl) λ_ w2 h2=>OkC.ok (sz3 hd (by omega) hlo.1 hhi.1 hl (lenx hx hc rfl (by intro hxx;simp only[List.length_cons,List.length_nil]at hxx;omega))))
   λ_=>OkC.if_ (λhc=>OkC.ok (sz4 hd (lenx hx hc rfl (by intro hxx;simp only[List.length_cons,List.length_nil]at hxx;omega))))
   λ_=>OkC.if_ (λhc=>OkC.bind m7! λnm wn hn=>OkC.bind o6! λn we hlo=>OkC.ok (sz5 hd (by omega) hlo.1 (lenx hx hc rfl (by intro hxx;simp only[List.length_cons,List.length_nil]at hxx;omega))))
   λ_=>OkC.if_ (λhc=>OkC.bind l1! λe we he=>OkC.ok (sz6 hd he (lenx hx hc rfl (by intro hxx;simp only[List.length_cons,List.length_nil]at hxx;omega))))
   λ_=>OkC.if_ (λhc=>OkC.ok (sz7 hd (lenx hx hc rfl (by intro hxx;simp only[List.length_cons,List.length_nil]at hxx;omega))))
   λ_=>OkC.if_ (λhc=>OkC.bind l1! λe we he=>OkC.bind l1! λf wf hf=>OkC.ok (sz8 hd he hf (lenx hx hc rfl (by intro hxx;simp only[List.length_cons,List.length_nil]at hxx;omega))))
   λ_=>OkC.bind l1! λe we he=>OkC.ok (sz9 hd he (by omega)))
theorem s0!:OkC partP (λl w=>∃v,SzB 1 l v∧v+3<=w):=
 OkC.bind ((r9! (more:=a7!) (b63! 16 1 (by omega)) (R:=SzB 1) (λl v a w h1 h2=>h1.snoc h2) [] 0 (SzB.nil _)).mono (λl w h=>by rw[Nat.zero_add]at h;exact h)) λl v hl=>OkC.bind (d4! _ 3 rfl) λ_ w1 h1=>OkC.ok ⟨v,hl,by omega⟩
theorem e61!:OkC d8! (λv w=>(varB v).length<=21*w):=
 OkC.bind (d4! _ 3 rfl) λ_ w0 h0=>OkC.bind m7! λnm wn hn=>
 OkC.bind (Q:=λsz w=>sz=0∨lenN sz+2<=w) (a28! 1 rfl (f:=λr=>(numP r).bind λn r=>(mustP [93] r).bind λ_ r=>PS.ok n r) (OkC.bind o6! λn w1 h1=>OkC.bind (d4! _ 1 rfl) λ_ w2 h2=>OkC.ok (.inr (by omega))) (OkC.ok (.inl rfl))) λsz ws hs=>
 OkC.bind o7! λlo wl hl=>OkC.bind o7! λhi wh hh=>OkC.ok (by
  have h2:=d5! 0 ([[118,97,114],nm]++(if sz=0 then []else [[91],Lib.itoa sz,[93]])++[Lib.itoa lo,Lib.itoa hi])
  show (lineB 0 ([[118,97,114],nm]++(if sz=0 then []else [[91],Lib.itoa sz,[93]])++[Lib.itoa lo,Lib.itoa hi])).length<=_
  refine Nat.le_trans h2 ?_;unfold lenN at hs hl hh
  by_cases hz:sz=0
  ·rw[if_pos hz]
   simp
   omega
  ·rw[if_neg hz]
   simp
   omega)
def lenVs(l:List Va):Nat:=(l.map λv=>v.nm.length+lenN v.lo+lenN v.hi+4).sum
theorem b64!:∀l:List Va,((f3! l).map λx=>x.length+1).sum<=lenVs l
 |[]=>by simp[f3!]
 |[v]=>by
  simp[f3!,lenVs,lenN]
  omega
 |v::v2::l=>by
  have ih:=b64! (v2::l);rw[f3!]
  ·rw[List.map_append,List.sum_append]
   have e:lenVs (v::v2::l)=(v.nm.length+lenN v.lo+lenN v.hi+4)+lenVs (v2::l):=by simp[lenVs]
   rw[e]
   simp[lenN]
   omega
  ·simp
theorem b65!:OkC c8! (λv w=>v.nm.length+lenN v.lo+lenN v.hi<=w∧1<=w):=
 OkC.bind m7! λnm wn hn=>OkC.bind o7! λlo wl hl=>OkC.bind o7! λhi wh hh=>OkC.ok ⟨by show nm.length+lenN lo+lenN hi<=_;omega,by omega⟩
theorem e62!:OkC e8! (λv w=>v.nm.length+lenN v.lo+lenN v.hi<=w∧1<=w):=OkC.bind (d4! _ 1 rfl) λ_ w0 h0=>b65!.mono λv w h=>⟨by omega,by omega⟩
theorem e63!:OkC d9! (λl w=>lenVs l<=21*w):=
 OkC.ite (OkC.ok (by simp[lenVs])) (OkC.ite (OkC.ok (by simp[lenVs])) (OkC.bind b65! λv w hv=>
  r9! e62! (R:=λl w=>lenVs l<=21*w) (λl v a w h1 h2=>by
   show lenVs (l++[a])<=_
   unfold lenVs at h1 ⊢;rw[List.map_append,List.sum_append]
   simp
   omega) [v] w (by
   simp[lenVs]
   omega)))
def lenSt(l:List Int):Nat:=(l.map λn=>lenN n+1).sum
theorem s1!{first:List (List UInt8)}(hl:SzB 1 l v)(h:partO first (sxs l)=some t):t.length<=(first.map λx=>x.length+1).sum+21*v+6:=by
 unfold partO at h
 obtain⟨x,r1,hx,k1,rfl⟩:=e4! h
 obtain⟨y,r2,hy,k2,rfl⟩:=e4! k1
 injection hx with hx
 injection k2 with k2
 subst hx k2
 have e1:=d5! 0 first
 have e2:=d5! 0 [[101,110,100]]
 have e3:=hl y hy
 simp at e2
 simp only[List.length_append]
 omega
theorem e64!:OkC progP (λp w=>∀t,rawP p.px=some t->t.length<=21*w):=
 OkC.bind (d4! _ 4 rfl) λ_ a1 b1=>OkC.bind m7! λnm a2 b2=>OkC.bind (d4! _ 5 rfl) λ_ a3 b3=>OkC.bind o6! λseats a4 b4=>OkC.bind (d4! _ 5 rfl) λ_ a5 b5=>OkC.bind o6! λs0 a6 b6=>
 OkC.bind (r9! (more:=kindT 2) o6! (R:=λl w=>lenSt l<=2*w) (λl v a w h1 h2=>by
  show lenSt (l++[a])<=_
  unfold lenSt at h1 ⊢;rw[List.map_append,List.sum_append]
  simp
  omega) [] 0 (by simp[lenSt])) λss a7 b7=>
 OkC.bind (r9! (more:=hasT [118,97,114]) e61! (R:=λl w=>(l.map varB).flatten.length<=21*w) (λl v a w h1 h2=>by
  show ((l++[a]).map varB).flatten.length<=_
  rw[List.map_append,List.flatten_append,List.length_append]
  simp only[List.map_cons,List.map_nil,List.flatten_cons,List.flatten_nil,List.append_nil]
  omega) [] 0 (by simp)) λvars a8 b8=>OkC.bind (d4! _ 5 rfl) λ_ a9 b9=>OkC.bind s0! λstart c1 d1=>OkC.bind (d4! _ 4 rfl) λ_ c2 d2=>OkC.bind s0! λturn c3 d3=>OkC.bind (d4! _ 4 rfl) λ_ c4 d4=>OkC.bind e63! λparams c5 d5=>OkC.bind s0! λplay c6 d6=>
 OkC.bind (d4! _ 6 rfl) λ_ c7 d7=>OkC.bind m7! λsilent c8 d8=>OkC.bind s0! λquiet c9 d9=>OkC.bind (d4! _ 3 rfl) λ_ e1 f1=>OkC.bind s0! λpays e2 f2=>OkC.ok (λt h=>by
  unfold rawP Pg.px at h;obtain⟨x1,r1,hx1,k1,rfl⟩:=e4! h;obtain⟨x2,r2,hx2,k2,rfl⟩:=e4! k1;obtain⟨x3,r3,hx3,k3,rfl⟩:=e4! k2;obtain⟨x4,r4,hx4,k4,rfl⟩:=e4! k3;obtain⟨x5,x6,hx5,hx6,rfl⟩:=e4! k4;injection hx1 with hx1;subst hx1;obtain⟨v1,g1,i1⟩:=d1;obtain⟨v2,g2,i2⟩:=d3;obtain⟨v3,g3,i3⟩:=d6;obtain⟨v4,g4,i4⟩:=d9;obtain⟨v5,g5,i5⟩:=f2;have l2:=s1! g1 hx2;have l3:=s1! g2 hx3;have l4:=s1! g3 hx4;have l5:=s1! g4 hx5;have l6:=s1! g5 hx6;have l7:=b64! params;have m1:=d5! 0 [[103,97,109,101],nm];have m2:=d5! 0 [[115,101,97,116,115],Lib.itoa seats];have m3:=d5! 0 ([115,116,97,107,101]::Lib.itoa s0::ss.map Lib.itoa);have m4:((ss.map Lib.itoa).map λx=>x.length+1).sum=lenSt ss:=by simp[lenSt,lenN,List.map_map,Function.comp_def]
  simp only[List.map_cons,List.sum_cons,m4,List.length_cons,List.length_nil]at m3
  unfold lenN at b4 b6
  simp at m1 m2 l2 l3 l4 l5 l6
  simp only[List.length_append]
  simp only[Nat.zero_add]at b7 b8
  rw[List.map_cons]
  omega)
theorem e65!{l:List UInt8}{p:Pg}(h:progO l=.ok p)(ht:rawP p.px=some t):t.length<=21*l.length:=by
 obtain⟨ts,r,h1,h2,-⟩:=a08! h
 obtain⟨us,L,C,rfl,hg,hl,-⟩:=v6! h1
 obtain⟨-,w,hw,hq⟩:=e64! (us++[⟨0,[],0,L,C⟩]) (λt ht=>by
  rcases List.mem_append.1 ht with ht|ht
  ·exact⟨λhk=>b32! (hg t ht) hk,λ_=>(hg t ht).1⟩
  ·rw[List.mem_singleton.1 ht]
   exact⟨λh=>by simp at h,λh=>absurd rfl h⟩) p r h2
 have:=hq t ht
 rw[b23!]at hw
 simp only[List.length_nil]at hw
 omega
end Go.Proofs.YtdgekckedchjbaaGreatDoor
