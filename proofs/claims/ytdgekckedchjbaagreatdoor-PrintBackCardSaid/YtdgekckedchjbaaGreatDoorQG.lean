
/-
 The parser of programs in memory: rows, statements, variables; each step in one form. No program is named here but for its types. The parser's lists: as many as there are. (Printed by wip/tools/gens20.py.) An expression where the parser has an error already: nothing is read. (Printed by wip/tools/gens21.py.)
-/
import Derived.Test.YtdgekckedchjbaaGreatDoorQF
set_option maxHeartbeats 4000000
set_option maxRecDepth 100000
namespace Go.Proofs.YtdgekckedchjbaaGreatDoor
open Go.RowKit
variable {D S:Nat->Prop} {w w' wr:World} {b b' base i j k n s:Nat} {v v':Value} {t:TypeId} {cs xs ys:List Value} {A:Option Addr} {ts:List Tk} {er:Int}
abbrev Cel (α:Type):=(Nat->Prop)->World->List Value->α->Prop
def QKept{α:Type}(Q:Cel α):Prop:=∀(D E S:Nat->Prop) (w w':World) (cs:List Value) (a:α),Kept S w w'->(∀k,k<w.heap.size->D k->¬S k)->(∀k,k<w.heap.size->D k->E k)->Q D w cs a->Q E w' cs a
def QI:Cel Int:=λ_ _ cs n=>cs=[.I n]
def d0!(v:Va):List Value:=[.string (str v.nm),.I v.size,.I v.lo,.I v.hi]
def QV:Cel Va:=λ_ _ cs v=>cs=d0! v
def QE:Cel Ex:=λD w cs x=>TE D w x cs
def SE(D:Nat->Prop)(w:World):Nat->List Value->St->Prop
 |0,_,_=>False
 |n+1,cs,.mk kind nm E lo hi L El=>∃(A1:Option Addr) (l1 c1:Nat) (A2:Option Addr) (l2 c2:Nat) (A3:Option Addr) (l3 c3:Nat),
  cs=[.I kind,.string (str nm),.slice A1 l1 c1,.I lo,.I hi,.slice A2 l2 c2,.slice A3 l3 c3]∧
  ElsG D w 4 1000000 (QE D w) A1 l1 E∧ElsG D w 7 1000000 (SE D w n) A2 l2 L∧ElsG D w 7 1000000 (SE D w n) A3 l3 El
def QS(d:Nat):Cel St:=λD w cs s=>SE D w d cs s
theorem n5!:QKept QI:=λ_ _ _ _ _ _ _ _ _ _ h=>h
theorem b3!:QKept QV:=λ_ _ _ _ _ _ _ _ _ _ h=>h
theorem h5!:QKept QE:=λD _ _ w _ cs a hk hs hE h=>
 (TE.kept (D:=λk=>D k∧k<w.heap.size) hk (λk hd=>hs k hd.2 hd.1) a cs (h.mono (λ_ hk hd=>⟨hd,hk⟩))).mono (λ_ _ hd=>hE _ hd.2 hd.1)
theorem SE.kept{E:Nat->Prop}(hk:Kept S w w')(hs:∀k,k<w.heap.size->D k->¬S k)(hE:∀k,k<w.heap.size->D k->E k):∀(n:Nat) (cs:List Value) (s:St),SE D w n cs s->SE E w' n cs s
 |0,_,_,h=>h
 |n+1,cs,.mk kind nm El lo hi L Ls,h=>by
  obtain⟨A1,l1,c1,A2,l2,c2,A3,l3,c3,h1,h2,h3,h4⟩:=h;exact⟨A1,l1,c1,A2,l2,c2,A3,l3,c3,h1,h2.kept hk hs hE (λcs x h=>h5! D E S w w' cs x hk hs hE h),h3.kept hk hs hE (SE.kept hk hs hE n),h4.kept hk hs hE (SE.kept hk hs hE n)⟩
theorem c5!(d:Nat):QKept (QS d):=λ_ _ _ _ _ cs s hk hs hE h=>SE.kept hk hs hE d cs s h
def IsRow{α:Type}(s:Nat)(Q:Cel α)(base:Nat)(w:World)(l:List α)(v:Value):Prop:=
 ∃(A:Option Addr) (n c:Nat),v=.slice A n c∧ElsG (λk=>base<=k) w s 1000000 (Q (λk=>base<=k) w) A n l
def ShR(s:Nat)(w:World)(v:Value):Prop:=∃(A:Option Addr) (n c:Nat) (xs:List Value),v=.slice A n c∧Reads w w.heap.size s A n xs∧(∀u∈xs,u.oneCell'=true)∧n<=100000
def ShL(_:World)(v:Value):Prop:=∃(A:Option Addr) (n c:Nat),v=.slice A n c
def IsEl{α:Type}(Q:Cel α)(base:Nat)(w:World)(a:α)(v:Value):Prop:=∃cs:List Value,v=.agg (List.toArray cs)∧Q (λk=>base<=k) w cs a
def ShE(_:World)(v:Value):Prop:=∃(op N:Int) (nm:ByteArray) (B:Option Addr) (l k:Nat),v=.agg #[.I op,.I N,.string nm,.slice B l k]
def ShV(_:World)(v:Value):Prop:=∃(s:ByteArray) (a b c:Int),v=.agg #[.string s,.I a,.I b,.I c]
def ShSt(_:World)(v:Value):Prop:=∃(kind:Int) (nm:ByteArray) (A1:Option Addr) (l1 c1:Nat) (lo hi:Int) (A2:Option Addr) (l2 c2:Nat) (A3:Option Addr) (l3 c3:Nat),
 v=.agg #[.I kind,.string nm,.slice A1 l1 c1,.I lo,.I hi,.slice A2 l2 c2,.slice A3 l3 c3]
def IsU(_:World)(_:Unit)(_:Value):Prop:=True
def ShU(_:World)(v:Value):Prop:=v=.tuple #[]
theorem IsRow.kept{α:Type}{Q:Cel α}(hq:QKept Q){l:List α}(h:IsRow s Q b w l v)(hb:b'<=b)(hk:Kept S w w')(hs:∀k,k<w.heap.size->b<=k->¬S k):IsRow s Q b' w' l v:=by
 obtain⟨A,n,c,h1,h2⟩:=h
 exact⟨A,n,c,h1,h2.kept hk hs (λk _ h=>by omega) (λcs a h=>hq _ _ S w w' cs a hk hs (λk _ h=>by omega) h)⟩
theorem IsEl.kept{α:Type}{Q:Cel α}(hq:QKept Q){a:α}(h:IsEl Q b w a v)(hb:b'<=b)(hk:Kept S w w')(hs:∀k,k<w.heap.size->b<=k->¬S k):IsEl Q b' w' a v:=by
 obtain⟨cs,h1,h2⟩:=h
 exact⟨cs,h1,hq _ _ S w w' cs a hk hs (λk _ h=>by omega) h2⟩
def OwnA{α:Type}(s:Nat)(Q:Cel α)(w:World)(base:Nat)(t:TypeId)(v:Value)(l:List α):Prop:=
 ∃ys:List Value,w.ownsRow base t s v l.length ys∧ys.length=l.length*s∧(∀u∈ys,u.oneCell'=true)∧∀i (h:i<l.length),Q (λz=>base<=z∧v.ownBlock≠some z) w ((ys.drop (i*s)).take s) (l[i]'h)
theorem OwnA.nil{α:Type}(s:Nat)(Q:Cel α)(w:World)(base:Nat)(t:TypeId):OwnA s Q w base t (.N) ([]:List α):=⟨[],World.ownsRow_nil _ _ _ _,by simp,by simp,λi hi=>by simp at hi⟩
theorem OwnA.row{α:Type}{Q:Cel α}(hq:QKept Q){l:List α}(h:OwnA s Q w base t v l)(hM:l.length<=1000000):IsRow s Q base w l v:=by
 obtain⟨ys,h1,h2,_,h3⟩:=h
 obtain⟨A,c,rfl,hb⟩:=b2! h1
 refine⟨A,_,c,rfl,ys,Reads.of_own h1,λhn a ha=>f2! h1 _ (hb a hn ha),hM,rfl,λi hi=>?_⟩
 exact hq _ _ (λ_=>False) w w _ _ (Kept.refl _ w) (λ_ _ _ h=>h) (λ_ _ h=>h.1) (h3 i hi)
theorem y5!(h:ys.length=k*s)(hi:i<k):((ys++cs).drop (i*s)).take s=(ys.drop (i*s)).take s:=by
 have:i*s+s<=k*s:=by
  have:=Nat.mul_le_mul_right s (show i+1<=k by omega);rw[Nat.add_mul,Nat.one_mul]at this;exact this
 rw[List.drop_append_of_le_length (by omega),List.take_append_of_le_length (by rw[List.length_drop];omega)]
theorem a73!(h:ys.length=k*s)(hc:cs.length=s):((ys++cs).drop (k*s)).take s=cs:=by
 rw[List.drop_append_of_le_length (by omega),List.drop_of_length_le (by omega),List.nil_append,List.take_of_length_le (by omega)]
theorem OwnA.push{α:Type}{Q:Cel α}(hq:QKept Q){l:List α}{a:α}(ho:w'.ownsRow base t s v' (l.length+1) (ys++cs))(h2:ys.length=l.length*s)(hc:cs.length=s)(h1:∀u∈ys,u.oneCell'=true)(hc1:∀u∈cs,u.oneCell'=true)
 (hold:∀i (h:i<l.length),Q (λz=>base<=z∧v.ownBlock≠some z) w ((ys.drop (i*s)).take s) (l[i]'h)) (hk:Kept (λz=>z<base∨v.ownBlock=some z) w w') (hv:∀k,k<w.heap.size->v.ownBlock≠some k->v'.ownBlock≠some k)
 (hnew:Q D w' cs a) (hD:∀k,k<w'.heap.size->D k->base<=k∧v'.ownBlock≠some k):OwnA s Q w' base t v' (l++[a]):=by
 refine⟨ys++cs,by rw[List.length_append,List.length_singleton];exact ho,by rw[List.length_append,hc,h2,List.length_append,List.length_singleton,Nat.add_mul,Nat.one_mul],λu hu=>(List.mem_append.1 hu).elim (h1 u) (hc1 u),λi hi=>?_⟩
 rw[List.length_append,List.length_singleton]at hi
 rcases Nat.lt_or_ge i l.length with h|h
 ·rw[List.getElem_append_left h,y5! h2 h]
  exact hq _ _ _ w w' _ _ hk (λk _ hd e=>e.elim (λe=>by omega) hd.2) (λk hk hd=>⟨hd.1,hv k hk hd.2⟩) (hold i h)
 ·obtain rfl:i=l.length:=by omega
  rw[List.getElem_append_right (by omega),a73! h2 hc];have:=hq _ _ (λ_=>False) w' w' _ _ (Kept.refl _ w') (λ_ _ _ h=>h) hD hnew
  simpa using this
theorem OwnA.cat{α:Type}{Q:Cel α}(hq:QKept Q){l l2:List α}{zs:List Value}(ho:w'.ownsRow base t s v' (l.length+l2.length) (ys++zs))(h2:ys.length=l.length*s)(hz:zs.length=l2.length*s)(h1:∀u∈ys,u.oneCell'=true)(hz1:∀u∈zs,u.oneCell'=true)
 (hold:∀i (h:i<l.length),Q (λz=>base<=z∧v.ownBlock≠some z) w ((ys.drop (i*s)).take s) (l[i]'h)) (hk:Kept (λz=>z<base∨v.ownBlock=some z) w w') (hv:∀k,k<w.heap.size->v.ownBlock≠some k->v'.ownBlock≠some k)
 (hnew:∀i (h:i<l2.length),Q D w' ((zs.drop (i*s)).take s) (l2[i]'h)) (hD:∀k,k<w'.heap.size->D k->base<=k∧v'.ownBlock≠some k):OwnA s Q w' base t v' (l++l2):=by
 refine⟨ys++zs,by rw[List.length_append];exact ho,by rw[List.length_append,hz,h2,List.length_append,Nat.add_mul],λu hu=>(List.mem_append.1 hu).elim (h1 u) (hz1 u),λi hi=>?_⟩
 rw[List.length_append]at hi
 rcases Nat.lt_or_ge i l.length with h|h
 ·rw[List.getElem_append_left h,y5! h2 h]
  exact hq _ _ _ w w' _ _ hk (λk _ hd e=>e.elim (λe=>by omega) hd.2) (λk hk hd=>⟨hd.1,hv k hk hd.2⟩) (hold i h)
 ·rw[List.getElem_append_right h]
  have e1:(ys++zs).drop (i*s)=zs.drop ((i-l.length)*s):=by
   have hle:l.length*s<=i*s:=Nat.mul_le_mul_right s h;rw[List.drop_append,List.drop_of_length_le (by omega),List.nil_append,h2,Nat.sub_mul]
  rw[e1];exact hq _ _ (λ_=>False) w' w' _ _ (Kept.refl _ w') (λ_ _ _ h=>h) hD (hnew (i-l.length) (by omega))
theorem ShR.shl(h:ShR s w v):ShL w v:=by
 obtain⟨A,n,c,_,h,_⟩:=h
 exact⟨A,n,c,h⟩
theorem Reads.same{B B':Nat}(h:Reads w B s A n xs)(k:Reads w B' s A n ys):xs=ys:=by
 rcases Nat.eq_zero_or_pos n with h0|h0
 ·subst h0
  rw[List.eq_nil_of_length_eq_zero (l:=xs) (by simpa using h.1),List.eq_nil_of_length_eq_zero (l:=ys) (by simpa using k.1)]
 ·obtain⟨a,ha,_,hc⟩:=h.2 h0
  obtain⟨b,hb,_,kc⟩:=k.2 h0;rw[ha]at hb
  cases hb
  refine List.ext_getElem (h.1.trans k.1.symm) (λj h1 h2=>?_);have e1:=hc j _ (List.getElem?_eq_getElem h1);have e2:=kc j _ (List.getElem?_eq_getElem h2);exact Option.some.inj (e1.symm.trans e2)
theorem e1!(g c:Nat)(A:Option Addr)(m:Nat->Nat)(ts:List Tk)(i:Nat)(dp er:Int)(x:List UInt8)(w:World)(h:Par w g A c m ts i dp er):
 Calls Tryz.prog 55 #[.pointer (some ⟨g,0,none⟩),.string (str x)] w (a8! w g c A m ts dp (stP (mustP x) ts i er) IsU ShU):=by
 obtain⟨t,ht⟩:=ParS.at_some h.at_
 refine(y1! g c A m ts i dp er x w h t ht).mono ?_
 rintro e w1⟨rfl,p1,k1⟩
 exact⟨_,rfl,k1,rfl,_,_,p1,c61! ht x⟩
theorem a6!{size:Nat}{e:TypeId}{T:Nat->Prop}(h:w.ownsRow base e size v n xs)(hk:Kept T w w')(hs:∀k,v.ownBlock=some k->¬T k):w'.ownsRow base e size v n xs:=by
 refine⟨h.1,?_⟩
 rcases h.2 with h2|⟨g,cap,cur,hv,hg,hh,r⟩
 ·exact .inl h2
 ·have hlt:g<w.heap.size:=Blk.lt (t:=e) (cs:=cur) hh
  exact .inr ⟨g,cap,cur,hv,hg,(hk.block g hlt (hs g (by rw[hv];rfl))).trans hh,r⟩
theorem PsAt.ok_iff{α:Type}{p:PS α}{Q:α->Prop}(h:PsAt ts i er p Q)(he:er=0):∃a,p=.ok a (ts.drop i)∧Q a:=by
 cases p with
 |ok a r=>exact⟨a,by rw[h.1],h.2.2⟩
 |bad r e=>exact absurd he h.2.2
theorem PsAt.bad_iff{α:Type}{p:PS α}{Q:α->Prop}(h:PsAt ts i er p Q)(he:er≠0):p=.bad (ts.drop i) er:=by
 cases p with
 |ok a r=>exact absurd h.2.1 he
 |bad r e=>rw[h.1,h.2.1]
def EatsP{α:Type}(one:List Tk->PS α):Prop:=∀r a r',one r=.ok a r'->r'.length<r.length
def LJ{α:Type}(s:Nat)(Q:Cel α)(t:TypeId)(base:Nat)(ts:List Tk)(more:List Tk->Bool)(one:List Tk->PS α)(goal:PS (List α))(v:Value)(wr:World)(j:Nat)(er:Int):Prop:=
 (er=0∧∃(acc:List α) (f:Nat),OwnA s Q wr base t v acc∧(ts.drop j).length<=f∧goal=listP more one f acc (ts.drop j)∧acc.length<=j)∨(er≠0∧(∃(n:Nat) (ys:List Value),wr.ownsRow base t s v n ys∧(∀u∈ys,u.oneCell'=true)∧n<=100000)∧goal=.bad (ts.drop j) er)
theorem LJ.start{α:Type}(s:Nat)(Q:Cel α)(t:TypeId)(base:Nat)(ts:List Tk)(more:List Tk->Bool)(one:List Tk->PS α)(w:World)(j:Nat)(er:Int):LJ s Q t base ts more one (stP (λr=>listP more one r.length [] r) ts j er) (.N) w j er:=by
 by_cases he:er=0
 ·subst he
  exact .inl ⟨rfl,[],_,OwnA.nil _ _ _ _ _,Nat.le_refl _,by unfold stP;rw[if_pos rfl],by simp⟩
 ·exact .inr ⟨he,⟨0,[],World.ownsRow_nil _ _ _ _,by simp,by omega⟩,by unfold stP;rw[if_neg he]⟩
theorem LJ.done{α:Type}{Q:Cel α}{more:List Tk->Bool}{one:List Tk->PS α}{goal:PS (List α)}(hq:QKept Q)(h:LJ s Q t base ts more one goal v wr j er)(hj:j<=100000)(hm:stB more ts j er=false)(hk:Kept (λ_=>False) wr w):ShR s w v∧PsAt ts j er goal (λl=>IsRow s Q base w l v):=by
 rcases h with⟨rfl,acc,f,ho,hf,rfl,hl⟩|⟨he,hs,rfl⟩
 ·refine⟨?_,?_⟩
  ·obtain⟨ys,o1,o2,o3,_⟩:=ho
   obtain⟨A,c,rfl,_⟩:=b2! o1;exact⟨A,_,c,ys,rfl,(Reads.of_own o1).keptfar hk (λ_ _ h=>h),o3,by omega⟩
  have hm':more (ts.drop j)=false:=by
   unfold stB at hm
   simpa using hm
  have e1:listP more one f acc (ts.drop j)=.ok acc (ts.drop j):=by
   cases f with
   |zero=>rfl
   |succ f=>simp only[listP];rw[hm'];rfl
  rw[e1];exact⟨rfl,rfl,(ho.row hq (by omega)).kept hq (Nat.le_refl _) hk (λ_ _ _ h=>h)⟩
 ·obtain⟨n,ys,o1,o3,hn⟩:=hs
  obtain⟨A,c,rfl,_⟩:=b2! o1;exact⟨⟨A,n,c,ys,rfl,(Reads.of_own o1).keptfar hk (λ_ _ h=>h),o3,hn⟩,rfl,rfl,he⟩
theorem LJ.go{α:Type}{Q:Cel α}{more:List Tk->Bool}{one:List Tk->PS α}{goal:PS (List α)}(h:LJ s Q t base ts more one goal v wr j er)(hm:stB more ts j er=true):er=0∧more (ts.drop j)=true∧∃(acc:List α) (f:Nat),OwnA s Q wr base t v acc∧(ts.drop j).length<=f∧goal=listP more one f acc (ts.drop j)∧acc.length<=j:=by
 rcases h with⟨rfl,h⟩|⟨he,_⟩
 ·exact⟨rfl,by unfold stB at hm;simpa using hm,h⟩
 ·unfold stB at hm
  have he':(er==0)=false:=by simp[he]
  simp[he']at hm
def LM(ts:List Tk)(g:Nat)(w:World):Nat:=match w.cell? ⟨g,8,none⟩,w.cell? ⟨g,1,none⟩with
 |some (.int _ e),some (.int _ j)=>if e=0 then 1+(ts.length-j.toNat)else 0
 |_,_=>0
theorem LM_eq{g c:Nat}{m:Nat->Nat}{dp:Int}(h:Par w g A c m ts i dp er):LM ts g w=if er=0 then 1+(ts.length-i)else 0:=by
 have B:=h.blk
 unfold a2! at B
 have c8:=B.c8
 have c1:=B.c1
 unfold LM
 rw[c8,c1]
 simp
theorem d1!(W:World)(t:TypeId)(cs:Array Value)(n:Nat)(hn:cs.size=n):Reads (W.alloc (.cells cs t)) (W.heap.size+1) n (some ⟨W.heap.size,0,none⟩) 1 cs.toList:=by
 refine⟨by simp[hn],λ_=>⟨_,rfl,by simp,λj u hu=>?_⟩⟩
 rw[Addr.add_lit,Nat.zero_add,(Blk.new W t cs).cell j]
 simpa using hu
theorem LJ.next{α:Type}{Q:Cel α}(hq:QKept Q){more:List Tk->Bool}{one:List Tk->PS α}{goal:PS (List α)}{v8:Value}{w2 w8:World}{j2 f:Nat}{er2:Int}{acc:List α}{R:α->Prop}
 (hm:more (ts.drop j)=true) (heat:EatsP one) (hjl:j<ts.length) (hj2:j2<ts.length) (hf:(ts.drop j).length<=f) (hg:goal=listP more one f acc (ts.drop j)) (hl:acc.length<=j) (hps:PsAt ts j2 er2 (one (ts.drop j)) R)
 (hR:∀a,R a->Q (λk=>wr.heap.size<=k∧k<w2.heap.size) w8 cs a) (hyl:ys.length=acc.length*s) (hcs:cs.length=s) (h1:∀u∈ys,u.oneCell'=true) (hc1:∀u∈cs,u.oneCell'=true) (hlim:ts.length<=70000) (hold:∀i (h:i<acc.length),Q (λz=>base<=z∧v.ownBlock≠some z) wr ((ys.drop (i*s)).take s) (acc[i]'h))
 (ho8:w8.ownsRow base t s v8 (acc.length+1) (ys++cs)) (hk:Kept (λz=>z<base∨v.ownBlock=some z) wr w8) (hown:∀k,v.ownBlock=some k->k<wr.heap.size) (hat:v8.ownBlock=v.ownBlock∨∃z,v8.ownBlock=some z∧w2.heap.size<=z) (hb:base<=wr.heap.size) (hz2:wr.heap.size<=w2.heap.size):
 LJ s Q t base ts more one goal v8 w8 j2 er2:=by
 by_cases he:er2=0
 ·subst he
  obtain⟨a,ha,hQ⟩:=hps.ok_iff rfl;have hlt:=heat _ _ _ ha;rw[List.length_drop,List.length_drop]at hlt;refine .inl ⟨rfl,acc++[a],f-1,?_,?_,?_,?_⟩
  ·refine OwnA.push hq ho8 hyl hcs h1 hc1 hold hk (λk hk' hne e=>?_) (hR a hQ) (λk _ hd=>⟨by omega,λe=>?_⟩)
   ·rcases hat with h|⟨z,h,hz⟩
    ·exact hne (h▸e)
    ·rw[h]at e
     have:=Option.some.inj e
     omega
   ·rcases hat with h|⟨z,h,hz⟩
    ·have:=hown k (h▸e)
     omega
    ·rw[h]at e
     have:=Option.some.inj e
     omega
  ·rw[List.length_drop]at hf ⊢
   omega
  ·rw[hg]
   rw[List.length_drop]at hf;obtain⟨f',rfl⟩:∃f',f=f'+1:=⟨f-1,by omega⟩
   simp only[listP]
   rw[hm,ha]
   rfl
  ·rw[List.length_append,List.length_singleton]
   omega
 ·refine .inr ⟨he,?_,?_⟩
  ·exact⟨_,_,ho8,λu hu=>(List.mem_append.1 hu).elim (h1 u) (hc1 u),by omega⟩
  ·rw[hg]
   rw[List.length_drop]at hf;obtain⟨f',rfl⟩:∃f',f=f'+1:=⟨f-1,by omega⟩
   simp only[listP]
   rw[hm,hps.bad_iff he]
   rfl
theorem u4!:(Tryz.prog.info? 3).map (λi=>(i.zero,i.size,i.bytes))=some (some (.I 0),1,8):=by kernel_rfl
theorem c71!(g c:Nat)(A:Option Addr)(m:Nat->Nat)(ts:List Tk)(dp:Int)(one:List Tk->PS Int)(R:Nat->World->Int->Value->Prop)(heat:EatsP one)
 (hR:∀(b:Nat) (w:World) (a:Int) (n:Int),R b w a (.I n)->QI (λk=>b<=k) w [.I n] a)
 (hone:∀(i:Nat) (w:World),Par w g A c m ts i dp 0->(kindT 2) (ts.drop i)=true->Calls Tryz.prog 57 #[.pointer (some ⟨g,0,none⟩)] w (a8! w g c A m ts dp (one (ts.drop i)) (R w.heap.size) ShN))
 (i:Nat) (er:Int) (w:World) (h:Par w g A c m ts i dp er):
 Calls Tryz.prog 58 #[.func (.func 59) #[.pointer (some ⟨g,0,none⟩)] #[],.func (.func 57) #[.pointer (some ⟨g,0,none⟩)] #[]] w
  (a8! w g c A m ts dp (stP (λr=>listP (kindT 2) one r.length [] r) ts i er) (IsRow 1 QI w.heap.size) (ShR 1)):=by
 have HMORE:=h! (λ(i:Nat) (er:Int) (w:World) (h:Par w g A c m ts i dp er)=>c66! g c A m ts i dp er w h)
 have HONE:=h! hone
 have HR:=h! hR
 have HEAT:=h! heat
 have HP:=h! h
 have lim:=h.st.lim
 have hgl:=h.blk.lt
 have HLJ:=h! (LJ.start 1 QI 3 w.heap.size ts (kindT 2) one w i er)
 generalize stP (λr=>listP (kindT 2) one r.length [] r) ts i er=goal at*
 clear h hone heat hR
 go_enter Tryz.func58,Tryz.ntmps58
 go_wp2_with fail
 go_loopw [5] (λv wr=>∃(j:Nat) (er':Int),Hid (Par wr g A c m ts j dp er')∧Hid (Kept (λz=>z=g) w wr)∧Hid (LJ 1 QI 3 w.heap.size ts (kindT 2) one goal v wr j er')) (λ_ wr=>LM ts g wr)
 case atStart=>exact⟨i,er,HP.out,Kept.refl _ w,HLJ.out⟩
 case round=>
  obtain⟨j,er',hp,hk,hlj⟩:=hrel;have HM:=h! (HMORE.out j er' wr hp.out);have hwz:=hk.out.size;obtain⟨b,hb⟩:∃b,stB (kindT 2) ts j er'=b:=⟨_,rfl⟩
  rw[hb]at HM;have HB:=h! hb;clear hb
  cases b
  ·go_wp2_with fail
   refine HM.out.mono ?_;rintro e w1⟨rfl,q,rfl⟩;have HD:=h! (hlj.out.done n5! (by have:=hp.out.at_;omega) HB.out ((Kept.refl (λ_=>False) wr).drewN q));have HP9:=h! (hp.out.drewN q);have HK9:=h! (hk.out.drewN q);go_wp2_with fail
   go_ret
   exact⟨_,rfl,HK9.out,HD.out.1,j,er',HP9.out,HD.out.2⟩
  ·obtain⟨rfl,hmore,acc,f,ho,hf,hg,hal⟩:=hlj.out.go HB.out
   have HG:=h! hg;have HF:=h! hf;have HMO:=h! hmore;obtain⟨ys,how,hyl,hone1,hold⟩:=ho;have HON:=h! hone1;have HOW:=h! how;have HYL:=h! hyl;have HOLD:=h! hold;have hog:=h! (f2! how);have hol:=h! (c2! how);have hjt:=hp.out.at_;have hal2:=hal;have hal2x:=h! hal;obtain⟨an,HAN⟩:∃an,Hid (acc.length=an):=⟨_,rfl⟩
   rw[show acc.length=an from HAN.out]at how hal2;have HOA:=h! how;have HLMw:=h! (LM_eq hp.out);clear hmore hg hf hal how hyl hold hlj hone1;obtain⟨jt,HJT⟩:∃n,Hid (ts.length=n):=⟨_,rfl⟩
   rw[show ts.length=jt from HJT.out]at hjt lim;go_wp2_with fail;refine HM.out.mono ?_;rintro e w1⟨rfl,q,rfl⟩;have CO:=h! (HONE.out j (wr.drewN q) (hp.out.drewN q) HMO.out);have K1:=h! ((Kept.refl (λ_=>False) wr).drewN q);have zq:(wr.drewN q).heap.size=wr.heap.size:=rfl;generalize wr.drewN q=w1 at*;go_wp2_with fail;refine CO.out.mono ?_;rintro e w2⟨v2,rfl,k2,⟨n,rfl⟩,j2,er2,p2,ps2⟩;obtain⟨i0,hi0,hz0,hz1,hz2⟩:=info_parts u4!;have z2:=k2.size;have hgg:=hp.out.blk.lt;have KG:Hid (∀z,u5.ownBlock=some z->z≠g):=λz e hz=>by have:=hog.out z e;omega
   have F2:=h! ((K1.out.mono (T:=λz=>z=g) (λ_ _ h=>h.elim)).then_ k2 (λ_ _ h=>h));have o2:=h! (World.ownsRow.alloc (a6! HOA.out F2.out KG.out) (.cells #[.I n] 3));have RD:=h! (d1! w2 3 #[.I n] 1 rfl);have ONE:Hid (∀u∈([.I n]:List Value),u.oneCell'=true):=by
    intro u hu
    simp only[List.mem_cons,List.not_mem_nil,or_false]at hu
    rcases hu with rfl<;>rfl
   have za:=z! w2 (.cells #[.I n] 3);have P2:=h! p2;have PS2:=h! ps2;have K2:=h! k2;clear p2 ps2 k2
   go_wp2_with (at_builtin;refine e5! _ rfl (.tmp 8) (.tmp 11) 30 rfl w.heap.size 3 i0 _ 1 8 Tryz.underlying30 hi0 hz0 hz1 hz2 rfl (by omega) _ an ys rfl o2.out _ _ 1 1 [.I n] rfl RD.out ONE.out (by unfold maxLen;omega) (by omega) (by simp;omega) ?_;intro v8 w8 o8 g8 at8)
   have K8:Kept (λz=>u5.ownBlock=some z) w2 w8:=((Kept.refl (λz=>u5.ownBlock=some z) w2).alloc _).then_ (Kept.of_grown g8 (λ_ e=>e)) (λ_ _ e=>e);have ho8:=o8;rw[<-show acc.length=an from HAN.out]at ho8;have KG8:Hid (Kept (λz=>z=g) w w8):=(hk.out.then_ F2.out (λ_ _ e=>e)).then_ K8 (λz hz e=>by have:=hog.out z e;omega);have HP8:Hid (Par w8 g A c m ts j2 dp er2):=HP.out.put P2.out.at_ (P2.out.blk.kept K8 (λe=>KG.out g e rfl)) KG8.out;have HL8:Hid (LJ 1 QI 3 w.heap.size ts (kindT 2) one goal v8 w8 j2 er2):=by
    refine LJ.next (wr:=wr) (w2:=w2) n5! HMO.out HEAT.out (by rw[HJT.out];exact hjt) P2.out.at_ HF.out HG.out hal2x.out PS2.out (λa ha=>?_) HYL.out rfl HON.out ONE.out (by rw[HJT.out];exact lim) HOLD.out ho8 ((F2.out.mono (λz _ e=>.inl (by omega))).then_ K8 (λz _ e=>.inr e)) hol.out ?_ hwz (by omega)
    ·exact n5! _ _ _ w2 w8 _ a K8 (λk _ hk e=>by have:=hol.out k e;omega) (λk hk h=>⟨by omega,hk⟩) (HR.out _ _ a n ha)
    ·rcases at8 with h|h
     ·exact .inl h
     ·exact .inr ⟨_,h,by omega⟩
   have HME:Hid (LM ts g w8<LM ts g wr):=by
    show LM ts g w8<LM ts g wr
    have h1:LM ts g wr=1+(ts.length-j):=by
     have:=HLMw.out
     simpa using this
    have h2:j<ts.length:=by rw[HJT.out];exact hjt
    rw[LM_eq HP8.out,h1]
    split
    ·rename_i he
     obtain⟨a,ha,_⟩:=PS2.out.ok_iff he;have:=HEAT.out _ _ _ ha;rw[List.length_drop,List.length_drop]at this
     omega
    ·omega
   clear o8 g8 at8 K8 ho8;go_wp2_with fail
   go_roundw
   case rel=>exact⟨j2,er2,HP8.out,KG8.out,HL8.out⟩
   case measure=>exact HME.out
theorem c72!:(Tryz.prog.info? 89).map (λi=>(i.zero,i.size,i.bytes))=some (some (.agg #[.string ByteArray.empty,.I 0,.I 0,.I 0]),4,40):=by kernel_rfl
theorem c73!(g c:Nat)(A:Option Addr)(m:Nat->Nat)(ts:List Tk)(dp:Int)(one:List Tk->PS Va)(R:Nat->World->Va->Value->Prop)(heat:EatsP one)
 (hR:∀(b:Nat) (w:World) (a:Va) (s:ByteArray) (a1 b1 c1:Int),R b w a (.agg #[.string s,.I a1,.I b1,.I c1])->QV (λk=>b<=k) w [.string s,.I a1,.I b1,.I c1] a)
 (hone:∀(i:Nat) (w:World),Par w g A c m ts i dp 0->(hasT [118,97,114]) (ts.drop i)=true->Calls Tryz.prog 62 #[.pointer (some ⟨g,0,none⟩)] w (a8! w g c A m ts dp (one (ts.drop i)) (R w.heap.size) ShV))
 (i:Nat) (er:Int) (w:World) (h:Par w g A c m ts i dp er):
 Calls Tryz.prog 60 #[.func (.func 61) #[.pointer (some ⟨g,0,none⟩)] #[],.func (.func 62) #[.pointer (some ⟨g,0,none⟩)] #[]] w
  (a8! w g c A m ts dp (stP (λr=>listP (hasT [118,97,114]) one r.length [] r) ts i er) (IsRow 4 QV w.heap.size) (ShR 4)):=by
 have HMORE:=h! (λ(i:Nat) (er:Int) (w:World) (h:Par w g A c m ts i dp er)=>c67! g c A m ts i dp er w h)
 have HONE:=h! hone
 have HR:=h! hR
 have HEAT:=h! heat
 have HP:=h! h
 have lim:=h.st.lim
 have hgl:=h.blk.lt
 have HLJ:=h! (LJ.start 4 QV 89 w.heap.size ts (hasT [118,97,114]) one w i er)
 generalize stP (λr=>listP (hasT [118,97,114]) one r.length [] r) ts i er=goal at*
 clear h hone heat hR
 go_enter Tryz.func60,Tryz.ntmps60
 go_wp2_with fail
 go_loopw [5] (λv wr=>∃(j:Nat) (er':Int),Hid (Par wr g A c m ts j dp er')∧Hid (Kept (λz=>z=g) w wr)∧Hid (LJ 4 QV 89 w.heap.size ts (hasT [118,97,114]) one goal v wr j er')) (λ_ wr=>LM ts g wr)
 case atStart=>exact⟨i,er,HP.out,Kept.refl _ w,HLJ.out⟩
 case round=>
  obtain⟨j,er',hp,hk,hlj⟩:=hrel;have HM:=h! (HMORE.out j er' wr hp.out);have hwz:=hk.out.size;obtain⟨b,hb⟩:∃b,stB (hasT [118,97,114]) ts j er'=b:=⟨_,rfl⟩
  rw[hb]at HM;have HB:=h! hb;clear hb
  cases b
  ·go_wp2_with fail
   refine HM.out.mono ?_;rintro e w1⟨rfl,q,rfl⟩;have HD:=h! (hlj.out.done b3! (by have:=hp.out.at_;omega) HB.out ((Kept.refl (λ_=>False) wr).drewN q));have HP9:=h! (hp.out.drewN q);have HK9:=h! (hk.out.drewN q);go_wp2_with fail
   go_ret
   exact⟨_,rfl,HK9.out,HD.out.1,j,er',HP9.out,HD.out.2⟩
  ·obtain⟨rfl,hmore,acc,f,ho,hf,hg,hal⟩:=hlj.out.go HB.out
   have HG:=h! hg;have HF:=h! hf;have HMO:=h! hmore;obtain⟨ys,how,hyl,hone1,hold⟩:=ho;have HON:=h! hone1;have HOW:=h! how;have HYL:=h! hyl;have HOLD:=h! hold;have hog:=h! (f2! how);have hol:=h! (c2! how);have hjt:=hp.out.at_;have hal2:=hal;have hal2x:=h! hal;obtain⟨an,HAN⟩:∃an,Hid (acc.length=an):=⟨_,rfl⟩
   rw[show acc.length=an from HAN.out]at how hal2;have HOA:=h! how;have HLMw:=h! (LM_eq hp.out);clear hmore hg hf hal how hyl hold hlj hone1;obtain⟨jt,HJT⟩:∃n,Hid (ts.length=n):=⟨_,rfl⟩
   rw[show ts.length=jt from HJT.out]at hjt lim;go_wp2_with fail;refine HM.out.mono ?_;rintro e w1⟨rfl,q,rfl⟩;have CO:=h! (HONE.out j (wr.drewN q) (hp.out.drewN q) HMO.out);have K1:=h! ((Kept.refl (λ_=>False) wr).drewN q);have zq:(wr.drewN q).heap.size=wr.heap.size:=rfl;generalize wr.drewN q=w1 at*;go_wp2_with fail;refine CO.out.mono ?_;rintro e w2⟨v2,rfl,k2,⟨s,a1,b1,c1,rfl⟩,j2,er2,p2,ps2⟩;obtain⟨i0,hi0,hz0,hz1,hz2⟩:=info_parts c72!;have z2:=k2.size;have hgg:=hp.out.blk.lt;have KG:Hid (∀z,u5.ownBlock=some z->z≠g):=λz e hz=>by have:=hog.out z e;omega
   have F2:=h! ((K1.out.mono (T:=λz=>z=g) (λ_ _ h=>h.elim)).then_ k2 (λ_ _ h=>h));have o2:=h! (World.ownsRow.alloc (a6! HOA.out F2.out KG.out) (.cells #[.string s,.I a1,.I b1,.I c1] 89));have RD:=h! (d1! w2 89 #[.string s,.I a1,.I b1,.I c1] 4 rfl);have ONE:Hid (∀u∈([.string s,.I a1,.I b1,.I c1]:List Value),u.oneCell'=true):=by
    intro u hu
    simp only[List.mem_cons,List.not_mem_nil,or_false]at hu
    rcases hu with rfl|rfl|rfl|rfl<;>rfl
   have za:=z! w2 (.cells #[.string s,.I a1,.I b1,.I c1] 89);have P2:=h! p2;have PS2:=h! ps2;have K2:=h! k2;clear p2 ps2 k2
   go_wp2_with (at_builtin;refine e5! _ rfl (.tmp 8) (.tmp 11) 45 rfl w.heap.size 89 i0 _ 4 40 Tryz.underlying45 hi0 hz0 hz1 hz2 rfl (by omega) _ an ys rfl o2.out _ _ 1 1 [.string s,.I a1,.I b1,.I c1] rfl RD.out ONE.out (by unfold maxLen;omega) (by omega) (by simp;omega) ?_;intro v8 w8 o8 g8 at8)
   have K8:Kept (λz=>u5.ownBlock=some z) w2 w8:=((Kept.refl (λz=>u5.ownBlock=some z) w2).alloc _).then_ (Kept.of_grown g8 (λ_ e=>e)) (λ_ _ e=>e);have ho8:=o8;rw[<-show acc.length=an from HAN.out]at ho8;have KG8:Hid (Kept (λz=>z=g) w w8):=(hk.out.then_ F2.out (λ_ _ e=>e)).then_ K8 (λz hz e=>by have:=hog.out z e;omega);have HP8:Hid (Par w8 g A c m ts j2 dp er2):=HP.out.put P2.out.at_ (P2.out.blk.kept K8 (λe=>KG.out g e rfl)) KG8.out;have HL8:Hid (LJ 4 QV 89 w.heap.size ts (hasT [118,97,114]) one goal v8 w8 j2 er2):=by
    refine LJ.next (wr:=wr) (w2:=w2) b3! HMO.out HEAT.out (by rw[HJT.out];exact hjt) P2.out.at_ HF.out HG.out hal2x.out PS2.out (λa ha=>?_) HYL.out rfl HON.out ONE.out (by rw[HJT.out];exact lim) HOLD.out ho8 ((F2.out.mono (λz _ e=>.inl (by omega))).then_ K8 (λz _ e=>.inr e)) hol.out ?_ hwz (by omega)
    ·exact b3! _ _ _ w2 w8 _ a K8 (λk _ hk e=>by have:=hol.out k e;omega) (λk hk h=>⟨by omega,hk⟩) (HR.out _ _ a s a1 b1 c1 ha)
    ·rcases at8 with h|h
     ·exact .inl h
     ·exact .inr ⟨_,h,by omega⟩
   have HME:Hid (LM ts g w8<LM ts g wr):=by
    show LM ts g w8<LM ts g wr
    have h1:LM ts g wr=1+(ts.length-j):=by
     have:=HLMw.out
     simpa using this
    have h2:j<ts.length:=by rw[HJT.out];exact hjt
    rw[LM_eq HP8.out,h1]
    split
    ·rename_i he
     obtain⟨a,ha,_⟩:=PS2.out.ok_iff he;have:=HEAT.out _ _ _ ha;rw[List.length_drop,List.length_drop]at this
     omega
    ·omega
   clear o8 g8 at8 K8 ho8;go_wp2_with fail
   go_roundw
   case rel=>exact⟨j2,er2,HP8.out,KG8.out,HL8.out⟩
   case measure=>exact HME.out
theorem a74!:(Tryz.prog.info? 89).map (λi=>(i.zero,i.size,i.bytes))=some (some (.agg #[.string ByteArray.empty,.I 0,.I 0,.I 0]),4,40):=by kernel_rfl
theorem c74!(g c:Nat)(A:Option Addr)(m:Nat->Nat)(ts:List Tk)(dp:Int)(one:List Tk->PS Va)(R:Nat->World->Va->Value->Prop)(heat:EatsP one)
 (hR:∀(b:Nat) (w:World) (a:Va) (s:ByteArray) (a1 b1 c1:Int),R b w a (.agg #[.string s,.I a1,.I b1,.I c1])->QV (λk=>b<=k) w [.string s,.I a1,.I b1,.I c1] a)
 (hone:∀(i:Nat) (w:World),Par w g A c m ts i dp 0->(hasT [44]) (ts.drop i)=true->Calls Tryz.prog 95 #[.pointer (some ⟨g,0,none⟩)] w (a8! w g c A m ts dp (one (ts.drop i)) (R w.heap.size) ShV))
 (i:Nat) (er:Int) (w:World) (h:Par w g A c m ts i dp er):
 Calls Tryz.prog 60 #[.func (.func 94) #[.pointer (some ⟨g,0,none⟩)] #[],.func (.func 95) #[.pointer (some ⟨g,0,none⟩)] #[]] w
  (a8! w g c A m ts dp (stP (λr=>listP (hasT [44]) one r.length [] r) ts i er) (IsRow 4 QV w.heap.size) (ShR 4)):=by
 have HMORE:=h! (λ(i:Nat) (er:Int) (w:World) (h:Par w g A c m ts i dp er)=>c68! g c A m ts i dp er w h)
 have HONE:=h! hone
 have HR:=h! hR
 have HEAT:=h! heat
 have HP:=h! h
 have lim:=h.st.lim
 have hgl:=h.blk.lt
 have HLJ:=h! (LJ.start 4 QV 89 w.heap.size ts (hasT [44]) one w i er)
 generalize stP (λr=>listP (hasT [44]) one r.length [] r) ts i er=goal at*
 clear h hone heat hR
 go_enter Tryz.func60,Tryz.ntmps60
 go_wp2_with fail
 go_loopw [5] (λv wr=>∃(j:Nat) (er':Int),Hid (Par wr g A c m ts j dp er')∧Hid (Kept (λz=>z=g) w wr)∧Hid (LJ 4 QV 89 w.heap.size ts (hasT [44]) one goal v wr j er')) (λ_ wr=>LM ts g wr)
 case atStart=>exact⟨i,er,HP.out,Kept.refl _ w,HLJ.out⟩
 case round=>
  obtain⟨j,er',hp,hk,hlj⟩:=hrel;have HM:=h! (HMORE.out j er' wr hp.out);have hwz:=hk.out.size;obtain⟨b,hb⟩:∃b,stB (hasT [44]) ts j er'=b:=⟨_,rfl⟩
  rw[hb]at HM;have HB:=h! hb;clear hb
  cases b
  ·go_wp2_with fail
   refine HM.out.mono ?_;rintro e w1⟨rfl,q,rfl⟩;have HD:=h! (hlj.out.done b3! (by have:=hp.out.at_;omega) HB.out ((Kept.refl (λ_=>False) wr).drewN q));have HP9:=h! (hp.out.drewN q);have HK9:=h! (hk.out.drewN q);go_wp2_with fail
   go_ret
   exact⟨_,rfl,HK9.out,HD.out.1,j,er',HP9.out,HD.out.2⟩
  ·obtain⟨rfl,hmore,acc,f,ho,hf,hg,hal⟩:=hlj.out.go HB.out
   have HG:=h! hg;have HF:=h! hf;have HMO:=h! hmore;obtain⟨ys,how,hyl,hone1,hold⟩:=ho;have HON:=h! hone1;have HOW:=h! how;have HYL:=h! hyl;have HOLD:=h! hold;have hog:=h! (f2! how);have hol:=h! (c2! how);have hjt:=hp.out.at_;have hal2:=hal;have hal2x:=h! hal;obtain⟨an,HAN⟩:∃an,Hid (acc.length=an):=⟨_,rfl⟩
   rw[show acc.length=an from HAN.out]at how hal2;have HOA:=h! how;have HLMw:=h! (LM_eq hp.out);clear hmore hg hf hal how hyl hold hlj hone1;obtain⟨jt,HJT⟩:∃n,Hid (ts.length=n):=⟨_,rfl⟩
   rw[show ts.length=jt from HJT.out]at hjt lim;go_wp2_with fail;refine HM.out.mono ?_;rintro e w1⟨rfl,q,rfl⟩;have CO:=h! (HONE.out j (wr.drewN q) (hp.out.drewN q) HMO.out);have K1:=h! ((Kept.refl (λ_=>False) wr).drewN q);have zq:(wr.drewN q).heap.size=wr.heap.size:=rfl;generalize wr.drewN q=w1 at*;go_wp2_with fail;refine CO.out.mono ?_;rintro e w2⟨v2,rfl,k2,⟨s,a1,b1,c1,rfl⟩,j2,er2,p2,ps2⟩;obtain⟨i0,hi0,hz0,hz1,hz2⟩:=info_parts a74!;have z2:=k2.size;have hgg:=hp.out.blk.lt;have KG:Hid (∀z,u5.ownBlock=some z->z≠g):=λz e hz=>by have:=hog.out z e;omega
   have F2:=h! ((K1.out.mono (T:=λz=>z=g) (λ_ _ h=>h.elim)).then_ k2 (λ_ _ h=>h));have o2:=h! (World.ownsRow.alloc (a6! HOA.out F2.out KG.out) (.cells #[.string s,.I a1,.I b1,.I c1] 89));have RD:=h! (d1! w2 89 #[.string s,.I a1,.I b1,.I c1] 4 rfl);have ONE:Hid (∀u∈([.string s,.I a1,.I b1,.I c1]:List Value),u.oneCell'=true):=by
    intro u hu
    simp only[List.mem_cons,List.not_mem_nil,or_false]at hu
    rcases hu with rfl|rfl|rfl|rfl<;>rfl
   have za:=z! w2 (.cells #[.string s,.I a1,.I b1,.I c1] 89);have P2:=h! p2;have PS2:=h! ps2;have K2:=h! k2;clear p2 ps2 k2
   go_wp2_with (at_builtin;refine e5! _ rfl (.tmp 8) (.tmp 11) 45 rfl w.heap.size 89 i0 _ 4 40 Tryz.underlying45 hi0 hz0 hz1 hz2 rfl (by omega) _ an ys rfl o2.out _ _ 1 1 [.string s,.I a1,.I b1,.I c1] rfl RD.out ONE.out (by unfold maxLen;omega) (by omega) (by simp;omega) ?_;intro v8 w8 o8 g8 at8)
   have K8:Kept (λz=>u5.ownBlock=some z) w2 w8:=((Kept.refl (λz=>u5.ownBlock=some z) w2).alloc _).then_ (Kept.of_grown g8 (λ_ e=>e)) (λ_ _ e=>e);have ho8:=o8;rw[<-show acc.length=an from HAN.out]at ho8;have KG8:Hid (Kept (λz=>z=g) w w8):=(hk.out.then_ F2.out (λ_ _ e=>e)).then_ K8 (λz hz e=>by have:=hog.out z e;omega);have HP8:Hid (Par w8 g A c m ts j2 dp er2):=HP.out.put P2.out.at_ (P2.out.blk.kept K8 (λe=>KG.out g e rfl)) KG8.out;have HL8:Hid (LJ 4 QV 89 w.heap.size ts (hasT [44]) one goal v8 w8 j2 er2):=by
    refine LJ.next (wr:=wr) (w2:=w2) b3! HMO.out HEAT.out (by rw[HJT.out];exact hjt) P2.out.at_ HF.out HG.out hal2x.out PS2.out (λa ha=>?_) HYL.out rfl HON.out ONE.out (by rw[HJT.out];exact lim) HOLD.out ho8 ((F2.out.mono (λz _ e=>.inl (by omega))).then_ K8 (λz _ e=>.inr e)) hol.out ?_ hwz (by omega)
    ·exact b3! _ _ _ w2 w8 _ a K8 (λk _ hk e=>by have:=hol.out k e;omega) (λk hk h=>⟨by omega,hk⟩) (HR.out _ _ a s a1 b1 c1 ha)
    ·rcases at8 with h|h
     ·exact .inl h
     ·exact .inr ⟨_,h,by omega⟩
   have HME:Hid (LM ts g w8<LM ts g wr):=by
    show LM ts g w8<LM ts g wr
    have h1:LM ts g wr=1+(ts.length-j):=by
     have:=HLMw.out
     simpa using this
    have h2:j<ts.length:=by rw[HJT.out];exact hjt
    rw[LM_eq HP8.out,h1]
    split
    ·rename_i he
     obtain⟨a,ha,_⟩:=PS2.out.ok_iff he;have:=HEAT.out _ _ _ ha;rw[List.length_drop,List.length_drop]at this
     omega
    ·omega
   clear o8 g8 at8 K8 ho8;go_wp2_with fail
   go_roundw
   case rel=>exact⟨j2,er2,HP8.out,KG8.out,HL8.out⟩
   case measure=>exact HME.out
theorem c75!:(Tryz.prog.info? 95).map (λi=>(i.zero,i.size,i.bytes))=some (some (.agg #[.I 0,.string ByteArray.empty,.N,.I 0,.I 0,.N,.N]),7,112):=by kernel_rfl
theorem c76!(d g c:Nat)(A:Option Addr)(m:Nat->Nat)(ts:List Tk)(dp:Int)(one:List Tk->PS St)(R:Nat->World->St->Value->Prop)(heat:EatsP one)
 (hR:∀(b:Nat) (w:World) (a:St) (kind:Int) (nm:ByteArray) (A1:Option Addr) (l1 c1:Nat) (lo hi:Int) (A2:Option Addr) (l2 c2:Nat) (A3:Option Addr) (l3 c3:Nat),R b w a (.agg #[.I kind,.string nm,.slice A1 l1 c1,.I lo,.I hi,.slice A2 l2 c2,.slice A3 l3 c3])->(QS d) (λk=>b<=k) w [.I kind,.string nm,.slice A1 l1 c1,.I lo,.I hi,.slice A2 l2 c2,.slice A3 l3 c3] a)
 (hone:∀(i:Nat) (w:World),Par w g A c m ts i dp 0->a7! (ts.drop i)=true->Calls Tryz.prog 92 #[.pointer (some ⟨g,0,none⟩)] w (a8! w g c A m ts dp (one (ts.drop i)) (R w.heap.size) ShSt))
 (i:Nat) (er:Int) (w:World) (h:Par w g A c m ts i dp er):
 Calls Tryz.prog 90 #[.func (.func 91) #[.pointer (some ⟨g,0,none⟩)] #[],.func (.func 92) #[.pointer (some ⟨g,0,none⟩)] #[]] w
  (a8! w g c A m ts dp (stP (λr=>listP a7! one r.length [] r) ts i er) (IsRow 7 (QS d) w.heap.size) (ShR 7)):=by
 have HMORE:=h! (λ(i:Nat) (er:Int) (w:World) (h:Par w g A c m ts i dp er)=>c70! g c A m ts i dp er w h)
 have HONE:=h! hone
 have HR:=h! hR
 have HEAT:=h! heat
 have HP:=h! h
 have lim:=h.st.lim
 have hgl:=h.blk.lt
 have HLJ:=h! (LJ.start 7 (QS d) 95 w.heap.size ts a7! one w i er)
 generalize stP (λr=>listP a7! one r.length [] r) ts i er=goal at*
 clear h hone heat hR
 go_enter Tryz.func90,Tryz.ntmps90
 go_wp2_with fail
 go_loopw [5] (λv wr=>∃(j:Nat) (er':Int),Hid (Par wr g A c m ts j dp er')∧Hid (Kept (λz=>z=g) w wr)∧Hid (LJ 7 (QS d) 95 w.heap.size ts a7! one goal v wr j er')) (λ_ wr=>LM ts g wr)
 case atStart=>exact⟨i,er,HP.out,Kept.refl _ w,HLJ.out⟩
 case round=>
  obtain⟨j,er',hp,hk,hlj⟩:=hrel;have HM:=h! (HMORE.out j er' wr hp.out);have hwz:=hk.out.size;obtain⟨b,hb⟩:∃b,stB a7! ts j er'=b:=⟨_,rfl⟩
  rw[hb]at HM;have HB:=h! hb;clear hb
  cases b
  ·go_wp2_with fail
   refine HM.out.mono ?_;rintro e w1⟨rfl,q,rfl⟩;have HD:=h! (hlj.out.done (c5! d) (by have:=hp.out.at_;omega) HB.out ((Kept.refl (λ_=>False) wr).drewN q));have HP9:=h! (hp.out.drewN q);have HK9:=h! (hk.out.drewN q);go_wp2_with fail
   go_ret
   exact⟨_,rfl,HK9.out,HD.out.1,j,er',HP9.out,HD.out.2⟩
  ·obtain⟨rfl,hmore,acc,f,ho,hf,hg,hal⟩:=hlj.out.go HB.out
   have HG:=h! hg;have HF:=h! hf;have HMO:=h! hmore;obtain⟨ys,how,hyl,hone1,hold⟩:=ho;have HON:=h! hone1;have HOW:=h! how;have HYL:=h! hyl;have HOLD:=h! hold;have hog:=h! (f2! how);have hol:=h! (c2! how);have hjt:=hp.out.at_;have hal2:=hal;have hal2x:=h! hal;obtain⟨an,HAN⟩:∃an,Hid (acc.length=an):=⟨_,rfl⟩
   rw[show acc.length=an from HAN.out]at how hal2;have HOA:=h! how;have HLMw:=h! (LM_eq hp.out);clear hmore hg hf hal how hyl hold hlj hone1;obtain⟨jt,HJT⟩:∃n,Hid (ts.length=n):=⟨_,rfl⟩
   rw[show ts.length=jt from HJT.out]at hjt lim;go_wp2_with fail;refine HM.out.mono ?_;rintro e w1⟨rfl,q,rfl⟩;have CO:=h! (HONE.out j (wr.drewN q) (hp.out.drewN q) HMO.out);have K1:=h! ((Kept.refl (λ_=>False) wr).drewN q);have zq:(wr.drewN q).heap.size=wr.heap.size:=rfl;generalize wr.drewN q=w1 at*;go_wp2_with fail;refine CO.out.mono ?_;rintro e w2⟨v2,rfl,k2,⟨kind,nm,A1,l1,c1,lo,hi,A2,l2,c2,A3,l3,c3,rfl⟩,j2,er2,p2,ps2⟩;obtain⟨i0,hi0,hz0,hz1,hz2⟩:=info_parts c75!;have z2:=k2.size;have hgg:=hp.out.blk.lt;have KG:Hid (∀z,u5.ownBlock=some z->z≠g):=λz e hz=>by have:=hog.out z e;omega
   have F2:=h! ((K1.out.mono (T:=λz=>z=g) (λ_ _ h=>h.elim)).then_ k2 (λ_ _ h=>h));have o2:=h! (World.ownsRow.alloc (a6! HOA.out F2.out KG.out) (.cells #[.I kind,.string nm,.slice A1 l1 c1,.I lo,.I hi,.slice A2 l2 c2,.slice A3 l3 c3] 95));have RD:=h! (d1! w2 95 #[.I kind,.string nm,.slice A1 l1 c1,.I lo,.I hi,.slice A2 l2 c2,.slice A3 l3 c3] 7 rfl);have ONE:Hid (∀u∈([.I kind,.string nm,.slice A1 l1 c1,.I lo,.I hi,.slice A2 l2 c2,.slice A3 l3 c3]:List Value),u.oneCell'=true):=by
    intro u hu
    simp only[List.mem_cons,List.not_mem_nil,or_false]at hu
    rcases hu with rfl|rfl|rfl|rfl|rfl|rfl|rfl<;>rfl
   have za:=z! w2 (.cells #[.I kind,.string nm,.slice A1 l1 c1,.I lo,.I hi,.slice A2 l2 c2,.slice A3 l3 c3] 95);have P2:=h! p2;have PS2:=h! ps2;have K2:=h! k2;clear p2 ps2 k2
   go_wp2_with (at_builtin;refine e5! _ rfl (.tmp 8) (.tmp 11) 46 rfl w.heap.size 95 i0 _ 7 112 Tryz.underlying46 hi0 hz0 hz1 hz2 rfl (by omega) _ an ys rfl o2.out _ _ 1 1 [.I kind,.string nm,.slice A1 l1 c1,.I lo,.I hi,.slice A2 l2 c2,.slice A3 l3 c3] rfl RD.out ONE.out (by unfold maxLen;omega) (by omega) (by simp;omega) ?_;intro v8 w8 o8 g8 at8)
   have K8:Kept (λz=>u5.ownBlock=some z) w2 w8:=((Kept.refl (λz=>u5.ownBlock=some z) w2).alloc _).then_ (Kept.of_grown g8 (λ_ e=>e)) (λ_ _ e=>e);have ho8:=o8;rw[<-show acc.length=an from HAN.out]at ho8;have KG8:Hid (Kept (λz=>z=g) w w8):=(hk.out.then_ F2.out (λ_ _ e=>e)).then_ K8 (λz hz e=>by have:=hog.out z e;omega);have HP8:Hid (Par w8 g A c m ts j2 dp er2):=HP.out.put P2.out.at_ (P2.out.blk.kept K8 (λe=>KG.out g e rfl)) KG8.out;have HL8:Hid (LJ 7 (QS d) 95 w.heap.size ts a7! one goal v8 w8 j2 er2):=by
    refine LJ.next (wr:=wr) (w2:=w2) (c5! d) HMO.out HEAT.out (by rw[HJT.out];exact hjt) P2.out.at_ HF.out HG.out hal2x.out PS2.out (λa ha=>?_) HYL.out rfl HON.out ONE.out (by rw[HJT.out];exact lim) HOLD.out ho8 ((F2.out.mono (λz _ e=>.inl (by omega))).then_ K8 (λz _ e=>.inr e)) hol.out ?_ hwz (by omega)
    ·exact(c5! d) _ _ _ w2 w8 _ a K8 (λk _ hk e=>by have:=hol.out k e;omega) (λk hk h=>⟨by omega,hk⟩) (HR.out _ _ a kind nm A1 l1 c1 lo hi A2 l2 c2 A3 l3 c3 ha)
    ·rcases at8 with h|h
     ·exact .inl h
     ·exact .inr ⟨_,h,by omega⟩
   have HME:Hid (LM ts g w8<LM ts g wr):=by
    show LM ts g w8<LM ts g wr
    have h1:LM ts g wr=1+(ts.length-j):=by
     have:=HLMw.out
     simpa using this
    have h2:j<ts.length:=by rw[HJT.out];exact hjt
    rw[LM_eq HP8.out,h1]
    split
    ·rename_i he
     obtain⟨a,ha,_⟩:=PS2.out.ok_iff he;have:=HEAT.out _ _ _ ha;rw[List.length_drop,List.length_drop]at this
     omega
    ·omega
   clear o8 g8 at8 K8 ho8;go_wp2_with fail
   go_roundw
   case rel=>exact⟨j2,er2,HP8.out,KG8.out,HL8.out⟩
   case measure=>exact HME.out
def Dumb(w:World)(g c:Nat)(A:Option Addr)(m:Nat->Nat)(ts:List Tk)(i:Nat)(dp er:Int)(e:Ending)(w':World):Prop:=
 e=.returned (.agg #[.I 0,.I 0,.E,.N])∧Kept (λz=>z=g) w w'∧Par w' g A c m ts i dp er
theorem c77!(g c:Nat)(A:Option Addr)(m:Nat->Nat)(ts:List Tk)(i:Nat)(dp er deep:Int)(w:World)(h:Par w g A c m ts i dp er)(her:er≠0):
 Calls Tryz.prog 112 #[.pointer (some ⟨g,0,none⟩),.I deep] w (Dumb w g c A m ts i dp er):=by
 obtain⟨t,ht⟩:=ParS.at_some h.at_
 obtain⟨W0,eW,f0,x0,z0⟩:=n! w 40 #[.I 0,.I 0,.E,.N]
 have H0:=h! (h.below f0)
 have HH:=h! h
 have hgl:=h.blk.lt
 have F0:=h! f0
 have X0:=h! x0
 have OP:=h! (j6! g c A m ts i dp er _ H0.out t ht)
 have WR:=h! (λw' (h':Par w' g A c m ts i dp er)=>f9! g c A m ts i dp er w' h' t ht)
 have e1:openB t er=false:=by simp[openB,nextB,hasB,her]
 have e2:b9! t er=er:=by simp[b9!,her]
 rw[e1]at OP
 rw[e2]at WR
 clear h f0 x0 e1 e2 her ht
 go_enter Tryz.func112,Tryz.ntmps112
 go_wp2_with fail
 rw[eW.out]
 clear eW
 refine OP.out.mono ?_
 rintro e w1⟨rfl,q,rfl⟩
 clear OP
 go_wp2_with fail
 refine(WR.out _ (H0.out.drewN q)).mono ?_
 rintro e w4⟨rfl,p2,k2⟩
 have x4:=(X0.out.drewN q).kept k2 (by omega)
 have P2:=h! p2
 have K2:=h! k2
 have s0:=x4.c0
 have t0:=x4.frozen 0
 have s1:=x4.c1
 have t1:=x4.frozen 1
 have s2:=x4.c2
 have t2:=x4.frozen 2
 have s3:=x4.c3
 have t3:=x4.frozen 3
 clear p2 k2 WR
 go_wp2_with fail
 clear s0 s1 s2 s3
 obtain⟨W9,e9,X9,K9⟩:=x4.e4 (.I 0) (.I 0) (.E) (.N)
 rw[e9]
 clear e9
 obtain⟨s0,s1,s2,s3⟩:=X9.A4
 have KK:Kept (λz=>z=g) w W9:=(((Kept.of_below (S:=λz=>z=g) F0.out).then_ ((Kept.refl (λz=>z=g) W0).drewN q) (λ_ _ e=>e)).then_ K2.out (λ_ _ e=>e)).then_ K9 (λz hz e=>by omega)
 refine bodyPost_ret (v:=.agg #[.I 0,.I 0,.E,.N]) (by simp[results,Tryz.results112,go_sem,s0,s1,s2,s3]) rfl ⟨rfl,KK,HH.out.put HH.out.at_ (P2.out.blk.kept K9 (by omega)) KK⟩
def JDumb(g c:Nat)(A:Option Addr)(m:Nat->Nat)(ts:List Tk)(i:Nat)(dp er:Int)(k:Nat):Prop:=
 ∀(deep lv:Int) (w:World),lv+(k:Int)=5->Par w g A c m ts i dp er->Calls Tryz.prog 77 #[.pointer (some ⟨g,0,none⟩),.I lv,.I deep] w (Dumb w g c A m ts i dp er)
theorem c78!(g c:Nat)(A:Option Addr)(m:Nat->Nat)(ts:List Tk)(i:Nat)(dp er:Int)(her:er≠0):JDumb g c A m ts i dp er 0:=by
 intro deep lv w hlv h
 obtain rfl:lv=5:=by omega
 obtain⟨W0,eW,f0,x0,z0⟩:=n! w 40 #[.I 0,.I 0,.E,.N]
 have H0:=h! (h.below f0)
 have HH:=h! h
 have hgl:=h.blk.lt
 have F0:=h! f0
 have X0:=h! x0
 have PW:=h! (λW hW=>c77! g c A m ts i dp er deep W hW her)
 clear h f0 x0 her
 go_enter Tryz.func77,Tryz.ntmps77
 go_upto_region 2 with fail
 rw[eW.out]
 clear eW
 go_wp2_with fail
 refine(PW.out _ H0.out).mono ?_
 rintro e w4⟨rfl,k4,p4⟩
 have x4:=X0.out.kept k4 (by omega)
 have K4:=h! k4
 have P4:=h! p4
 clear k4 p4 PW
 have s0:=x4.c0
 have t0:=x4.frozen 0
 have s1:=x4.c1
 have t1:=x4.frozen 1
 have s2:=x4.c2
 have t2:=x4.frozen 2
 have s3:=x4.c3
 have t3:=x4.frozen 3
 go_wp2_with fail
 clear s0 s1 s2 s3
 obtain⟨W9,e9,X9,K9⟩:=x4.e4 (.I 0) (.I 0) (.E) (.N)
 rw[e9]
 clear e9
 obtain⟨s0,s1,s2,s3⟩:=X9.A4
 have KK:Kept (λz=>z=g) w W9:=((Kept.of_below (S:=λz=>z=g) F0.out).then_ K4.out (λ_ _ e=>e)).then_ K9 (λz hz e=>by omega)
 refine bodyPost_ret (v:=.agg #[.I 0,.I 0,.E,.N]) (by simp[results,Tryz.results77,go_sem,s0,s1,s2,s3]) rfl ⟨rfl,KK,HH.out.put HH.out.at_ (P4.out.blk.kept K9 (by omega)) KK⟩
theorem p4!(g c:Nat)(A:Option Addr)(m:Nat->Nat)(ts:List Tk)(i:Nat)(dp er:Int)(her:er≠0)(k:Nat)(hk:k<5)(JC:JDumb g c A m ts i dp er k):JDumb g c A m ts i dp er (k+1):=by
 intro deep lv w hlv h
 obtain⟨W0,eW,f0,x0,z0⟩:=n! w 40 #[.I 0,.I 0,.E,.N]
 have H0:=h! (h.below f0)
 have HH:=h! h
 have hgl:=h.blk.lt
 have F0:=h! f0
 have X0:=h! x0
 have JW:=h! (λW hW=>JC deep (lv+1) W (by omega) hW)
 have w1:=y! (lv+1)
 have w5:(lv==5)=false:=by simp;omega
 have HER:=h! her
 clear h f0 x0 her hlv
 go_enter Tryz.func77,Tryz.ntmps77
 go_upto_region 3 with fail
 rw[eW.out]
 clear eW
 clear w5
 go_wp2_with fail
 refine(JW.out _ H0.out).mono ?_
 rintro e w4⟨rfl,k4,p4⟩
 have y4:=h! (Blk.new w4 40 #[.I 0,.I 0,.E,.N])
 have K4:=h! (k4.alloc (.cells #[.I 0,.I 0,.E,.N] 40))
 have P4:=h! (p4.below ((Below.refl _ w4).al (.cells #[.I 0,.I 0,.E,.N] 40)))
 have X4:=h! ((X0.out.kept k4 (by omega)).alloc (.cells #[.I 0,.I 0,.E,.N] 40))
 have z4:=k4.size
 obtain⟨r7,hr7⟩:∃r,w4.heap.size=r:=⟨_,rfl⟩
 clear k4 p4 JW
 go_upto_block 0 with fail
 rw[hr7]at y4
 generalize w4.alloc (.cells #[.I 0,.I 0,.E,.N] 40)=W4 at*
 go_cut [8] (λ_v wc=>Hid (wc=W4))
 case first=>
  have bp:=P4.out.blk;unfold a2! at bp;have c8:=bp.c8;have he8:(er==0)=false:=by have:=HER.out;simp[this]
  clear bp;go_wp2_with fail
  go_loopg [] 0 (λgk wr=>Hid (gk=0)∧Hid (wr=W4))
  case atStart=>exact⟨rfl,rfl⟩
  case round=>
   obtain⟨-,hw⟩:=hrel;have hw':=hw.out;subst hw';go_wp2_with fail;go_meet
   case rel=>rfl
 case rest=>
 have hc':=hcut.out
 subst hc'
 obtain⟨wr,rfl⟩:∃x,x=wc:=⟨_,rfl⟩
 have x4:=X4.out
 obtain⟨q0,q1,q2,q3⟩:=y4.out.A4
 have s0:=x4.c0
 have t0:=x4.frozen 0
 have s1:=x4.c1
 have t1:=x4.frozen 1
 have s2:=x4.c2
 have t2:=x4.frozen 2
 have s3:=x4.c3
 have t3:=x4.frozen 3
 go_wp2_with fail
 clear s0 s1 s2 s3
 obtain⟨W9,e9,X9,K9⟩:=x4.e4 (.I 0) (.I 0) (.E) (.N)
 rw[e9]
 clear e9
 obtain⟨s0,s1,s2,s3⟩:=X9.A4
 have KK:Kept (λz=>z=g) w W9:=((Kept.of_below (S:=λz=>z=g) F0.out).then_ K4.out (λ_ _ e=>e)).then_ K9 (λz hz e=>by omega)
 refine bodyPost_ret (v:=.agg #[.I 0,.I 0,.E,.N]) (by simp[results,Tryz.results77,go_sem,s0,s1,s2,s3]) rfl ⟨rfl,KK,HH.out.put HH.out.at_ (P4.out.blk.kept K9 (by omega)) KK⟩
theorem c79!(g c:Nat)(A:Option Addr)(m:Nat->Nat)(ts:List Tk)(i:Nat)(dp er:Int)(w:World)(h:Par w g A c m ts i dp er)(her:er≠0):
 Calls Tryz.prog 40 #[.pointer (some ⟨g,0,none⟩)] w (Dumb w g c A m ts i dp er):=by
 have J5:JDumb g c A m ts i dp er 5:=p4! g c A m ts i dp er her 4 (by omega) (p4! g c A m ts i dp er her 3 (by omega) (p4! g c A m ts i dp er her 2 (by omega) (p4! g c A m ts i dp er her 1 (by omega) (p4! g c A m ts i dp er her 0 (by omega) (c78! g c A m ts i dp er her)))))
 obtain⟨W0,eW,f0,x0,z0⟩:=n! w 40 #[.I 0,.I 0,.E,.N]
 have H0:=h! (h.below f0)
 have HH:=h! h
 have hgl:=h.blk.lt
 have F0:=h! f0
 have X0:=h! x0
 have JW:=h! (λW hW=>J5 0 0 W (by omega) hW)
 clear h f0 x0 her J5
 go_enter Tryz.func40,Tryz.ntmps40
 go_upto_region 1 with fail
 rw[eW.out]
 clear eW
 go_wp2_with fail
 refine(JW.out _ H0.out).mono ?_
 rintro e w4⟨rfl,k4,p4⟩
 have x4:=X0.out.kept k4 (by omega)
 have K4:=h! k4
 have P4:=h! p4
 clear k4 p4 JW
 have s0:=x4.c0
 have t0:=x4.frozen 0
 have s1:=x4.c1
 have t1:=x4.frozen 1
 have s2:=x4.c2
 have t2:=x4.frozen 2
 have s3:=x4.c3
 have t3:=x4.frozen 3
 go_wp2_with fail
 clear s0 s1 s2 s3
 obtain⟨W9,e9,X9,K9⟩:=x4.e4 (.I 0) (.I 0) (.E) (.N)
 rw[e9]
 clear e9
 obtain⟨s0,s1,s2,s3⟩:=X9.A4
 have KK:Kept (λz=>z=g) w W9:=((Kept.of_below (S:=λz=>z=g) F0.out).then_ K4.out (λ_ _ e=>e)).then_ K9 (λz hz e=>by omega)
 refine bodyPost_ret (v:=.agg #[.I 0,.I 0,.E,.N]) (by simp[results,Tryz.results40,go_sem,s0,s1,s2,s3]) rfl ⟨rfl,KK,HH.out.put HH.out.at_ (P4.out.blk.kept K9 (by omega)) KK⟩
theorem p5!(g c:Nat)(A:Option Addr)(m:Nat->Nat)(ts:List Tk)(i:Nat)(dp er:Int)(w:World)(h:Par w g A c m ts i dp er):
 Calls Tryz.prog 40 #[.pointer (some ⟨g,0,none⟩)] w (a8! w g c A m ts dp (stP exprP ts i er) (IsEl QE w.heap.size) ShE):=by
 by_cases her:er=0
 ·subst her
  refine(a69! g c A m ts i dp w h).mono ?_;rintro e w1⟨op,N,nm,B,l,k,rfl,k1,i1,er1,hi1,hb1,hp⟩;refine⟨_,rfl,k1,⟨op,N,nm,B,l,k,rfl⟩,i1,er1,h.put hi1 hb1 k1,?_⟩;unfold stP exprP;rw[if_pos rfl];generalize joinL (a0! 16) 5 (ts.drop i)=pr at*
  cases pr with
  |ok x r=>exact⟨hp.1,hp.2.1,_,rfl,hp.2.2⟩
  |bad r e=>exact⟨hp.1,hp.2.1,hp.2.2⟩
 ·refine(c79! g c A m ts i dp er w h her).mono ?_
  rintro e w1⟨rfl,k1,p1⟩;refine⟨_,rfl,k1,⟨0,0,_,none,0,0,rfl⟩,i,er,p1,?_⟩;unfold stP;rw[if_neg her];exact⟨rfl,rfl,her⟩
end Go.Proofs.YtdgekckedchjbaaGreatDoor
