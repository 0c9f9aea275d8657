
/-
 The document's levels and ops (out of G4). The document's parser of expressions: level. (Printed by wip/tools/gend6.py.) The document's parser of expressions: its induction; baizeref10.Expression. (Printed by wip/tools/gend7.py.)
-/
import Derived.Test.YtdgekckedchjbaaGreatDoorD5
import Derived.Deep.DeepCutAuto
import Derived.Deep.RegionHeld3
set_option maxHeartbeats 2000000
set_option maxRecDepth 100000
namespace Go.Proofs.YtdgekckedchjbaaGreatDoor
open Go.RowKit
def lvN:Nat->Nat
 |0=>1
 |1=>1
 |2=>6
 |3=>2
 |_=>3
def a19!(k:Nat):List Value:=(lvlT k).map λp=>.I p.2
def a20!(k:Nat):List Value:=(lvlT k).map λp=>.string (str p.1)
def a21!(row:Nat->List Value)(t t2:TypeId)(w:World)(e:Ending)(w':World):Prop:=∃g:Nat,e=.returned (.slice (some ⟨g,0,none⟩) 5 5)∧Below w.heap.size w w'∧∃r:Nat->Nat,Blk w' g t2 #[.slice (some ⟨r 0,0,none⟩) (lvN 0) (lvN 0),.slice (some ⟨r 1,0,none⟩) (lvN 1) (lvN 1),.slice (some ⟨r 2,0,none⟩) (lvN 2) (lvN 2),.slice (some ⟨r 3,0,none⟩) (lvN 3) (lvN 3),.slice (some ⟨r 4,0,none⟩) (lvN 4) (lvN 4)]∧∀k,k<5->Blk w' (r k) t (row k).toArray
theorem b44!(w:World)(t t2:TypeId)(a0 a1 a2 a3 a4 b:Array Value):
 Below w.heap.size w ((((((w.alloc (.cells a0 t)).alloc (.cells a1 t)).alloc (.cells a2 t)).alloc (.cells a3 t)).alloc (.cells a4 t)).alloc (.cells b t2))∧
 Blk ((((((w.alloc (.cells a0 t)).alloc (.cells a1 t)).alloc (.cells a2 t)).alloc (.cells a3 t)).alloc (.cells a4 t)).alloc (.cells b t2)) (w.heap.size+5) t2 b∧
 Blk ((((((w.alloc (.cells a0 t)).alloc (.cells a1 t)).alloc (.cells a2 t)).alloc (.cells a3 t)).alloc (.cells a4 t)).alloc (.cells b t2)) w.heap.size t a0∧
 Blk ((((((w.alloc (.cells a0 t)).alloc (.cells a1 t)).alloc (.cells a2 t)).alloc (.cells a3 t)).alloc (.cells a4 t)).alloc (.cells b t2)) (w.heap.size+1) t a1∧
 Blk ((((((w.alloc (.cells a0 t)).alloc (.cells a1 t)).alloc (.cells a2 t)).alloc (.cells a3 t)).alloc (.cells a4 t)).alloc (.cells b t2)) (w.heap.size+2) t a2∧
 Blk ((((((w.alloc (.cells a0 t)).alloc (.cells a1 t)).alloc (.cells a2 t)).alloc (.cells a3 t)).alloc (.cells a4 t)).alloc (.cells b t2)) (w.heap.size+3) t a3∧
 Blk ((((((w.alloc (.cells a0 t)).alloc (.cells a1 t)).alloc (.cells a2 t)).alloc (.cells a3 t)).alloc (.cells a4 t)).alloc (.cells b t2)) (w.heap.size+4) t a4:=by
 have b1:=a! w (.cells a0 t)
 have b2:=b1.alloc (o:=.cells a1 t) b1.size
 have b3:=b2.alloc (o:=.cells a2 t) b2.size
 have b4:=b3.alloc (o:=.cells a3 t) b3.size
 have b5:=b4.alloc (o:=.cells a4 t) b4.size
 have b6:=b5.alloc (o:=.cells b t2) b5.size
 obtain⟨x0,x1,x2⟩:=u8! w t t t a0 a1 a2
 have z3:(((w.alloc (.cells a0 t)).alloc (.cells a1 t)).alloc (.cells a2 t)).heap.size=w.heap.size+3:=by simp
 obtain⟨y0,y1,y2⟩:=u8! (((w.alloc (.cells a0 t)).alloc (.cells a1 t)).alloc (.cells a2 t)) t t t2 a3 a4 b
 rw[z3]at y0 y1 y2
 exact⟨b6,y2,((x0.alloc _).alloc _).alloc _,((x1.alloc _).alloc _).alloc _,((x2.alloc _).alloc _).alloc _,y0,y1⟩
theorem e01!(w:World):Calls Tryz.prog 121 #[] w (a21! a19! 3 30 w):=by
 go_enter Tryz.func121,Tryz.ntmps121
 go_wp2_with fail
 go_ret
 obtain⟨h0,h1,h2,h3,h4,h5,h6⟩:=b44! w 3 30 #[.I 17] #[.I 16] #[.I 10,.I 11,.I 12,.I 13,.I 14,.I 15] #[.I 8,.I 9] #[.I 5,.I 6,.I 7] #[.slice (some ⟨w.heap.size,0,none⟩) 1 1,.slice (some ⟨w.heap.size+1,0,none⟩) 1 1,.slice (some ⟨w.heap.size+2,0,none⟩) 6 6,.slice (some ⟨w.heap.size+3,0,none⟩) 2 2,.slice (some ⟨w.heap.size+4,0,none⟩) 3 3]
 refine⟨w.heap.size+5,rfl,h0,λk=>w.heap.size+k,h1,λk hk=>?_⟩
 match k,hk with
 |0,_=>exact h2
 |1,_=>exact h3
 |2,_=>exact h4
 |3,_=>exact h5
 |4,_=>exact h6
 |k+5,h=>exact absurd h (by omega)
theorem b45!(w:World):Calls Tryz.prog 120 #[] w (a21! a20! 9 59 w):=by
 go_enter Tryz.func120,Tryz.ntmps120
 go_wp2_with fail
 go_ret
 obtain⟨h0,h1,h2,h3,h4,h5,h6⟩:=b44! w 9 59 #[.string ⟨#[111,114]⟩] #[.string ⟨#[97,110,100]⟩] #[.string ⟨#[61]⟩,.string ⟨#[33,61]⟩,.string ⟨#[60]⟩,.string ⟨#[60,61]⟩,.string ⟨#[62]⟩,.string ⟨#[62,61]⟩] #[.string ⟨#[43]⟩,.string ⟨#[45]⟩] #[.string ⟨#[42]⟩,.string ⟨#[47]⟩,.string ⟨#[37]⟩] #[.slice (some ⟨w.heap.size,0,none⟩) 1 1,.slice (some ⟨w.heap.size+1,0,none⟩) 1 1,.slice (some ⟨w.heap.size+2,0,none⟩) 6 6,.slice (some ⟨w.heap.size+3,0,none⟩) 2 2,.slice (some ⟨w.heap.size+4,0,none⟩) 3 3]
 refine⟨w.heap.size+5,rfl,h0,λk=>w.heap.size+k,h1,λk hk=>?_⟩
 match k,hk with
 |0,_=>exact h2
 |1,_=>exact h3
 |2,_=>exact h4
 |3,_=>exact h5
 |4,_=>exact h6
 |k+5,h=>exact absurd h (by omega)
end Go.Proofs.YtdgekckedchjbaaGreatDoor
set_option maxHeartbeats 4000000
set_option maxRecDepth 100000
namespace Go.Proofs.YtdgekckedchjbaaGreatDoor
open Go.RowKit
variable {g i j k:Nat} {t:TypeId} {r ts:List Tk} {er op:Int} {w w':World} {S:Nat->Prop}
def opTo(l:List (List UInt8×Int))(r:List Tk):Int:=l.foldl (λa p=>if hasT p.1 r=true then p.2 else a) (-1)
theorem e02!(l:List (List UInt8×Int))(p:List UInt8×Int)(r:List Tk):opTo (l++[p]) r=if hasT p.1 r=true then p.2 else opTo l r:=by
 unfold opTo
 rw[List.foldl_append]
 rfl
theorem b46!{t:Tk}{r:List Tk}:∀(l:List (List UInt8×Int)) (a:Int),(l.map Prod.fst).Nodup->(∀p∈l,t.text=p.1->t.kind=3∨t.kind=4)->l.foldl (λa p=>if hasT p.1 (t::r)=true then p.2 else a) a=(l.lookup t.text).getD a
 |[],a,_,_=>rfl
 |(x,o)::l,a,hn,hk=>by
  rw[List.map_cons,List.nodup_cons]at hn;have ih:=λa=>b46! (r:=r) l a hn.2 (λp hp=>hk p (List.mem_cons_of_mem _ hp))
  rw[List.foldl_cons,List.lookup_cons,ih]
  by_cases hx:t.text=x
  ·have h1:hasT x (t::r)=true:=by
    have:=hk (x,o) (List.mem_cons_self ..) hx
    simp only[hasT,Bool.and_eq_true,Bool.or_eq_true,decide_eq_true_eq]
    exact⟨this,hx⟩
   have h2:l.lookup t.text=none:=by
    rw[List.lookup_eq_none_iff]
    intro p hp
    have hne:t.text≠p.1:=λe=>hn.1 (List.mem_map.2 ⟨p,hp,by rw[<-e,hx]⟩)
    simpa using hne
   rw[if_pos h1,h2,hx]
   simp
  ·have h1:¬hasT x (t::r)=true:=by
    intro h
    exact hx (v8! h).2
   have h2:(t.text==x)=false:=by simpa using hx
   rw[if_neg h1,h2]
theorem w0!(k:Nat)(hk:k<5):((lvlT k).map Prod.fst).Nodup∧(∀p∈lvlT k,p.1∈m4!∧0<=p.2∧p.2<=17)∧(lvlT k).length=lvN k:=by
 match k,hk with
 |0,_=>decide
 |1,_=>decide
 |2,_=>decide
 |3,_=>decide
 |4,_=>decide
 |k+5,h=>exact absurd h (by omega)
theorem e03!(hk:k<5){t:Tk}(hm:t.text∈m4!->t.kind=3∨t.kind=4):opTo (lvlT k) (t::r)=(opAt k (t::r)).getD (-1):=
 b46! (lvlT k) (-1) (w0! k hk).1 (λp hp e=>hm (by rw[e];exact((w0! k hk).2.1 p hp).1))
theorem e04!{l:List (List UInt8×Int)}{x:List UInt8}{v:Int}(h:l.lookup x=some v):(x,v)∈l:=by
 induction l with
 |nil=>cases h
 |cons p l ih=>
  obtain⟨a,b⟩:=p;rw[List.lookup_cons]at h
  split at h
  ·rename_i e
   injection h with h;rw[h,show x=a from by simpa using e];exact List.mem_cons_self ..
  ·exact List.mem_cons_of_mem _ (ih h)
theorem e05!(hk:k<5){t:Tk}(h:opAt k (t::r)=some op):t.text∈m4!∧0<=op∧op<=17:=by
 have:=(w0! k hk).2.1 _ (e04! h)
 exact this
theorem a22!{row:Nat->List Value}{t2:TypeId}{e:Ending}(h:a21! row t t2 w e w'):∃g:Nat,e=.returned (.slice (some ⟨g,0,none⟩) 5 5)∧Below w.heap.size w w'∧∃r:Nat->Nat,(∀k,k<5->w'.cell? ⟨g,k,none⟩=some (.slice (some ⟨r k,0,none⟩) (lvN k) (lvN k)))∧∀k j,k<5->w'.cell? ⟨r k,j,none⟩=(row k)[j]?:=by
 obtain⟨g,h1,h2,r,h3,h4⟩:=h
 refine⟨g,h1,h2,r,λk hk=>?_,λk j hk=>?_⟩
 ·match k,hk with
  |0,_=>exact h3.cell 0
  |1,_=>exact h3.cell 1
  |2,_=>exact h3.cell 2
  |3,_=>exact h3.cell 3
  |4,_=>exact h3.cell 4
  |k+5,h=>exact absurd h (by omega)
 ·rw[(h4 k hk).cell j]
  simp
theorem e06!(hj:j<(lvlT k).length):(a20! k)[j]?=some (.string (str (lvlT k)[j].1)):=by simp[a20!,hj]
theorem e07!(hj:j<(lvlT k).length):(a19! k)[j]?=some (.I (lvlT k)[j].2):=by simp[a19!,hj]
def LMd(ts:List Tk)(g:Nat)(w:World):Nat:=match w.cell? ⟨g,2,none⟩,w.cell? ⟨g,1,none⟩with
 |some (.int _ 0),some (.int _ i)=>1+(ts.length-i.toNat)
 |_,_=>0
theorem w1!{c:Nat}{A:Option Addr}(h:DP w g A c ts i er):LMd ts g w=if er=0 then 1+(ts.length-i)else 0:=by
 unfold LMd
 have e1:=h.blk.c1
 have e2:=h.blk.c2
 rw[e1,e2]
 by_cases he:er=0
 ·subst he
  rw[if_pos rfl]
  simp
 ·rw[if_neg he]
  split
  ·rename_i h1 _
   injection h1 with h1;injection h1 with _ h1;exact absurd h1 he
  ·rfl
def LRes(D:Nat->Prop)(k:Nat)(next:List Tk->PR)(ts:List Tk)(p:PR)(i:Nat)(er:Int)(cs:List Value)(w:World):Prop:=
 (er=0∧∃x:Ex,p=loopJ k next (ts.drop i).length x (ts.drop i)∧GC D w 2513169434843 x.dep cs x.gx)∨(er≠0∧∃r e,p=.bad r e)
theorem LRes.kept{D E:Nat->Prop}{next:List Tk->PR}{p:PR}{cs:List Value}(h:LRes D k next ts p i er cs w)(hk:Kept S w w')(hs:∀z,z<w.heap.size->D z->¬S z)(hE:∀z,z<w.heap.size->D z->E z):LRes E k next ts p i er cs w':=by
 rcases h with⟨h1,x,h2,h3⟩|h
 ·exact .inl ⟨h1,x,h2,GC.kept hk hs hE _ _ _ h3⟩
 ·exact .inr h
section
variable {D:Nat->Prop} {base k:Nat} {next:List Tk->PR} {ts:List Tk} {p:PR} {i i9:Nat} {er er9:Int} {cs cs2:List Value} {w w':World}
theorem LRes.start{m:Nat}{f:List Tk->PR}{i0:Nat}(h:DRes base ts (joinL f m (ts.drop i0)) i er cs w)(hm:k+m=4):LRes (λz=>base<=z) k (joinL f m) ts (joinL f (m+1) (ts.drop i0)) i er cs w:=by
 rcases h with⟨h1,x,h2,h3⟩|⟨h1,r,e,h2⟩
 ·refine .inl ⟨h1,x,?_,h3⟩
  rw[joinL,h2,show 4-m=k by omega]
 ·exact .inr ⟨h1,r,e,by rw[joinL,h2]⟩
theorem LRes.bad(h:LRes D k next ts p i er cs w)(he:er≠0):DRes base ts p i er cs w:=by
 rcases h with⟨h1,_⟩|h
 ·exact absurd h1 he
 ·exact .inr h
theorem LRes.none_(h:LRes D k next ts p i 0 cs w)(hi:i<ts.length)(ho:opAt k (ts.drop i)=none)(hE:∀z,D z->base<=z):DRes base ts p i 0 cs w:=by
 rcases h with⟨_,x,h2,h3⟩|⟨h,_⟩
 ·refine .inl ⟨rfl,x,?_,GC.kept (Kept.refl (λ_=>False) w) (λ_ _ _ e=>e) (λz _ hz=>hE z hz) _ _ _ h3⟩
  obtain⟨n,hn⟩:∃n,(ts.drop i).length=n+1:=⟨(ts.drop i).length-1,by rw[List.length_drop];omega⟩
  rw[h2,hn,loopJ,ho]
 ·exact absurd rfl h
theorem DRes.toD(h:DRes base ts p i er cs w)(hk:Kept S w w')(hs:∀z,z<w.heap.size->base<=z->¬S z)(hE:∀z,z<w.heap.size->base<=z->D z):(er=0∧∃y:Ex,p=.ok y (ts.drop i)∧GC D w' 2513169434843 y.dep cs y.gx)∨(er≠0∧∃r e,p=.bad r e):=by
 rcases h with⟨h1,x,h2,h3⟩|h
 ·exact .inl ⟨h1,x,h2,GC.kept hk hs hE _ _ _ h3⟩
 ·exact .inr h
theorem e08!{c1 c2:List Value}{x y:Ex}(hb:Blk w g t (List.toArray (c1++c2)))(hD:D g)(hl:c1.length=4)(hl2:c2.length=4)(h:GC D w 2513169434843 x.dep c1 x.gx)(h2:GC D w 2513169434843 y.dep c2 y.gx):
 GC D w 2513169434843 (Ex.bin op x y).dep [.I op,.I 0,.E,.slice (some ⟨g,0,none⟩) 2 2] (Ex.bin op x y).gx:=
 ⟨_,_,_,rfl,p2! (by omega) hb hD hl hl2 (h.deeper (Nat.le_max_left _ _)) (h2.deeper (Nat.le_max_right _ _))⟩
theorem LRes.step(hn:Eats next)(h:LRes D k next ts p i 0 cs w)(hi:i+1<ts.length)(ho:opAt k (ts.drop i)=some op)(h9:(er9=0∧∃y:Ex,next (ts.drop (i+1))=.ok y (ts.drop i9)∧GC D w 2513169434843 y.dep cs2 y.gx)∨(er9≠0∧∃r e,next (ts.drop (i+1))=.bad r e))(hE:∀z,D z->base<=z)(hb:Blk w g t (List.toArray (cs++cs2)))(hD:D g)(hl:cs.length=4)(hl2:cs2.length=4):
 (k≠2->LRes D k next ts p i9 er9 [.I op,.I 0,.E,.slice (some ⟨g,0,none⟩) 2 2] w)∧(k=2->DRes base ts p i9 er9 [.I op,.I 0,.E,.slice (some ⟨g,0,none⟩) 2 2] w)∧(er9=0->i9<ts.length->i+1<i9):=by
 rcases h with⟨_,x,h2,h3⟩|⟨h,_⟩
 ·have hd:ts.drop i=ts[i]'(by omega)::ts.drop (i+1):=List.drop_eq_getElem_cons (by omega)
  obtain⟨n,hn1⟩:∃n,(ts.drop i).length=n+1:=⟨(ts.drop i).length-1,by rw[List.length_drop];omega⟩
  have hnl:n=ts.length-(i+1):=by rw[List.length_drop]at hn1;omega
  have ht:(ts.drop i).tail=ts.drop (i+1):=by rw[List.tail_drop]
  rw[hn1,loopJ,ho]at h2
  simp only at h2
  rw[ht]at h2;rcases h9 with⟨e9,y,q2,q3⟩|⟨e9,r,e,q2⟩
  ·rw[q2]at h2
   simp only at h2
   have heat:=hn _ _ _ q2;rw[List.length_drop,List.length_drop]at heat;have hg:=e08! (op:=op) hb hD hl hl2 h3 q3;refine⟨λhk=>.inl ⟨e9,_,?_,hg⟩,λhk=>.inl ⟨e9,_,?_,GC.kept (Kept.refl (λ_=>False) w) (λ_ _ _ e=>e) (λz _ hz=>hE z hz) _ _ _ hg⟩,λ_ h=>by omega⟩
   ·rw[if_neg hk]at h2
    rw[h2];exact u0! hn _ (ts.drop i9) (Nat.le_refl _) n _ (by rw[List.length_drop];omega)
   ·rw[if_pos hk]at h2
    exact h2
  ·rw[q2]at h2
   exact⟨λ_=>.inr ⟨e9,_,_,h2⟩,λ_=>.inr ⟨e9,_,_,h2⟩,λh=>absurd h e9⟩
 ·exact absurd rfl h
end
theorem e09!(g c:Nat)(A:Option Addr)(ts:List Tk)(d:Nat)(HP:v9! g c A ts d):r0! g c A ts d 5:=by
 intro dp i w hdp h
 have HPP:=h! HP
 clear HP
 have HH:=h! h
 have hgl:=h.blk.lt
 have hlim:=h.lim
 have hat:=h.at_
 have x1:=Blk.new w 24 #[.I 0,.I 0,.E,.N]
 have f1:=a! w (.cells #[.I 0,.I 0,.E,.N] 24)
 have D1:=h! (h.below f1)
 have K1:=o! g f1
 have X1:=h! x1
 clear h
 go_enter Tryz.func81,Tryz.ntmps81
 go_upto_region 1 with fail
 generalize w.alloc (.cells #[.I 0,.I 0,.E,.N] 24)=W1 at*
 clear x1 f1
 have PL:=h! (HPP.out dp i W1 hdp D1.out)
 go_wp2_with fail
 refine PL.out.mono ?_
 rintro e w4⟨op4,N4,nm4,B4,l4,k4,i4,er4,rfl,d4,kk4,r4⟩
 have D4:=h! d4
 have K4:=q! K1 kk4
 have X4:=k! X1 kk4
 have hw2:=X1.out.lt
 have R4:=h! (r4.kept (base':=w.heap.size+1) (Kept.refl (λ_=>False) w4) (λ_ _ _ e=>e) (by omega))
 clear d4 kk4 r4 PL
 have v0:=X4.out.c0
 have y0:=X4.out.frozen 0
 have v1:=X4.out.c1
 have y1:=X4.out.frozen 1
 have v2:=X4.out.c2
 have y2:=X4.out.frozen 2
 have v3:=X4.out.c3
 have y3:=X4.out.frozen 3
 go_wp2_with fail
 clear v0 v1 v2 v3 y0 y1 y2 y3
 obtain⟨W9,e9,Y9,K9⟩:=X4.out.e4 (.I op4) (.I N4) (.string nm4) (.slice B4 l4 k4)
 rw[e9]
 clear e9
 obtain⟨s0,s1,s2,s3⟩:=Y9.A4
 refine bodyPost_ret (v:=.agg #[.I op4,.I N4,.string nm4,.slice B4 l4 k4]) (by simp[results,Tryz.results81,go_sem,s0,s1,s2,s3]) rfl ?_
 obtain⟨d9,k9,r9⟩:=c1! HH.out D4.out K4.out K9 R4.out
 exact⟨_,_,_,_,_,_,_,_,rfl,d9,k9,r9⟩
theorem e10!(g c:Nat)(A:Option Addr)(ts:List Tk)(d k:Nat)(hk5:k<5)(HL:r0! g c A ts d (k+1)):r0! g c A ts d k:=by
 intro dp i0 w hdp h
 have HLL:=h! HL
 obtain⟨m,hm⟩:∃m,k+m=4:=⟨4-k,by omega⟩
 have HEAT:=h! (n0! (t9! d) m)
 have HK2:=h! (w0! k hk5)
 rw[show 5-k=m+1 by omega]
 clear HL
 have HH:=h! h
 have hgl:=h.blk.lt
 have hlim:=h.lim
 have hat:=h.at_
 have wk1:=y! ((k:Int)+1)
 have nk5:¬(k:Int)=5:=by omega
 have z0:(0:Int)<=(k:Int):=by omega
 have z5:(k:Int)<5:=by omega
 have x1:=Blk.new w 24 #[.I 0,.I 0,.E,.N]
 have f1:=a! w (.cells #[.I 0,.I 0,.E,.N] 24)
 have D1:=h! (h.below f1)
 have K1:=o! g f1
 have X1:=h! x1
 clear h
 go_enter Tryz.func81,Tryz.ntmps81
 go_upto_region 1 with fail
 generalize w.alloc (.cells #[.I 0,.I 0,.E,.N] 24)=W1 at*
 clear x1 f1
 have LV:=h! (HLL.out dp i0 W1 hdp D1.out)
 rw[show 5-(k+1)=m by omega]at LV
 go_wp2_with fail
 refine LV.out.mono ?_
 rintro e w2⟨op2,N2,nm2,B2,l2,k2,i2,er2,rfl,d2,kk2,r2⟩
 have hw1:=X1.out.lt
 have D2:=h! d2
 have K2:=q! K1 kk2
 have X2:=k! X1 kk2
 have R2:=h! r2
 clear d2 kk2 r2 LV
 have y3:=Blk.new w2 24 #[.I op2,.I N2,.string nm2,.slice B2 l2 k2]
 have f3:=a! w2 (.cells #[.I op2,.I N2,.string nm2,.slice B2 l2 k2] 24)
 have D3:=h! (D2.out.below f3)
 have K3:=e! K2 f3
 have X3:=b! X2 f3
 have Y3:=h! y3
 have R3:=h! ((LRes.start (k:=k) R2.out hm).kept (E:=λz=>w.heap.size+1<=z∧z≠w2.heap.size) (Kept.of_below (S:=λ_=>False) f3) (λ_ _ _ e=>e) (λz hz hb=>⟨by omega,by omega⟩))
 have hbe:=X2.out.lt
 go_wp2_with fail
 obtain⟨be,hbe2⟩:∃b,w2.heap.size=b:=⟨_,rfl⟩
 generalize joinL (a0! d) (m+1) (ts.drop i0)=P0 at*
 generalize w2.alloc (.cells #[.I op2,.I N2,.string nm2,.slice B2 l2 k2] 24)=W3 at*
 rw[hbe2]at Y3 R3 hbe
 rw[hbe2]
 clear y3 f3 hbe2 R2 D2 K2 X2
 go_loopw [8] (λ_ wr=>∃(i:Nat) (er op N:Int) (nm:ByteArray) (B:Option Addr) (l kk:Nat),Hid (DP wr g A c ts i er)∧Hid (Kept (λz=>z=g) w wr)∧Hid (Blk wr w.heap.size 24 #[.I 0,.I 0,.E,.N])∧Hid (Blk wr be 24 #[.I op,.I N,.string nm,.slice B l kk])∧Hid (LRes (λz=>w.heap.size+1<=z∧z≠be) k (joinL (a0! d) m) ts P0 i er [.I op,.I N,.string nm,.slice B l kk] wr)) (λ_ wr=>LMd ts g wr)
 case atStart=>exact⟨i2,er2,op2,N2,nm2,B2,l2,k2,D3.out,K3.out,X3.out,Y3.out,R3.out⟩
 case round=>
  obtain⟨i,er,op,N,nm,B,l,kk,DD,KK,XX,YY,RR⟩:=hrel;obtain⟨wo,rfl⟩:∃x,x=wr:=⟨_,rfl⟩
  have c2:=DD.out.blk.c2
  by_cases he:er=0
  rotate_left
  ·have he':((er:Int)==0)=false:=by simp[he]
   have RB:Hid (DRes (w.heap.size+1) ts P0 i er [.I op,.I N,.string nm,.slice B l kk] wo):=RR.out.bad he;have p0:=YY.out.cell 0;have p1:=YY.out.cell 1;have p2:=YY.out.cell 2;have p3:=YY.out.cell 3;have v0:=XX.out.c0;have y0:=XX.out.frozen 0;have v1:=XX.out.c1;have y1:=XX.out.frozen 1;have v2:=XX.out.c2;have y2:=XX.out.frozen 2;have v3:=XX.out.c3;have y3:=XX.out.frozen 3;go_wp2_with fail;clear p0 p1 p2 p3 v0 v1 v2 v3 y0 y1 y2 y3;obtain⟨W9,e9,Y9,K9⟩:=XX.out.e4 (.I op) (.I N) (.string nm) (.slice B l kk);rw[e9];clear e9;obtain⟨s0,s1,s2,s3⟩:=Y9.A4;refine bodyPost_ret (v:=.agg #[.I op,.I N,.string nm,.slice B l kk]) (by simp[results,Tryz.results81,go_sem,s0,s1,s2,s3]) rfl ?_;obtain⟨d9,k9,r9⟩:=c1! HH.out DD.out KK.out K9 RB.out;exact⟨_,_,_,_,_,_,_,_,rfl,d9,k9,r9⟩
  subst he;obtain⟨t,ht⟩:=DD.out.one;have HTK:=h! ht;have HDT:=h! (a1! ht);have hio:=DD.out.at_;have HMK:Hid (t.text∈m4!->t.kind=3∨t.kind=4):=DD.out.mark t (List.mem_of_getElem? ht);have hwo:=KK.out.size;have hxo:=XX.out.lt;clear ht;go_wp2_with fail;clear c2
  go_loopw [8,9] (λov iv wq=>∃j:Nat,j<=lvN k∧iv=.I j∧ov=.I (opTo ((lvlT k).take j) (ts.drop i))∧Hid (Below wo.heap.size wo wq)) (λ_ iv _=>lvN k-(intOf iv).toNat)
  case atStart=>exact⟨0,by omega,rfl,by simp[opTo],Below.refl _ _⟩
  case round=>
   obtain⟨j,hj,rfl,rfl,hbq⟩:=hrel;obtain⟨wq,rfl⟩:∃x,x=wr:=⟨_,rfl⟩
   obtain⟨ov,hov⟩:∃x,opTo ((lvlT k).take j) (ts.drop i)=x:=⟨_,rfl⟩
   rw[hov];have HOV:=h! hov;have LE:=h! (b45! wq);have hlv:lvN k<=6:=by
    match k,hk5 with
    |0,_=>decide
    |1,_=>decide
    |2,_=>decide
    |3,_=>decide
    |4,_=>decide
    |k+5,h=>exact absurd h (by omega)
   clear hov;go_wp2_with fail;refine LE.out.mono ?_;rintro e w5 h5;obtain⟨g5,rfl,b5,r5,q5,-⟩:=a22! h5;have qk5:=q5 k hk5;have F5:=r! hbq b5;clear b5 q5 h5 LE
   by_cases hjl:j<lvN k
   ·have hjt:j<(lvlT k).length:=by rw[HK2.out.2.2];exact hjl
    have LE2:=h! (b45! w5);have hjz:(0:Int)<=(j:Int):=by omega
    have hjz2:(j:Int)<(lvN k:Int):=by omega
    go_wp2_with fail;refine LE2.out.mono ?_;rintro e w6 h6;obtain⟨g6,rfl,b6,r6,q6,q6'⟩:=a22! h6;have qk6:=q6 k hk5;have qm6:=(q6' k j hk5).trans (e06! hjt);have F6:=r! F5 b6;have IS:=h! (d3! g c A ts i 0 (str (lvlT k)[j].1) w6 (DD.out.below F6.out));rw[str_list]at IS;obtain⟨bm,hbm⟩:∃b,hasT (lvlT k)[j].1 (ts.drop i)=b:=⟨_,rfl⟩
    rw[hbm]at IS;have HNX:Hid (opTo ((lvlT k).take (j+1)) (ts.drop i)=if bm=true then (lvlT k)[j].2 else ov):=by
     rw[Hid,List.take_succ_eq_append_getElem hjt,e02!,hbm,HOV.out]
    generalize hmj:(lvlT k)[j].1=mj at*;generalize hoj:(lvlT k)[j].2=oj at*;have HOJ:=h! hoj;clear b6 q6 q6' h6 LE2 hbm qk5 hmj hoj;go_wp2_with fail;refine IS.out.mono ?_;rintro e w7⟨rfl,b7⟩;have F7:=r! F6 b7;clear b7 IS qk6 qm6
    cases bm
    ·go_wp2_with fail
     go_roundw
     case rel=>exact⟨j+1,by omega,by go_num,by rw[HNX.out];rfl,F7.out⟩
     case measure=>simp[intOf];omega
    ·have OP:=h! (e01! w7)
     go_wp2_with fail;refine OP.out.mono ?_;rintro e w8 h8;obtain⟨g8,rfl,b8,r8,q8,q8'⟩:=a22! h8;have qk8:=q8 k hk5;have qm8:=(q8' k j hk5).trans (e07! hjt);rw[HOJ.out]at qm8;have F8:=r! F7 b8;clear b8 q8 q8' h8 OP;go_wp2_with fail
     go_roundw
     case rel=>exact⟨j+1,by omega,by go_num,by rw[HNX.out];rfl,F8.out⟩
     case measure=>simp[intOf];omega
   ·obtain rfl:j=lvN k:=by omega
    have HFO:Hid (ov=(opAt k (ts.drop i)).getD (-1)):=by
     rw[Hid,<-HOV.out,List.take_of_length_le (by rw[HK2.out.2.2];exact Nat.le_refl _),HDT.out];exact e03! hk5 HMK.out
    have Dq:=h! (DD.out.below F5.out);have Kq:=h! (KK.out.below_ F5.out);have Xq:=h! (XX.out.below F5.out XX.out.lt);have Yq:=h! (YY.out.below F5.out YY.out.lt);have Rq:=h! (RR.out.kept (E:=λz=>w.heap.size+1<=z∧z≠be) (Kept.of_below (S:=λ_=>False) F5.out) (λ_ _ _ e=>e) (λ_ _ h=>h));have hyb:=YY.out.lt;have f5z:=F5.out.size
    cases ho:opAt k (ts.drop i)with
    |none=>
     have hv:ov= -1:=by rw[HFO.out,ho];rfl
     have RB:Hid (DRes (w.heap.size+1) ts P0 i 0 [.I op,.I N,.string nm,.slice B l kk] w5):=Rq.out.none_ hio ho (λz hz=>hz.1);subst hv;clear ho;have p0:=Yq.out.cell 0;have p1:=Yq.out.cell 1;have p2:=Yq.out.cell 2;have p3:=Yq.out.cell 3;have v0:=Xq.out.c0;have y0:=Xq.out.frozen 0;have v1:=Xq.out.c1;have y1:=Xq.out.frozen 1;have v2:=Xq.out.c2;have y2:=Xq.out.frozen 2;have v3:=Xq.out.c3;have y3:=Xq.out.frozen 3;go_wp2_with fail;clear p0 p1 p2 p3 v0 v1 v2 v3 y0 y1 y2 y3;obtain⟨W9,e9,Y9,K9⟩:=Xq.out.e4 (.I op) (.I N) (.string nm) (.slice B l kk);rw[e9];clear e9;obtain⟨s0,s1,s2,s3⟩:=Y9.A4;refine bodyPost_ret (v:=.agg #[.I op,.I N,.string nm,.slice B l kk]) (by simp[results,Tryz.results81,go_sem,s0,s1,s2,s3]) rfl ?_;obtain⟨d9,k9,r9⟩:=c1! HH.out Dq.out Kq.out K9 RB.out;exact⟨_,_,_,_,_,_,_,_,rfl,d9,k9,r9⟩
    |some o=>
     have hv:ov=o:=by rw[HFO.out,ho];rfl
     obtain⟨hmk,ho0,ho17⟩:=e05! hk5 (by rw[<-HDT.out];exact ho);have hkind:=HMK.out hmk;have hm1:i+1<ts.length:=Dq.out.more t i HTK.out (by omega);have HO:=h! ho;subst hv;have hneg:¬ov<0:=by omega
     clear ho;have y1:=Dq.out.blk.c1;have u1:=Dq.out.blk.frozen 1;have wiu:IntKind.i64.wrap ((i:Int)+1)=((i:Int)+1):=IntWalk.i64_in _ ⟨by omega,by omega⟩;have KS:=(Kept.refl (λz=>z=g) w5).setCell (p:=⟨g,1,none⟩) (λ_=>rfl) (.I ((i:Int)+1));have BS:Blk (w5.setCell ⟨g,1,none⟩ (.I ((i:Int)+1))) g 105 #[.slice A ts.length c,.I ((i+1:Nat):Int),.I 0]:=by
      have:=Dq.out.blk.set_ 1 (.I ((i:Int)+1))
      simpa using this
     have Du:=h! (Dq.out.put KS (λ_ _ e=>e) hm1 BS);have Ku:=q! Kq KS;have Xu:=k! Xq KS;have KSu:=h! KS;clear KS BS;go_upto_region 13 with fail;generalize w5.setCell ⟨g,1,none⟩ (.I ((i:Int)+1))=W8 at*;have D8:=h! (Du.out.below (Below.refl _ W8).drew);have CL:=h! (HLL.out dp (i+1) W8.drew hdp D8.out);rw[show 5-(k+1)=m by omega,show ((k+1:Nat):Int)=(k:Int)+1 from by omega]at CL;have Yu:=h! (Yq.out.kept (S:=λz=>z=g) KSu.out (by omega));have Ru:=h! (Rq.out.kept (E:=λz=>w.heap.size+1<=z∧z≠be) KSu.out (λz _ hz e=>by omega) (λ_ _ h=>h));have a0:W8.drew.cell? ⟨be,0,none⟩=some (.I op):=Yu.out.cell 0;have a1:W8.drew.cell? ⟨be,1,none⟩=some (.I N):=Yu.out.cell 1;have a2:W8.drew.cell? ⟨be,2,none⟩=some (.string nm):=Yu.out.cell 2;have a3:W8.drew.cell? ⟨be,3,none⟩=some (.slice B l kk):=Yu.out.cell 3;have YD:=h! (Yu.out.drew);have z8:W8.drew.heap.size=W8.heap.size:=rfl;have z8b:=Ku.out.size
     go_region_law (first
      |(go_simp;go_at_call 81;(with_reducible refine CL.out.mono ?_);rintro e w9⟨op9,N9,nm9,B9,l9,k9,i9,er9,rfl,d9,kk9,r9⟩;have y9:=YD.out.kept kk9 (by omega);have b0:=y9.cell 0;have b1:=y9.cell 1;have b2:=y9.cell 2;have b3:=y9.cell 3;have ya:=y9.alloc (.cells #[.I op,.I N,.string nm,.slice B l kk,.I op9,.I N9,.string nm9,.slice B9 l9 k9] 24);have e0:=ya.cell 0;have e1:=ya.cell 1;have e2:=ya.cell 2;have e3:=ya.cell 3;have u0:=ya.frozen 0;have u1:=ya.frozen 1;have u2:=ya.frozen 2;have u3:=ya.frozen 3;have D9:=h! d9;have K9:=h! kk9;have R9:=h! r9;have YA:=h! ya;clear d9 kk9 r9 ya))
     all_goals
      have f10:=a! w9 (.cells #[.I op,.I N,.string nm,.slice B l kk,.I op9,.I N9,.string nm9,.slice B9 l9 k9] 24);have n10:=Blk.new w9 24 #[.I op,.I N,.string nm,.slice B l kk,.I op9,.I N9,.string nm9,.slice B9 l9 k9];have hz9:=K9.out.size;have hz10:=f10.size;have hby:=Yu.out.lt;have hbe9:be<w9.heap.size:=by omega
      have K8g:Kept (λz=>z=g) w W8.drew:=Ku.out.drew;have K10g:=(K8g.then_ K9.out (λ_ _ e=>e)).below_ f10;have Y11:=h! (YA.out.put4 (.I ov) (.I 0) (.E) (.slice (some ⟨w9.heap.size,0,none⟩) 2 2));have K11:=Kept.put4 (w9.alloc (.cells #[.I op,.I N,.string nm,.slice B l kk,.I op9,.I N9,.string nm9,.slice B9 l9 k9] 24)) be (.I ov) (.I 0) (.E) (.slice (some ⟨w9.heap.size,0,none⟩) 2 2);have N11:=n10.kept K11 (by omega);have K8r:Kept (λz=>z=g) W8 W8.drew:=(Kept.refl (λz=>z=g) W8).drew;have X11:=h! ((((Xu.out.kept K8r (by omega)).kept K9.out (by omega)).below f10 (by omega)).kept K11 (by omega));have K11g:=h! (K10g.then_ K11 (λz hz e=>by omega));have D11:=h! (HH.out.put K11g.out (λ_ _ e=>e) D9.out.at_ ((D9.out.blk.below f10 D9.out.blk.lt).kept K11 (by omega)));have KW:=(((K8r.mono (T:=λz=>z=g∨z=be) (λ_ _ e=>.inl e)).then_ K9.out (λ_ _ e=>.inl e)).below_ f10).then_ K11 (λ_ _ e=>.inr e);have R11:=Ru.out.kept (E:=λz=>w.heap.size+1<=z∧z≠be) KW (λz hz hd e=>by rcases e with e|e<;>omega) (λ_ _ h=>h);have h9:=R9.out.toD (D:=λz=>w.heap.size+1<=z∧z≠be) (((Kept.refl (λz=>z=be) w9).below_ f10).then_ K11 (λ_ _ e=>e)) (λz hz (hb:W8.heap.size<=z) e=>by omega) (λz hz (hb:W8.heap.size<=z)=>⟨by omega,by omega⟩);obtain⟨s1,s2,s3⟩:=LRes.step (base:=w.heap.size+1) HEAT.out R11 hm1 HO.out h9 (λz hz=>hz.1) N11 ⟨by omega,by omega⟩ rfl rfl;have S1:=h! s1;have S2:=h! s2;have S3:=h! s3;clear f10 n10 hz9 hz10 K8g K10g K11 N11 K8r KW R11 h9 s1 s2 s3 b0 b1 b2 b3 e0 e1 e2 e3 u0 u1 u2 u3 y9 a0 a1 a2 a3;generalize ((((w9.alloc (.cells #[.I op,.I N,.string nm,.slice B l kk,.I op9,.I N9,.string nm9,.slice B9 l9 k9] 24)).setCell ⟨be,0,none⟩ (.I ov)).setCell ⟨be,1,none⟩ (.I 0)).setCell ⟨be,2,none⟩ (.E)).setCell ⟨be,3,none⟩ (.slice (some ⟨w9.heap.size,0,none⟩) 2 2)=W11 at*
      by_cases hk2:k=2
      ·have ek2:((k:Int)==2)=true:=by simp[hk2]
       have RB:=h! (S2.out hk2);clear hk2;have p0:=Y11.out.cell 0;have p1:=Y11.out.cell 1;have p2:=Y11.out.cell 2;have p3:=Y11.out.cell 3;have v0:=X11.out.c0;have y0:=X11.out.frozen 0;have v1:=X11.out.c1;have y1:=X11.out.frozen 1;have v2:=X11.out.c2;have y2:=X11.out.frozen 2;have v3:=X11.out.c3;have y3:=X11.out.frozen 3;go_wp2_with fail;clear p0 p1 p2 p3 v0 v1 v2 v3 y0 y1 y2 y3;obtain⟨W9,e9,Y9,K9⟩:=X11.out.e4 (.I ov) (.I 0) (.E) (.slice (some ⟨w9.heap.size,0,none⟩) 2 2);rw[e9];clear e9;obtain⟨s0,s1,s2,s3⟩:=Y9.A4;refine bodyPost_ret (v:=.agg #[.I ov,.I 0,.E,.slice (some ⟨w9.heap.size,0,none⟩) 2 2]) (by simp[results,Tryz.results81,go_sem,s0,s1,s2,s3]) rfl ?_;obtain⟨d9,k9,r9⟩:=c1! HH.out D11.out K11g.out K9 RB.out;exact⟨_,_,_,_,_,_,_,_,rfl,d9,k9,r9⟩
      ·have ek2:((k:Int)==2)=false:=by simp;omega
       go_wp2_with fail
       go_roundw
       case rel=>exact⟨i9,er9,ov,0,⟨#[]⟩,some ⟨w9.heap.size,0,none⟩,2,2,D11.out,K11g.out,X11.out,Y11.out,S1.out hk2⟩
       case measure=>
        rw[w1! D11.out,w1! DD.out,if_pos rfl]
        by_cases h:er9=0
        ·rw[if_pos h]
         have:=S3.out h D11.out.at_
         omega
        ·rw[if_neg h]
         omega
end Go.Proofs.YtdgekckedchjbaaGreatDoor
set_option maxHeartbeats 2000000
set_option maxRecDepth 100000
namespace Go.Proofs.YtdgekckedchjbaaGreatDoor
open Go.RowKit
theorem b47!(g c:Nat)(A:Option Addr)(ts:List Tk)(d:Nat)(HP:v9! g c A ts d):∀m,m<=5->r0! g c A ts d (5-m)
 |0,_=>e09! g c A ts d HP
 |m+1,h=>by
  have h1:=b47! g c A ts d HP m (by omega);rw[show 5-m=(5-(m+1))+1 from by omega]at h1;exact e10! g c A ts d (5-(m+1)) (by omega) h1
theorem b48!(g c:Nat)(A:Option Addr)(ts:List Tk):∀d,d<=16->a16! g c A ts d∧a17! g c A ts d
 |0,h=>⟨b42! g c A ts 0 h (λh=>absurd rfl h),b43! g c A ts 0 h (λh=>absurd rfl h)⟩
 |d+1,h=>by
  obtain⟨h1,h2⟩:=b48! g c A ts d (by omega);have hp:=e00! g c A ts d (by omega) h1 h2;exact⟨b42! g c A ts (d+1) h (λ_=>hp),b43! g c A ts (d+1) h (λ_=>b47! g c A ts (d+1) hp 5 (by omega))⟩
theorem e11!:∀x∈m4!,(a3! x).kind=3∨(a3! x).kind=4:=by decide+kernel
theorem e12!:¬([]:List UInt8)∈m4!:=by decide
theorem DP.start{l:List UInt8}{ts:List Tk}(h:lexS l=.ok ts)(hl:l.length<=65536){w w':World}{A:Option Addr}{c g:Nat}(hr:Reads w w.heap.size 5 A ts.length (b8! ts))(hb:Below w.heap.size w w')(hg:w.heap.size<=g)(hB:Blk w' g 105 #[.slice A ts.length c,.I ((0:Nat):Int),.I 0]):DP w' g A c ts 0 0:=by
 obtain⟨us,L,C,hts,hgood,_,hn⟩:=v6! h
 have hlen:ts.length=us.length+1:=by rw[hts];simp
 refine⟨(hr.below hb).more hb.size,λa ha e=>?_,by omega,λt j hj hk=>?_,λt ht hm=>?_,hB,by omega⟩
 ·obtain⟨ad,h1,h2,_⟩:=hr.2 (by omega)
  have:a=ad:=Option.some.inj (ha.symm.trans h1);subst this
  omega
 ·rcases Nat.lt_or_ge (j+1) ts.length with h1|h1
  ·exact h1
  ·exfalso
   have hj2:j<ts.length:=by
    rcases Nat.lt_or_ge j ts.length with h2|h2
    ·exact h2
    ·rw[List.getElem?_eq_none h2]at hj
     cases hj
   have:j=us.length:=by omega
   rw[hts,this,List.getElem?_append_right (by omega),Nat.sub_self]at hj;have:=Option.some.inj hj;exact hk (by rw[<-this])
 ·rw[hts,List.mem_append]at ht
  rcases ht with ht|ht
  ·have:=e11! _ hm
   rw[(hgood t ht).2]at this;exact this
  ·rw[List.mem_singleton]at ht
   rw[ht]at hm;exact absurd hm e12!
theorem e13!(w:World)(k n l c:Int)(s:ByteArray):Sem.run Tryz.prog (Instr.field 108 (.agg #[.I k,.string s,.I n,.I l,.I c]) 3) w=.ok (.I l) w:=by rfl
theorem e14!(w:World)(k n l c:Int)(s:ByteArray):Sem.run Tryz.prog (Instr.field 108 (.agg #[.I k,.string s,.I n,.I l,.I c]) 4) w=.ok (.I c) w:=by rfl
def RTk(w:World)(s:ByteArray)(e:Ending)(w':World):Prop:=
 ∃(A:Option Addr) (n c:Nat) (L C E:Int),e=.returned (.tuple #[.slice A n c,.I L,.I C,.I E])∧Below w.heap.size w w'∧
  ((E=0∧s.size<=65536∧∃ts,lexS s.data.toList=.ok ts∧n=ts.length∧Reads w' w'.heap.size 5 A n (b8! ts))∨(E≠0∧¬(s.size<=65536∧∃ts,lexS s.data.toList=.ok ts)))
theorem e15!(s:ByteArray)(w:World)(hs:65536<s.size)(hs2:s.size<=9223372036854775807):
 Calls Tryz.prog 46 #[.string s] w λe w'=>e=.returned (.tuple #[.N,.I 0,.I 0,.I 2])∧Below w.heap.size w w':=by
 have g1:(65536:Int)<(s.size:Int):=by omega
 go_enter Tryz.func46,Tryz.ntmps46
 go_wp2_with fail
 refine bodyPost_ret (v:=.tuple #[.N,.I 0,.I 0,.I 2]) (by simp[results,Tryz.results46,go_sem]) rfl ⟨rfl,Below.refl _ _⟩
theorem e16!(s:ByteArray)(w:World)(hs2:s.size<=9223372036854775807):Calls Tryz.prog 46 #[.string s] w (RTk w s):=by
 by_cases hs:s.size<=65536
 ·refine(d92! s w hs).mono ?_
  rintro e w'⟨hb,h⟩
  cases ho:lexS s.data.toList with
  |ok ts=>
   rw[ho]at h;obtain⟨A,c,he,hr⟩:=h;exact⟨A,_,c,0,0,0,he,hb,.inl ⟨rfl,hs,ts,ho,rfl,Reads.of_own hr⟩⟩
  |err l c er=>
   rw[ho]at h;refine⟨none,0,0,l,c,er,h,hb,.inr ⟨(z1! ho).1,λ⟨_,ts,h2⟩=>?_⟩⟩;rw[h2]at ho
   cases ho
 ·refine(e15! s w (by omega) hs2).mono ?_
  rintro e w'⟨he,hb⟩;exact⟨none,0,0,0,0,2,he,hb,.inr ⟨by decide,λh=>hs h.1⟩⟩
def RXTo(w:World)(s:ByteArray)(e:Ending)(w':World):Prop:=
 ∃(op N:Int) (nm:ByteArray) (B:Option Addr) (l k:Nat) (L C E:Int),e=.returned (.tuple #[.agg #[.I op,.I N,.string nm,.slice B l k],.I L,.I C,.I E])∧Below w.heap.size w w'∧
  ((E=0∧s.size<=65536∧∃x:Ex,exprO s.data.toList=.ok x∧GC (λ_=>True) w' 2513169434843 x.dep [.I op,.I N,.string nm,.slice B l k] x.gx)∨(E≠0∧¬(s.size<=65536∧∃x:Ex,exprO s.data.toList=.ok x)))
end Go.Proofs.YtdgekckedchjbaaGreatDoor
