
/-
 The document's params. (Printed by wip/tools/gene4.py.) A program of the document in memory. The document's program. (Printed by wip/tools/gene6.py.)
-/
import Derived.Test.YtdgekckedchjbaaGreatDoorE5B
import Derived.Deep.RegionHeld3
import Derived.Deep.DeepCutAuto
import Derived.Deep.AppendLies
set_option maxHeartbeats 8000000
set_option maxRecDepth 100000
namespace Go.Proofs.YtdgekckedchjbaaGreatDoor
open Go.RowKit
variable {acc l:List Va} {r r2:List Tk} {a:Va} {ys:List Value}
theorem b51!{α:Type}{more:List Tk->Bool}{one:List Tk->PS α}(hm:more []=false)(he:EatsP one):∀(f f':Nat) (acc:List α) (r:List Tk),r.length<=f->r.length<=f'->listP more one f acc r=listP more one f' acc r:=by
 intro f
 induction f with
 |zero=>
  intro f' acc r h h'
  obtain rfl:r=[]:=List.eq_nil_of_length_eq_zero (by omega)
  cases f' with
  |zero=>rfl
  |succ f'=>simp only[listP];rw[hm];rfl
 |succ f ih=>
  intro f' acc r h h'
  cases f' with
  |zero=>
   obtain rfl:r=[]:=List.eq_nil_of_length_eq_zero (by omega)
   simp only[listP]
   rw[hm]
   rfl
  |succ f'=>
   simp only[listP]
   split
   ·cases hq:one r with
    |ok a r1=>
     have:=he _ _ _ hq;exact ih f' (acc++[a]) r1 (by omega) (by omega)
    |bad r1 e=>rfl
   ·rfl
def i0!(acc:List Va)(r:List Tk):PS (List Va):=(c8! r).bind λv r=>listP (hasT [44]) e8! r.length (acc++[v]) r
theorem e37!(r:List Tk):d9! r=if kindT 1 r=false then .ok [] r else if g6! r=false then .ok [] r else i0! [] r:=rfl
theorem e38!(h:c8! r=.ok a r2)(hc:hasT [44] r2=true):i0! acc r=i0! (acc++[a]) r2.tail:=by
 unfold i0!
 rw[h]
 show listP (hasT [44]) e8! r2.length (acc++[a]) r2=_
 cases r2 with
 |nil=>cases hc
 |cons t r3=>
  show listP (hasT [44]) e8! (r3.length+1) (acc++[a]) (t::r3)=_
  simp only[listP]
  rw[if_pos hc];have ha:e8! (t::r3)=c8! r3:=by
   unfold e8! mustP;rw[if_pos hc]
   rfl
  rw[ha,List.tail_cons]
  cases hq:c8! r3 with
  |ok b r4=>
   have:=u5! _ _ _ hq;exact b51! rfl a78! _ _ _ _ (by omega) (Nat.le_refl _)
  |bad r4 e=>rfl
theorem e39!(h:c8! r=.ok a r2)(hc:hasT [44] r2=false):i0! acc r=.ok (acc++[a]) r2:=by
 unfold i0!
 rw[h]
 show listP (hasT [44]) e8! r2.length (acc++[a]) r2=_
 cases r2 with
 |nil=>rfl
 |cons t r3=>
  show listP (hasT [44]) e8! (r3.length+1) (acc++[a]) (t::r3)=_
  simp only[listP]
  rw[if_neg (by rw[hc];decide)]
theorem a24!:(Tryz.prog.info? 133).map (λi=>(i.zero,i.size,i.bytes))=some (some (.agg #[.string ByteArray.empty,.I 0,.I 0,.I 0]),4,40):=by kernel_rfl
def VLJ(base:Nat)(ts:List Tk)(goal:PS (List Va))(v:Value)(wr:World)(j:Nat)(er:Int):Prop:=
 (∃(n:Nat) (ys:List Value),wr.ownsRow base 133 4 v n ys∧ys.length=n*4∧(∀u∈ys,u.oneCell'=true)∧n<=j∧(er=0->∃acc:List Va,acc.length=n∧(∀i (h:i<acc.length),(ys.drop (i*4)).take 4=d0! (acc[i]'h))∧goal=i0! acc (ts.drop j)))
theorem b52!{base:Nat}{w:World}{A:Option Addr}{n c:Nat}(h:w.ownsRow base 133 4 (.slice A n c) n ys)(hn:n<=1000000)(hl:l.length=n)(hq:∀i (hi:i<l.length),(ys.drop (i*4)).take 4=d0! (l[i]'hi)):IsRow 4 QV base w l (.slice A n c):=
 ⟨A,n,c,rfl,h6! (Q:=QV) h hn hl hq⟩
theorem w5!{cs:List Value}(hl:ys.length=l.length*4)(h:∀i (hi:i<l.length),(ys.drop (i*4)).take 4=d0! (l[i]'hi))(hc:cs=d0! a):∀i (hi:i<(l++[a]).length),((ys++cs).drop (i*4)).take 4=d0! ((l++[a])[i]'hi):=by
 intro i hi
 rw[List.length_append,List.length_singleton]at hi
 rcases Nat.lt_or_ge i l.length with h1|h1
 ·rw[List.getElem_append_left h1,y5! hl h1]
  exact h i h1
 ·obtain rfl:i=l.length:=by omega
  rw[List.getElem_append_right (by omega),a73! hl (by rw[hc];rfl)]
  simpa using hc
theorem r6!(g c:Nat)(A:Option Addr)(ts:List Tk)(i:Nat)(er:Int)(w:World)(h:DP w g A c ts i er):
 Calls Tryz.prog 107 #[.pointer (some ⟨g,0,none⟩)] w (DStep w g c A ts (stP (i0! []) ts i er) (IsRow 4 QV w.heap.size) (ShR 4)):=by
 have HH:=h! h
 have hgl:=h.blk.lt
 have hlim:=h.lim
 have NM:=h! (λi er w h=>k2! g c A ts i er w h)
 have SG:=h! (λi er w h=>m6! g c A ts i er w h)
 have f1:=a! w (.cells #[] 133)
 have D1:=h! (h.below f1)
 have K1:=o! g f1
 have xs:Blk (w.alloc (.cells #[] 133)) w.heap.size 133 #[]:=Blk.new w _ _
 have HV0:Hid (VLJ w.heap.size ts (stP (i0! []) ts i er) (.slice (some ⟨w.heap.size,0,none⟩) 0 0) (w.alloc (.cells #[] 133)) i er):=by
  refine⟨0,[],b49! xs (Nat.le_refl _),rfl,by simp,by omega,λhe=>⟨[],rfl,λi hi=>by simp at hi,?_⟩⟩;unfold stP;rw[if_pos he]
 generalize stP (i0! []) ts i er=goal at*
 clear h f1 xs
 go_enter Tryz.func107,Tryz.ntmps107
 go_wp2_with fail
 change Code.wp _ _ _ _ (w.alloc (.cells #[] 133))
 generalize w.alloc (.cells #[] 133)=W1 at*
 go_loopw [3] (λv wr=>∃(j:Nat) (er':Int),Hid (DP wr g A c ts j er')∧Hid (Kept (λz=>z=g) w wr)∧Hid (VLJ w.heap.size ts goal v wr j er')) (λ_ wr=>LMd ts g wr)
 case atStart=>exact⟨i,er,D1.out,K1.out,HV0.out⟩
 case round=>
  obtain⟨j,er',DD,KK,VV⟩:=hrel;obtain⟨wo,rfl⟩:∃x,x=wr:=⟨_,rfl⟩
  have hwz:=KK.out.size;have c2:=DD.out.blk.c2;have hjt:=DD.out.at_;obtain⟨n,ys,how,hyl,hon,hnj,hsem⟩:=VV.out;have HOW:=h! how;have HON:=h! hon;have HYL:=h! hyl;have HSEM:=h! hsem;clear how hyl hon hsem VV
  by_cases he:er'=0
  rotate_left
  ·have he':((er':Int)==0)=false:=by simp[he]
   have HE:=h! he;have HSH:Hid (ShR 4 wo u3):=by
    obtain⟨A0,c0,hv0,_⟩:=b2! HOW.out;exact⟨A0,n,c0,ys,hv0,by rw[hv0]at HOW;exact Reads.of_own HOW.out,HON.out,by omega⟩
   clear he;go_wp2_with fail
   go_ret
   exact⟨_,rfl,KK.out,HSH.out,j,er',DD.out,DsAt.no HE.out⟩
  subst he;have DD0:=h! DD.out;go_wp2_with fail;clear c2;refine(NM.out j 0 wo DD.out).mono ?_;rintro e w1⟨v1,rfl,k1,⟨s1,rfl⟩,i1,er1,p1,ps1⟩;have z1:=k1.size;have K1:=q! KK k1;have P1:=h! p1;have PS1:=h! ps1;have J1:=h! k1;clear p1 k1 ps1 KK DD;go_upto_region 4 with fail;obtain⟨W2,eW,f2,Y2,z2⟩:=n! w1 133 #[.string s1,.I 0,.I 0,.I 0];replace Y2:=h! Y2;have P2:=h! (P1.out.below f2);have K2:=e! K1 f2;have J2:=o! g f2;clear f2 K1 P1;rw[eW.out];clear eW;go_wp2_with fail;refine(SG.out i1 er1 W2 P2.out).mono ?_;rintro e w3⟨v3,rfl,k3,⟨n3,rfl⟩,i3,er3,p3,ps3⟩;have z3:=k3.size;have Y3:=k! Y2 k3;have K3:=q! K2 k3;have P3:=h! p3;have PS3:=h! (PS1.out.then_ ps3);have J3:=h! k3;clear p3 k3 ps3 K2 P2 Y2 PS1;have fz:=Y3.out.frozen 2;have ez:=Y3.out.c2;go_wp2_with fail;obtain⟨W4,e9,Y4,k4⟩:=Y3.out.u2 (.I n3);rw[e9];clear e9;have K4:=t! K3 k4;have P4:=h! (HH.out.putp P3.out.at_ (P3.out.blk.kept k4 (by omega)) K4.out);have J4:=h! k4;have z4:=k4.size;clear k4 Y3 K3 P3;clear fz ez;refine(SG.out i3 er3 W4 P4.out).mono ?_;rintro e w5⟨v5,rfl,k5,⟨n5,rfl⟩,i5,er5,p5,ps5⟩;have z5:=k5.size;have Y5:=k! Y4 k5;have K5:=q! K4 k5;have P5:=h! p5;have PS5:=h! (PS3.out.then_ ps5);have J5:=h! k5;clear p5 k5 ps5 K4 P4 Y4 PS3;have fz:=Y5.out.frozen 3;have ez:=Y5.out.c3;go_upto_region 6 with fail;obtain⟨W6,e9,Y6,k6⟩:=Y5.out.u3 (.I n5);rw[e9];clear e9;have K6:=t! K5 k6;have P6:=h! (HH.out.putp P5.out.at_ (P5.out.blk.kept k6 (by omega)) K6.out);have J6:=h! k6;have z6:=k6.size;clear k6 Y5 K5 P5;clear fz ez;have KJ:=h! ((J1.out.mono (T:=(λz=>z=g∨wo.heap.size<=z)) (λz hz e=>by omega)).then_ ((J2.out.mono (T:=(λz=>z=g∨wo.heap.size<=z)) (λz hz e=>by omega)).then_ ((J3.out.mono (T:=(λz=>z=g∨wo.heap.size<=z)) (λz hz e=>by omega)).then_ ((J4.out.mono (T:=(λz=>z=g∨wo.heap.size<=z)) (λz hz e=>by omega)).then_ ((J5.out.mono (T:=(λz=>z=g∨wo.heap.size<=z)) (λz hz e=>by omega)).then_ (J6.out.mono (T:=(λz=>z=g∨wo.heap.size<=z)) (λz hz e=>by omega)) (λ_ _ e=>e)) (λ_ _ e=>e)) (λ_ _ e=>e)) (λ_ _ e=>e)) (λ_ _ e=>e));obtain⟨qc0,qc1,qc2,qc3⟩:=Y6.out.A4;have hog:=h! (f2! HOW.out);have hol:=h! (c2! HOW.out);have KG:Hid (∀z,u3.ownBlock=some z->¬(z=g∨wo.heap.size<=z)):=λz e hz=>by have h1:=hog.out z e;have h2:=hol.out z e;omega
  have ow3:Hid (W6.ownsRow w.heap.size 133 4 u3 n ys):=a6! HOW.out KJ.out KG.out;have hol3:=h! (c2! ow3.out);obtain⟨i0,hi0,hz0,hz1,hz2⟩:=info_parts a24!;have o2:=h! (World.ownsRow.alloc ow3.out (.cells #[.string s1,.I 0,.I n3,.I n5] 133));have RD:=h! (d1! W6 133 #[.string s1,.I 0,.I n3,.I n5] 4 rfl);have ONE:Hid (∀u∈([.string s1,.I 0,.I n3,.I n5]:List Value),u.oneCell'=true):=by
   intro u hu
   simp only[List.mem_cons,List.not_mem_nil,or_false]at hu
   rcases hu with rfl|rfl|rfl|rfl<;>rfl
  have hP:=P6.out.at_;go_upto_region 7 with (at_builtin;refine e5! _ rfl (.tmp 20) (.tmp 22) 31 rfl w.heap.size 133 i0 _ 4 40 Tryz.underlying31 hi0 hz0 hz1 hz2 rfl (by omega) _ n ys rfl o2.out _ _ 1 1 [.string s1,.I 0,.I n3,.I n5] rfl RD.out ONE.out (by unfold maxLen;omega) (by omega) (by simp;omega) ?_;intro v8 w8 o8 g8 at8);have K8:Kept (λz=>u3.ownBlock=some z) W6 w8:=((Kept.refl (λz=>u3.ownBlock=some z) W6).alloc _).then_ (Kept.of_grown g8 (λ_ e=>e)) (λ_ _ e=>e);have KG8:Hid (Kept (λz=>z=g) w w8):=K6.out.then_ K8 (λz hz e=>by have:=hog.out z e;omega);have HP8:Hid (DP w8 g A c ts i5 er5):=HH.out.putp P6.out.at_ (P6.out.blk.kept K8 (λe=>by have h1:=hog.out g e;omega)) KG8.out;have HO8:=h! o8;have HPP:Hid (DsAt ts i5 er5 (c8! (ts.drop j)) (λa=>[.string s1,.I 0,.I n3,.I n5]=d0! a)):=by
   have h1:stP c8! ts j 0=c8! (ts.drop j):=by
    unfold stP;rw[if_pos rfl]
   rw[Hid,<-h1,a75!];refine PS5.out.map _ ?_;rintro⟨⟨x1,lo⟩,hi⟩ ⟨⟨h1,h2⟩,h3⟩;injection h1 with h1;injection h2 with _ h2;injection h3 with _ h3;rw[h1,h2,h3]
   rfl
  have HSH:Hid (ShR 4 w8 v8):=by
   obtain⟨A0,c0,hv0,_⟩:=b2! HO8.out;exact⟨A0,n+1,c0,_,hv0,by rw[hv0]at HO8;exact Reads.of_own HO8.out,λu hu=>(List.mem_append.1 hu).elim (HON.out u) (ONE.out u),by omega⟩
  clear o8 g8 at8 K8 qc0 qc1 qc2 qc3 hi0 hz0 hz1 hz2;have c2:=HP8.out.blk.c2
  by_cases he:er5=0
  rotate_left
  ·have HE:=h! he
   have he':((er5:Int)==0)=false:=by simp[he]
   go_wp2_with fail
   go_ret
   exact⟨_,rfl,KG8.out,HSH.out,i5,er5,HP8.out,DsAt.no HE.out⟩
  have HE:=h! he;have he':((er5:Int)==0)=true:=by simp[he]
  clear he;have IS:=h! (d3! g c A ts i5 er5 (str [44]) w8 HP8.out);rw[k8!]at IS;have HM:=h! (λhx=>h8! HP8.out (x:=[44]) hx);obtain⟨bb,hbb⟩:∃b,hasT [44] (ts.drop i5)=b:=⟨_,rfl⟩
  rw[hbb]at IS HM;have HBB:=h! hbb;clear hbb;have HPAR:Hid (∃a,c8! (ts.drop j)=.ok a (ts.drop i5)∧[.string s1,.I 0,.I n3,.I n5]=d0! a):=HPP.out HE.out
  cases bb
  ·go_wp2_with fail
   refine IS.out.mono ?_;rintro e w9⟨rfl,b9⟩;have D9:=h! (HP8.out.below b9);have K9:=e! KG8 b9;have HSH9:Hid (ShR 4 w9 v8):=by
    obtain⟨A0,n0,c0,xs,e1,e2,e3,e4⟩:=HSH.out;exact⟨A0,n0,c0,xs,e1,(e2.below b9).more b9.size,e3,e4⟩
   have HR9:Hid (DsAt ts i5 er5 goal (λl=>IsRow 4 QV w.heap.size w9 l v8)):=λ_=>by
    obtain⟨acc,h1,h2,h3⟩:=HSEM.out (by trivial);obtain⟨a,h4,h5⟩:=HPAR.out;refine⟨acc++[a],by rw[h3,e39! h4 HBB.out],?_⟩;have ho9:=a6! HO8.out (Kept.of_below (S:=λ_=>False) b9) (λ_ _ h=>h);obtain⟨A0,c0,hv0,_⟩:=b2! ho9;rw[hv0]at ho9 ⊢;exact b52! ho9 (by omega) (by rw[List.length_append,List.length_singleton,h1]) (w5! (by rw[HYL.out,h1]) h2 h5)
   clear b9 c2;go_wp2_with fail
   go_ret
   exact⟨_,rfl,K9.out,HSH9.out,i5,er5,D9.out,HR9.out⟩
  ·have hm:=HM.out rfl
   go_wp2_with fail;refine IS.out.mono ?_;rintro e w9⟨rfl,b9⟩;have D9:=h! (HP8.out.below b9);have K9:=e! KG8 b9;have HO9:=h! (a6! HO8.out (Kept.of_below (S:=λ_=>False) b9) (λ_ _ h=>h));have y1:=D9.out.blk.c1;have u1:=D9.out.blk.frozen 1;have wi:=y! ((i5:Int)+1);obtain⟨d9,k9⟩:=D9.out.pass hm;have DA:=h! d9;have KA:=q! K9 k9;have HVA:Hid (VLJ w.heap.size ts goal v8 (w9.setCell ⟨g,1,none⟩ (.I ((i5:Int)+1))) (i5+1) er5):=by
    refine⟨n+1,_,a6! HO9.out k9 (λz e hz=>by have h1:=f2! HO9.out z e;omega),?_,λu hu=>(List.mem_append.1 hu).elim (HON.out u) (ONE.out u),?_,λ_=>?_⟩
    ·rw[List.length_append,HYL.out,Nat.add_mul]
     rfl
    ·obtain⟨a,h4,_⟩:=HPAR.out
     have:=u5! _ _ _ h4;rw[List.length_drop,List.length_drop]at this
     omega
    ·obtain⟨acc,h1,h2,h3⟩:=HSEM.out (by trivial)
     obtain⟨a,h4,h5⟩:=HPAR.out;refine⟨acc++[a],by rw[List.length_append,List.length_singleton,h1],w5! (by rw[HYL.out,h1]) h2 h5,?_⟩;rw[h3,e38! h4 HBB.out,List.tail_drop]
   have HME:Hid (LMd ts g (w9.setCell ⟨g,1,none⟩ (.I ((i5:Int)+1)))<LMd ts g wo):=r3! DD0.out DA.out (λ_=>by
    obtain⟨a,h4,_⟩:=HPAR.out;have:=u5! _ _ _ h4;rw[List.length_drop,List.length_drop]at this
    omega)
   clear b9 c2 d9 k9;go_wp2_with fail
   go_roundw
   case rel=>exact⟨i5+1,er5,DA.out,KA.out,HVA.out⟩
   case measure=>exact HME.out
end Go.Proofs.YtdgekckedchjbaaGreatDoor
namespace Go.Proofs.YtdgekckedchjbaaGreatDoor
open Go.RowKit
variable {D:Nat->Prop} {s:Nat} {w:World} {A:Option Addr}
def RPC:Cel Pg:=λD w cs p=>∃v1 v2 v3 v4 v5 v6 v7 v8:Value,cs=[.string (str p.nm),.I p.seats,v1,v2,v3,v4,v5,v6,.string (str p.silent),v7,v8]∧RowD D 1 QI w p.stakes v1∧RowD D 4 QV w p.vars v2∧RowD D 7 (QR 16) w p.start v3∧RowD D 7 (QR 16) w p.turn v4∧RowD D 4 QV w p.params v5∧RowD D 7 (QR 16) w p.play v6∧RowD D 7 (QR 16) w p.quiet v7∧RowD D 7 (QR 16) w p.pays v8
theorem o3!:QKept RPC:=λD E S w w' cs p hk hs hE h=>by
 obtain⟨v1,v2,v3,v4,v5,v6,v7,v8,h0,h1,h2,h3,h4,h5,h6,h7,h8⟩:=h
 exact⟨v1,v2,v3,v4,v5,v6,v7,v8,h0,h1.kept n5! hk hs hE,h2.kept b3! hk hs hE,h3.kept (c7! 16) hk hs hE,h4.kept (c7! 16) hk hs hE,h5.kept b3! hk hs hE,h6.kept (c7! 16) hk hs hE,h7.kept (c7! 16) hk hs hE,h8.kept (c7! 16) hk hs hE⟩
theorem RowD.elsR{α:Type}{Q:Cel α}{l:List α}{n c:Nat}(h:RowD D s Q w l (.slice A n c)):ElsG D w s 1000000 (Q D w) A n l:=by
 obtain⟨A',n',c',hv,h⟩:=h
 injection hv with h1 h2 h3
 subst h1
 subst h2
 exact h
theorem ElsG.belowC{α:Type}{Q:Cel α}(hq:QKept Q){w':World}{len:Nat}{l:List α}(h:ElsG D w s 1000000 (Q D w) A len l)(hb:Below w.heap.size w w'):ElsG D w' s 1000000 (Q D w') A len l:=
 h.kept (Kept.of_below (S:=λ_=>False) hb) (λ_ _ _ h=>h) (λ_ _ h=>h) (λcs x h=>hq D D _ w w' cs x (Kept.of_below (S:=λ_=>False) hb) (λ_ _ _ h=>h) (λ_ _ h=>h) h)
end Go.Proofs.YtdgekckedchjbaaGreatDoor
set_option maxRecDepth 100000
namespace Go.Proofs.YtdgekckedchjbaaGreatDoor
open Go.RowKit
variable {r ts:List Tk} {base c f g i j ya:Nat} {A:Option Addr} {er er':Int} {w w2 wr:World}
theorem a25!{α:Type}{more:List Tk->Bool}{one:List Tk->PS α}(hm:more []=false)(he:EatsP one){acc:List α}{r':List Tk}{a:α}(hmore:more r=true)(h:one r=.ok a r'):listP more one r.length acc r=listP more one r'.length (acc++[a]) r':=by
 cases r with
 |nil=>rw[hm]at hmore;cases hmore
 |cons t r1=>
  show listP more one (r1.length+1) acc (t::r1)=_
  simp only[listP]
  rw[if_pos hmore,h];have:=he _ _ _ h
  simp only[List.length_cons]at this
  exact b51! hm he _ _ _ _ (by omega) (Nat.le_refl _)
theorem b53!{α:Type}{more:List Tk->Bool}{one:List Tk->PS α}{acc:List α}(h:more r=false):listP more one f acc r=.ok acc r:=by
 cases f with
 |zero=>rfl
 |succ f=>simp only[listP];rw[if_neg (by rw[h];decide)]
def o4!(r:List Tk):PS (List Int):=(numP r).bind λs0 r=>listP (kindT 2) numP r.length [s0] r
theorem e40!(r:List Tk):o4! r=(numP r).bind λs0 r=>(listP (kindT 2) numP r.length [] r).bind λss r=>.ok (s0::ss) r:=by
 unfold o4!
 congr 1
 funext s0 r
 rw[u6!]
 rfl
def o5!(r:List Tk):PS (List Va):=listP (hasT [118,97,114]) d8! r.length [] r
def sizeP(r:List Tk):PS Int:=if hasT [91] r then (numP r.tail).bind λn r=>(mustP [93] r).bind λ_ r=>.ok n r else .ok 0 r
def sizeT(r:List Tk):PS Int:=(numP r).bind λn r=>(mustP [93] r).bind λ_ r=>.ok n r
theorem e41!(l:List Int)(i:Nat)(h:i<l.length):((l.map λm=>Value.int .i64 m).drop (i*1)).take 1=[.I (l[i]'h)]:=by
 rw[Nat.mul_one,List.drop_eq_getElem_cons (by simpa using h)]
 simp
theorem e42!(ts:List Tk)(i:Nat)(er:Int):stP sizeT ts i er=((stP numP ts i er).bind λa r=>((mustP [93]) r).bind λb r=>.ok (a,b) r).bind λx r=>.ok ((λx:Int×Unit=>x.1) x) r:=by
 by_cases he:er=0
 ·unfold stP
  rw[if_pos he,if_pos he];unfold sizeT
  simp only[PS.bind_assoc,PS.ok_bind]
  all_goals rfl
 ·unfold stP
  rw[if_neg he,if_neg he]
  rfl
theorem b54!(ts:List Tk)(j:Nat)(h:hasT [118,97,114] (ts.drop j)=true):d8! (ts.drop j)=((((stP nameP ts (j+1) 0).bind λa r=>(sizeP r).bind λb r=>.ok (a,b) r).bind λa r=>(b4! r).bind λb r=>.ok (a,b) r).bind λa r=>(b4! r).bind λb r=>.ok (a,b) r).bind λx r=>.ok ((λx:((List UInt8×Int)×Int)×Int=>(⟨x.1.1.1,x.1.1.2,x.1.2,x.2⟩:Va)) x) r:=by
 have e1:mustP [118,97,114] (ts.drop j)=.ok () (ts.drop (j+1)):=by
  unfold mustP;rw[if_pos h,List.tail_drop]
 unfold d8! stP
 rw[e1,if_pos rfl]
 simp only[PS.bind_assoc,PS.ok_bind]
 rfl
def IntTo(W:World)(g c:Nat)(A:Option Addr)(ts:List Tk)(p:PS Int)(base ya:Nat)(yc:Value->Array Value)(vo:Value)(n:Nat)(ys:List Value)(wc:World):Prop:=
 ∃(A8:Option Addr) (c8:Nat) (m:Int) (i':Nat) (er':Int),Blk wc ya 33 (yc (.slice A8 (n+1) c8))∧DP wc g A c ts i' er'∧Kept (λz=>z=g∨z=ya∨vo.ownBlock=some z) W wc∧
  wc.ownsRow base 3 1 (.slice A8 (n+1) c8) (n+1) (ys++[.I m])∧DsAt ts i' er' p (λx=>x=m)∧∀z,(Value.slice A8 (n+1) c8).ownBlock=some z->ya<z
theorem b55!{w0 W w5 w8:World}{i0:Nat}{er0:Int}{p:PS Int}{yc:Value->Array Value}{vo:Value}{n:Nat}{ys:List Value}{A8:Option Addr}{c8 i':Nat}{m:Int}
 (HH:DP w0 g A c ts i0 er0) (K0:Kept (λz=>z=g) w0 W) (hb0:w0.heap.size<=base) (k5:Kept (λz=>z=g) W.drew w5) (p5:DP w5 g A c ts i' er') (ps:DsAt ts i' er' p (λa=>IsN w5 a (.I m)))
 (y5:Blk w5 ya 33 (yc vo)) (o8:w8.ownsRow base 3 1 (.slice A8 (n+1) c8) (n+1) (ys++[.I m])) (g8:(w5.alloc (.cells #[.I m] 3)).grownBy w8 vo.ownBlock)
 (at8:(Value.slice A8 (n+1) c8).ownBlock=vo.ownBlock∨(Value.slice A8 (n+1) c8).ownBlock=some (w5.alloc (.cells #[.I m] 3)).heap.size)
 (hv:∀z,vo.ownBlock=some z->ya<z∧z<W.heap.size) (hgb:g<base) (hby:base<=ya) (hyW:ya<W.heap.size) (hyc:∀v v',(yc v).setIfInBounds f v'=yc v'):
 IntTo W g c A ts p base ya yc vo n ys (w8.setCell ⟨ya,f,none⟩ (.slice A8 (n+1) c8)):=by
 have zd:W.drew.heap.size=W.heap.size:=rfl
 have z5:=k5.size
 have k58:Kept (λz=>vo.ownBlock=some z) w5 w8:=((Kept.refl (λz=>vo.ownBlock=some z) w5).alloc _).then_ (Kept.of_grown g8 (λ_ e=>e)) (λ_ _ e=>e)
 have k89:=(Kept.refl (λz=>z=ya) w8).setCell (p:=⟨ya,f,none⟩) (λ_=>rfl) (.slice A8 (n+1) c8)
 have k59:Kept (λz=>z=ya∨vo.ownBlock=some z) w5 (w8.setCell ⟨ya,f,none⟩ (.slice A8 (n+1) c8)):=(k58.mono (T:=λz=>z=ya∨vo.ownBlock=some z) (λ_ _ e=>.inr e)).then_ k89 (λ_ _ e=>.inl e)
 have z8:=k58.size
 have KW:Kept (λz=>z=g∨z=ya∨vo.ownBlock=some z) W (w8.setCell ⟨ya,f,none⟩ (.slice A8 (n+1) c8)):=(((Kept.refl (λz=>z=g∨z=ya∨vo.ownBlock=some z) W).drew).then_ k5 (λ_ _ e=>.inl e)).then_ k59 (λ_ _ e=>.inr e)
 have hown:∀z,(Value.slice A8 (n+1) c8).ownBlock=some z->ya<z:=λz hz=>by
  rcases at8 with h|h
  ·exact(hv z (h▸hz)).1
  ·rw[h]at hz
   have:=Option.some.inj hz;have hs:=z! w5 (.cells #[.I m] 3)
   omega
 refine⟨A8,c8,m,i',er',?_,?_,KW,?_,?_,hown⟩
 ·have h:=(y5.kept k58 (λe=>by have:=hv _ e;omega)).set_ f (.slice A8 (n+1) c8)
  rw[hyc]at h;exact h
 ·exact HH.putp p5.at_ (p5.blk.kept k59 (λe=>by rcases e with e|e<;>first|omega|(have:=hv _ e;omega))) (K0.then_ KW (λz hz e=>by rcases e with e|e|e<;>first|omega|(have:=hv _ e;omega)))
 ·exact a6! o8 k89 (λz hz e=>by have:=hown z hz;omega)
 ·refine ps.mono λx hx=>?_
  injection hx with _ hx;exact hx.symm
def StkJ(w:World)(ts:List Tk)(goal:PS (List Int))(ya:Nat)(yc:Value->Array Value)(j:Nat)(er:Int)(wr:World):Prop:=
 ∃(A8:Option Addr) (n c8:Nat) (zs:List Value),Blk wr ya 33 (yc (.slice A8 n c8))∧wr.ownsRow w.heap.size 3 1 (.slice A8 n c8) n zs∧(∀z,(Value.slice A8 n c8).ownBlock=some z->ya<z)∧n<=70001∧
  (er=0->n<=j∧∃acc:List Int,acc.length=n∧zs=acc.map (λm=>.I m)∧goal=listP (kindT 2) numP (ts.drop j).length acc (ts.drop j))
theorem StkJ.kept{goal:PS (List Int)}{yc:Value->Array Value}(h:StkJ w ts goal ya yc j er wr)(hb:Below wr.heap.size wr w2):StkJ w ts goal ya yc j er w2:=by
 obtain⟨A8,n,c8,zs,h1,h2,h3,h4⟩:=h
 exact⟨A8,n,c8,zs,h1.below hb h1.lt,a6! h2 (Kept.of_below (S:=λ_=>False) hb) (λ_ _ h=>h),h3,h4⟩
theorem b56!{t:Tk}(ht:ts[i]?=some t)(k:Int):stB (kindT k) ts i 0=((t.kind:Int)==k):=by
 unfold stB
 rw[a1! ht]
 show ((0:Int)==0&&decide (t.kind=k))=_
 by_cases h:t.kind=k<;>simp[h]
theorem w6!(x:List UInt8):stB (hasT x) ts i 0=hasT x (ts.drop i):=by
 unfold stB
 simp
theorem w7!{f:List Tk->Bool}(h:er≠0):stB f ts i er=false:=by
 unfold stB
 have:(er==0)=false:=by simp[h]
 rw[this]
 rfl
theorem w8!{f:List Tk->Bool}(h:stB f ts i er=true):er=0∧f (ts.drop i)=true:=by
 unfold stB at h
 simpa using h
theorem DP.tok2(h:DP w g A c ts i er)(hi:i+1<ts.length):∃(t:Tk) (b o:Nat),ts[i+1]?=some t∧A=some ⟨b,o,none⟩∧b<w.heap.size∧b≠g∧w.cell? ⟨b,o+(i+1)*5,none⟩=some (.I t.kind)∧w.cell? ⟨b,o+(i+1)*5+1,none⟩=some (.string (str t.text))∧
 w.cell? ⟨b,o+(i+1)*5+2,none⟩=some (.I t.n)∧w.cell? ⟨b,o+(i+1)*5+3,none⟩=some (.I t.line)∧w.cell? ⟨b,o+(i+1)*5+4,none⟩=some (.I t.col):=by
 obtain⟨b,o,rfl,hb,hc⟩:=h.rd.chunk (by omega) hi (u1! ts (i+1) hi)
 exact⟨ts[i+1],b,o,List.getElem?_eq_getElem hi,rfl,hb,λe=>h.far _ rfl e,hc 0 _ rfl,hc 1 _ rfl,hc 2 _ rfl,hc 3 _ rfl,hc 4 _ rfl⟩
def VarJ(base:Nat)(ts:List Tk)(goal:PS (List Va))(ya:Nat)(yc:Value->Array Value)(j:Nat)(er:Int)(wr:World):Prop:=
 ∃(A8:Option Addr) (n c8:Nat) (zs:List Value),Blk wr ya 33 (yc (.slice A8 n c8))∧wr.ownsRow base 133 4 (.slice A8 n c8) n zs∧zs.length=n*4∧(∀u∈zs,u.oneCell'=true)∧n<=70001∧
  (er=0->n<=j∧∃acc:List Va,acc.length=n∧(∀i (h:i<acc.length),(zs.drop (i*4)).take 4=d0! (acc[i]'h))∧goal=listP (hasT [118,97,114]) d8! (ts.drop j).length acc (ts.drop j))
theorem VarJ.kept{goal:PS (List Va)}{yc:Value->Array Value}(h:VarJ base ts goal ya yc j er wr)(hb:Below wr.heap.size wr w2):VarJ base ts goal ya yc j er w2:=by
 obtain⟨A8,n,c8,zs,h1,h2,h3⟩:=h
 exact⟨A8,n,c8,zs,h1.below hb h1.lt,a6! h2 (Kept.of_below (S:=λ_=>False) hb) (λ_ _ h=>h),h3⟩
def ParJ(W:World)(g c:Nat)(A:Option Addr)(ts:List Tk)(ya:Nat)(yc:Value->Array Value)(goal:PS (List Va))(wc:World):Prop:=
 ∃(Ap:Option Addr) (np cp i':Nat) (er':Int),Blk wc ya 33 (yc (.slice Ap np cp))∧DP wc g A c ts i' er'∧Kept (λz=>z=g∨z=ya) W wc∧np<=100000∧DsAt ts i' er' goal (λl=>IsRow 4 QV W.heap.size wc l (.slice Ap np cp))
theorem a26!(h:er=0->kindT 1 (ts.drop i)=false∨g6! (ts.drop i)=false):DsAt ts i er (stP d9! ts i er) (λl=>IsRow 4 QV base w l (.N)):=λhe=>by
 refine⟨[],?_,none,0,0,rfl,ElsG.none_ _ _ _ _ _ _⟩
 unfold stP d9!
 rw[if_pos he]
 rcases h he with h|h
 ·rw[if_pos h]
 ·rw[if_pos h]
  split<;>rfl
theorem b57!{Q:List Va->Prop}(h0:er=0)(h1:kindT 1 (ts.drop i)=true)(h2:g6! (ts.drop i)=true)(h:DsAt ts j er' (stP (i0! []) ts i er) Q):DsAt ts j er' (stP d9! ts i er) Q:=λhe=>by
 obtain⟨l,ha,hq⟩:=h he
 refine⟨l,?_,hq⟩
 unfold stP at ha ⊢
 rw[if_pos h0]at ha ⊢
 rw[e37!,if_neg (by rw[h1];decide),if_neg (by rw[h2];decide)]
 exact ha
def RPTo(w:World)(g c:Nat)(A:Option Addr)(ts:List Tk)(p:PS Pg)(e:Ending)(w':World):Prop:=
 ∃v,e=.returned v∧Kept (λz=>z=g) w w'∧ShPg w' v∧∃(i:Nat) (er:Int),DP w' g A c ts i er∧(er=0->∃a,p=.ok a (ts.drop i)∧kindT 0 (ts.drop i)=true∧IsEl RPC w.heap.size w' a v)
def RowIn{α:Type}(y0 base:Nat)(W1:World)(s:Nat)(Q:Cel α)(R:List α->Prop)(v:Value):Prop:=∀W l,Kept (λz=>z<y0+1∨W1.heap.size<=z) W1 W->R l->RowD (λk=>base<=k) s Q W l v
theorem RowIn.move{α:Type}{y0:Nat}{W1 W2:World}{s:Nat}{Q:Cel α}{R:List α->Prop}{v:Value}(h:RowIn y0 base W1 s Q R v)(hk:Kept (λz=>z<y0+1∨W1.heap.size<=z) W1 W2):RowIn y0 base W2 s Q R v:=
 λW l hk2 hr=>h W l (hk.then_ hk2 (λz hz e=>e.elim .inl (λe=>by have:=hk.size;exact .inr (by omega)))) hr
def tlC:Nat->Code->Code
 |0,c=>c
 |n+1,.seq _ b=>tlC n b
 |_,c=>c
noncomputable def w9!:Code:=Tryz.f70.body.getD .skip
abbrev TyE:=List St×List UInt8×List St×List St
abbrev TyC:=List St×List St×List Va×TyE
abbrev TyB:=List Va×TyC
def restE(r:List Tk):PS TyE:=(partP r).bind λa r=>((mustP [115,105,108,101,110,116]) r).bind λ_ r=>(nameP r).bind λb r=>(partP r).bind λc r=>((mustP [112,97,121]) r).bind λ_ r=>(partP r).bind λd r=>.ok (a,b,c,d) r
def restC(r:List Tk):PS TyC:=((mustP [115,116,97,114,116]) r).bind λ_ r=>(partP r).bind λa r=>((mustP [116,117,114,110]) r).bind λ_ r=>(partP r).bind λb r=>((mustP [112,108,97,121]) r).bind λ_ r=>(d9! r).bind λc r=>(restE r).bind λd r=>.ok (a,b,c,d) r
def restB(r:List Tk):PS TyB:=(o5! r).bind λa r=>(restC r).bind λb r=>.ok (a,b) r
theorem e43!(ts:List Tk)(i:Nat)(er:Int):stP restE ts i er=((((((stP partP ts i er).bind λa r=>((mustP [115,105,108,101,110,116]) r).bind λb r=>.ok (a,b) r).bind λa r=>(nameP r).bind λb r=>.ok (a,b) r).bind λa r=>(partP r).bind λb r=>.ok (a,b) r).bind λa r=>((mustP [112,97,121]) r).bind λb r=>.ok (a,b) r).bind λa r=>(partP r).bind λb r=>.ok (a,b) r).bind λx r=>.ok ((λx:(((((List St×Unit)×List UInt8)×List St)×Unit)×List St)=>((x.1.1.1.1.1,x.1.1.1.2,x.1.1.2,x.2):TyE)) x) r:=by
 by_cases he:er=0
 ·unfold stP
  rw[if_pos he,if_pos he];unfold restE
  simp only[PS.bind_assoc,PS.ok_bind]
  all_goals rfl
 ·unfold stP
  rw[if_neg he,if_neg he]
  rfl
theorem e44!(ts:List Tk)(i:Nat)(er:Int):stP restC ts i er=(((((((stP (mustP [115,116,97,114,116]) ts i er).bind λa r=>(partP r).bind λb r=>.ok (a,b) r).bind λa r=>((mustP [116,117,114,110]) r).bind λb r=>.ok (a,b) r).bind λa r=>(partP r).bind λb r=>.ok (a,b) r).bind λa r=>((mustP [112,108,97,121]) r).bind λb r=>.ok (a,b) r).bind λa r=>(d9! r).bind λb r=>.ok (a,b) r).bind λa r=>(restE r).bind λb r=>.ok (a,b) r).bind λx r=>.ok ((λx:((((((Unit×List St)×Unit)×List St)×Unit)×List Va)×TyE)=>((x.1.1.1.1.1.2,x.1.1.1.2,x.1.2,x.2):TyC)) x) r:=by
 by_cases he:er=0
 ·unfold stP
  rw[if_pos he,if_pos he];unfold restC
  simp only[PS.bind_assoc,PS.ok_bind]
  all_goals rfl
 ·unfold stP
  rw[if_neg he,if_neg he]
  rfl
theorem e45!(ts:List Tk)(i:Nat)(er:Int):stP restB ts i er=((stP o5! ts i er).bind λa r=>(restC r).bind λb r=>.ok (a,b) r).bind λx r=>.ok ((λx:(List Va×TyC)=>((x.1,x.2):TyB)) x) r:=by
 by_cases he:er=0
 ·unfold stP
  rw[if_pos he,if_pos he];unfold restB
  simp only[PS.bind_assoc,PS.ok_bind]
  all_goals rfl
 ·unfold stP
  rw[if_neg he,if_neg he]
  rfl
theorem e46!(ts:List Tk)(i:Nat)(er:Int):stP progP ts i er=(((((((stP (mustP [103,97,109,101]) ts i er).bind λa r=>(nameP r).bind λb r=>.ok (a,b) r).bind λa r=>((mustP [115,101,97,116,115]) r).bind λb r=>.ok (a,b) r).bind λa r=>(numP r).bind λb r=>.ok (a,b) r).bind λa r=>((mustP [115,116,97,107,101]) r).bind λb r=>.ok (a,b) r).bind λa r=>(o4! r).bind λb r=>.ok (a,b) r).bind λa r=>(restB r).bind λb r=>.ok (a,b) r).bind λx r=>.ok ((λx:((((((Unit×List UInt8)×Unit)×Int)×Unit)×List Int)×TyB)=>(⟨x.1.1.1.1.1.2,x.1.1.1.2,x.1.2,x.2.1,x.2.2.1,x.2.2.2.1,x.2.2.2.2.1,x.2.2.2.2.2.1,x.2.2.2.2.2.2.1,x.2.2.2.2.2.2.2.1,x.2.2.2.2.2.2.2.2⟩:Pg)) x) r:=by
 by_cases he:er=0
 ·unfold stP
  rw[if_pos he,if_pos he];unfold progP restB restC restE
  simp only[PS.bind_assoc,PS.ok_bind,e40!,o5!]
  all_goals rfl
 ·unfold stP
  rw[if_neg he,if_neg he]
  rfl
def FrIs(g x y:Nat)(a:Act):Prop:=∃u1 u4 u5 u6 u7 u8 u9 u10 u11 u12 u13 u14 u15 u16 u17 u18 u19 u20 u21 u22 u23 u24 u25 u26 u27 u28 u29 u30 u31 u32 u33 u34 u35 u36 u37 u38 u39 u40 u41 u42 u43 u44 u45 u46 u47 u48 u49 u50 u51 u52 u53 u54 u55 u56 u57 u58 u59 u60 u61 u62 u63 u64 u65 u66 u67 u68 u69 u70 u71 u72 u73 u74 u75 u76 u77 u78 u79 u80 u81 u82 u83 u84 u85 u86 u87 u88 u89 u90 u91 u92 u93 u94 u95 u96 u97 u98 u99 u100 u101 u102 u103 u104 u105 u106 u107 u108 u109 u110 u111 u112 u113 u114 u115 u116 u117 u118 u119 u120 u121 u122 u123 u124 u125 u126 u127 u128 u129 u130 u131 u132 u133 u134 u135 u136 u137 u138 u139 u140 u141 u142 u143 u144 u145 u146 u147 u148 u149 u150 u151 u152 u153 u154 u155 u156 u157 u158 u159 u160 u161 u162 u163 u164 u165 u166 u167 u168 u169 u170 u171 u172 u173 u174 u175 u176 u177 u178 u179 u180 u181 u182 u183 u184 u185 u186 u187 u188 u189 u190 u191 u192 u193 u194 u195 u196 u197 u198 u199 u200 u201 u202 u203 u204 u205 u206 u207 u208 u209 u210 u211 u212 u213 u214 u215 u216 u217 u218 u219 u220 u221 u222 u223 u224 u225 u226 u227 u228 u229 u230:Value,a=⟨List.toArray (.pointer (some ⟨g,0,none⟩)::u1::.pointer (some ⟨x,0,none⟩)::.pointer (some ⟨y,0,none⟩)::u4::u5::u6::u7::u8::u9::u10::u11::u12::u13::u14::u15::u16::u17::u18::u19::u20::u21::u22::u23::u24::u25::u26::u27::u28::u29::u30::u31::u32::u33::u34::u35::u36::u37::u38::u39::u40::u41::u42::u43::u44::u45::u46::u47::u48::u49::u50::u51::u52::u53::u54::u55::u56::u57::u58::u59::u60::u61::u62::u63::u64::u65::u66::u67::u68::u69::u70::u71::u72::u73::u74::u75::u76::u77::u78::u79::u80::u81::u82::u83::u84::u85::u86::u87::u88::u89::u90::u91::u92::u93::u94::u95::u96::u97::u98::u99::u100::u101::u102::u103::u104::u105::u106::u107::u108::u109::u110::u111::u112::u113::u114::u115::u116::u117::u118::u119::u120::u121::u122::u123::u124::u125::u126::u127::u128::u129::u130::u131::u132::u133::u134::u135::u136::u137::u138::u139::u140::u141::u142::u143::u144::u145::u146::u147::u148::u149::u150::u151::u152::u153::u154::u155::u156::u157::u158::u159::u160::u161::u162::u163::u164::u165::u166::u167::u168::u169::u170::u171::u172::u173::u174::u175::u176::u177::u178::u179::u180::u181::u182::u183::u184::u185::u186::u187::u188::u189::u190::u191::u192::u193::u194::u195::u196::u197::u198::u199::u200::u201::u202::u203::u204::u205::u206::u207::u208::u209::u210::u211::u212::u213::u214::u215::u216::u217::u218::u219::u220::u221::u222::u223::u224::u225::u226::u227::u228::u229::u230::[]),[]⟩
end Go.Proofs.YtdgekckedchjbaaGreatDoor
