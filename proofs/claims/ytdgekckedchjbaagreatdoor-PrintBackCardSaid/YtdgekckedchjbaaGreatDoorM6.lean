
/-
 The document's lexer: its tokens are the program's. The document's parser: where it stands; its small steps. The document's parser of expressions: plain, under, expr. (Printed by wip/tools/gend4.py.)
-/
import Derived.Test.YtdgekckedchjbaaGreatDoorM5
import Derived.Test.YtdgekckedchjbaaGreatDoorQQ
import Derived.Deep.RegionHeld3
set_option maxHeartbeats 8000000
set_option maxRecDepth 100000
namespace Go.Proofs.YtdgekckedchjbaaGreatDoor
open Go.RowKit
variable {l:List UInt8} {n:Nat} {c:UInt8} {w w':World}
theorem b34!:(Tryz.prog.info? 108).map (λi=>(i.zero,i.size,i.bytes))=some (some (.agg #[.I 0,.string ByteArray.empty,.I 0,.I 0,.I 0]),5,48):=by kernel_rfl
theorem b35!(h:l≠[]):1<=endS l∧endS l<=l.length:=by
 obtain⟨c,r,rfl⟩:=List.exists_cons_of_ne_nil h
 unfold endS
 rw[List.headD_cons]
 split
 ·rename_i hc
  exact⟨l5! (by unfold innB;rcases hc with h|h<;>simp[h]),j1! _ _⟩
 ·split
  ·rename_i h2
   exact⟨by omega,by omega⟩
  ·exact⟨by omega,by simp⟩
theorem d89!(hn:1<=n):(l.take n).headD 0=l.headD 0:=by
 obtain⟨m,rfl⟩:∃m,n=m+1:=⟨n-1,by omega⟩
 cases l<;>rfl
theorem d90!(h:letB c=true):digB c=false:=by
 cases hd:digB c with
 |false=>rfl
 |true=>
  have h1:=l4!.1 hd;unfold letB at h
  simp at h
  omega
theorem d91!(h:l≠[]):(refPc (l.take (endS l))).err=(a3! l).err∧((a3! l).err=0->refPc (l.take (endS l))=a3! l∧(a3! l).text=l.take (endS l)):=by
 obtain⟨p1,p2⟩:=b35! h
 have hh:=d89! (l:=l) p1
 have hlen:(l.take (endS l)).length=endS l:=by rw[List.length_take];omega
 unfold refPc
 rw[hh,hlen]
 unfold a3!
 by_cases h1:letB (l.headD 0)=true
 ·have he:endS l=preN innB l:=by unfold endS;rw[if_pos (.inl h1)]
  rw[he,if_neg (by rw[d90! h1];decide),if_neg (by rw[h1];decide),if_pos h1]
  by_cases h2:30<preN innB l
  ·rw[if_pos h2]
   exact⟨rfl,λh=>absurd h (by decide)⟩
  ·rw[if_neg h2]
   by_cases h3:l.take (preN innB l)∈d6!
   ·rw[if_pos h3]
    exact⟨rfl,λ_=>⟨rfl,rfl⟩⟩
   ·rw[if_neg h3]
    exact⟨rfl,λ_=>⟨rfl,rfl⟩⟩
 ·by_cases h2:digB (l.headD 0)=true
  ·have he:endS l=preN innB l:=by unfold endS;rw[if_pos (.inr h2)]
   rw[he,if_pos h2,if_neg h1,if_pos h2]
   by_cases h3:(numS (l.take (preN innB l))).2≠0
   ·rw[if_pos h3]
    exact⟨rfl,λh=>absurd h h3⟩
   ·rw[if_neg h3]
    have h4:(numS (l.take (preN innB l))).2=0:=Classical.not_not.1 h3;exact⟨h4,λ_=>⟨by rw[h4],rfl⟩⟩
  ·rw[if_neg h2,if_pos (by cases hb:letB (l.headD 0)with|false=>rfl|true=>exact absurd hb h1),if_neg h1,if_neg h2]
   by_cases h3:1<l.length∧l.take 2∈a9!
   ·have he:endS l=2:=by unfold endS;rw[if_neg (by rintro (h|h);exact h1 h;exact h2 h),if_pos h3]
    rw[he,if_pos h3.2,if_pos (show 2<=l.length∧l.take 2∈a9! from⟨by omega,h3.2⟩)];exact⟨rfl,λ_=>⟨rfl,rfl⟩⟩
   ·have he:endS l=1:=by unfold endS;rw[if_neg (by rintro (h|h);exact h1 h;exact h2 h),if_neg h3]
    rw[he,if_neg (show ¬(2<=l.length∧l.take 2∈a9!)from λh=>h3 ⟨by omega,h.2⟩)]
    by_cases h4:l.take 1∈a9!
    ·rw[if_pos h4]
     exact⟨rfl,λ_=>⟨rfl,rfl⟩⟩
    ·rw[if_neg h4]
     exact⟨rfl,λh=>absurd h (by decide)⟩
def RTo(w:World)(o:Res)(e:Ending)(w':World):Prop:=Below w.heap.size w w'∧match o with
 | .ok ts=>∃(A:Option Addr) (c:Nat),e=.returned (.tuple #[.slice A ts.length c,.int .i64 0,.int .i64 0,.int .i64 0])∧w'.ownsRow w.heap.size 108 5 (.slice A ts.length c) ts.length (b8! ts)
 | .err l c er=>e=.returned (.tuple #[.slice none 0 0,.int .i64 l,.int .i64 c,.int .i64 er])
theorem RTo.ok{o:Res}{ts:List Tk}{A:Option Addr}{c:Nat}(h:o=.ok ts)(hb:Below w.heap.size w w')(hn:n=ts.length)(ho:w'.ownsRow w.heap.size 108 5 (.slice A n c) n (b8! ts)):
 RTo w o (.returned (.tuple #[.slice A n c,.I 0,.I 0,.I 0])) w':=by
 subst h hn
 exact⟨hb,A,c,rfl,ho⟩
theorem RTo.err{o:Res}{l c er:Int}(h:o=.err l c er)(hb:Below w.heap.size w w'):RTo w o (.returned (.tuple #[.N,.I l,.I c,.I er])) w':=by
 subst h
 exact⟨hb,rfl⟩
theorem b36!(W:World)(t:TypeId)(a b c d e:Value):Reads (W.alloc (.cells #[a,b,c,d,e] t)) (W.heap.size+1) 5 (some ⟨W.heap.size,0,none⟩) 1 [a,b,c,d,e]:=by
 refine⟨rfl,λ_=>⟨_,rfl,by simp,λj u hu=>?_⟩⟩
 rw[Addr.add_lit,Nat.zero_add,(Blk.new W t #[a,b,c,d,e]).cell j]
 simpa using hu
theorem one5(t:Tk):∀u∈b7! t,u.oneCell'=true:=by
 intro u hu
 simp only[b7!,List.mem_cons,List.not_mem_nil,or_false]at hu
 rcases hu with rfl|rfl|rfl|rfl|rfl<;>rfl
theorem m3!(hn:n<256)(h:¬c=UInt8.ofNat n):((((c.toNat:Nat):Int))==(n:Int))=false:=by
 have:¬((c.toNat:Nat):Int)=n:=λh1=>h (UInt8.toNat_inj.1 (by rw[UInt8.toNat_ofNat'];omega))
 simpa using this
theorem d92!(s:ByteArray)(w:World)(hs:s.size<=65536):
 Calls Tryz.prog 46 #[.string s] w (RTo w (lexS s.data.toList)):=by
 obtain⟨X,hX⟩:∃X,s.data.toList=X:=⟨_,rfl⟩
 have hlen:X.length=s.size:=by rw[<-hX,b1!]
 rw[hX]
 have HX:=h! hX
 have HL:=h! hlen
 obtain⟨o,ho⟩:∃o,lexS X=o:=⟨_,rfl⟩
 have h0:Hid (lexF (X.length+1) (X.drop 0) 1 ((0:Nat)-(0:Nat)+1) []=o):=ho
 rw[ho]
 clear hX hlen ho
 have O0:Hid (w.ownsRow w.heap.size 108 5 (.N) ([]:List Tk).length (b8! [])):=World.ownsRow_nil _ _ _ _
 go_enter Tryz.func46,Tryz.ntmps46
 go_wp2_with fail
 go_loopw [6,7,8,9] (λv lv fv av wr=>∃(k fr f:Nat) (line:Int) (acc:List Tk),k<=s.size∧fr<=k∧av=.I k∧fv=.I fr∧lv=.I line∧1<=line∧line<=k+1∧Hid (wr.ownsRow w.heap.size 108 5 v acc.length (b8! acc))∧acc.length<=k∧Hid (lexF f (X.drop k) line ((k:Int)-(fr:Int)+1) acc=o)∧s.size-k<f∧Hid (Below w.heap.size w wr)) (λ_ _ _ av _=>s.size-(intOf av).toNat)
 case atStart=>exact⟨0,0,X.length+1,1,[],by omega,by omega,rfl,rfl,rfl,by omega,by omega,O0,by simp,h0,by rw[HL.out];omega,Below.refl _ _⟩
 case round=>
  obtain⟨k,fr,f,line,acc,hk,hfr,rfl,rfl,rfl,hl1,hl2,hoA,hac,hlx,hf,hbw⟩:=hrel;obtain⟨wo,rfl⟩:∃x,x=wr:=⟨_,rfl⟩
  obtain⟨f,rfl⟩:∃g,f=g+1:=⟨f-1,by omega⟩
  have wl:=y! (line+1);have wk:=y! ((k:Int)+1);have wc:=y! ((k:Int)-(fr:Int));have wd:=y! ((k:Int)-(fr:Int)+1)
  by_cases hlt:k<s.size
  ·have hkX:k<X.length:=by rw[HL.out];exact hlt
   obtain⟨c,hc⟩:∃c:UInt8,s[k]=c:=⟨_,rfl⟩
   have hd:X.drop k=c::X.drop (k+1):=by
    have h1:=h1! s hlt;rw[HX.out,List.getElem?_eq_getElem hkX,hc]at h1;rw[List.drop_eq_getElem_cons hkX,Option.some.inj h1]
   have HD:=h! hd;have hst:=hlx.out;rw[hd,p0! rfl]at hst;clear hd hlx
   by_cases c10:c=10
   ·have HS:Hid (lexF f (X.drop (k+1)) (line+1) (((k+1:Nat):Int)-((k+1:Nat):Int)+1) acc=o):=by
     rw[Hid,Int.sub_self];rw[if_pos c10]at hst;exact hst
    have e10:((c.toNat:Nat):Int)=10:=by rw[c10];rfl
    clear hst c10;go_wp2_with fail
    go_roundw
    case rel=>exact⟨k+1,k+1,f,line+1,acc,by omega,by omega,by go_num,by go_num,rfl,by omega,by omega,hoA,by omega,HS,by omega,hbw⟩
    case measure=>simp[intOf];omega
   rw[if_neg c10]at hst;have b10:((((c.toNat:Nat):Int))==10)=false:=m3! (n:=10) (by decide) c10
   by_cases c32:c=32∨c=9
   ·have HS:Hid (lexF f (X.drop (k+1)) line (((k+1:Nat):Int)-(fr:Int)+1) acc=o):=by
     rw[if_pos c32]at hst;rw[Hid,<-hst]
     congr 1
     omega
    clear hst c10;rcases c32 with c32|c9
    ·have e32:((c.toNat:Nat):Int)=32:=by rw[c32];rfl
     clear c32;go_wp2_with fail
     go_roundw
     case rel=>exact⟨k+1,fr,f,line,acc,by omega,by omega,by go_num,rfl,rfl,by omega,by omega,hoA,by omega,HS,by omega,hbw⟩
     case measure=>simp[intOf];omega
    ·have e9:((c.toNat:Nat):Int)=9:=by rw[c9];rfl
     have b32:((((c.toNat:Nat):Int))==32)=false:=m3! (c:=c) (n:=32) (by decide) (by rw[c9];decide);clear c9;go_wp2_with fail
     go_roundw
     case rel=>exact⟨k+1,fr,f,line,acc,by omega,by omega,by go_num,rfl,rfl,by omega,by omega,hoA,by omega,HS,by omega,hbw⟩
     case measure=>simp[intOf];omega
   rw[if_neg c32]at hst;have b32:((((c.toNat:Nat):Int))==32)=false:=m3! (c:=c) (n:=32) (by decide) (λh=>c32 (.inl h));have b9:((((c.toNat:Nat):Int))==9)=false:=m3! (c:=c) (n:=9) (by decide) (λh=>c32 (.inr h));clear c10 c32
   by_cases c35:c=35
   ·rw[if_pos c35]at hst
    have HST:=h! hst;have e35:((c.toNat:Nat):Int)=35:=by rw[c35];rfl
    clear hst c35;go_wp2_with fail
    go_loopw [9] (λav wq=>∃q:Nat,k<=q∧q<=s.size∧av=.I q∧Hid (∀j (hj:j<(X.drop k).length),j<q-k->nlB ((X.drop k)[j]'hj)=true)∧wq=wo) (λav _=>s.size-(intOf av).toNat)
    case atStart=>exact⟨k,by omega,by omega,rfl,(λj hj h=>absurd h (by omega)),rfl⟩
    case round=>
     obtain⟨q,hkq,hq,rfl,hp,rfl⟩:=hrel;have wq':=y! ((q:Int)+1);have hgo:preN nlB (X.drop k)=q-k->k<q->Hid (lexF f (X.drop q) line ((q:Int)-(fr:Int)+1) acc=o):=λh1 h2=>by
      have h3:=HST.out;rw[<-HD.out,h1,List.drop_drop,show k+(q-k)=q by omega]at h3;rw[Hid,<-h3]
      congr 1
      omega
     have HGO:=h! hgo;clear hgo
     by_cases hlt2:q<s.size
     ·obtain⟨d,hdq⟩:∃d:UInt8,s[q]=d:=⟨_,rfl⟩
      have hqX:q-k<(X.drop k).length:=by rw[List.length_drop,HL.out];omega
      have hXd:(X.drop k)[q-k]'hqX=d:=by
       have h1:=h1! s hlt2;have h2:(X.drop k)[q-k]?=X[q]?:=by rw[List.getElem?_drop,show k+(q-k)=q by omega]
       rw[HX.out,hdq]at h1;rw[h1,List.getElem?_eq_getElem hqX]at h2;exact Option.some.inj h2
      have HXD:=h! hXd;clear hXd
      by_cases d10:d=10
      ·have hne:k<q:=by
        rcases Nat.lt_or_ge k q with h|h
        ·exact h
        ·exfalso
         have:k=q:=by omega
         subst this;rw[hc]at hdq;rw[<-hdq]at d10;rw[d10]at e35;exact absurd e35 (by decide)
       have HN:=HGO.out (h0! (by omega) hp.out (λhj=>by rw[HXD.out,d10];rfl)) hne;have e10:((d.toNat:Nat):Int)=10:=by rw[d10];rfl
       clear d10;go_wp2_with fail
       go_roundw
       case rel=>exact⟨q,fr,f,line,acc,by omega,by omega,rfl,rfl,rfl,by omega,by omega,hoA,by omega,HN,by omega,hbw⟩
       case measure=>simp[intOf];omega
      ·have b10':((((d.toNat:Nat):Int))==10)=false:=m3! (c:=d) (n:=10) (by decide) d10
       have HP2:Hid (∀j (hj:j<(X.drop k).length),j<q+1-k->nlB ((X.drop k)[j]'hj)=true):=λj hj h=>by
        rcases Nat.lt_or_ge j (q-k)with h1|h1
        ·exact hp.out j hj h1
        ·obtain rfl:j=q-k:=by omega
         rw[HXD.out];unfold nlB;rw[decide_eq_true_iff]
         intro e
         exact d10 (UInt8.toNat_inj.1 (by rw[e];rfl))
       clear d10;go_wp2_with fail
       go_roundw
       case rel=>exact⟨q+1,by omega,by omega,by go_num,HP2,by trivial⟩
       case measure=>simp[intOf];omega
     ·obtain rfl:q=s.size:=by omega
      have HN:=HGO.out (h0! (by rw[List.length_drop,HL.out];omega) hp.out (λhj=>by rw[List.length_drop,HL.out]at hj;omega)) hlt;go_wp2_with fail
      go_roundw
      case rel=>exact⟨s.size,fr,f,line,acc,by omega,by omega,rfl,rfl,rfl,by omega,by omega,hoA,by omega,HN,by omega,hbw⟩
      case measure=>simp[intOf];omega
   rw[if_neg c35]at hst;have b35:((((c.toNat:Nat):Int))==35)=false:=m3! (c:=c) (n:=35) (by decide) c35;rw[<-HD.out]at hst;have hne:X.drop k≠[]:=by rw[HD.out];simp
   obtain⟨p1,p2⟩:=b35! hne;obtain⟨l1,l2⟩:=d91! hne;rw[List.length_drop,HL.out]at p2;obtain⟨n,hn⟩:∃n,endS (X.drop k)=n:=⟨_,rfl⟩
   obtain⟨x,hx⟩:∃x,(X.drop k).take n=x:=⟨_,rfl⟩
   rw[hn]at p1 p2 l1 l2;rw[hx]at l1 l2;have hxl:x.length=n:=by rw[<-hx,List.length_take,List.length_drop,HL.out];omega
   have hex:s.extract k (k+n)=str x:=by
    apply j2!
    rw[str_list,<-hx,<-HX.out]
    simp[List.take_drop]
   have E1:=h! (d80! s k wo hlt hs);rw[HX.out,hn]at E1;have wn:(0:Int)<=(k:Int):=by omega
   have wn2:(k:Int)<=((k+n:Nat):Int):=by omega
   have wn3:((k+n:Nat):Int)<=(s.size:Int):=by omega
   have HST:=h! hst;have L1:=h! l1;have L2:=h! l2;have HXL:=h! hxl;have hbz:=hbw.out.size;have P1:=h! (λW=>d79! x W (by intro e;rw[e]at hxl;simp at hxl;omega) (by rw[hxl];omega));clear hst c35 hne hx hn l1 l2 hxl;go_wp2_with fail;refine E1.out.mono ?_;rintro e w1⟨rfl,b1⟩;go_wp2_with fail;refine(P1.out w1).mono ?_;rintro e w2⟨rfl,b2⟩;have F2:=h! (hbw.out.trans ((b1.trans (b2.mono b1.size)).mono hbz));have B12:=h! (b1.trans (b2.mono b1.size));clear b1 b2 E1 P1;unfold pcV;obtain⟨⟨pk,pt,pn,pe⟩,hp⟩:∃p,refPc x=p:=⟨_,rfl⟩
   rw[hp]at L1 L2 ⊢;obtain⟨ql,hql⟩:∃q,a3! (X.drop k)=q:=⟨_,rfl⟩
   rw[hql]at L1 L2 HST;have l1:pe=ql.err:=L1.out
   by_cases hz:ql.err=0
   ·obtain⟨h3,h4⟩:=L2.out hz
    subst h3
    simp only at hz h4
    subst hz h4;have hst:=HST.out;rw[if_neg (by simp)]at hst
    simp only at hst
    rw[HXL.out]at hst;have HS:Hid (lexF f (X.drop (k+n)) line (((k+n:Nat):Int)-(fr:Int)+1) (acc++[⟨pk,pt,pn,line,(k:Int)-(fr:Int)+1⟩])=o):=by
     rw[Hid,<-hst,List.drop_drop]
     congr 1
     omega
    obtain⟨i0,hi0,hz0,hz1,hz2⟩:=info_parts b34!;obtain⟨m,hm⟩:∃m,acc.length=m:=⟨_,rfl⟩
    have hO:=hoA.out;rw[hm]at hO hac;have HM:=h! hm;have hbl:=a96! hO;have hblt:=c2! hO;have O2:=h! (a63! hO B12.out (Nat.le_refl _));have HBL:=h! hbl;have HBT:=h! hblt;have f2z:=F2.out.size;have b12z:=B12.out.size;clear hst hql l1 L1 L2 HST hp hO hm hbl hblt;go_upto_region 20 with fail;have y3:=Blk.new w2 108 #[.I pk,.string (str pt),.I pn,.I line,.I ((k:Int)-(fr:Int)+1)];have F3:=h! (F2.out.alloc F2.out.size (.cells #[.I pk,.string (str pt),.I pn,.I line,.I ((k:Int)-(fr:Int)+1)] 108));have O3:=h! (World.ownsRow.alloc O2.out (.cells #[.I pk,.string (str pt),.I pn,.I line,.I ((k:Int)-(fr:Int)+1)] 108));generalize w2.alloc (.cells #[.I pk,.string (str pt),.I pn,.I line,.I ((k:Int)-(fr:Int)+1)] 108)=W3 at*;have s0:=y3.cell 0;have s1:=y3.cell 1;have s2:=y3.cell 2;have s3:=y3.cell 3;have s4:=y3.cell 4;have own7:=h! (World.ownsRow.alloc O3.out (.cells #[.I pk,.string (str pt),.I pn,.I line,.I ((k:Int)-(fr:Int)+1)] 108));have RD:=h! (b36! W3 108 (.I pk) (.string (str pt)) (.I pn) (.I line) (.I ((k:Int)-(fr:Int)+1)));have ONE:=h! (one5 ⟨pk,pt,pn,line,(k:Int)-(fr:Int)+1⟩);have f3z:=F3.out.size;clear y3 O2 O3
    go_wp2_with (first|(at_builtin;refine e5! _ (by rfl) (.tmp 82) (.tmp 84) 100 rfl w.heap.size 108 i0 _ 5 48 Tryz.underlying100 hi0 hz0 hz1 hz2 rfl (by omega) u6 m (b8! acc) rfl own7.out _ _ 1 1 (b7! ⟨pk,pt,pn,line,(k:Int)-(fr:Int)+1⟩) rfl RD.out ONE.out (by unfold maxLen;omega) (by omega) (by simp;omega) ?_;intro v8 w8 o8 g8 at8;have b8:Below w.heap.size w w8:=(F3.out.alloc f3z _).trans ((Kept.of_grown (S:=λk=>w.heap.size<=k) g8 HBL.out).to_below (by simp;omega) (λk hk=>by omega));have O8:=h! o8;have B8:=h! b8;clear o8 g8 at8 b8))
    go_roundw
    case rel=>exact⟨k+n,fr,f,line,acc++[⟨pk,pt,pn,line,(k:Int)-(fr:Int)+1⟩],by omega,by omega,by go_num,rfl,rfl,by omega,by omega,(by
     have h:=O8.out;rw[<-t7!]at h;rw[Hid,List.length_append,HM.out];exact h),by rw[List.length_append,HM.out];simp;omega,HS,by omega,B8.out⟩
    case measure=>simp[intOf];omega
   ·have hst:=HST.out
    rw[if_pos hz]at hst;have HS:=h! hst;have hpe:¬pe=0:=by rw[l1];exact hz
    have hpb:((pe:Int)==0)=false:=by simpa using hpe
    rw[<-l1]at HS;clear hst hql l1 L1 L2 HST hp hz;go_wp2_with fail;refine bodyPost_ret (v:=.tuple #[.N,.I line,.I ((k:Int)-(fr:Int)+1),.I pe]) (by simp[results,Tryz.results46,go_sem]) rfl ?_;exact RTo.err HS.out.symm (F2.out.alloc F2.out.size _)
  ·obtain rfl:k=s.size:=by omega
   have hd:X.drop s.size=[]:=List.drop_eq_nil_of_le (by rw[HL.out];exact Nat.le_refl _);have hst:=hlx.out;rw[hd,lexF]at hst;have HST:=h! hst;obtain⟨i0,hi0,hz0,hz1,hz2⟩:=info_parts b34!;obtain⟨m,hm⟩:∃m,acc.length=m:=⟨_,rfl⟩
   have hO:=hoA.out;rw[hm]at hO hac;have HM:=h! hm;have HBL:=h! (a96! hO);have own7:=h! (World.ownsRow.alloc hO (.cells #[.I 0,.E,.I 0,.I line,.I ((s.size:Int)-(fr:Int)+1)] 108));have RD:=h! (b36! wo 108 (.I 0) (.E) (.I 0) (.I line) (.I ((s.size:Int)-(fr:Int)+1)));have ONE:=h! (one5 ⟨0,[],0,line,(s.size:Int)-(fr:Int)+1⟩);have hbz:=hbw.out.size;clear hst hd hlx hO hm
   go_wp2_with (first|(at_builtin;refine e5! _ (by rfl) (.tmp 87) (.tmp 94) 100 rfl w.heap.size 108 i0 _ 5 48 Tryz.underlying100 hi0 hz0 hz1 hz2 rfl (by omega) u6 m (b8! acc) rfl own7.out _ _ 1 1 (b7! ⟨0,[],0,line,(s.size:Int)-(fr:Int)+1⟩) rfl RD.out ONE.out (by unfold maxLen;omega) (by omega) (by simp;omega) ?_;intro v8 w8 o8 g8 at8;have b8:Below w.heap.size w w8:=(hbw.out.alloc hbz _).trans ((Kept.of_grown (S:=λk=>w.heap.size<=k) g8 HBL.out).to_below (by simp;omega) (λk hk=>by omega));have O8:=h! o8;have B8:=h! b8;clear o8 g8 at8 b8))
   obtain⟨A8,c8,rfl⟩:=a47! O8.out;refine bodyPost_ret (v:=.tuple #[.slice A8 (m+1) c8,.I 0,.I 0,.I 0]) (by simp[results,Tryz.results46,go_sem]) rfl ?_;refine RTo.ok (ts:=acc++[⟨0,[],0,line,(s.size:Int)-(fr:Int)+1⟩]) HST.out.symm B8.out (by rw[List.length_append,HM.out];rfl) ?_;rw[t7!];exact O8.out
end Go.Proofs.YtdgekckedchjbaaGreatDoor
set_option maxHeartbeats 2000000
set_option maxRecDepth 100000
namespace Go.Proofs.YtdgekckedchjbaaGreatDoor
open Go.RowKit
def m4!:List (List UInt8):=[[111,114],[97,110,100],[61],[33,61],[60],[60,61],[62],[62,61],[43],[45],[42],[47],[37]]
structure DP (w:World) (g:Nat) (A:Option Addr) (c:Nat) (ts:List Tk) (i:Nat) (er:Int):Prop where
 rd:Reads w w.heap.size 5 A ts.length (b8! ts)
 far:∀a,A=some a->a.block≠g
 lim:ts.length<=70000
 more:∀(t:Tk) (j:Nat),ts[j]?=some t->t.kind≠0->j+1<ts.length
 mark:∀t∈ts,t.text∈m4!->t.kind=3∨t.kind=4
 blk:Blk w g 105 #[.slice A ts.length c,.I i,.I er]
 at_:i<ts.length
section
variable {w w':World} {g c:Nat} {A:Option Addr} {ts:List Tk} {i:Nat} {er:Int}
theorem DP.put{S:Nat->Prop}(h:DP w g A c ts i er)(hk:Kept S w w')(hs:∀k,k<w.heap.size->S k->k=g){i':Nat}{er':Int}(hi:i'<ts.length)(hb:Blk w' g 105 #[.slice A ts.length c,.I i',.I er']):DP w' g A c ts i' er':=
 ⟨Reads.keptfar h.rd (hk.mono hs) h.far,h.far,h.lim,h.more,h.mark,hb,hi⟩
theorem DP.below(h:DP w g A c ts i er)(hb:Below w.heap.size w w'):DP w' g A c ts i er:=h.put (Kept.of_below (S:=λ_=>False) hb) (λ_ _ h=>h.elim) h.at_ (h.blk.below hb h.blk.lt)
theorem DP.tok(h:DP w g A c ts i er):∃(t:Tk) (b o:Nat),ts[i]?=some t∧A=some ⟨b,o,none⟩∧b<w.heap.size∧b≠g∧w.cell? ⟨b,o+i*5,none⟩=some (.I t.kind)∧w.cell? ⟨b,o+i*5+1,none⟩=some (.string (str t.text))∧
 w.cell? ⟨b,o+i*5+2,none⟩=some (.I t.n)∧w.cell? ⟨b,o+i*5+3,none⟩=some (.I t.line)∧w.cell? ⟨b,o+i*5+4,none⟩=some (.I t.col):=by
 have hi:=h.at_
 obtain⟨b,o,rfl,hb,hc⟩:=h.rd.chunk (by omega) hi (u1! ts i hi)
 exact⟨ts[i],b,o,List.getElem?_eq_getElem hi,rfl,hb,λe=>h.far _ rfl e,hc 0 _ rfl,hc 1 _ rfl,hc 2 _ rfl,hc 3 _ rfl,hc 4 _ rfl⟩
theorem DP.one(h:DP w g A c ts i er):∃t:Tk,ts[i]?=some t:=⟨ts[i]'h.at_,List.getElem?_eq_getElem h.at_⟩
end
theorem c3!(g c:Nat)(A:Option Addr)(ts:List Tk)(i:Nat)(er:Int)(w:World)(h:DP w g A c ts i er)(t:Tk)(ht:ts[i]?=some t):
 Calls Tryz.prog 48 #[.pointer (some ⟨g,0,none⟩)] w λe w'=>e=.returned (.agg #[.I t.kind,.string (str t.text),.I t.n,.I t.line,.I t.col])∧Below w.heap.size w w':=by
 obtain⟨t',b,o,ht',rfl,hb,hbg,q0,q1,q2,q3,q4⟩:=h.tok
 obtain rfl:t'=t:=Option.some.inj (ht'.symm.trans ht)
 have B:=h.blk
 have hi:=h.at_
 obtain⟨n,hn⟩:∃n,ts.length=n:=⟨_,rfl⟩
 rw[hn]at B hi
 obtain⟨W1,hW1⟩:∃W,W=w.alloc (.cells #[.I 0,.E,.I 0,.I 0,.I 0] 108):=⟨_,rfl⟩
 have c1:Blk W1 w.heap.size 108 #[.I 0,.E,.I 0,.I 0,.I 0]:=by
  rw[hW1];exact Blk.new w _ _
 have f1:Below w.heap.size w W1:=by
  rw[hW1];exact(Below.refl _ w).al _
 have HB:=h! (B.below f1 B.lt)
 have e0:=(f1.cell (p:=⟨b,o+i*5,none⟩) hb).trans q0
 have e1:=(f1.cell (p:=⟨b,o+i*5+1,none⟩) hb).trans q1
 have e2:=(f1.cell (p:=⟨b,o+i*5+2,none⟩) hb).trans q2
 have e3:=(f1.cell (p:=⟨b,o+i*5+3,none⟩) hb).trans q3
 have e4:=(f1.cell (p:=⟨b,o+i*5+4,none⟩) hb).trans q4
 obtain⟨k0,k1⟩:=HB.out.A2
 have C1:=h! c1
 have F1:=h! f1
 have HW:=h! hW1
 have g1:(0:Int)<=(i:Int):=by omega
 have g2:(i:Int)<(n:Int):=by omega
 obtain⟨v0,v1,v2,v3,v4⟩:=c1.A5
 have y0:=c1.frozen 0
 have y1:=c1.frozen 1
 have y2:=c1.frozen 2
 have y3:=c1.frozen 3
 have y4:=c1.frozen 4
 clear h ht ht' hn q0 q1 q2 q3 q4 B c1 f1 hW1
 go_enter Tryz.func48,Tryz.ntmps48
 go_upto_region 1 with fail
 rw[<-show W1=_ from HW.out]
 clear HW
 go_region
 obtain⟨W9,e9,X9,K9⟩:=C1.out.e5 (.I t'.kind) (.string (str t'.text)) (.I t'.n) (.I t'.line) (.I t'.col)
 rw[e9]
 clear e9
 clear v0 v1 v2 v3 v4 y0 y1 y2 y3 y4
 obtain⟨s0,s1,s2,s3,s4⟩:=X9.A5
 have fz:=F1.out.size
 go_wp2_with fail
 refine bodyPost_ret (v:=.agg #[.I t'.kind,.string (str t'.text),.I t'.n,.I t'.line,.I t'.col]) (by simp[results,Tryz.results48,go_sem,s0,s1,s2,s3,s4]) rfl ⟨rfl,?_⟩
 exact(F1.out.trans (K9.to_below fz (λz hz e=>by omega))).drew
theorem d3!(g c:Nat)(A:Option Addr)(ts:List Tk)(i:Nat)(er:Int)(s:ByteArray)(w:World)(h:DP w g A c ts i er):
 Calls Tryz.prog 104 #[.pointer (some ⟨g,0,none⟩),.string s] w (Tells w (hasT s.data.toList (ts.drop i))):=by
 obtain⟨t,ht⟩:=h.one
 have NW:=h! (c3! g c A ts i er w h t ht)
 have HB:Hid (hasT s.data.toList (ts.drop i)=((decide (t.kind=3)||decide (t.kind=4))&&decide (t.text=s.data.toList))):=by
  rw[a1! ht]
  rfl
 have htx:((str t.text).toList==s.toList)=decide (t.text=s.data.toList):=by
  rw[tl_eq,tl_eq,str_list]
  by_cases h:t.text=s.data.toList<;>simp[h]
 obtain⟨bx,hbx⟩:∃b,decide (t.text=s.data.toList)=b:=⟨_,rfl⟩
 rw[hbx]at HB htx
 clear h ht hbx
 go_enter Tryz.func104,Tryz.ntmps104
 go_wp2_with fail
 refine NW.out.mono ?_
 rintro e w1⟨rfl,b1⟩
 have b2:Below w.heap.size w (w1.alloc (.cells #[.I t.kind,.string (str t.text),.I t.n,.I t.line,.I t.col] 108)):=b1.al _
 by_cases k3:t.kind=3
 ·have HC:Hid (hasT s.data.toList (ts.drop i)=bx):=by rw[Hid,HB.out,k3];simp
  have e3:((t.kind:Int)==3)=true:=by simp[k3]
  clear k3 HB;go_wp2_with fail
  go_ret
  exact⟨by rw[HC.out];rfl,b2⟩
 ·have e3:((t.kind:Int)==3)=false:=by simp[k3]
  by_cases k4:t.kind=4
  ·have HC:Hid (hasT s.data.toList (ts.drop i)=bx):=by rw[Hid,HB.out,k4];simp
   have e4:((t.kind:Int)==4)=true:=by simp[k4]
   clear k3 k4 HB;go_wp2_with fail
   go_ret
   exact⟨by rw[HC.out];rfl,b2⟩
  ·have HC:Hid (hasT s.data.toList (ts.drop i)=false):=by rw[Hid,HB.out];simp[k3,k4]
   have e4:((t.kind:Int)==4)=false:=by simp[k4]
   clear k3 k4 HB;go_wp2_with fail
   go_ret
   exact⟨by rw[HC.out];rfl,b2⟩
def DTo(w:World)(g c:Nat)(A:Option Addr)(ts:List Tk)(v:Value)(i:Nat)(er:Int)(e:Ending)(w':World):Prop:=
 e=.returned v∧DP w' g A c ts i er∧Kept (λz=>z=g) w w'
theorem c4!(w:World)(k n l c:Int)(s:ByteArray):Sem.run Tryz.prog (Instr.field 108 (.agg #[.I k,.string s,.I n,.I l,.I c]) 0) w=.ok (.I k) w:=by rfl
theorem i8!(g c:Nat)(A:Option Addr)(ts:List Tk)(i:Nat)(w:World)(h:DP w g A c ts i 0):
 Calls Tryz.prog 49 #[.pointer (some ⟨g,0,none⟩)] w λe w'=>∃er,er≠0∧DTo w g c A ts (.tuple #[]) i er e w':=by
 obtain⟨t,ht⟩:=h.one
 have B:=h.blk
 have c2:=B.c2
 have z2:=B.frozen 2
 have K3:=Kept.refl (λz=>z=g) w |>.setCell (p:=⟨g,2,none⟩) (λ_=>rfl) (.I 3)
 have B3:Blk (w.setCell ⟨g,2,none⟩ (.I 3)) g 105 #[.slice A ts.length c,.I i,.I 3]:=by
  have:=B.set_ 2 (.I 3)
  simpa using this
 have D3:=h! (h.put K3 (λ_ _ e=>e) h.at_ B3)
 have NW:=h! (c3! g c A ts i 3 _ D3.out t ht)
 have K3':=h! K3
 clear h ht B B3 K3
 go_enter Tryz.func49,Tryz.ntmps49
 go_wp2_with fail
 generalize w.setCell ⟨g,2,none⟩ (.I 3)=W3 at*
 refine NW.out.mono ?_
 rintro e w1⟨rfl,b1⟩
 have D4:=h! (D3.out.below b1)
 have K4:=e! K3' b1
 have y2:=D4.out.blk.c2
 have u2:=D4.out.blk.frozen 2
 by_cases k0:t.kind=0
 ·have e0:((t.kind:Int)==0)=true:=by simp[k0]
  have K5:=(Kept.refl (λz=>z=g) w1).setCell (p:=⟨g,2,none⟩) (λ_=>rfl) (.I 4);have B5:Blk (w1.setCell ⟨g,2,none⟩ (.I 4)) g 105 #[.slice A ts.length c,.I i,.I 4]:=by
   have:=D4.out.blk.set_ 2 (.I 4)
   simpa using this
  have D5:=h! (D4.out.put K5 (λ_ _ e=>e) D4.out.at_ B5);have K6:=q! K4 K5;clear k0 K5 B5;go_wp2_with fail;rw[c4!];go_wp2_with fail
  go_end0
  exact⟨4,by decide,rfl,D5.out,K6.out⟩
 ·have e0:((t.kind:Int)==0)=false:=by simp[k0]
  clear k0;go_wp2_with fail;rw[c4!];go_wp2_with fail
  go_end0
  exact⟨3,by decide,rfl,D4.out,K4.out⟩
def EatTo(w:World)(g c:Nat)(A:Option Addr)(ts:List Tk)(ok:Bool)(i:Nat)(e:Ending)(w':World):Prop:=
 if ok then DTo w g c A ts (.tuple #[]) (i+1) 0 e w' else ∃er,er≠0∧DTo w g c A ts (.tuple #[]) i er e w'
theorem h8!{w:World}{g c:Nat}{A:Option Addr}{ts:List Tk}{i:Nat}{er:Int}{x:List UInt8}(h:DP w g A c ts i er)(hx:hasT x (ts.drop i)=true):i+1<ts.length:=by
 obtain⟨t,ht⟩:=h.one
 rw[a1! ht]at hx
 refine h.more t i ht λe=>?_
 simp[hasT,e]at hx
theorem a09!(g c:Nat)(A:Option Addr)(ts:List Tk)(i:Nat)(s:ByteArray)(w:World)(h:DP w g A c ts i 0):
 Calls Tryz.prog 101 #[.pointer (some ⟨g,0,none⟩),.string s] w (EatTo w g c A ts (hasT s.data.toList (ts.drop i)) i):=by
 have IS:=h! (d3! g c A ts i 0 s w h)
 have c2:=h.blk.c2
 have HH:=h! h
 have HM:=h! (λhx=>h8! h (x:=s.data.toList) hx)
 have hlim:=h.lim
 have hat:=h.at_
 generalize hasT s.data.toList (ts.drop i)=b at*
 clear h
 go_enter Tryz.func101,Tryz.ntmps101
 go_wp2_with fail
 refine IS.out.mono ?_
 rintro e w1⟨rfl,b1⟩
 have D1:=h! (HH.out.below b1)
 have K1:=o! g b1
 clear b1 c2
 cases b
 ·have FL:=h! (i8! g c A ts i w1 D1.out)
  go_wp2_with fail;refine FL.out.mono ?_;rintro e w2⟨er,her,rfl,d2,k2⟩;have D2:=h! d2;have K2:=q! K1 k2;clear d2 k2;go_wp2_with fail
  go_end0
  exact⟨er,her,rfl,D2.out,K2.out⟩
 ·have hm:=HM.out rfl
  have y1:=D1.out.blk.c1;have u1:=D1.out.blk.frozen 1;have wi:=y! ((i:Int)+1);have K5:=(Kept.refl (λz=>z=g) w1).setCell (p:=⟨g,1,none⟩) (λ_=>rfl) (.I ((i:Int)+1));have B5:Blk (w1.setCell ⟨g,1,none⟩ (.I ((i:Int)+1))) g 105 #[.slice A ts.length c,.I ((i+1:Nat):Int),.I 0]:=by
   have:=D1.out.blk.set_ 1 (.I ((i:Int)+1))
   simpa using this
  have D5:=h! (D1.out.put K5 (λ_ _ e=>e) hm B5);have K6:=q! K1 K5;clear K5 B5 hm;go_wp2_with fail
  go_end0
  exact⟨rfl,D5.out,K6.out⟩
def h9!(w:World)(g c:Nat)(A:Option Addr)(ts:List Tk)(ok:Bool)(v z:Value)(i:Nat)(e:Ending)(w':World):Prop:=
 if ok then DTo w g c A ts v (i+1) 0 e w' else ∃er,er≠0∧DTo w g c A ts z i er e w'
theorem a10!(g c:Nat)(A:Option Addr)(ts:List Tk)(i:Nat)(w:World)(h:DP w g A c ts i 0)(t:Tk)(ht:ts[i]?=some t):
 Calls Tryz.prog 102 #[.pointer (some ⟨g,0,none⟩)] w (h9! w g c A ts (decide (t.kind=1)) (.string (str t.text)) (.E) i):=by
 have NW:=h! (c3! g c A ts i 0 w h t ht)
 have c2:=h.blk.c2
 have HH:=h! h
 have hlim:=h.lim
 have hat:=h.at_
 have HM:=h! (λ(hk:t.kind=1)=>h.more t i ht (by rw[hk];decide))
 clear h ht
 go_enter Tryz.func102,Tryz.ntmps102
 go_wp2_with fail
 refine NW.out.mono ?_
 rintro e w1⟨rfl,b1⟩
 have f2:Below w.heap.size w (w1.alloc (.cells #[.I t.kind,.string (str t.text),.I t.n,.I t.line,.I t.col] 108)):=b1.al _
 have x2:=Blk.new w1 108 #[.I t.kind,.string (str t.text),.I t.n,.I t.line,.I t.col]
 have hgl:g<w1.heap.size:=Nat.lt_of_lt_of_le HH.out.blk.lt b1.size
 go_upto_region 4 with fail
 generalize w1.alloc (.cells #[.I t.kind,.string (str t.text),.I t.n,.I t.line,.I t.col] 108)=W2 at*
 have D2:=h! (HH.out.below f2)
 have K2:=o! g f2
 have X2:=h! x2
 have p0:=x2.c0
 clear b1 f2 x2 c2
 by_cases hk:t.kind=1
 ·have hm:=HM.out hk
  have ek:((t.kind:Int)==1)=true:=by simp[hk]
  have y1:=D2.out.blk.c1;have u1:=D2.out.blk.frozen 1;have wi:=y! ((i:Int)+1);have K5:=(Kept.refl (λz=>z=g) W2).setCell (p:=⟨g,1,none⟩) (λ_=>rfl) (.I ((i:Int)+1));have B5:Blk (W2.setCell ⟨g,1,none⟩ (.I ((i:Int)+1))) g 105 #[.slice A ts.length c,.I ((i+1:Nat):Int),.I 0]:=by
   have:=D2.out.blk.set_ 1 (.I ((i:Int)+1))
   simpa using this
  have D5:=h! (D2.out.put K5 (λ_ _ e=>e) hm B5);have K6:=q! K2 K5;have X5:=X2.out.kept K5 (by omega);have HD:Hid (decide (t.kind=1)=true):=decide_eq_true hk;clear K5 B5 hm hk;go_upto_region 8 with fail;generalize W2.setCell ⟨g,1,none⟩ (.I ((i:Int)+1))=W5 at*;have p1:=X5.c1;go_wp2_with fail
  go_ret
  unfold h9!;rw[HD.out,if_pos rfl];exact⟨rfl,D5.out,K6.out⟩
 ·have ek:((t.kind:Int)==1)=false:=by simp[hk]
  have HD:Hid (decide (t.kind=1)=false):=decide_eq_false hk;have FL:=h! (i8! g c A ts i W2 D2.out);clear hk;go_wp2_with fail;refine FL.out.mono ?_;rintro e w3⟨er,her,rfl,d3,k3⟩;have D3:=h! d3;have K3:=q! K2 k3;clear d3 k3;go_wp2_with fail
  go_ret
  unfold h9!;rw[HD.out,if_neg (by decide)];exact⟨er,her,rfl,D3.out,K3.out⟩
theorem b37!(g c:Nat)(A:Option Addr)(ts:List Tk)(i:Nat)(w:World)(h:DP w g A c ts i 0)(t:Tk)(ht:ts[i]?=some t):
 Calls Tryz.prog 103 #[.pointer (some ⟨g,0,none⟩)] w (h9! w g c A ts (decide (t.kind=2)) (.I t.n) (.I 0) i):=by
 have NW:=h! (c3! g c A ts i 0 w h t ht)
 have c2:=h.blk.c2
 have HH:=h! h
 have hlim:=h.lim
 have hat:=h.at_
 have HM:=h! (λ(hk:t.kind=2)=>h.more t i ht (by rw[hk];decide))
 clear h ht
 go_enter Tryz.func103,Tryz.ntmps103
 go_wp2_with fail
 refine NW.out.mono ?_
 rintro e w1⟨rfl,b1⟩
 have f2:Below w.heap.size w (w1.alloc (.cells #[.I t.kind,.string (str t.text),.I t.n,.I t.line,.I t.col] 108)):=b1.al _
 have x2:=Blk.new w1 108 #[.I t.kind,.string (str t.text),.I t.n,.I t.line,.I t.col]
 have hgl:g<w1.heap.size:=Nat.lt_of_lt_of_le HH.out.blk.lt b1.size
 go_upto_region 4 with fail
 generalize w1.alloc (.cells #[.I t.kind,.string (str t.text),.I t.n,.I t.line,.I t.col] 108)=W2 at*
 have D2:=h! (HH.out.below f2)
 have K2:=o! g f2
 have X2:=h! x2
 have p0:=x2.c0
 clear b1 f2 x2 c2
 by_cases hk:t.kind=2
 ·have hm:=HM.out hk
  have ek:((t.kind:Int)==2)=true:=by simp[hk]
  have y1:=D2.out.blk.c1;have u1:=D2.out.blk.frozen 1;have wi:=y! ((i:Int)+1);have K5:=(Kept.refl (λz=>z=g) W2).setCell (p:=⟨g,1,none⟩) (λ_=>rfl) (.I ((i:Int)+1));have B5:Blk (W2.setCell ⟨g,1,none⟩ (.I ((i:Int)+1))) g 105 #[.slice A ts.length c,.I ((i+1:Nat):Int),.I 0]:=by
   have:=D2.out.blk.set_ 1 (.I ((i:Int)+1))
   simpa using this
  have D5:=h! (D2.out.put K5 (λ_ _ e=>e) hm B5);have K6:=q! K2 K5;have X5:=X2.out.kept K5 (by omega);have HD:Hid (decide (t.kind=2)=true):=decide_eq_true hk;clear K5 B5 hm hk;go_upto_region 8 with fail;generalize W2.setCell ⟨g,1,none⟩ (.I ((i:Int)+1))=W5 at*;have p1:=X5.c2;go_wp2_with fail
  go_ret
  unfold h9!;rw[HD.out,if_pos rfl];exact⟨rfl,D5.out,K6.out⟩
 ·have ek:((t.kind:Int)==2)=false:=by simp[hk]
  have HD:Hid (decide (t.kind=2)=false):=decide_eq_false hk;have FL:=h! (i8! g c A ts i W2 D2.out);clear hk;go_wp2_with fail;refine FL.out.mono ?_;rintro e w3⟨er,her,rfl,d3,k3⟩;have D3:=h! d3;have K3:=q! K2 k3;clear d3 k3;go_wp2_with fail
  go_ret
  unfold h9!;rw[HD.out,if_neg (by decide)];exact⟨er,her,rfl,D3.out,K3.out⟩
theorem b38!(g c:Nat)(A:Option Addr)(ts:List Tk)(i:Nat)(er:Int)(w:World)(h:DP w g A c ts i er):
 Calls Tryz.prog 80 #[.pointer (some ⟨g,0,none⟩)] w (Tells w (openT (ts.drop i))):=by
 obtain⟨t,ht⟩:=h.one
 have NW:=h! (c3! g c A ts i er w h t ht)
 have IS:=h! (λ(s:ByteArray) (W:World) (hW:Below w.heap.size w W)=>d3! g c A ts i er s W (h.below hW))
 have HO:Hid (openT (ts.drop i)=((decide (t.kind=2)||decide (t.kind=1))||hasT [40] (ts.drop i)||hasT [45] (ts.drop i)||hasT [110,111,116] (ts.drop i))):=by
  rw[a1! ht]
  rfl
 have h1:=h! (λW hW=>IS.out ⟨#[40]⟩ W hW)
 have h2:=h! (λW hW=>IS.out ⟨#[45]⟩ W hW)
 have h3:=h! (λW hW=>IS.out ⟨#[110,111,116]⟩ W hW)
 rw[show (⟨#[40]⟩:ByteArray).data.toList=[40]from rfl]at h1
 rw[show (⟨#[45]⟩:ByteArray).data.toList=[45]from rfl]at h2
 rw[show (⟨#[110,111,116]⟩:ByteArray).data.toList=[110,111,116]from rfl]at h3
 generalize hasT [40] (ts.drop i)=c1 at*
 generalize hasT [45] (ts.drop i)=c2 at*
 generalize hasT [110,111,116] (ts.drop i)=c3 at*
 generalize openT (ts.drop i)=res at*
 clear h ht IS
 go_enter Tryz.func80,Tryz.ntmps80
 go_wp2_with fail
 refine NW.out.mono ?_
 rintro e w1⟨rfl,b1⟩
 have f2:=h! (b1.al (.cells #[.I t.kind,.string (str t.text),.I t.n,.I t.line,.I t.col] 108))
 by_cases k1:t.kind=1
 ·have HR:Hid (res=true):=by rw[Hid,HO.out];simp[k1]
  have e1:((t.kind:Int)==1)=true:=by simp[k1]
  clear k1;go_wp2_with fail
  go_ret
  exact⟨by rw[HR.out];rfl,f2.out⟩
 have e1:((t.kind:Int)==1)=false:=by simp[k1]
 by_cases k2:t.kind=2
 ·have HR:Hid (res=true):=by rw[Hid,HO.out];simp[k2]
  have e2:((t.kind:Int)==2)=true:=by simp[k2]
  clear k1 k2;go_wp2_with fail
  go_ret
  exact⟨by rw[HR.out];rfl,f2.out⟩
 have e2:((t.kind:Int)==2)=false:=by simp[k2]
 have HR:Hid (res=(c1||c2||c3)):=by rw[Hid,HO.out];simp[k1,k2]
 clear k1 k2 HO
 have I1:=h! (h1.out _ f2.out)
 go_wp2_with fail
 refine I1.out.mono ?_
 rintro e w3⟨rfl,b3⟩
 have f3:=r! f2 b3
 clear b3 I1
 cases c1
 ·have I2:=h! (h2.out _ f3.out)
  go_wp2_with fail;refine I2.out.mono ?_;rintro e w4⟨rfl,b4⟩;have f4:=r! f3 b4;clear b4 I2
  cases c2
  ·have I3:=h! (h3.out _ f4.out)
   go_wp2_with fail;refine I3.out.mono ?_;rintro e w5⟨rfl,b5⟩;have f5:=r! f4 b5;clear b5 I3;go_wp2_with fail
   go_ret
   exact⟨by rw[HR.out];rfl,f5.out⟩
  ·go_wp2_with fail
   go_ret
   exact⟨by rw[HR.out];rfl,f4.out⟩
 ·go_wp2_with fail
  go_ret
  exact⟨by rw[HR.out];rfl,f3.out⟩
end Go.Proofs.YtdgekckedchjbaaGreatDoor
set_option maxHeartbeats 4000000
set_option maxRecDepth 100000
namespace Go.Proofs.YtdgekckedchjbaaGreatDoor
open Go.RowKit
variable {base i:Nat} {r ts:List Tk} {er:Int} {cs:List Value} {w:World} {x:List UInt8}
def DRes(base:Nat)(ts:List Tk)(p:PR)(i:Nat)(er:Int)(cs:List Value)(w:World):Prop:=
 (er=0∧∃x,p=.ok x (ts.drop i)∧GC (λz=>base<=z) w 2513169434843 x.dep cs x.gx)∨(er≠0∧∃r e,p=.bad r e)
def DEx(w:World)(g c:Nat)(A:Option Addr)(ts:List Tk)(p:PR)(e:Ending)(w':World):Prop:=
 ∃(op N:Int) (nm:ByteArray) (B:Option Addr) (l k i:Nat) (er:Int),e=.returned (.agg #[.I op,.I N,.string nm,.slice B l k])∧DP w' g A c ts i er∧Kept (λz=>z=g) w w'∧
  DRes w.heap.size ts p i er [.I op,.I N,.string nm,.slice B l k] w'
theorem DRes.kept{base':Nat}{p:PR}{w':World}{S:Nat->Prop}(h:DRes base ts p i er cs w)(hk:Kept S w w')(hs:∀z,z<w.heap.size->base<=z->¬S z)(hb:base'<=base):DRes base' ts p i er cs w':=by
 rcases h with⟨h1,x,h2,h3⟩|h
 ·exact .inl ⟨h1,x,h2,GC.kept hk hs (λz _ hz=>by omega) _ _ _ h3⟩
 ·exact .inr h
theorem DRes.wrap{p q:PR}{cs':List Value}(h:DRes base ts p i er cs w)(k:Ex->Ex)(hq:q=p.wrap k)(hc:∀x,GC (λz=>base<=z) w 2513169434843 x.dep cs x.gx->GC (λz=>base<=z) w 2513169434843 (k x).dep cs' (k x).gx):DRes base ts q i er cs' w:=by
 rcases h with⟨h1,x,h2,h3⟩|⟨h1,r,e,h2⟩
 ·exact .inl ⟨h1,k x,by rw[hq,h2];rfl,hc x h3⟩
 ·exact .inr ⟨h1,r,e,by rw[hq,h2];rfl⟩
theorem c1!{W W9:World}{g c:Nat}{A:Option Addr}{p:PR}{i0:Nat}{e0:Int}(h:DP w g A c ts i0 e0)(hd:DP W g A c ts i er)(hk:Kept (λz=>z=g) w W)(K9:Kept (λz=>z=w.heap.size) W W9)(hr:DRes (w.heap.size+1) ts p i er cs W):
 DP W9 g A c ts i er∧Kept (λz=>z=g) w W9∧DRes w.heap.size ts p i er cs W9:=by
 have hz:=hk.size
 have hg:=h.blk.lt
 have k9:Kept (λz=>z=g) w W9:=hk.then_ K9 (λz hz e=>by omega)
 exact⟨h.put k9 (λ_ _ e=>e) hd.at_ (hd.blk.kept K9 (by omega)),k9,hr.kept K9 (λz _ hb e=>by omega) (by omega)⟩
theorem d93!{y:List UInt8}(hxy:x≠y)(h:hasT x r=true):hasT y r=false:=by
 cases r with
 |nil=>rfl
 |cons t r=>
  simp only[hasT,Bool.and_eq_true,decide_eq_true_eq]at h
  simp only[hasT,h.2,decide_eq_false hxy,Bool.and_false]
theorem v8!{t:Tk}(h:hasT x (t::r)=true):(t.kind≠1∧t.kind≠2∧t.kind≠0)∧t.text=x:=by
 simp only[hasT,Bool.and_eq_true,Bool.or_eq_true,decide_eq_true_eq]at h
 exact⟨⟨by omega,by omega,by omega⟩,h.2⟩
section
variable {d:Nat} {t:Tk} {r:List Tk}
theorem a11!(hx:x=[40]∨x=[45]∨x=[110,111,116])(h:hasT x (t::r)=true):openT (t::r)=true:=by
 unfold openT
 rcases hx with rfl|rfl|rfl<;>simp[h]
theorem d94!(h:hasT [45] (t::r)=true):a0! (d+1) (t::r)=(a0! d r).wrap .neg:=by
 obtain⟨⟨h1,h2,_⟩,h3⟩:=v8! h
 exact a61! (a11! (.inr (.inl rfl)) h) h2 h1 (by rw[h3];decide) h3
theorem d95!(h:hasT [110,111,116] (t::r)=true):a0! (d+1) (t::r)=(a0! d r).wrap .non:=by
 obtain⟨⟨h1,h2,_⟩,h3⟩:=v8! h
 exact a62! (a11! (.inr (.inr rfl)) h) h2 h1 (by rw[h3];decide) (by rw[h3];decide)
theorem a12!(h:hasT [40] (t::r)=true):a0! (d+1) (t::r)=(joinL (a0! d) 5 r).thenMust [41] id:=by
 obtain⟨⟨h1,h2,_⟩,h3⟩:=v8! h
 exact a60! (a11! (.inl rfl) h) h2 h1 h3
theorem d96!(h:t.kind=2):a0! (d+1) (t::r)=.ok (.num t.n) r:=a57! (by unfold openT;simp[h]) h
theorem d97!(h:t.kind=1)(hb:hasT [91] r=false):a0! (d+1) (t::r)=.ok (.nam t.text) r:=a58! (by unfold openT;simp[h]) h hb
theorem a13!(h:t.kind=1)(hb:hasT [91] r=true):a0! (d+1) (t::r)=(joinL (a0! d) 5 r.tail).thenMust [93] (.idx t.text):=a59! (by unfold openT;simp[h]) h hb
theorem b39!(h:openT (t::r)=false):a0! (d+1) (t::r)=.bad (t::r) (d7! (t::r)):=by
 simp only[a0!]
 rw[if_pos h]
theorem b40!(h:openT (t::r)=false):∃r' e,a0! d (t::r)=.bad r' e:=by
 cases d with
 |zero=>
  simp only[a0!]
  rw[h,if_neg (by decide)];exact⟨_,_,rfl⟩
 |succ d=>exact⟨_,_,b39! h⟩
end
theorem a14!{f:List Tk->PR}{r:List Tk}(h:∃r' e,f r=.bad r' e):∀k,∃r' e,joinL f k r=.bad r' e
 |0=>h
 |k+1=>by
  obtain⟨r',e,h2⟩:=a14! h k;exact⟨r',e,by rw[joinL,h2]⟩
section
variable {base:Nat} {w:World}
theorem d98!(n:Int):GC (λz=>base<=z) w 2513169434843 (Ex.num n).dep [.I 0,.I n,.E,.N] (Ex.num n).gx:=⟨none,0,0,rfl,ElsG.none_ _ _ _ _ _ _⟩
theorem d99!(s:List UInt8):GC (λz=>base<=z) w 2513169434843 (Ex.nam s).dep [.I 1,.I 0,.string (str s),.N] (Ex.nam s).gx:=⟨none,0,0,rfl,ElsG.none_ _ _ _ _ _ _⟩
theorem a15!{b:Nat}{t:TypeId}{c1:List Value}{x:Ex}(hb:Blk w b t (List.toArray c1))(hD:base<=b)(hl:c1.length=4)(h:GC (λz=>base<=z) w 2513169434843 x.dep c1 x.gx)(k:Ex->Ex)(op:Int)(nm:ByteArray)(hk:(k x).gx=.mk op 0 nm [x.gx])(hd:(k x).dep=x.dep+1):
 GC (λz=>base<=z) w 2513169434843 (k x).dep [.I op,.I 0,.string nm,.slice (some ⟨b,0,none⟩) 1 1] (k x).gx:=by
 rw[hk,hd]
 exact⟨_,_,_,rfl,p1! (by omega) hb hD hl h⟩
end
def v9!(g c:Nat)(A:Option Addr)(ts:List Tk)(d:Nat):Prop:=∀(dp:Int) (i:Nat) (w:World),dp+d=17->DP w g A c ts i 0->Calls Tryz.prog 119 #[.pointer (some ⟨g,0,none⟩),.I dp] w (DEx w g c A ts (a0! d (ts.drop i)))
def a16!(g c:Nat)(A:Option Addr)(ts:List Tk)(d:Nat):Prop:=∀(dp:Int) (i:Nat) (w:World),dp+d=17->DP w g A c ts i 0->Calls Tryz.prog 141 #[.pointer (some ⟨g,0,none⟩),.I dp] w (DEx w g c A ts (a0! d (ts.drop i)))
def a17!(g c:Nat)(A:Option Addr)(ts:List Tk)(d:Nat):Prop:=∀(dp:Int) (i:Nat) (w:World),dp+d=17->DP w g A c ts i 0->Calls Tryz.prog 47 #[.pointer (some ⟨g,0,none⟩),.I dp] w (DEx w g c A ts (joinL (a0! d) 5 (ts.drop i)))
def r0!(g c:Nat)(A:Option Addr)(ts:List Tk)(d k:Nat):Prop:=∀(dp:Int) (i:Nat) (w:World),dp+d=17->DP w g A c ts i 0->Calls Tryz.prog 81 #[.pointer (some ⟨g,0,none⟩),.I (k:Int),.I dp] w (DEx w g c A ts (joinL (a0! d) (5-k) (ts.drop i)))
theorem b41!(g c:Nat)(A:Option Addr)(ts:List Tk)(dp:Int)(i:Nat)(er:Int)(w:World)(he:er≠0)(h:DP w g A c ts i er):
 Calls Tryz.prog 119 #[.pointer (some ⟨g,0,none⟩),.I dp] w λe w'=>e=.returned (.agg #[.I 0,.I 0,.E,.N])∧DP w' g A c ts i er∧Kept (λz=>z=g) w w':=by
 have HH:=h! h
 have hgl:=h.blk.lt
 have hlim:=h.lim
 have hat:=h.at_
 have x1:=Blk.new w 24 #[.I 0,.I 0,.E,.N]
 have f1:=a! w (.cells #[.I 0,.I 0,.E,.N] 24)
 have D1:=h! (h.below f1)
 have K1:=o! g f1
 have X1:=h! x1
 clear h
 go_enter Tryz.func119,Tryz.ntmps119
 go_upto_region 1 with fail
 generalize w.alloc (.cells #[.I 0,.I 0,.E,.N] 24)=W1 at*
 clear x1 f1
 have c2:=D1.out.blk.c2
 have he':((er:Int)==0)=false:=by simp[he]
 have v0:=X1.out.c0
 have y0:=X1.out.frozen 0
 have v1:=X1.out.c1
 have y1:=X1.out.frozen 1
 have v2:=X1.out.c2
 have y2:=X1.out.frozen 2
 have v3:=X1.out.c3
 have y3:=X1.out.frozen 3
 go_wp2_with fail
 clear v0 v1 v2 v3 y0 y1 y2 y3
 obtain⟨W9,e9,Y9,K9⟩:=X1.out.e4 (.I 0) (.I 0) (.E) (.N)
 rw[e9]
 clear e9
 obtain⟨s0,s1,s2,s3⟩:=Y9.A4
 refine bodyPost_ret (v:=.agg #[.I 0,.I 0,.E,.N]) (by simp[results,Tryz.results119,go_sem,s0,s1,s2,s3]) rfl ?_
 obtain⟨d9,k9,r9⟩:=c1! HH.out D1.out K1.out K9 (.inr ⟨he,_,_,rfl⟩:DRes (w.heap.size+1) ts (.bad [] 0) i er [.I 0,.I 0,.E,.N] W1)
 exact⟨rfl,d9,k9⟩
theorem a18!(g c:Nat)(A:Option Addr)(ts:List Tk)(s:ByteArray)(i:Nat)(er:Int)(w:World)(he:er≠0)(h:DP w g A c ts i er):
 Calls Tryz.prog 101 #[.pointer (some ⟨g,0,none⟩),.string s] w λe w'=>e=.returned (.tuple #[])∧w'=w:=by
 have c2:=h.blk.c2
 have he':((er:Int)==0)=false:=by simp[he]
 clear h
 go_enter Tryz.func101,Tryz.ntmps101
 go_wp2_with fail
 refine bodyPost_ret (v:=.tuple #[]) (by simp[results,Tryz.results101,go_sem]) rfl ⟨rfl,rfl⟩
theorem b42!(g c:Nat)(A:Option Addr)(ts:List Tk)(d:Nat)(hd:d<=16)(HP:d≠0->v9! g c A ts d):a16! g c A ts d:=by
 intro dp i w hdp h
 obtain⟨t,ht⟩:=h.one
 have HT:=h! (a1! ht)
 have HPP:=h! HP
 clear HP ht
 have HH:=h! h
 have hgl:=h.blk.lt
 have hlim:=h.lim
 have hat:=h.at_
 have x1:=Blk.new w 24 #[.I 0,.I 0,.E,.N]
 have f1:=a! w (.cells #[.I 0,.I 0,.E,.N] 24)
 have D1:=h! (h.below f1)
 have K1:=o! g f1
 have X1:=h! x1
 clear h
 go_enter Tryz.func141,Tryz.ntmps141
 go_upto_region 1 with fail
 generalize w.alloc (.cells #[.I 0,.I 0,.E,.N] 24)=W1 at*
 clear x1 f1
 have BG:=h! (b38! g c A ts i 0 W1 D1.out)
 have c2:=D1.out.blk.c2
 obtain⟨b,hb⟩:∃b,openT (ts.drop i)=b:=⟨_,rfl⟩
 rw[hb]at BG
 have HB:=h! hb
 clear hb
 go_wp2_with fail
 refine BG.out.mono ?_
 rintro e w2⟨rfl,b2⟩
 have D2:=h! (D1.out.below b2)
 have K2:=e! K1 b2
 have X2:=b! X1 b2
 clear b2
 clear c2
 have c2:=D2.out.blk.c2
 cases b
 ·have FL:=h! (i8! g c A ts i w2 D2.out)
  have HBAD:Hid (∃r e,a0! d (ts.drop i)=.bad r e):=by
   rw[Hid,HT.out];exact b40! (by rw[<-HT.out];exact HB.out)
  go_wp2_with fail;refine FL.out.mono ?_;rintro e w3⟨er,her,rfl,d3,k3⟩;have D3:=h! d3;have K3:=q! K2 k3;have X3:=k! X2 k3;clear d3 k3 c2 FL;have c2:=D3.out.blk.c2;have he':((er:Int)==0)=false:=by simp[her]
  have PE:=h! (b41! g c A ts dp i er w3 her D3.out);go_wp2_with fail;refine PE.out.mono ?_;rintro e w4⟨rfl,d4,k4⟩;have D4:=h! d4;have K4:=q! K3 k4;have X4:=k! X3 k4;have R4:Hid (DRes (w.heap.size+1) ts (a0! d (ts.drop i)) i er [.I 0,.I 0,.E,.N] w4):=.inr ⟨her,HBAD.out⟩;clear d4 k4 c2 PE;have v0:=X4.out.c0;have y0:=X4.out.frozen 0;have v1:=X4.out.c1;have y1:=X4.out.frozen 1;have v2:=X4.out.c2;have y2:=X4.out.frozen 2;have v3:=X4.out.c3;have y3:=X4.out.frozen 3;go_wp2_with fail;clear v0 v1 v2 v3 y0 y1 y2 y3;obtain⟨W9,e9,Y9,K9⟩:=X4.out.e4 (.I 0) (.I 0) (.E) (.N);rw[e9];clear e9;obtain⟨s0,s1,s2,s3⟩:=Y9.A4;refine bodyPost_ret (v:=.agg #[.I 0,.I 0,.E,.N]) (by simp[results,Tryz.results141,go_sem,s0,s1,s2,s3]) rfl ?_;obtain⟨d9,k9,r9⟩:=c1! HH.out D4.out K4.out K9 R4.out;exact⟨_,_,_,_,_,_,_,_,rfl,d9,k9,r9⟩
 ·by_cases hz:d=0
  ·subst hz
   have h17:(16:Int)<dp:=by omega
   have HBAD:Hid (∃r e,a0! 0 (ts.drop i)=.bad r e):=by
    rw[Hid,HT.out];exact⟨_,_,y2! (by rw[<-HT.out];exact HB.out)⟩
   have u2:=D2.out.blk.frozen 2;have K5:=(Kept.refl (λz=>z=g) w2).setCell (p:=⟨g,2,none⟩) (λ_=>rfl) (.I 25);have B5:Blk (w2.setCell ⟨g,2,none⟩ (.I 25)) g 105 #[.slice A ts.length c,.I i,.I 25]:=by
    have:=D2.out.blk.set_ 2 (.I 25)
    simpa using this
   have D5:=h! (D2.out.put K5 (λ_ _ e=>e) hat B5);have K6:=q! K2 K5;have X5:=k! X2 K5;clear K5 B5;have PE:=h! (b41! g c A ts dp i 25 _ (by decide) D5.out);go_wp2_with fail;generalize w2.setCell ⟨g,2,none⟩ (.I 25)=W5 at*;refine PE.out.mono ?_;rintro e w4⟨rfl,d4,k4⟩;have D4:=h! d4;have K4:=q! K6 k4;have X4:=k! X5 k4;have R4:Hid (DRes (w.heap.size+1) ts (a0! 0 (ts.drop i)) i 25 [.I 0,.I 0,.E,.N] w4):=.inr ⟨by decide,HBAD.out⟩;clear d4 k4 c2 PE;have v0:=X4.out.c0;have y0:=X4.out.frozen 0;have v1:=X4.out.c1;have y1:=X4.out.frozen 1;have v2:=X4.out.c2;have y2:=X4.out.frozen 2;have v3:=X4.out.c3;have y3:=X4.out.frozen 3;go_wp2_with fail;clear v0 v1 v2 v3 y0 y1 y2 y3;obtain⟨W9,e9,Y9,K9⟩:=X4.out.e4 (.I 0) (.I 0) (.E) (.N);rw[e9];clear e9;obtain⟨s0,s1,s2,s3⟩:=Y9.A4;refine bodyPost_ret (v:=.agg #[.I 0,.I 0,.E,.N]) (by simp[results,Tryz.results141,go_sem,s0,s1,s2,s3]) rfl ?_;obtain⟨d9,k9,r9⟩:=c1! HH.out D4.out K4.out K9 R4.out;exact⟨_,_,_,_,_,_,_,_,rfl,d9,k9,r9⟩
  ·have h17:¬(16:Int)<dp:=by omega
   have PL:=h! (HPP.out hz dp i w2 hdp D2.out);go_wp2_with fail;refine PL.out.mono ?_;rintro e w4⟨op4,N4,nm4,B4,l4,k4,i4,er4,rfl,d4,kk4,r4⟩;have D4:=h! d4;have K4:=q! K2 kk4;have X4:=k! X2 kk4;have hw2:=X2.out.lt;have R4:=h! (r4.kept (base':=w.heap.size+1) (Kept.refl (λ_=>False) w4) (λ_ _ _ e=>e) (by omega));clear d4 kk4 r4 c2 PL;have v0:=X4.out.c0;have y0:=X4.out.frozen 0;have v1:=X4.out.c1;have y1:=X4.out.frozen 1;have v2:=X4.out.c2;have y2:=X4.out.frozen 2;have v3:=X4.out.c3;have y3:=X4.out.frozen 3;go_wp2_with fail;clear v0 v1 v2 v3 y0 y1 y2 y3;obtain⟨W9,e9,Y9,K9⟩:=X4.out.e4 (.I op4) (.I N4) (.string nm4) (.slice B4 l4 k4);rw[e9];clear e9;obtain⟨s0,s1,s2,s3⟩:=Y9.A4;refine bodyPost_ret (v:=.agg #[.I op4,.I N4,.string nm4,.slice B4 l4 k4]) (by simp[results,Tryz.results141,go_sem,s0,s1,s2,s3]) rfl ?_;obtain⟨d9,k9,r9⟩:=c1! HH.out D4.out K4.out K9 R4.out;exact⟨_,_,_,_,_,_,_,_,rfl,d9,k9,r9⟩
theorem b43!(g c:Nat)(A:Option Addr)(ts:List Tk)(d:Nat)(hd:d<=16)(HP:d≠0->r0! g c A ts d 0):a17! g c A ts d:=by
 intro dp i w hdp h
 obtain⟨t,ht⟩:=h.one
 have HT:=h! (a1! ht)
 have HPP:=h! HP
 clear HP ht
 have HH:=h! h
 have hgl:=h.blk.lt
 have hlim:=h.lim
 have hat:=h.at_
 have x1:=Blk.new w 24 #[.I 0,.I 0,.E,.N]
 have f1:=a! w (.cells #[.I 0,.I 0,.E,.N] 24)
 have D1:=h! (h.below f1)
 have K1:=o! g f1
 have X1:=h! x1
 clear h
 go_enter Tryz.func47,Tryz.ntmps47
 go_upto_region 1 with fail
 generalize w.alloc (.cells #[.I 0,.I 0,.E,.N] 24)=W1 at*
 clear x1 f1
 have BG:=h! (b38! g c A ts i 0 W1 D1.out)
 have c2:=D1.out.blk.c2
 obtain⟨b,hb⟩:∃b,openT (ts.drop i)=b:=⟨_,rfl⟩
 rw[hb]at BG
 have HB:=h! hb
 clear hb
 go_wp2_with fail
 refine BG.out.mono ?_
 rintro e w2⟨rfl,b2⟩
 have D2:=h! (D1.out.below b2)
 have K2:=e! K1 b2
 have X2:=b! X1 b2
 clear b2
 clear c2
 cases b
 ·have FL:=h! (i8! g c A ts i w2 D2.out)
  have HBAD:Hid (∃r e,joinL (a0! d) 5 (ts.drop i)=.bad r e):=a14! (by
   rw[HT.out];exact b40! (by rw[<-HT.out];exact HB.out)) 5
  go_wp2_with fail;refine FL.out.mono ?_;rintro e w3⟨er,her,rfl,d3,k3⟩;have D3:=h! d3;have K3:=q! K2 k3;have X3:=k! X2 k3;have R4:Hid (DRes (w.heap.size+1) ts (joinL (a0! d) 5 (ts.drop i)) i er [.I 0,.I 0,.E,.N] w3):=.inr ⟨her,HBAD.out⟩;clear d3 k3 FL;have v0:=X3.out.c0;have y0:=X3.out.frozen 0;have v1:=X3.out.c1;have y1:=X3.out.frozen 1;have v2:=X3.out.c2;have y2:=X3.out.frozen 2;have v3:=X3.out.c3;have y3:=X3.out.frozen 3;go_wp2_with fail;clear v0 v1 v2 v3 y0 y1 y2 y3;obtain⟨W9,e9,Y9,K9⟩:=X3.out.e4 (.I 0) (.I 0) (.E) (.N);rw[e9];clear e9;obtain⟨s0,s1,s2,s3⟩:=Y9.A4;refine bodyPost_ret (v:=.agg #[.I 0,.I 0,.E,.N]) (by simp[results,Tryz.results47,go_sem,s0,s1,s2,s3]) rfl ?_;obtain⟨d9,k9,r9⟩:=c1! HH.out D3.out K3.out K9 R4.out;exact⟨_,_,_,_,_,_,_,_,rfl,d9,k9,r9⟩
 ·by_cases hz:d=0
  ·subst hz
   have h17:(16:Int)<dp:=by omega
   have HBAD:Hid (∃r e,joinL (a0! 0) 5 (ts.drop i)=.bad r e):=a14! (by
    rw[HT.out];exact⟨_,_,y2! (by rw[<-HT.out];exact HB.out)⟩) 5
   have u2:=D2.out.blk.frozen 2;have c2:=D2.out.blk.c2;have K5:=(Kept.refl (λz=>z=g) w2).setCell (p:=⟨g,2,none⟩) (λ_=>rfl) (.I 25);have B5:Blk (w2.setCell ⟨g,2,none⟩ (.I 25)) g 105 #[.slice A ts.length c,.I i,.I 25]:=by
    have:=D2.out.blk.set_ 2 (.I 25)
    simpa using this
   have D5:=h! (D2.out.put K5 (λ_ _ e=>e) hat B5);have K6:=q! K2 K5;have X5:=k! X2 K5;clear K5 B5;go_upto_region 8 with fail;generalize w2.setCell ⟨g,2,none⟩ (.I 25)=W5 at*;have R4:Hid (DRes (w.heap.size+1) ts (joinL (a0! 0) 5 (ts.drop i)) i 25 [.I 0,.I 0,.E,.N] W5):=.inr ⟨by decide,HBAD.out⟩;have v0:=X5.out.c0;have y0:=X5.out.frozen 0;have v1:=X5.out.c1;have y1:=X5.out.frozen 1;have v2:=X5.out.c2;have y2:=X5.out.frozen 2;have v3:=X5.out.c3;have y3:=X5.out.frozen 3;go_wp2_with fail;clear v0 v1 v2 v3 y0 y1 y2 y3;obtain⟨W9,e9,Y9,K9⟩:=X5.out.e4 (.I 0) (.I 0) (.E) (.N);rw[e9];clear e9;obtain⟨s0,s1,s2,s3⟩:=Y9.A4;refine bodyPost_ret (v:=.agg #[.I 0,.I 0,.E,.N]) (by simp[results,Tryz.results47,go_sem,s0,s1,s2,s3]) rfl ?_;obtain⟨d9,k9,r9⟩:=c1! HH.out D5.out K6.out K9 R4.out;exact⟨_,_,_,_,_,_,_,_,rfl,d9,k9,r9⟩
  ·have h17:¬(16:Int)<dp:=by omega
   have PL:=h! (HPP.out hz dp i w2 hdp D2.out);go_wp2_with fail;refine PL.out.mono ?_;rintro e w4⟨op4,N4,nm4,B4,l4,k4,i4,er4,rfl,d4,kk4,r4⟩;have D4:=h! d4;have K4:=q! K2 kk4;have X4:=k! X2 kk4;have hw2:=X2.out.lt;have R4:=h! (r4.kept (base':=w.heap.size+1) (Kept.refl (λ_=>False) w4) (λ_ _ _ e=>e) (by omega));clear d4 kk4 r4 PL;have v0:=X4.out.c0;have y0:=X4.out.frozen 0;have v1:=X4.out.c1;have y1:=X4.out.frozen 1;have v2:=X4.out.c2;have y2:=X4.out.frozen 2;have v3:=X4.out.c3;have y3:=X4.out.frozen 3;go_wp2_with fail;clear v0 v1 v2 v3 y0 y1 y2 y3;obtain⟨W9,e9,Y9,K9⟩:=X4.out.e4 (.I op4) (.I N4) (.string nm4) (.slice B4 l4 k4);rw[e9];clear e9;obtain⟨s0,s1,s2,s3⟩:=Y9.A4;refine bodyPost_ret (v:=.agg #[.I op4,.I N4,.string nm4,.slice B4 l4 k4]) (by simp[results,Tryz.results47,go_sem,s0,s1,s2,s3]) rfl ?_;obtain⟨d9,k9,r9⟩:=c1! HH.out D4.out K4.out K9 R4.out;exact⟨_,_,_,_,_,_,_,_,rfl,d9,k9,r9⟩
end Go.Proofs.YtdgekckedchjbaaGreatDoor
