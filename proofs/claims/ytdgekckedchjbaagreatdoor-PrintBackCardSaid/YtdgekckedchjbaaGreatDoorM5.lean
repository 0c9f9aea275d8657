
/-
 The document's Marks. Names: lex.IsName, and the document's. The document's run: a letter, and letters, digits and _ behind it. lex.IsName. LexJoins: is it a token? lex.right. The document's number. The document's end: where the piece that a text begins with ends. The document's piece, and its Right. The document's Right is the program's: the law. The document's end: where the piece that begins at a place ends.
-/
import Derived.Test.YtdgekckedchjbaaGreatDoorQK
import Derived.Laws.Closers25b
import Derived.Deep.RegionHeld3
import Derived.IntWalk
set_option maxHeartbeats 1000000
set_option maxRecDepth 100000
namespace Go.Proofs.YtdgekckedchjbaaGreatDoor
open Go.RowKit
theorem a02!(w:World):Calls Tryz.prog 116 #[] w λe w'=>e=.returned (.slice (some ⟨w.heap.size,0,none⟩) 16 16)∧w'=w.alloc (e7! e6!):=by
 go_enter Tryz.func116,Tryz.ntmps116
 go_wp2_with fail
 go_ret
 exact⟨rfl,rfl⟩
end Go.Proofs.YtdgekckedchjbaaGreatDoor
set_option maxHeartbeats 4000000
set_option maxRecDepth 100000
namespace Go.Proofs.YtdgekckedchjbaaGreatDoor
open Go.RowKit
variable {l:List UInt8}
theorem b18!(w:World):Calls Tryz.prog 118 #[] w λe w'=>e=.returned (.slice (some ⟨w.heap.size,0,none⟩) 23 23)∧w'=w.alloc (e7! g4!):=by
 go_enter Tryz.func118,Tryz.ntmps118
 go_wp2_with fail
 go_ret
 exact⟨rfl,rfl⟩
theorem q7!(l:List (List UInt8))(A:Option Addr)(n c:Nat)(x:List UInt8)(w:World)(hr:RV w A n ((l.map str).map Value.string))(hn:n<=1000):
 Calls Tryz.prog 115 #[.slice A n c,.string (str x)] w λe w'=>e=.returned (.bool (decide (x∈l)))∧w'=w:=by
 have hlen:l.length=n:=by have:=hr.len;simpa using this.symm
 obtain⟨S,hS⟩:∃S,str x=S:=⟨_,rfl⟩
 have hSl:S.toList=x:=by rw[<-hS,a55!]
 rw[hS]
 have HR:=h! hr
 have HN:=h! hlen
 clear hr hlen hS
 go_enter Tryz.func115,Tryz.ntmps115
 go_wp2_with fail
 go_loopw [5] (λi wr=>∃k:Nat,k<=n∧i=.I k∧Hid (¬x∈l.take k)∧wr=w) (λi _=>n-(intOf i).toNat)
 case atStart=>exact⟨0,by omega,rfl,(by rw[Hid];simp),rfl⟩
 case round=>
  obtain⟨k,hkl,rfl,hs,rfl⟩:=hrel
  by_cases hlt:k<n
  ·obtain⟨b,o,rfl,hb,hl,hc⟩:=HR.out.at_ hlt
   have hkl':k<l.length:=by rw[HN.out];exact hlt
   rw[List.getElem_map,List.getElem_map]at hc;have htk:=h! (List.take_succ_eq_append_getElem hkl');generalize l[k]'hkl'=y at hc htk;obtain⟨T,hT⟩:∃T,str y=T:=⟨_,rfl⟩
   have hTl:T.toList=y:=by rw[<-hT,a55!]
   rw[hT]at hc;clear hT hl
   by_cases hxy:y=x
   ·have e1:T.toList=S.toList:=by rw[hTl,hSl,hxy]
    have e2:(T.toList==S.toList)=true:=by rw[e1];simp
    have HM:=h! (show x∈l from List.mem_of_mem_take (i:=k+1) (by rw[htk.out,hxy];simp));clear hSl hTl hxy;go_wp2_with fail
    go_ret
    exact⟨by rw[decide_eq_true HM.out];rfl,rfl⟩
   ·have e1:¬T.toList=S.toList:=by rw[hTl,hSl];exact hxy
    have e2:(T.toList==S.toList)=false:=by simpa using e1
    have hnext:Hid (¬x∈l.take (k+1)):=by
     rw[Hid,htk.out,List.mem_append];rintro (h|h)
     ·exact hs.out h
     ·simp at h
      exact hxy h.symm
    clear hSl hTl hxy;go_wp2_with fail
    go_roundw
    case rel=>exact⟨k+1,by omega,by go_num,hnext,trivial⟩
    case measure=>simp[intOf];omega
  ·obtain rfl:k=n:=by omega
   have HM:Hid (¬x∈l):=by
    have:=hs.out;rw[List.take_of_length_le (by rw[HN.out];omega)]at this;exact this
   go_wp2_with fail
   go_ret
   exact⟨by rw[decide_eq_false HM.out];rfl,rfl⟩
def runS(l:List UInt8):Bool:=decide (l≠[]∧letB (l.headD 0)=true∧∀c∈l,innB c=true)
def nameS(l:List UInt8):Bool:=runS l&&decide (l.length<=30)&& !decide (l∈d6!)
def f36!(k:Int)(x:List UInt8)(n:Int):Bool:=
 if k=2 then decide ((numS x).2=0∧(numS x).1=n)
 else if n≠0 then false
 else if k=0 then decide (x=[])
 else if k=1 then nameS x
 else if k=3 then decide (x∈d6!)
 else if k=4 then decide (x∈a9!)
 else false
def capF(a:Nat):List UInt8->Nat
 |[]=>a
 |c::l=>capF (if a<=2147483647 then 10*a+(c.toNat-48)else a) l
theorem b19!(c:UInt8):∀(l:List UInt8) (a:Nat),capF a (l++[c])=if capF a l<=2147483647 then 10*capF a l+(c.toNat-48)else capF a l
 |[],a=>rfl
 |d::l,a=>by
  rw[List.cons_append]
  simp only[capF]
  exact b19! c l _
theorem b20!:∀(l:List UInt8) (a:Nat),2147483647<a->capF a l=a
 |[],_,_=>rfl
 |c::l,a,h=>by
  simp only[capF]
  rw[if_neg (by omega)];exact b20! l a h
theorem v4!:∀(l:List UInt8) (a:Nat),a<=30000000000->capF a l<=30000000000
 |[],_,h=>h
 |c::l,a,h=>by
  simp only[capF]
  have:=c.toNat_lt
  split
  ·exact v4! l _ (by omega)
  ·exact v4! l a h
theorem b21!:∀(l:List UInt8) (a:Nat),a<=2147483647->(∀c∈l,digB c=true)->numF a l=if 2147483647<capF a l then (0,2)else ((capF a l:Int),0)
 |[],a,h,_=>by
  have e:capF a []=a:=rfl;rw[e,if_neg (by omega)]
  rfl
 |c::l,a,h,hd=>by
  have hc:=l4!.1 (hd c (List.mem_cons_self ..));have e:(10*(a:Int)+((c.toNat:Int)-48))=((10*a+(c.toNat-48):Nat):Int):=by omega
  unfold numF;have e2:capF a (c::l)=capF (10*a+(c.toNat-48)) l:=by simp only[capF];rw[if_pos h]
  rw[e,e2]
  by_cases hb:2147483647<10*a+(c.toNat-48)
  ·rw[if_pos (by omega),b20! l _ hb,if_pos hb]
  ·rw[if_neg (by omega)]
   exact b21! l _ (by omega) (λx hx=>hd x (List.mem_cons_of_mem _ hx))
theorem d76!(h0:l≠[])(hd:∀c∈l,digB c=true):numS l=if 1<l.length∧l.head?=some 48 then (0,3)else if 2147483647<capF 0 l then (0,2)else ((capF 0 l:Int),0):=by
 have hp:preN digB l=l.length:=a54! hd
 unfold numS
 by_cases h:1<l.length∧l.head?=some 48
 ·rw[if_pos (.inr (.inr h)),if_pos h]
 ·rw[if_neg (by rintro (h1|h1|h1);exact h0 h1;exact h1 hp;exact h h1),if_neg h]
  exact b21! l 0 (by omega) hd
theorem d77!{c:UInt8}(hc:c∈l)(hd:digB c=false):numS l=(0,3):=by
 unfold numS
 rw[if_pos]
 refine .inr (.inl λh=>?_)
 rw[x8! h c hc]at hd
 cases hd
theorem d78!(s:ByteArray)(w:World)(h0:0<s.size)(hs:s.size<=9223372036854775807):
 Calls Tryz.prog 117 #[.string s] w λe w'=>e=.returned (.tuple #[.I (numS s.data.toList).1,.I (numS s.data.toList).2])∧w'=w:=by
 obtain⟨X,hX⟩:∃X,s.data.toList=X:=⟨_,rfl⟩
 have hlen:X.length=s.size:=by rw[<-hX,b1!]
 rw[hX]
 have HX:=h! hX
 have HL:=h! hlen
 obtain⟨c0,hc0⟩:∃c:UInt8,s[0]=c:=⟨_,rfl⟩
 have hhd:X.head?=some c0:=by
  have:=h1! s h0;rw[hX,hc0]at this;rw[List.head?_eq_getElem?];exact this
 have HH:=h! hhd
 clear hX hlen hhd
 go_enter Tryz.func117,Tryz.ntmps117
 go_wp2_with fail
 go_loopw [4,5] (λv i wr=>∃k:Nat,k<=s.size∧i=.I k∧v=.I (capF 0 (X.take k):Nat)∧Hid (∀c∈X.take k,digB c=true)∧w=wr) (λ_ i _=>s.size-(intOf i).toNat)
 case atStart=>exact⟨0,by omega,rfl,rfl,(by rw[Hid];simp),rfl⟩
 case round=>
  obtain⟨k,hk,rfl,rfl,hd,rfl⟩:=hrel
  by_cases hlt:k<s.size
  ·have hkX:k<X.length:=by rw[HL.out];exact hlt
   obtain⟨c,hcc⟩:∃c:UInt8,s[k]=c:=⟨_,rfl⟩
   have hXc:X[k]=c:=by
    have h1:=h1! s hlt;rw[HX.out,List.getElem?_eq_getElem hkX,hcc]at h1;exact Option.some.inj h1
   have htk:=List.take_succ_eq_append_getElem hkX;rw[hXc]at htk;have hq:=v4! (X.take k) 0 (by omega);have hsn:=b19! c (X.take k) 0;rw[<-htk]at hsn;generalize capF 0 (X.take k)=q at hq hsn;have HTK:=h! htk;have HSN:=h! hsn;clear htk hsn hc0
   cases hdc:digB c
   ·have HN:Hid (numS X=(0,3)):=d77! (c:=c) (by rw[<-hXc];exact List.getElem_mem hkX) hdc
    have HDC:=h! hdc;clear hdc hXc
    go_wp2_with (first|(go_at_call 114;refine(e3! c _).mono ?_;rintro e w'⟨rfl,rfl⟩;rw[HDC.out]))
    refine bodyPost_ret (v:=.tuple #[.I 0,.I 3]) (by simp[results,Tryz.results117,go_sem]) rfl ?_;exact⟨by rw[HN.out],rfl⟩
   ·have hcd:=l4!.1 hdc
    have hnext:Hid (∀c∈X.take (k+1),digB c=true):=by
     rw[Hid,HTK.out]
     intro x hx
     rcases List.mem_append.1 hx with h|h
     ·exact hd.out x h
     ·simp only[List.mem_singleton]at h
      rw[h];exact hdc
    have HDC:=h! hdc;clear hdc hXc
    by_cases hqb:q<=2147483647
    ·have z1:(q:Int)<=2147483647:=by omega
     have z2:IntKind.i64.wrap (c.toNat:Int)=(c.toNat:Int):=by rw[IntKind.wrap_i64];omega
     have e:(10*(q:Int)+(c.toNat:Int)-48)=((10*q+(c.toNat-48):Nat):Int):=by omega
     have E:=h! e;have QB:=h! hqb;clear e
     go_wp2_with (first|(go_at_call 114;refine(e3! c _).mono ?_;rintro e w'⟨rfl,rfl⟩;rw[HDC.out]))
     go_roundw
     case rel=>exact⟨k+1,by omega,by go_num,by rw[HSN.out,if_pos QB.out,<-E.out],hnext,trivial⟩
     case measure=>simp[intOf];omega
    ·have z1:¬(q:Int)<=2147483647:=by omega
     have QB:=h! hqb
     go_wp2_with (first|(go_at_call 114;refine(e3! c _).mono ?_;rintro e w'⟨rfl,rfl⟩;rw[HDC.out]))
     go_roundw
     case rel=>exact⟨k+1,by omega,by go_num,by rw[HSN.out,if_neg QB.out],hnext,trivial⟩
     case measure=>simp[intOf];omega
  ·obtain rfl:k=s.size:=by omega
   have htk:X.take s.size=X:=List.take_of_length_le (by rw[HL.out];omega);rw[htk]at hd ⊢;have hn:=d76! (l:=X) (by intro h;have:=HL.out;rw[h]at this;simp at this;omega) hd.out;rw[HL.out,HH.out]at hn;have hq:=v4! X 0 (by omega);generalize capF 0 X=q at hq hn;clear htk hlt
   by_cases h48:c0=48
   ·have e1:(c0.toNat:Int)=48:=by rw[h48];rfl
    by_cases h1:1<s.size
    ·have z1:(1:Int)<(s.size:Int):=by omega
     rw[if_pos ⟨h1,by rw[h48]⟩]at hn;have HN:=h! hn;clear hn h48;go_wp2_with fail;refine bodyPost_ret (v:=.tuple #[.I 0,.I 3]) (by simp[results,Tryz.results117,go_sem]) rfl ?_;exact⟨by rw[HN.out],rfl⟩
    ·have z1:¬(1:Int)<(s.size:Int):=by omega
     rw[if_neg (λh=>h1 h.1)]at hn;clear h48
     by_cases hb:2147483647<q
     ·rw[if_pos hb]at hn
      have HN:=h! hn;have z2:(2147483647:Int)<(q:Int):=by omega
      clear hn;go_wp2_with fail;refine bodyPost_ret (v:=.tuple #[.I 0,.I 2]) (by simp[results,Tryz.results117,go_sem]) rfl ?_;exact⟨by rw[HN.out],rfl⟩
     ·rw[if_neg hb]at hn
      have HN:=h! hn;have z2:¬(2147483647:Int)<(q:Int):=by omega
      clear hn;go_wp2_with fail;refine bodyPost_ret (v:=.tuple #[.I (q:Int),.I 0]) (by simp[results,Tryz.results117,go_sem]) rfl ?_;exact⟨by rw[HN.out],rfl⟩
   ·have e1:¬(c0.toNat:Int)=48:=λh=>h48 (UInt8.toNat_inj.1 (by rw[show c0.toNat=48 by omega];rfl))
    rw[if_neg (λh=>h48 (Option.some.inj h.2))]at hn;clear h48
    by_cases hb:2147483647<q
    ·rw[if_pos hb]at hn
     have HN:=h! hn;have z2:(2147483647:Int)<(q:Int):=by omega
     clear hn;go_wp2_with fail;refine bodyPost_ret (v:=.tuple #[.I 0,.I 2]) (by simp[results,Tryz.results117,go_sem]) rfl ?_;exact⟨by rw[HN.out],rfl⟩
    ·rw[if_neg hb]at hn
     have HN:=h! hn;have z2:¬(2147483647:Int)<(q:Int):=by omega
     clear hn;go_wp2_with fail;refine bodyPost_ret (v:=.tuple #[.I (q:Int),.I 0]) (by simp[results,Tryz.results117,go_sem]) rfl ?_;exact⟨by rw[HN.out],rfl⟩
def endS(l:List UInt8):Nat:=if letB (l.headD 0)=true∨digB (l.headD 0)=true then preN innB l else if 1<l.length∧l.take 2∈a9! then 2 else 1
def refPc(x:List UInt8):Pc:=if digB (x.headD 0)=true then ⟨2,x,(numS x).1,(numS x).2⟩else if letB (x.headD 0)=false then (if x∈a9! then ⟨4,x,0,0⟩else noPc 3)else if 30<x.length then noPc 2 else if x∈d6! then ⟨3,x,0,0⟩else ⟨1,x,0,0⟩
theorem v5!(w:World)(o:Obj)(l:List ByteArray):RV ((w.alloc o).alloc (e7! l)) (some ⟨w.heap.size+1,0,none⟩) l.length (l.map Value.string):=by
 have h:=t5! (w.alloc o) l
 rw[show (w.alloc o).heap.size=w.heap.size+1 by simp]at h
 exact h
theorem d79!(x:List UInt8)(w:World)(h0:x≠[])(hx:x.length<=65536):
 Calls Tryz.prog 79 #[.string (str x)] w λe w'=>e=.returned (pcV (refPc x))∧Below w.heap.size w w':=by
 obtain⟨c0,r,hcr⟩:=List.exists_cons_of_ne_nil h0
 obtain⟨s,hs⟩:∃s,str x=s:=⟨_,rfl⟩
 have hsz:s.size=x.length:=by rw[<-hs,str_size]
 have hpos:0<s.size:=by rw[hsz,hcr];simp
 have hsl:s.data.toList=x:=by rw[<-hs,str_list]
 have hc0:s[0]=c0:=by
  have:=h1! s hpos;rw[hsl,hcr]at this
  simpa using this.symm
 have hp:refPc x=if digB c0=true then ⟨2,x,(numS x).1,(numS x).2⟩else if letB c0=false then (if x∈a9! then ⟨4,x,0,0⟩else noPc 3)else if 30<x.length then noPc 2 else if x∈d6! then ⟨3,x,0,0⟩else ⟨1,x,0,0⟩:=by
  unfold refPc;rw[hcr]
  rfl
 have HP:=h! hp
 have HSL:=h! hsl
 have HS:=h! hs
 rw[hs]
 clear hp hsl hs hcr h0
 have f0:∀o,Below w.heap.size w (w.alloc o):=λ_=>(Below.refl _ w).al _
 have f1:∀o o2,Below w.heap.size w ((w.alloc o).alloc o2):=λ_ _=>((Below.refl _ w).al _).al _
 go_enter Tryz.func79,Tryz.ntmps79
 cases hd:digB c0
 ·have HD:=h! hd
  clear hd
  cases hl:letB c0
  ·have HL:=h! hl
   clear hl
   by_cases hm:x∈a9!
   ·have HF:Hid (refPc x=⟨4,x,0,0⟩):=by rw[Hid,HP.out,if_neg (by rw[HD.out];simp),if_pos HL.out,if_pos hm]
    have HM:=h! (decide_eq_true hm);clear hm
    go_wp2_with (first|(go_at_call 113;refine(f7! c0 _).mono ?_;rintro e w'⟨rfl,rfl⟩;rw[HL.out])|(go_at_call 114;refine(e3! c0 _).mono ?_;rintro e w'⟨rfl,rfl⟩;rw[HD.out])|(go_at_call 116;refine(a02! _).mono ?_;rintro e w5⟨rfl,rfl⟩)|(go_at_call 115;rw[<-HS.out];refine(q7! a9! _ 16 16 x _ (v5! _ _ e6!) (by omega)).mono ?_;rintro e w6⟨rfl,rfl⟩;rw[HM.out,HS.out]))
    refine bodyPost_ret (v:=.tuple #[.agg #[.I 4,.string s,.I 0,.I 0,.I 0],.I 0]) (by simp[results,Tryz.results79,go_sem]) rfl ?_;exact⟨by rw[HF.out];unfold pcV;(first|rw[HS.out]|rfl),by first|exact f1 _ _|exact f0 _⟩
   ·have HF:Hid (refPc x=noPc 3):=by rw[Hid,HP.out,if_neg (by rw[HD.out];simp),if_pos HL.out,if_neg hm]
    have HM:=h! (decide_eq_false hm);clear hm
    go_wp2_with (first|(go_at_call 113;refine(f7! c0 _).mono ?_;rintro e w'⟨rfl,rfl⟩;rw[HL.out])|(go_at_call 114;refine(e3! c0 _).mono ?_;rintro e w'⟨rfl,rfl⟩;rw[HD.out])|(go_at_call 116;refine(a02! _).mono ?_;rintro e w5⟨rfl,rfl⟩)|(go_at_call 115;rw[<-HS.out];refine(q7! a9! _ 16 16 x _ (v5! _ _ e6!) (by omega)).mono ?_;rintro e w6⟨rfl,rfl⟩;rw[HM.out,HS.out]))
    refine bodyPost_ret (v:=.tuple #[.agg #[.I 0,.E,.I 0,.I 0,.I 0],.I 3]) (by simp[results,Tryz.results79,go_sem]) rfl ?_;exact⟨by rw[HF.out];unfold pcV;(first|rw[HS.out]|rfl),by first|exact f1 _ _|exact f0 _⟩
  ·have HL:=h! hl
   clear hl
   by_cases h30:30<x.length
   ·have HF:Hid (refPc x=noPc 2):=by rw[Hid,HP.out,if_neg (by rw[HD.out];simp),if_neg (by rw[HL.out];simp),if_pos h30]
    have z1:(30:Int)<(s.size:Int):=by omega
    clear h30 hsz
    go_wp2_with (first|(go_at_call 113;refine(f7! c0 _).mono ?_;rintro e w'⟨rfl,rfl⟩;rw[HL.out])|(go_at_call 114;refine(e3! c0 _).mono ?_;rintro e w'⟨rfl,rfl⟩;rw[HD.out]))
    refine bodyPost_ret (v:=.tuple #[.agg #[.I 0,.E,.I 0,.I 0,.I 0],.I 2]) (by simp[results,Tryz.results79,go_sem]) rfl ?_;exact⟨by rw[HF.out];unfold pcV;(first|rw[HS.out]|rfl),by first|exact f1 _ _|exact f0 _⟩
   ·have z1:¬(30:Int)<(s.size:Int):=by omega
    by_cases hm:x∈d6!
    ·have HF:Hid (refPc x=⟨3,x,0,0⟩):=by rw[Hid,HP.out,if_neg (by rw[HD.out];simp),if_neg (by rw[HL.out];simp),if_neg h30,if_pos hm]
     have HM:=h! (decide_eq_true hm);clear hm h30 hsz
     go_wp2_with (first|(go_at_call 113;refine(f7! c0 _).mono ?_;rintro e w'⟨rfl,rfl⟩;rw[HL.out])|(go_at_call 114;refine(e3! c0 _).mono ?_;rintro e w'⟨rfl,rfl⟩;rw[HD.out])|(go_at_call 118;refine(b18! _).mono ?_;rintro e w5⟨rfl,rfl⟩)|(go_at_call 115;rw[<-HS.out];refine(q7! d6! _ 23 23 x _ (v5! _ _ g4!) (by omega)).mono ?_;rintro e w6⟨rfl,rfl⟩;rw[HM.out,HS.out]))
     refine bodyPost_ret (v:=.tuple #[.agg #[.I 3,.string s,.I 0,.I 0,.I 0],.I 0]) (by simp[results,Tryz.results79,go_sem]) rfl ?_;exact⟨by rw[HF.out];unfold pcV;(first|rw[HS.out]|rfl),by first|exact f1 _ _|exact f0 _⟩
    ·have HF:Hid (refPc x=⟨1,x,0,0⟩):=by rw[Hid,HP.out,if_neg (by rw[HD.out];simp),if_neg (by rw[HL.out];simp),if_neg h30,if_neg hm]
     have HM:=h! (decide_eq_false hm);clear hm h30 hsz
     go_wp2_with (first|(go_at_call 113;refine(f7! c0 _).mono ?_;rintro e w'⟨rfl,rfl⟩;rw[HL.out])|(go_at_call 114;refine(e3! c0 _).mono ?_;rintro e w'⟨rfl,rfl⟩;rw[HD.out])|(go_at_call 118;refine(b18! _).mono ?_;rintro e w5⟨rfl,rfl⟩)|(go_at_call 115;rw[<-HS.out];refine(q7! d6! _ 23 23 x _ (v5! _ _ g4!) (by omega)).mono ?_;rintro e w6⟨rfl,rfl⟩;rw[HM.out,HS.out]))
     refine bodyPost_ret (v:=.tuple #[.agg #[.I 1,.string s,.I 0,.I 0,.I 0],.I 0]) (by simp[results,Tryz.results79,go_sem]) rfl ?_;exact⟨by rw[HF.out];unfold pcV;(first|rw[HS.out]|rfl),by first|exact f1 _ _|exact f0 _⟩
 ·have HD:=h! hd
  have HF:Hid (refPc x=⟨2,x,(numS x).1,(numS x).2⟩):=by rw[Hid,HP.out,if_pos HD.out]
  obtain⟨v,er,hve⟩:∃v er,numS x=(v,er):=⟨_,_,rfl⟩
  rw[hve]at HF;have HV:=h! hve;clear hd hve
  go_wp2_with (first|(go_at_call 114;refine(e3! c0 _).mono ?_;rintro e w'⟨rfl,rfl⟩;rw[HD.out])|(go_at_call 117;refine(d78! s _ hpos (by omega)).mono ?_;rw[HSL.out,HV.out];rintro e w'⟨rfl,rfl⟩))
  refine bodyPost_ret (v:=.tuple #[.agg #[.I 2,.string s,.I v,.I 0,.I 0],.I er]) (by simp[results,Tryz.results79,go_sem]) rfl ?_;exact⟨by rw[HF.out];unfold pcV;(first|rw[HS.out]|rfl),by first|exact f1 _ _|exact f0 _⟩
end Go.Proofs.YtdgekckedchjbaaGreatDoor
set_option maxHeartbeats 4000000
set_option maxRecDepth 100000
namespace Go.Proofs.YtdgekckedchjbaaGreatDoor
open Go.RowKit
theorem d80!(s:ByteArray)(a:Nat)(w:World)(h0:a<s.size)(hs:s.size<=65536):
 Calls Tryz.prog 78 #[.string s,.I (a:Int)] w λe w'=>e=.returned (.I ((a+endS (s.data.toList.drop a):Nat):Int))∧Below w.heap.size w w':=by
 obtain⟨X,hX⟩:∃X,s.data.toList.drop a=X:=⟨_,rfl⟩
 have hlen:X.length=s.size-a:=by rw[<-hX,List.length_drop,b1!]
 rw[hX]
 have HX:=h! hX
 have HL:=h! hlen
 obtain⟨c0,hc0⟩:∃c:UInt8,s[a]=c:=⟨_,rfl⟩
 have hhd:X.headD 0=c0:=by
  have:=h1! s h0;rw[hc0]at this;rw[List.headD_eq_head?_getD,List.head?_eq_getElem?,<-hX,List.getElem?_drop,Nat.add_zero,this]
  rfl
 have hes:endS X=if letB c0=true∨digB c0=true then preN innB X else if 1<X.length∧X.take 2∈a9! then 2 else 1:=by
  unfold endS;rw[hhd]
 have HE:=h! hes
 clear hX hlen hhd hes
 go_enter Tryz.func78,Tryz.ntmps78
 obtain⟨lb,hlb⟩:∃b,letB c0=b:=⟨_,rfl⟩
 obtain⟨db,hdb⟩:∃b,digB c0=b:=⟨_,rfl⟩
 have HLB:=h! hlb
 have HDB:=h! hdb
 clear hlb hdb
 by_cases hin:lb=true∨db=true
 ·have HP:Hid (endS X=preN innB X):=by rw[Hid,HE.out,if_pos (by rw[HLB.out,HDB.out];exact hin)]
  go_upto_region 1 with fail
  go_cut [15] (λv wx=>v=.bool true∧w=wx)
  case first=>
   rcases hin with rfl|rfl
   ·go_wp2_with (first|(go_at_call 113;refine(f7! c0 _).mono ?_;rintro e w'⟨rfl,rfl⟩;rw[HLB.out])|(go_at_call 114;refine(e3! c0 _).mono ?_;rintro e w'⟨rfl,rfl⟩;rw[HDB.out]))
    go_meet;exact⟨rfl,rfl⟩
   ·cases lb
    ·go_wp2_with (first|(go_at_call 113;refine(f7! c0 _).mono ?_;rintro e w'⟨rfl,rfl⟩;rw[HLB.out])|(go_at_call 114;refine(e3! c0 _).mono ?_;rintro e w'⟨rfl,rfl⟩;rw[HDB.out]))
     go_meet;exact⟨rfl,rfl⟩
    ·go_wp2_with (first|(go_at_call 113;refine(f7! c0 _).mono ?_;rintro e w'⟨rfl,rfl⟩;rw[HLB.out])|(go_at_call 114;refine(e3! c0 _).mono ?_;rintro e w'⟨rfl,rfl⟩;rw[HDB.out]))
     go_meet;exact⟨rfl,rfl⟩
  case rest=>
   obtain⟨rfl,rfl⟩:=hcut;clear hin hc0;go_wp2_with fail
   go_loopw [5] (λi wr=>∃k:Nat,a<=k∧k<=s.size∧i=.I k∧Hid (∀j (hj:j<X.length),j<k-a->innB (X[j]'hj)=true)∧w=wr) (λi _=>s.size-(intOf i).toNat)
   case atStart=>exact⟨a,by omega,by omega,rfl,(λj hj h=>absurd h (by omega)),rfl⟩
   case round=>
    obtain⟨k,hak,hk,rfl,hp,rfl⟩:=hrel
    by_cases hlt:k<s.size
    ·have hkX:k-a<X.length:=by rw[HL.out];omega
     obtain⟨c,hcc⟩:∃c:UInt8,s[k]=c:=⟨_,rfl⟩
     have hXc:X[k-a]=c:=by
      have h1:=h1! s hlt;have h2:X[k-a]?=s.data.toList[k]?:=by rw[<-HX.out,List.getElem?_drop,show a+(k-a)=k by omega]
      rw[List.getElem?_eq_getElem hkX,h1,hcc]at h2;exact Option.some.inj h2
     have HXC:=h! hXc;clear hXc;obtain⟨lc,hlc⟩:∃b,letB c=b:=⟨_,rfl⟩
     obtain⟨dc,hdc⟩:∃b,digB c=b:=⟨_,rfl⟩
     obtain⟨uc,huc⟩:∃b,((c.toNat:Int)==95)=b:=⟨_,rfl⟩
     have hic:innB c=(lc||dc||uc):=by
      unfold innB;rw[hlc,hdc,<-huc]
      congr 1
      rw[Bool.eq_iff_iff]
      simp
      omega
     have HLC:=h! hlc;have HDC:=h! hdc;have HIC:=h! hic;clear hlc hdc hic;have hgo:innB c=true->Hid (∀j (hj:j<X.length),j<k+1-a->innB (X[j]'hj)=true):=λhc j hj h=>by
      rcases Nat.lt_or_ge j (k-a)with h1|h1
      ·exact hp.out j hj h1
      ·obtain rfl:j=k-a:=by omega
       rw[HXC.out];exact hc
     have HGO:=h! hgo;have hstop:innB c=false->Hid (preN innB X=k-a):=λhc=>h0! (by rw[HL.out];omega) hp.out (λhj=>by rw[HXC.out];exact hc)
     have HSTOP:=h! hstop;clear hgo hstop hp
     cases lc
     ·cases dc
      ·cases uc
       ·have HN:=HSTOP.out (by rw[HIC.out];rfl)
        go_wp2_with (first|(go_at_call 113;refine(f7! c _).mono ?_;rintro e w'⟨rfl,rfl⟩;rw[HLC.out])|(go_at_call 114;refine(e3! c _).mono ?_;rintro e w'⟨rfl,rfl⟩;rw[HDC.out]))
        go_ret
        exact⟨by rw[HP.out,HN.out,show a+(k-a)=k from by omega];rfl,Below.refl _ _⟩
       ·have HN:=HGO.out (by rw[HIC.out];rfl)
        go_wp2_with (first|(go_at_call 113;refine(f7! c _).mono ?_;rintro e w'⟨rfl,rfl⟩;rw[HLC.out])|(go_at_call 114;refine(e3! c _).mono ?_;rintro e w'⟨rfl,rfl⟩;rw[HDC.out]))
        go_roundw
        case rel=>exact⟨k+1,by omega,by omega,by go_num,HN,trivial⟩
        case measure=>simp[intOf];omega
      ·have HN:=HGO.out (by rw[HIC.out];rfl)
       go_wp2_with (first|(go_at_call 113;refine(f7! c _).mono ?_;rintro e w'⟨rfl,rfl⟩;rw[HLC.out])|(go_at_call 114;refine(e3! c _).mono ?_;rintro e w'⟨rfl,rfl⟩;rw[HDC.out]))
       go_roundw
       case rel=>exact⟨k+1,by omega,by omega,by go_num,HN,trivial⟩
       case measure=>simp[intOf];omega
     ·have HN:=HGO.out (by rw[HIC.out];rfl)
      go_wp2_with (first|(go_at_call 113;refine(f7! c _).mono ?_;rintro e w'⟨rfl,rfl⟩;rw[HLC.out])|(go_at_call 114;refine(e3! c _).mono ?_;rintro e w'⟨rfl,rfl⟩;rw[HDC.out]))
      go_roundw
      case rel=>exact⟨k+1,by omega,by omega,by go_num,HN,trivial⟩
      case measure=>simp[intOf];omega
    ·obtain rfl:k=s.size:=by omega
     have HN:Hid (preN innB X=s.size-a):=h0! (by rw[HL.out];omega) hp.out (λhj=>by rw[HL.out]at hj;omega);go_wp2_with fail
     go_ret
     exact⟨by rw[HP.out,HN.out,show a+(s.size-a)=s.size from by omega];rfl,Below.refl _ _⟩
 ·obtain⟨rfl,rfl⟩:lb=false∧db=false:=by cases lb<;>cases db<;>simp_all
  have HP:Hid (endS X=if 1<X.length∧X.take 2∈a9! then 2 else 1):=by rw[Hid,HE.out,if_neg (by rw[HLB.out,HDB.out];simp)]
  go_wp2_with (first|(go_at_call 113;refine(f7! c0 _).mono ?_;rintro e w'⟨rfl,rfl⟩;rw[HLB.out])|(go_at_call 114;refine(e3! c0 _).mono ?_;rintro e w'⟨rfl,rfl⟩;rw[HDB.out]))
  clear hc0;have w1':=y! ((a:Int)+1);have w2':=y! ((a:Int)+2)
  by_cases h1:a+1<s.size
  ·have z1:(a:Int)+1<(s.size:Int):=by omega
   have z2:(a:Int)+2<=(s.size:Int):=by omega
   have z3:decide ((a:Int)+1<(s.size:Int))=true:=decide_eq_true z1;have z4:(0:Int)<=(a:Int):=by omega
   have z5:(a:Int)<=(a:Int)+2:=by omega
   have hst:s.extract a (a+2)=str (X.take 2):=by
    apply j2!
    rw[str_list,<-HX.out]
    simp[List.take_drop]
   have ht2:((a:Int)+2).toNat=a+2:=by omega
   obtain⟨b,hb⟩:∃b,decide (X.take 2∈a9!)=b:=⟨_,rfl⟩
   have HB:=h! hb;clear hb;have HRV:=h! (show RV ((w.alloc (e7! e6!)).drew) (some ⟨w.heap.size,0,none⟩) 16 ((a9!.map str).map Value.string)from t5! w e6!);have f1:Below w.heap.size w ((w.alloc (e7! e6!)).drew):=((Below.refl _ w).al _).drew;have hl1:1<X.length:=by rw[HL.out];omega
   have HN:Hid (endS X=if b=true then 2 else 1):=by
    rw[Hid,HP.out,<-HB.out]
    simp[hl1]
   go_region_held3 (λ_=>True) (trivial) (first|(go_at_call 116;refine(a02! _).mono ?_;rintro e w5⟨rfl,rfl⟩)|(go_at_call 115;refine(q7! a9! _ 16 16 (X.take 2) _ HRV.out (by omega)).mono ?_;rintro e w6⟨rfl,rfl⟩;rw[HB.out]))
   cases b
   ·go_wp2_with fail
    go_ret
    exact⟨by rw[HN.out];rfl,f1⟩
   ·go_wp2_with fail
    go_ret
    exact⟨by rw[HN.out];rfl,f1⟩
  ·have z1:¬(a:Int)+1<(s.size:Int):=by omega
   have z3:decide ((a:Int)+1<(s.size:Int))=false:=decide_eq_false z1;have hl1:¬1<X.length:=by rw[HL.out];omega
   have HN:Hid (endS X=1):=by rw[Hid,HP.out,if_neg (λh=>hl1 h.1)]
   go_region
   go_wp2_with fail
   go_ret
   exact⟨by rw[HN.out];rfl,(Below.refl _ _).drew⟩
end Go.Proofs.YtdgekckedchjbaaGreatDoor
