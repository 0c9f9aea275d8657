
/-
 package lex: the words and the marks; a scanner. package lex: the token that a text begins with. append onto a row of the call's own, in a region that draws its order. No program is named here. package lex: the tokens of a text. Expressions: their trees, and how tokens are g8!. No program is named here. Expressions: what stands behind plays no part; less depth gives the same, or is too deep. Programs: their trees, and how tokens are g8!. No program is named here.
-/
import Derived.Test.YtdgekckedchjbaaGreatDoorQA
import Derived.Test.YtdgekckedchjbaaGreatDoorLShelf
import Derived.LoopN
import Derived.Deep.RegionHeld3
import Derived.Deep.DeepCutAuto
import Derived.Deep.CutBlock
set_option maxHeartbeats 8000000
set_option maxRecDepth 100000
namespace Go.Proofs.YtdgekckedchjbaaGreatDoor
open Go.RowKit
variable {w w':World} {l r x:List UInt8} {base g:Nat} {v:Value} {c:UInt8}
def Spaces(w:World):Prop:=∀c:Nat,c<256->w.cell? ⟨Tryz.lays157_ren.g 0,c,none⟩=some (.int .u8 (if Lib.isSp (UInt8.ofNat c)then 1 else 0))
theorem Spaces.below(h:Spaces w)(hb:Below w.heap.size w w'):Spaces w':=λc hc=>by
 have h1:=h c hc
 exact(hb.cell (p:=⟨Tryz.lays157_ren.g 0,c,none⟩) (World.block_lt_of_cell? _ _ h1)).trans h1
def str(l:List UInt8):ByteArray:=⟨l.toArray⟩
theorem str_list(l:List UInt8):(str l).data.toList=l:=by simp[str]
def x9!:List UInt8:=[103,97,109,101,32,115,101,97,116,115,32,115,116,97,107,101,32,118,97,114,32,115,116,97,114,116,32,116,117,114,110,32,112,108,97,121,32,115,105,108,101,110,116,32,112,97,121,32,101,110,100,32,105,102,32,116,104,101,110,32,101,108,115,101,32,102,111,114,32,100,111,32,114,101,102,117,115,101,32,114,111,108,108,32,115,101,97,116,32,111,118,101,114,32,114,101,115,116,32,97,110,100,32,111,114,32,110,111,116]
def y0!:List UInt8:=[91,32,93,32,40,32,41,32,61,32,33,61,32,60,32,60,61,32,62,32,62,61,32,43,32,45,32,42,32,47,32,37,32,44]
def d6!:List (List UInt8):=[[103,97,109,101],[115,101,97,116,115],[115,116,97,107,101],[118,97,114],[115,116,97,114,116],[116,117,114,110],[112,108,97,121],[115,105,108,101,110,116],[112,97,121],[101,110,100],[105,102],[116,104,101,110],[101,108,115,101],[102,111,114],[100,111],[114,101,102,117,115,101],[114,111,108,108],[115,101,97,116],[111,118,101,114],[114,101,115,116],[97,110,100],[111,114],[110,111,116]]
def a9!:List (List UInt8):=[[91],[93],[40],[41],[61],[33,61],[60],[60,61],[62],[62,61],[43],[45],[42],[47],[37],[44]]
theorem c16!:Lib.fields x9!=d6!:=by decide+kernel
theorem c17!:Lib.fields y0!=a9!:=by decide+kernel
theorem c18!:∀b∈x9!,b.toNat<128:=by decide+kernel
theorem c19!:∀b∈y0!,b.toNat<128:=by decide+kernel
def g4!:List ByteArray:=d6!.map str
def e6!:List ByteArray:=a9!.map str
theorem a44!{l:List (List UInt8)}(h:l.Nodup):(l.map str).Nodup:=by
 refine List.pairwise_map.2 (h.imp ?_)
 intro a b hab he
 have:=congrArg (λs:ByteArray=>s.data.toList) he
 exact hab (by simpa[str]using this)
theorem c20!:g4!.Nodup:=a44! (by decide+kernel)
theorem c21!:e6!.Nodup:=a44! (by decide+kernel)
def e7!(l:List ByteArray):Obj:=.cells (l.map Value.string).toArray 9
theorem a45!(s:ByteArray)(l:List (List UInt8))(w:World)(hs:s.size<4294967281)(ha:∀b∈s.data.toList,b.toNat<128)(hl:Lib.fields s.data.toList=l)(hT:Spaces w):
 Calls Tryz.prog 142 #[.string s] w λe w'=>e=.returned (.slice (some ⟨w.heap.size,0,none⟩) l.length l.length)∧w'=w.alloc (e7! (l.map str)):=by
 subst hl
 refine(Any.strings_Fields_core Tryz.lays157 (by kernel_rfl) s w hs (λj b h=>ha b (List.mem_of_getElem? h)) hT).mono ?_
 rintro e w'⟨rfl,rfl⟩
 refine⟨rfl,?_⟩
 unfold e7!
 congr 3
 simp[str]
theorem c22!(w:World)(hT:Spaces w):
 Calls Tryz.prog 123 #[] w λe w'=>e=.returned (.slice (some ⟨w.heap.size,0,none⟩) 23 23)∧w'=w.alloc (e7! g4!):=by
 go_enter Tryz.func123,Tryz.ntmps123
 go_wp2_with fail
 refine(a45! (str x9!) d6! w (by decide+kernel) (by rw[str_list];exact c18!) (by rw[str_list];exact c16!) hT).mono ?_
 rintro e w'⟨rfl,rfl⟩
 go_wp2_with fail
 go_ret
 exact⟨rfl,rfl⟩
theorem c23!(w:World)(hT:Spaces w):
 Calls Tryz.prog 124 #[] w λe w'=>e=.returned (.slice (some ⟨w.heap.size,0,none⟩) 16 16)∧w'=w.alloc (e7! e6!):=by
 go_enter Tryz.func124,Tryz.ntmps124
 go_wp2_with fail
 refine(a45! (str y0!) a9! w (by decide+kernel) (by rw[str_list];exact c19!) (by rw[str_list];exact c17!) hT).mono ?_
 rintro e w'⟨rfl,rfl⟩
 go_wp2_with fail
 go_ret
 exact⟨rfl,rfl⟩
theorem t5!(w:World)(l:List ByteArray):RV (w.alloc (e7! l)) (some ⟨w.heap.size,0,none⟩) l.length (l.map Value.string):=by
 refine⟨by simp,λ_=>⟨_,rfl,by simp,λj u hu=>?_⟩⟩
 rw[Addr.add_lit,Nat.zero_add]
 have h:=(Blk.new w 9 (l.map Value.string).toArray).cell j
 have h2:(w.alloc (e7! l)).cell? ⟨w.heap.size,j,none⟩=(l.map Value.string).toArray[j]?:=h
 rw[h2]
 simpa using hu
def c24!(w:World)(e:Ending)(w':World):Prop:=∃r1 r2,e=.returned (.agg #[.map (some r1),.map (some r2)])∧SetIs w' r1 g4!∧SetIs w' r2 e6!∧Below w.heap.size w w'
theorem c25!(w:World)(hT:Spaces w):
 Calls Tryz.prog 82 #[] w (c24! w):=by
 have HT:=h! hT
 clear hT
 go_enter Tryz.func82,Tryz.ntmps82
 go_wp2_with fail
 obtain⟨W0,eW,f0,y0,z0⟩:=n! w 153 #[.map none,.map none]
 have T0:=h! (HT.out.below f0)
 rw[eW.out]
 clear eW
 have HZ:=h! z0
 have HY:=h! y0
 clear z0 y0
 refine(c22! W0 T0.out).mono ?_
 rintro e w1⟨rfl,rfl⟩
 have r1:RV (W0.alloc (e7! g4!)) (some ⟨W0.heap.size,0,none⟩) 23 (g4!.map Value.string):=t5! W0 g4!
 have f1:Below W0.heap.size W0 (W0.alloc (e7! g4!)):=(Below.refl _ W0).al _
 go_wp2_with fail
 refine(a43! _ 23 23 g4! _ r1 c20! (by omega)).mono ?_
 rintro e w2⟨r,rfl,s2,l2,b2⟩
 have f2:=f1.then_ b2
 have T2:=h! (T0.out.below f2)
 have S2:=h! s2
 clear r1 s2 f1
 go_wp2_with fail
 refine(c23! w2 T2.out).mono ?_
 rintro e w3⟨rfl,rfl⟩
 have r3:RV (w2.alloc (e7! e6!)) (some ⟨w2.heap.size,0,none⟩) 16 (e6!.map Value.string):=t5! w2 e6!
 have f3:=f2.al (e7! e6!)
 have S3:=h! (S2.out.below ((Below.refl _ w2).al (e7! e6!)))
 go_wp2_with fail
 refine(a43! _ 16 16 e6! _ r3 c21! (by omega)).mono ?_
 rintro e w4⟨r',rfl,s4,l4,b4⟩
 have f4:=f3.then_ b4
 have S4:=h! (S3.out.below b4)
 have S4':=h! s4
 have y4:=HY.out.below f4 HY.out.lt
 have g4:=f0.then_ f4
 obtain⟨k0,k1⟩:=y4.A2
 obtain⟨q0,q1⟩:=y4.F2
 have n1:r≠w.heap.size:=by have:=HZ.out;simp at l2;omega
 have n2:r'≠w.heap.size:=by have:=f2.size;have:=HZ.out;simp at l4;omega
 have kk:Kept (λq=>q=w.heap.size) w4 ((w4.setCell ⟨w.heap.size,0,none⟩ (.map (some r))).setCell ⟨w.heap.size,1,none⟩ (.map (some r'))):=((Kept.refl (λq=>q=w.heap.size) w4).setCell (p:=⟨w.heap.size,0,none⟩) (λ_=>rfl) _).setCell (p:=⟨w.heap.size,1,none⟩) (λ_=>rfl) _
 have HK:=h! kk
 clear r3 s4 kk y4
 go_wp2_with fail
 refine bodyPost_ret (v:=.agg #[.map (some r),.map (some r')]) (by simp[results,Tryz.results82,go_sem,k0,k1]) rfl ⟨r,r',rfl,S4.out.kept HK.out n1,S4'.out.kept HK.out n2,?_⟩
 exact g4.trans (HK.out.to_below g4.size (λq hq e=>by omega))
structure Pc where
 kind:Int
 text:List UInt8
 n:Int
 err:Int
def noPc(e:Int):Pc:=⟨0,[],0,e⟩
def a3!(l:List UInt8):Pc:=
 if letB (l.headD 0)=true then
  (if 30<preN innB l then noPc 2
  else if l.take (preN innB l)∈d6! then ⟨3,l.take (preN innB l),0,0⟩
  else ⟨1,l.take (preN innB l),0,0⟩)
 else if digB (l.headD 0)=true then
  (if (numS (l.take (preN innB l))).2≠0 then noPc (numS (l.take (preN innB l))).2
  else ⟨2,l.take (preN innB l),(numS (l.take (preN innB l))).1,0⟩)
 else if 2<=l.length∧l.take 2∈a9! then ⟨4,l.take 2,0,0⟩
 else if l.take 1∈a9! then ⟨4,l.take 1,0,0⟩
 else noPc 3
theorem t6!(s:ByteArray)(k:Nat):s.extract 0 k=str (s.data.toList.take k):=by
 apply j2!
 rw[str_list]
 simp
theorem c26!{l:List (List UInt8)}:inL (l.map str) (str x)=decide (x∈l):=by
 unfold inL
 rw[List.map_map,str_list]
 have:(λs:ByteArray=>s.data.toList) ∘ str=id:=by
  funext y
  simp[str]
 rw[this,List.map_id]
 rw[Bool.eq_iff_iff]
 simp
def pcV(p:Pc):Value:=.tuple #[.agg #[.I p.kind,.string (str p.text),.I p.n,.I 0,.I 0],.I p.err]
theorem a46!{r:Nat}{l:List (List UInt8)}(h:SetIs w r (l.map str))(x:List UInt8):(Instr.lookup 151 (.map (some r)) (.string (str x)) false).run Tryz.prog w=.ok (.bool (decide (x∈l))) w:=by
 rw[<-c26!]
 exact h.lookup Tryz.underlying151 Tryz.underlying9 (by kernel_rfl) (str x)
theorem c27!(r1 r2:Nat)(s:ByteArray)(w:World)(h1:SetIs w r1 g4!)(h2:SetIs w r2 e6!)(h0:0<s.size)(hs:s.size<=9223372036854775807):
 Calls Tryz.prog 85 #[.agg #[.map (some r1),.map (some r2)],.string s] w λe w'=>e=.returned (pcV (a3! s.data.toList))∧Below w.heap.size w w':=by
 obtain⟨c,hc⟩:∃c:UInt8,s[0]=c:=⟨_,rfl⟩
 have hhd:s.data.toList.headD 0=c:=by
  rw[List.headD_eq_head?_getD,List.head?_eq_getElem?,h1! s h0,hc]
  rfl
 obtain⟨n,hn⟩:∃n,preN innB s.data.toList=n:=⟨_,rfl⟩
 have hnl:n<=s.size:=by rw[<-hn,<-b1!];exact j1! _ _
 obtain⟨t,ht⟩:∃t,s.data.toList.take n=t:=⟨_,rfl⟩
 have hts:(str t).size=n:=by rw[<-b1!,str_list,<-ht,List.length_take,b1!];omega
 have hrun:s.extract 0 (preN innB s.data.toList)=str t:=by rw[hn,t6!,ht]
 have hp:a3! s.data.toList=if letB c=true then (if 30<n then noPc 2 else if t∈d6! then ⟨3,t,0,0⟩else ⟨1,t,0,0⟩)else if digB c=true then (if (numS t).2≠0 then noPc (numS t).2 else ⟨2,t,(numS t).1,0⟩)else if 2<=s.size∧s.data.toList.take 2∈a9! then ⟨4,s.data.toList.take 2,0,0⟩else if s.data.toList.take 1∈a9! then ⟨4,s.data.toList.take 1,0,0⟩else noPc 3:=by
  unfold a3!;rw[hhd,hn,ht,b1!]
 have HP:=h! hp
 have HRUN:=h! hrun
 have HT:=h! ht
 have HTS:=h! hts
 have H1:=h! h1
 have H2:=h! h2
 clear hp hrun ht hts h1 h2 hn hhd
 have f0:Below w.heap.size w ((w.alloc (.cells #[.map (some r1),.map (some r2)] 153)).alloc (.cells #[.I 0,.E,.I 0,.I 0,.I 0] 122)):=((Below.refl _ w).al _).al _
 have lk1:=a46! (l:=d6!) (H1.out.below f0) t
 have LK2:Hid (∀x W,Below w.heap.size w W->(Instr.lookup 151 (.map (some r2)) (.string (str x)) false).run Tryz.prog W=.ok (.bool (decide (x∈a9!))) W):=λx W hW=>a46! (l:=a9!) (H2.out.below hW) x
 have hc':=hc
 cases hl:letB c
 ·have HL:=h! hl
  clear hl;have hp1:=HP.out;rw[if_neg (by rw[HL.out];simp)]at hp1;clear lk1
  cases hdg:digB c
  ·have HDG:=h! hdg
   clear hdg;rw[if_neg (by rw[HDG.out];simp)]at hp1;have b0:Blk ((w.alloc (.cells #[.map (some r1),.map (some r2)] 153)).alloc (.cells #[.I 0,.E,.I 0,.I 0,.I 0] 122)) w.heap.size 153 #[.map (some r1),.map (some r2)]:=(Blk.new w _ _).alloc _;have c1:=b0.c1;obtain⟨y1,hy1⟩:∃y,s.data.toList.take 1=y:=⟨_,rfl⟩
   obtain⟨y2,hy2⟩:∃y,s.data.toList.take 2=y:=⟨_,rfl⟩
   have x1:s.extract 0 1=str y1:=by rw[t6!,hy1]
   have x2:s.extract 0 2=str y2:=by rw[t6!,hy2]
   rw[hy1,hy2]at hp1;have CB0:((w.alloc (.cells #[.map (some r1),.map (some r2)] 153)).alloc (.cells #[.I 0,.E,.I 0,.I 0,.I 0] 122)).drew.cell? ⟨w.heap.size,1,none⟩=some (.map (some r2)):=c1;have CB1:((w.alloc (.cells #[.map (some r1),.map (some r2)] 153)).alloc (.cells #[.I 0,.E,.I 0,.I 0,.I 0] 122)).drew.drew.cell? ⟨w.heap.size,1,none⟩=some (.map (some r2)):=c1;have z1:(1:Int)<=(s.size:Int):=by omega
   have B0:=h! b0;clear hy1 hy2 b0 c1;have L1b:∀b,decide (y1∈a9!)=b->∀W,Below w.heap.size w W->(Instr.lookup 151 (.map (some r2)) (.string (str y1)) false).run Tryz.prog W=.ok (.bool b) W:=λb hb W hW=>by rw[LK2.out y1 W hW,hb]
   have L2b:∀b,decide (y2∈a9!)=b->∀W,Below w.heap.size w W->(Instr.lookup 151 (.map (some r2)) (.string (str y2)) false).run Tryz.prog W=.ok (.bool b) W:=λb hb W hW=>by rw[LK2.out y2 W hW,hb]
   have HL1:=h! L1b;have HL2:=h! L2b;clear L1b L2b LK2
   by_cases h2s:2<=s.size
   ·have z2:(2:Int)<=(s.size:Int):=by omega
    have hmin:min (2:Int) (s.size:Int)=2:=by omega
    by_cases hm2:y2∈a9!
    ·rw[if_pos ⟨h2s,hm2⟩]at hp1
     have HP1:=h! hp1;have LC0:=HL2.out true (decide_eq_true hm2) _ f0.drew;clear hp1;go_enter Tryz.func85,Tryz.ntmps85
     go_wp2_with (first|(go_at_call 83;refine(i4! s _ hs).mono ?_;rintro e w'⟨rfl,rfl⟩;rw[HRUN.out])|(go_at_call 126;refine(g9! c _).mono ?_;rintro e w'⟨rfl,rfl⟩;rw[HL.out])|(go_at_call 127;refine(f8! c _).mono ?_;rintro e w'⟨rfl,rfl⟩;rw[HDG.out]))
     refine wp_loop_rounds 3 ?_;rw[rounds_succ];go_wp2_with fail
     go_region_held3 (λw'=>w'.cell? ⟨w.heap.size,1,none⟩=some (.map (some r2))∧(Instr.lookup 151 (.map (some r2)) (.string (str y2)) false).run Tryz.prog w'=.ok (.bool true) w') (exact⟨CB0,LC0⟩) (fail)
     go_wp2_with fail;refine bodyPost_ret (v:=.tuple #[.agg #[.I 4,.string (str y2),.I 0,.I 0,.I 0],.I 0]) (by simp[results,Tryz.results85,go_sem]) rfl ⟨by rw[HP1.out];rfl,?_⟩
     first|exact((Below.refl _ w).al _).al _|exact(((Below.refl _ w).al _).al _).drew|exact(((Below.refl _ w).al _).al _).drew.drew|exact a5! (((Below.refl _ w).al _).al _) _
    ·rw[if_neg (λh=>hm2 h.2)]at hp1
     have LC0:=HL2.out false (decide_eq_false hm2) _ f0.drew
     by_cases hm1:y1∈a9!
     ·rw[if_pos hm1]at hp1
      have HP1:=h! hp1;have LC1:=HL1.out true (decide_eq_true hm1) _ f0.drew.drew;clear hp1;go_enter Tryz.func85,Tryz.ntmps85
      go_wp2_with (first|(go_at_call 83;refine(i4! s _ hs).mono ?_;rintro e w'⟨rfl,rfl⟩;rw[HRUN.out])|(go_at_call 126;refine(g9! c _).mono ?_;rintro e w'⟨rfl,rfl⟩;rw[HL.out])|(go_at_call 127;refine(f8! c _).mono ?_;rintro e w'⟨rfl,rfl⟩;rw[HDG.out]))
      refine wp_loop_rounds 3 ?_;rw[rounds_succ];go_wp2_with fail
      go_region_held3 (λw'=>w'.cell? ⟨w.heap.size,1,none⟩=some (.map (some r2))∧(Instr.lookup 151 (.map (some r2)) (.string (str y2)) false).run Tryz.prog w'=.ok (.bool false) w') (exact⟨CB0,LC0⟩) (fail)
      go_wp2_with fail;rw[rounds_succ];go_wp2_with fail
      go_region_held3 (λw'=>w'.cell? ⟨w.heap.size,1,none⟩=some (.map (some r2))∧(Instr.lookup 151 (.map (some r2)) (.string (str y1)) false).run Tryz.prog w'=.ok (.bool true) w') (exact⟨CB1,LC1⟩) (fail)
      go_wp2_with fail;refine bodyPost_ret (v:=.tuple #[.agg #[.I 4,.string (str y1),.I 0,.I 0,.I 0],.I 0]) (by simp[results,Tryz.results85,go_sem]) rfl ⟨by rw[HP1.out];rfl,?_⟩
      first|exact((Below.refl _ w).al _).al _|exact(((Below.refl _ w).al _).al _).drew|exact(((Below.refl _ w).al _).al _).drew.drew|exact a5! (((Below.refl _ w).al _).al _) _
     ·rw[if_neg hm1]at hp1
      have HP1:=h! hp1;have LC1:=HL1.out false (decide_eq_false hm1) _ f0.drew.drew;clear hp1;go_enter Tryz.func85,Tryz.ntmps85
      go_wp2_with (first|(go_at_call 83;refine(i4! s _ hs).mono ?_;rintro e w'⟨rfl,rfl⟩;rw[HRUN.out])|(go_at_call 126;refine(g9! c _).mono ?_;rintro e w'⟨rfl,rfl⟩;rw[HL.out])|(go_at_call 127;refine(f8! c _).mono ?_;rintro e w'⟨rfl,rfl⟩;rw[HDG.out]))
      refine wp_loop_rounds 3 ?_;rw[rounds_succ];go_wp2_with fail
      go_region_held3 (λw'=>w'.cell? ⟨w.heap.size,1,none⟩=some (.map (some r2))∧(Instr.lookup 151 (.map (some r2)) (.string (str y2)) false).run Tryz.prog w'=.ok (.bool false) w') (exact⟨CB0,LC0⟩) (fail)
      go_wp2_with fail;rw[rounds_succ];go_wp2_with fail
      go_region_held3 (λw'=>w'.cell? ⟨w.heap.size,1,none⟩=some (.map (some r2))∧(Instr.lookup 151 (.map (some r2)) (.string (str y1)) false).run Tryz.prog w'=.ok (.bool false) w') (exact⟨CB1,LC1⟩) (fail)
      go_wp2_with fail;rw[rounds_succ];go_wp2_with fail;refine bodyPost_ret (v:=.tuple #[.agg #[.I 0,.E,.I 0,.I 0,.I 0],.I 3]) (by simp[results,Tryz.results85,go_sem]) rfl ⟨by rw[HP1.out];rfl,?_⟩
      first|exact((Below.refl _ w).al _).al _|exact(((Below.refl _ w).al _).al _).drew|exact(((Below.refl _ w).al _).al _).drew.drew|exact a5! (((Below.refl _ w).al _).al _) _
   ·have hmin:min (2:Int) (s.size:Int)=1:=by omega
    rw[if_neg (λh=>h2s h.1)]at hp1
    by_cases hm1:y1∈a9!
    ·rw[if_pos hm1]at hp1
     have HP1:=h! hp1;have LC0:=HL1.out true (decide_eq_true hm1) _ f0.drew;clear hp1;go_enter Tryz.func85,Tryz.ntmps85
     go_wp2_with (first|(go_at_call 83;refine(i4! s _ hs).mono ?_;rintro e w'⟨rfl,rfl⟩;rw[HRUN.out])|(go_at_call 126;refine(g9! c _).mono ?_;rintro e w'⟨rfl,rfl⟩;rw[HL.out])|(go_at_call 127;refine(f8! c _).mono ?_;rintro e w'⟨rfl,rfl⟩;rw[HDG.out]))
     refine wp_loop_rounds 3 ?_;rw[rounds_succ];go_wp2_with fail
     go_region_held3 (λw'=>w'.cell? ⟨w.heap.size,1,none⟩=some (.map (some r2))∧(Instr.lookup 151 (.map (some r2)) (.string (str y1)) false).run Tryz.prog w'=.ok (.bool true) w') (exact⟨CB0,LC0⟩) (fail)
     go_wp2_with fail;refine bodyPost_ret (v:=.tuple #[.agg #[.I 4,.string (str y1),.I 0,.I 0,.I 0],.I 0]) (by simp[results,Tryz.results85,go_sem]) rfl ⟨by rw[HP1.out];rfl,?_⟩
     first|exact((Below.refl _ w).al _).al _|exact(((Below.refl _ w).al _).al _).drew|exact(((Below.refl _ w).al _).al _).drew.drew|exact a5! (((Below.refl _ w).al _).al _) _
    ·rw[if_neg hm1]at hp1
     have HP1:=h! hp1;have LC0:=HL1.out false (decide_eq_false hm1) _ f0.drew;clear hp1;go_enter Tryz.func85,Tryz.ntmps85
     go_wp2_with (first|(go_at_call 83;refine(i4! s _ hs).mono ?_;rintro e w'⟨rfl,rfl⟩;rw[HRUN.out])|(go_at_call 126;refine(g9! c _).mono ?_;rintro e w'⟨rfl,rfl⟩;rw[HL.out])|(go_at_call 127;refine(f8! c _).mono ?_;rintro e w'⟨rfl,rfl⟩;rw[HDG.out]))
     refine wp_loop_rounds 3 ?_;rw[rounds_succ];go_wp2_with fail
     go_region_held3 (λw'=>w'.cell? ⟨w.heap.size,1,none⟩=some (.map (some r2))∧(Instr.lookup 151 (.map (some r2)) (.string (str y1)) false).run Tryz.prog w'=.ok (.bool false) w') (exact⟨CB0,LC0⟩) (fail)
     go_wp2_with fail;rw[rounds_succ];go_wp2_with fail;refine bodyPost_ret (v:=.tuple #[.agg #[.I 0,.E,.I 0,.I 0,.I 0],.I 3]) (by simp[results,Tryz.results85,go_sem]) rfl ⟨by rw[HP1.out];rfl,?_⟩
     first|exact((Below.refl _ w).al _).al _|exact(((Below.refl _ w).al _).al _).drew|exact(((Below.refl _ w).al _).al _).drew.drew|exact a5! (((Below.refl _ w).al _).al _) _
  ·have HDG:=h! hdg
   clear hdg LK2;rw[if_pos HDG.out]at hp1;obtain⟨⟨nv,ne⟩,hnum⟩:∃q,numS t=q:=⟨_,rfl⟩
   rw[hnum]at hp1;have hnum':numS (str t).data.toList=(nv,ne):=by rw[str_list,hnum]
   have HNUM:=h! hnum';clear hnum hnum'
   by_cases hne:ne=0
   ·subst hne
    rw[if_neg (by simp)]at hp1;have HP1:=h! hp1;clear hp1;go_enter Tryz.func85,Tryz.ntmps85
    go_wp2_with (first|(go_at_call 83;refine(i4! s _ hs).mono ?_;rintro e w'⟨rfl,rfl⟩;rw[HRUN.out])|(go_at_call 126;refine(g9! c _).mono ?_;rintro e w'⟨rfl,rfl⟩;rw[HL.out])|(go_at_call 127;refine(f8! c _).mono ?_;rintro e w'⟨rfl,rfl⟩;rw[HDG.out])|(go_at_call 128;refine(o9! (str t) _ (by rw[HTS.out];omega)).mono ?_;rintro e w'⟨rfl,rfl⟩;rw[HNUM.out]))
    refine bodyPost_ret (v:=.tuple #[.agg #[.I 2,.string (str t),.I nv,.I 0,.I 0],.I 0]) (by simp[results,Tryz.results85,go_sem]) rfl ⟨by rw[HP1.out];rfl,((Below.refl _ w).al _).al _⟩
   ·rw[if_pos hne]at hp1
    have HP1:=h! hp1;have t1:(ne != 0)=true:=by simpa using hne
    clear hp1;go_enter Tryz.func85,Tryz.ntmps85
    go_wp2_with (first|(go_at_call 83;refine(i4! s _ hs).mono ?_;rintro e w'⟨rfl,rfl⟩;rw[HRUN.out])|(go_at_call 126;refine(g9! c _).mono ?_;rintro e w'⟨rfl,rfl⟩;rw[HL.out])|(go_at_call 127;refine(f8! c _).mono ?_;rintro e w'⟨rfl,rfl⟩;rw[HDG.out])|(go_at_call 128;refine(o9! (str t) _ (by rw[HTS.out];omega)).mono ?_;rintro e w'⟨rfl,rfl⟩;rw[HNUM.out]))
    refine bodyPost_ret (v:=.tuple #[.agg #[.I 0,.E,.I 0,.I 0,.I 0],.I ne]) (by simp[results,Tryz.results85,go_sem]) rfl ⟨by rw[HP1.out];rfl,((Below.refl _ w).al _).al _⟩
 ·have HL:=h! hl
  clear hl;have hp1:=HP.out;rw[if_pos HL.out]at hp1;clear LK2
  by_cases h30:30<n
  ·rw[if_pos h30]at hp1
   have HP1:=h! hp1;have t1:decide ((30:Int)<((str t).size:Int))=true:=by rw[HTS.out];simp;omega
   clear hp1 lk1;go_enter Tryz.func85,Tryz.ntmps85
   go_wp2_with (first|(go_at_call 83;refine(i4! s _ hs).mono ?_;rintro e w'⟨rfl,rfl⟩;rw[HRUN.out])|(go_at_call 126;refine(g9! c _).mono ?_;rintro e w'⟨rfl,rfl⟩;rw[HL.out])|(go_at_call 127;refine(f8! c _).mono ?_;rintro e w'⟨rfl,rfl⟩;rw[HDG.out])|(go_at_call 128;refine(o9! (str t) _ (by rw[HTS.out];omega)).mono ?_;rintro e w'⟨rfl,rfl⟩;rw[HNUM.out]))
   refine bodyPost_ret (v:=.tuple #[.agg #[.I 0,.E,.I 0,.I 0,.I 0],.I 2]) (by simp[results,Tryz.results85,go_sem]) rfl ⟨by rw[HP1.out];rfl,((Below.refl _ w).al _).al _⟩
  ·rw[if_neg h30]at hp1
   have t1:decide ((30:Int)<((str t).size:Int))=false:=by rw[HTS.out];simp;omega
   by_cases hw:t∈d6!
   ·rw[if_pos hw]at hp1
    have HP1:=h! hp1;rw[decide_eq_true hw]at lk1;clear hp1;go_enter Tryz.func85,Tryz.ntmps85
    go_wp2_with (first|(go_at_call 83;refine(i4! s _ hs).mono ?_;rintro e w'⟨rfl,rfl⟩;rw[HRUN.out])|(go_at_call 126;refine(g9! c _).mono ?_;rintro e w'⟨rfl,rfl⟩;rw[HL.out])|(go_at_call 127;refine(f8! c _).mono ?_;rintro e w'⟨rfl,rfl⟩;rw[HDG.out])|(go_at_call 128;refine(o9! (str t) _ (by rw[HTS.out];omega)).mono ?_;rintro e w'⟨rfl,rfl⟩;rw[HNUM.out]))
    refine bodyPost_ret (v:=.tuple #[.agg #[.I 3,.string (str t),.I 0,.I 0,.I 0],.I 0]) (by simp[results,Tryz.results85,go_sem]) rfl ⟨by rw[HP1.out];rfl,((Below.refl _ w).al _).al _⟩
   ·rw[if_neg hw]at hp1
    have HP1:=h! hp1;rw[decide_eq_false hw]at lk1;clear hp1;go_enter Tryz.func85,Tryz.ntmps85
    go_wp2_with (first|(go_at_call 83;refine(i4! s _ hs).mono ?_;rintro e w'⟨rfl,rfl⟩;rw[HRUN.out])|(go_at_call 126;refine(g9! c _).mono ?_;rintro e w'⟨rfl,rfl⟩;rw[HL.out])|(go_at_call 127;refine(f8! c _).mono ?_;rintro e w'⟨rfl,rfl⟩;rw[HDG.out])|(go_at_call 128;refine(o9! (str t) _ (by rw[HTS.out];omega)).mono ?_;rintro e w'⟨rfl,rfl⟩;rw[HNUM.out]))
    refine bodyPost_ret (v:=.tuple #[.agg #[.I 1,.string (str t),.I 0,.I 0,.I 0],.I 0]) (by simp[results,Tryz.results85,go_sem]) rfl ⟨by rw[HP1.out];rfl,((Below.refl _ w).al _).al _⟩
theorem g5!{P:Program}(w:World){ops:Array Oper}{o:Oper}{a:Act}{K:Act->World->Prop}{Q:Exit->Act->World->Prop}{E:Prop}(hgd:o.guard=none)(s x:Operand)(t:TypeId)
 (ho:o.op=.call {callee:=.builtin .append,args:=#[s,x],argTypes:=#[t,t]})
 (base:Nat) (e:TypeId) (i:TypeInfo) (z:Value) (size bytes:Nat) (ht:P.underlying t=some (.slice e)) (hi:P.info? e=some i) (hz:i.zero=some z)
 (hsize:i.size=size) (hby:i.bytes=bytes) (hzs:z.cells.size=size) (hsz:0<size)
 (v:Value) (n:Nat) (xs:List Value) (hs:a.eval s=v) (hown:w.ownsRow base e size v n xs)
 (B:Nat) (A:Option Addr) (m c:Nat) (news:List Value) (hx:a.eval x=.slice A m c) (hr:Reads w B size A m news) (h1:∀u∈news,u.oneCell'=true)
 (h63:n+m<=maxLen) (hbytes:(n+m)*bytes<=140737488355328) (hbase:base<=w.heap.size)
 (h:∀v' w',w'.ownsRow base e size v' (n+m) (xs++news)->w.grownBy w' v.ownBlock->(v'.ownBlock=v.ownBlock∨v'.ownBlock=some w.heap.size)->K (a.put o.dst v') w'):
 if Region.wanted o (yielded ops a.tmps)=true then Oper.wp P o a w K Q else E:=by
 have hw:Region.wanted o (yielded ops a.tmps)=true:=by simp[Region.wanted,hgd]
 rw[if_pos hw]
 exact a37! w s x t ho base e i z size bytes ht hi hz hsize hby hzs hsz v n xs hs hown B A m c news hx hr h1 h63 hbytes hbase h
theorem Blk.grown{t:TypeId}{cs:Array Value}{row:Option Nat}(h:Blk w g t cs)(hb:w.grownBy w' row)(hg:some g≠row):Blk w' g t cs:=(hb.block g h.lt hg).trans h
theorem a47!{size n:Nat}{e:TypeId}{xs:List Value}(h:w.ownsRow base e size v n xs):∃A c,v=.slice A n c:=by
 rcases h.2 with ⟨rfl,rfl⟩|⟨g,cap,cur,rfl,_⟩
 ·exact⟨none,0,rfl⟩
 ·exact⟨_,_,rfl⟩
structure Tk where
 kind:Int
 text:List UInt8
 n:Int
 line:Int
 col:Int
inductive Res where
 |ok (ts:List Tk)
 |err (line col e:Int)
def lexF:Nat->List UInt8->Int->Int->List Tk->Res
 |0,_,_,_,acc=>.ok acc
 |_+1,[],line,col,acc=>.ok (acc++[⟨0,[],0,line,col⟩])
 |f+1,c::r,line,col,acc=>
  if c=10 then lexF f r (line+1) 1 acc
  else if c=32∨c=9 then lexF f r line (col+1) acc
  else if c=35 then lexF f ((c::r).drop (preN nlB (c::r))) line (col+preN nlB (c::r)) acc
  else if (a3! (c::r)).err≠0 then .err line col (a3! (c::r)).err
  else lexF f ((c::r).drop (a3! (c::r)).text.length) line (col+(a3! (c::r)).text.length) (acc++[⟨(a3! (c::r)).kind,(a3! (c::r)).text,(a3! (c::r)).n,line,col⟩])
def lexS(l:List UInt8):Res:=lexF (l.length+1) l 1 1 []
def b7!(t:Tk):List Value:=[.I t.kind,.string (str t.text),.I t.n,.I t.line,.I t.col]
def b8!(ts:List Tk):List Value:=ts.flatMap b7!
theorem t7!(ts:List Tk)(t:Tk):b8! (ts++[t])=b8! ts++b7! t:=by simp[b8!]
theorem a48!(t:Tk):∀u∈b7! t,u.oneCell'=true:=by
 intro u hu
 simp only[b7!,List.mem_cons,List.not_mem_nil,or_false]at hu
 rcases hu with rfl|rfl|rfl|rfl|rfl<;>rfl
def OT(w:World)(base:Nat)(v:Value)(ts:List Tk):Prop:=w.ownsRow base 122 5 v ts.length (b8! ts)
theorem OT.nil(w:World)(base:Nat):OT w base (.N) []:=World.ownsRow_nil w base _ _
theorem OT.below{B:Nat}{ts:List Tk}(h:OT w base v ts)(hb:Below B w w')(hB:w.heap.size<=B):OT w' base v ts:=by
 refine⟨h.1,?_⟩
 rcases h.2 with h2|⟨g,cap,cur,hv,hg,hh,r⟩
 ·exact .inl h2
 ·have hlt:g<w.heap.size:=Blk.lt (t:=122) (cs:=cur) hh
  exact .inr ⟨g,cap,cur,hv,hg,(hb.block g (by omega)).trans hh,r⟩
theorem OT.below_{ts:List Tk}(h:OT w base v ts)(hb:Below w.heap.size w w'):OT w' base v ts:=h.below hb (Nat.le_refl _)
theorem OT.block{ts:List Tk}(h:OT w base v ts):∀k,v.ownBlock=some k->base<=k:=by
 intro k hk
 rcases h.2 with ⟨rfl,h0⟩|⟨g,cap,cur,rfl,hg,hh,_⟩
 ·simp[Value.ownBlock]at hk
 ·simp only[Value.ownBlock,Option.some.injEq]at hk
  subst hk;exact hg
theorem OT.lt{ts:List Tk}(h:OT w base v ts):∀k,v.ownBlock=some k->k<w.heap.size:=by
 intro k hk
 rcases h.2 with ⟨rfl,h0⟩|⟨g,cap,cur,rfl,hg,hh,_⟩
 ·simp[Value.ownBlock]at hk
 ·simp only[Value.ownBlock,Option.some.injEq]at hk
  subst hk;exact Blk.lt (t:=122) (cs:=cur) hh
theorem OT.kept{S:Nat->Prop}{ts:List Tk}(h:OT w base v ts)(hk:Kept S w w')(hs:∀k,base<=k->¬S k):OT w' base v ts:=by
 refine⟨h.1,?_⟩
 rcases h.2 with h2|⟨g,cap,cur,hv,hg,hh,r⟩
 ·exact .inl h2
 ·have hlt:g<w.heap.size:=Blk.lt (t:=122) (cs:=cur) hh
  exact .inr ⟨g,cap,cur,hv,hg,(hk.block g hlt (hs g hg)).trans hh,r⟩
theorem OT.mono{b:Nat}{ts:List Tk}(h:OT w base v ts)(hb:b<=base):OT w b v ts:=by
 refine⟨h.1,?_⟩
 rcases h.2 with h2|⟨g,cap,cur,hv,hg,r⟩
 ·exact .inl h2
 ·exact .inr ⟨g,cap,cur,hv,by omega,r⟩
theorem far2{h:Nat}(hne:g≠h)(i:Nat)(v0 v1:Value):((w.setCell ⟨h,0,none⟩ v0).setCell ⟨h,1,none⟩ v1).cell? ⟨g,i,none⟩=w.cell? ⟨g,i,none⟩:=by
 have f:∀(W:World) (j:Nat) (v:Value),(W.setCell ⟨h,j,none⟩ v).cell? ⟨g,i,none⟩=W.cell? ⟨g,i,none⟩:=λW j v=>World.cell?_setCell_other W ⟨h,j,none⟩ ⟨g,i,none⟩ v (λe=>hne (by injection e with e1;exact e1.symm))
 rw[f,f]
theorem a49!(W:World)(t:Tk):Reads (W.alloc (.cells (b7! t).toArray 122)) (W.heap.size+1) 5 (some ⟨W.heap.size,0,none⟩) 1 (b7! t):=by
 refine⟨by simp[b7!],λ_=>⟨_,rfl,by simp,λj u hu=>?_⟩⟩
 rw[Addr.add_lit,Nat.zero_add,(Blk.new W 122 (b7! t).toArray).cell j]
 simpa using hu
def k3!(l:List UInt8)(w:World)(e:Ending)(w':World):Prop:=
 match lexS l with
 | .ok ts=>∃A c,e=.returned (.tuple #[.slice A ts.length c,.agg #[.int .i64 0,.int .i64 0],.int .i64 0])∧OT w' w.heap.size (.slice A ts.length c) ts∧Below w.heap.size w w'
 | .err line col er=>e=.returned (.tuple #[.slice none 0 0,.agg #[.int .i64 line,.int .i64 col],.int .i64 er])∧Below w.heap.size w w'
theorem p0!{f:Nat}{line col:Int}{acc:List Tk}(h:l=c::r):lexF (f+1) l line col acc=
 if c=10 then lexF f r (line+1) 1 acc
 else if c=32∨c=9 then lexF f r line (col+1) acc
 else if c=35 then lexF f (l.drop (preN nlB l)) line (col+preN nlB l) acc
 else if (a3! l).err≠0 then .err line col (a3! l).err
 else lexF f (l.drop (a3! l).text.length) line (col+(a3! l).text.length) (acc++[⟨(a3! l).kind,(a3! l).text,(a3! l).n,line,col⟩]):=by
 subst h
 rfl
theorem l5!{p:UInt8->Bool}(h:p c=true):1<=preN p (c::r):=by
 unfold preN
 rw[List.takeWhile_cons_of_pos h]
 simp
theorem t8!(h:(a3! l).err=0)(hl:l≠[]):1<=(a3! l).text.length∧(a3! l).text.length<=l.length:=by
 obtain⟨c,r,rfl⟩:=List.exists_cons_of_ne_nil hl
 have hle:=j1! innB (c::r)
 have hin:letB c=true∨digB c=true->1<=preN innB (c::r):=λh=>l5! (by unfold innB;rcases h with h|h<;>simp[h])
 revert h
 unfold a3!
 rw[List.headD_cons]
 by_cases hlt:letB c=true
 ·have:=hin (.inl hlt)
  rw[if_pos hlt]
  by_cases h30:30<preN innB (c::r)
  ·rw[if_pos h30];intro h;simp[noPc]at h
  ·rw[if_neg h30]
   by_cases hw:(c::r).take (preN innB (c::r))∈d6!
   ·rw[if_pos hw];intro _;simp only[List.length_take];omega
   ·rw[if_neg hw];intro _;simp only[List.length_take];omega
 ·rw[if_neg hlt]
  by_cases hdg:digB c=true
  ·have:=hin (.inr hdg)
   rw[if_pos hdg]
   by_cases hne:(numS ((c::r).take (preN innB (c::r)))).2≠0
   ·rw[if_pos hne];intro h;exact absurd h hne
   ·rw[if_neg hne];intro _;simp only[List.length_take];omega
  ·rw[if_neg hdg]
   by_cases h2:2<=(c::r).length∧(c::r).take 2∈a9!
   ·rw[if_pos h2];intro _;simp only[List.length_take];omega
   ·rw[if_neg h2]
    by_cases h1:(c::r).take 1∈a9!
    ·rw[if_pos h1];intro _;simp
    ·rw[if_neg h1];intro h;simp[noPc]at h
theorem a50!:(Tryz.prog.info? 122).map (λi=>(i.zero,i.size,i.bytes))=some (some (.agg #[.I 0,.string ByteArray.empty,.I 0,.I 0,.I 0]),5,48):=by kernel_rfl
theorem c28!(s:ByteArray)(k:Nat):s.extract k s.size=str (s.data.toList.drop k):=by
 apply j2!
 rw[str_list]
 have h:s.data.toList.length=s.size:=b1! s
 simp
 rw[List.take_of_length_le (by rw[List.length_drop];omega)]
theorem a51!(s:ByteArray)(w:World)(hT:Spaces w)(hs:s.size<=65536):
 Calls Tryz.prog 51 #[.string s] w (k3! s.data.toList w):=by
 have HT:=h! hT
 have t0:decide ((65536:Int)<(s.size:Int))=false:=by simp;omega
 clear hT
 go_enter Tryz.func51,Tryz.ntmps51
 go_wp2_with fail
 go_step3
 go_wp2_with fail
 obtain⟨W0,eW,f0,y0,-⟩:=n! w 112 #[.I 0,.I 0]
 rw[eW.out]
 clear eW
 have Y0:=h! y0
 clear y0 t0
 refine(c25! W0 (HT.out.below f0)).mono ?_
 rintro e w1⟨r1,r2,rfl,s1,s2,b1⟩
 have f1:=f0.then_ b1
 have y1:=Y0.out.below b1 Y0.out.lt
 have S1:=h! s1
 have S2:=h! s2
 clear s1 s2 f0 b1 Y0
 go_wp2_with fail
 go_step3
 go_wp2_with fail
 obtain⟨W2,eW,b2,x2,-⟩:=n! w1 153 #[.map (some r1),.map (some r2)]
 rw[eW.out]
 clear eW
 have F2:=h! (f1.then_ b2)
 have X2:=h! x2
 have Y2:=h! (y1.below b2 y1.lt)
 have S1':=h! (S1.out.below b2)
 have S2':=h! (S2.out.below b2)
 clear b2 x2 y1 S1 S2 f1 HT
 obtain⟨l,hl⟩:∃l,s.data.toList=l:=⟨_,rfl⟩
 have hll:l.length=s.size:=by rw[<-hl];exact b1! s
 have HL:=h! hl
 have HLL:=h! hll
 clear hl hll
 go_loopw [5,7,8,9] (λv ln fi at_ wr=>∃(k f:Nat) (line first:Int) (acc:List Tk),k<=s.size∧s.size<k+f∧at_=.I k∧ln=.I line∧fi=.I first∧0<=first∧first<=k∧1<=line∧line<=k+1∧acc.length<=k∧Hid (OT wr W2.heap.size v acc)∧Below W2.heap.size W2 wr∧Hid (lexF f (l.drop k) line (k-first+1) acc=lexS l)) (λ_ _ _ at_ _=>s.size-(intOf at_).toNat)
 case atStart=>exact⟨0,s.size+1,1,0,[],by omega,by omega,rfl,rfl,rfl,by omega,by omega,by omega,by omega,by simp,OT.nil _ _,Below.refl _ _,by rw[Hid,lexS,HLL.out];rfl⟩
 case round=>
  obtain⟨k,f,line,first,acc,hk,hkf,rfl,rfl,rfl,hf0,hf1,hl0,hl1,hacc,ho,hb,hlx⟩:=hrel
  by_cases hlt:k<s.size
  ·obtain⟨f',rfl⟩:∃f',f=f'+1:=⟨f-1,by omega⟩
   obtain⟨c,hc⟩:∃c:UInt8,s[k]=c:=⟨_,rfl⟩
   have hlk:k<l.length:=by rw[HLL.out];exact hlt
   have hgc:l[k]=c:=by
    have h1:=h1! s hlt;rw[HL.out,hc,List.getElem?_eq_getElem hlk]at h1;exact Option.some.inj h1
   have hdr:l.drop k=c::l.drop (k+1):=by rw[List.drop_eq_getElem_cons hlk,hgc]
   have hst:=p0! (f:=f') (line:=line) (col:=k-first+1) (acc:=acc) hdr;rw[hlx.out]at hst;have HST:=h! hst;have HDR:=h! hdr;clear hst hdr hgc hlk hlx;obtain⟨x,hx⟩:∃x:Nat,c.toNat=x:=⟨_,rfl⟩
   have hceq:∀d:UInt8,c=d↔x=d.toNat:=λd=>by rw[<-hx];exact⟨λh=>by rw[h],λh=>UInt8.toNat_inj.1 h⟩
   have HCEQ:=h! hceq;clear hceq
   by_cases h10:x=10
   ·have e10:((x:Int)==10)=true:=by simp;omega
    have hst:=HST.out;rw[if_pos ((HCEQ.out 10).2 h10)]at hst;have HS:=h! hst;clear hst h10;go_wp2_with fail
    go_roundw
    case rel=>exact⟨k+1,f',line+1,k+1,acc,by omega,by omega,by go_num,rfl,by go_num,by omega,by omega,by omega,by omega,by omega,ho.out.below_ ((Below.refl _ _).al _),hb.then_ ((Below.refl _ _).al _),by rw[Hid,HS.out];congr 1;omega⟩
    case measure=>simp[intOf];omega
   ·have e10:((x:Int)==10)=false:=by simp;omega
    have hst:=HST.out;rw[if_neg (λh=>h10 ((HCEQ.out 10).1 h))]at hst;clear HST
    by_cases h32:x=32
    ·rw[if_pos (.inl ((HCEQ.out 32).2 h32))]at hst
     have HS:=h! hst;have e32:((x:Int)==32)=true:=by simp;omega
     clear hst h10 h32;go_wp2_with fail
     go_roundw
     case rel=>exact⟨k+1,f',line,first,acc,by omega,by omega,by go_num,rfl,rfl,by omega,by omega,by omega,by omega,by omega,ho.out.below_ ((Below.refl _ _).al _),hb.then_ ((Below.refl _ _).al _),by rw[Hid,HS.out];congr 1;omega⟩
     case measure=>simp[intOf];omega
    by_cases h9:x=9
    ·rw[if_pos (.inr ((HCEQ.out 9).2 h9))]at hst
     have HS:=h! hst;have e32:((x:Int)==32)=false:=by simp;omega
     have e9:((x:Int)==9)=true:=by simp;omega
     clear hst h10 h32 h9;go_wp2_with fail
     go_roundw
     case rel=>exact⟨k+1,f',line,first,acc,by omega,by omega,by go_num,rfl,rfl,by omega,by omega,by omega,by omega,by omega,ho.out.below_ ((Below.refl _ _).al _),hb.then_ ((Below.refl _ _).al _),by rw[Hid,HS.out];congr 1;omega⟩
     case measure=>simp[intOf];omega
    have e32:((x:Int)==32)=false:=by simp;omega
    have e9:((x:Int)==9)=false:=by simp;omega
    rw[if_neg (λh=>by rcases h with h|h;exact h32 ((HCEQ.out 32).1 h);exact h9 ((HCEQ.out 9).1 h))]at hst;obtain⟨d,hd⟩:∃d,l.drop k=d:=⟨_,rfl⟩
    have hext:s.extract k s.size=str d:=by rw[c28!,HL.out,hd]
    have hdl:(str d).data.toList=d:=str_list d;have hds:d.length=s.size-k:=by rw[<-hd,List.length_drop,HLL.out]
    have hdz:(str d).size=s.size-k:=by rw[<-b1!,str_list,hds]
    have hdrop:∀q,d.drop q=l.drop (k+q):=λq=>by rw[<-hd,List.drop_drop]
    rw[hd]at hst;have HDD:=h! hd;have HDS:=h! hds;have HDZ:=h! hdz;have HDR2:=h! hdrop;have g0:(0:Int)<=(k:Int):=by omega
    have g1:(k:Int)<=(s.size:Int):=by omega
    clear hd hdl hds hdz hdrop
    by_cases h35:x=35
    ·rw[if_pos ((HCEQ.out 35).2 h35)]at hst
     have e35:((x:Int)==35)=true:=by simp;omega
     have hn1:preN nlB d<=s.size-k:=by have:=j1! nlB d;have:=HDS.out;omega
     have hn0:1<=preN nlB d:=by
      rw[<-HDD.out,HDR.out];exact l5! (by unfold nlB;rw[hx];simp;omega)
     have hrun:(str d).extract 0 (preN nlB (str d).data.toList)=str (d.take (preN nlB d)):=by rw[t6!,str_list]
     rw[HDR2.out]at hst;have hsz:(str (d.take (preN nlB d))).size=preN nlB d:=by rw[<-b1!,str_list,List.length_take];have:=j1! nlB d;omega
     have HS:=h! hst;have HRUN:=h! hrun;generalize preN nlB d=q at*;clear hst h10 h32 h9 h35 hrun
     go_wp2_with (first|(go_at_call 83;refine(c10! (str d) _ (by rw[HDZ.out];omega)).mono ?_;rintro e w'⟨rfl,rfl⟩;rw[HRUN.out]))
     go_roundw
     case rel=>exact⟨k+q,f',line,first,acc,by omega,by omega,by go_num,rfl,rfl,by omega,by omega,by omega,by omega,by omega,ho.out.below_ ((Below.refl _ _).al _),hb.then_ ((Below.refl _ _).al _),by rw[Hid,HS.out];congr 1;omega⟩
     case measure=>simp[intOf];omega
    ·have e35:((x:Int)==35)=false:=by simp;omega
     rw[if_neg (λh=>h35 ((HCEQ.out 35).1 h))]at hst;have hpl:=t8! (l:=d);obtain⟨p,hp⟩:∃p,a3! d=p:=⟨_,rfl⟩
     rw[hp]at hst hpl;have HPC:=h! hp;have HPL:=h! hpl;have HS:=h! hst;clear hst h10 h32 h9 h35 hp hpl;have dne:d≠[]:=by
      intro h
      have:=HDS.out;rw[h]at this
      simp at this
      omega
     have hpos:0<(str d).size:=by rw[HDZ.out];omega
     have FB:=h! (F2.out.then_ hb);have XB:=b! X2 hb;have S1B:=h! (S1'.out.below hb);have S2B:=h! (S2'.out.below hb);go_upto_region 18 with fail;obtain⟨W3,eW,b3,p3,-⟩:=n! wr 112 #[.I line,.I (k-first+1)];rw[eW.out];clear eW;have P3:=h! p3;have x3:=XB.out.below b3 XB.out.lt;have s13:=S1B.out.below b3;have s23:=S2B.out.below b3;have F3:=h! (FB.out.then_ b3);have hb3:=hb.then_ b3;have HB3:=h! hb3;have ho3:=h! (ho.out.below_ b3);have KB:Hid (∀W,Below W3.heap.size W3 W->W.cell? ⟨w1.heap.size,0,none⟩=some (.map (some r1))∧W.cell? ⟨w1.heap.size,1,none⟩=some (.map (some r2))):=λW hW=>⟨(x3.below hW x3.lt).cell 0,(x3.below hW x3.lt).cell 1⟩
     have PA:Hid (∀W,Below W3.heap.size W3 W->Calls Tryz.prog 85 #[.agg #[.map (some r1),.map (some r2)],.string (str d)] W λe w'=>e=.returned (pcV p)∧Below W.heap.size W w'):=λW hW=>by
      have:=c27! r1 r2 (str d) W (s13.below hW) (s23.below hW) hpos (by rw[HDZ.out];omega);rw[str_list,HPC.out]at this;exact this
     have FR:=(Below.refl W3.heap.size W3).drew;have l3:=p3.lt;have zb:W2.heap.size<=wr.heap.size:=hb.size;have FR0:=FR;have FR00:=Below.refl W3.heap.size W3;clear p3 x3 s13 s23 hb3 ho b3 hb XB S1B S2B FB dne
     go_cut [12,13] (λq e wc=>∃g,q=.pointer (some ⟨g,0,none⟩)∧e=.I p.err∧Hid (Blk wc g 122 #[.I p.kind,.string (str p.text),.I p.n,.I 0,.I 0])∧W3.heap.size<=g∧Below W3.heap.size W3 wc)
     case first=>
      go_region_held3 (λw'=>w'.cell? ⟨w1.heap.size,0,none⟩=some (.map (some r1))∧w'.cell? ⟨w1.heap.size,1,none⟩=some (.map (some r2))) (first|exact KB.out _ FR|exact KB.out _ (FR.al _)|exact KB.out _ ((FR00.al _).drew)|exact KB.out _ (((((FR.setCell (Nat.le_refl _) _).setCell (Nat.le_refl _) _).setCell (Nat.le_refl _) _).setCell (Nat.le_refl _) _).setCell (Nat.le_refl _) _))
       (first
        |(go_at_call 85;(with_reducible refine(PA.out W3.drew FR0).mono ?_);rintro e w4⟨rfl,b4⟩;unfold pcV;have FR:=FR0.then_ b4)
        |(go_at_call 85;(with_reducible refine(PA.out _ (FR00.al (.cells #[.I 0,.E,.I 0,.I 0,.I 0] 122)).drew).mono ?_);rintro e w4⟨rfl,b4⟩;unfold pcV;have FR:=(FR00.al (.cells #[.I 0,.E,.I 0,.I 0,.I 0] 122)).drew.then_ b4;have n4:=(Blk.new W3 122 #[.I 0,.E,.I 0,.I 0,.I 0]).drew.below b4 (by simp);have k0:=n4.c0;have k1:=n4.c1;have k2:=n4.c2;have k3:=n4.c3;have k4:=n4.c4;have q0:=n4.frozen 0;have q1:=n4.frozen 1;have q2:=n4.frozen 2;have q3:=n4.frozen 3;have q4:=n4.frozen 4))
      all_goals
       go_wp2_with fail;go_meet
       case rel=>first|exact⟨W3.heap.size,rfl,rfl,((((n4.set_ 0 _).set_ 1 _).set_ 2 _).set_ 3 _).set_ 4 _,Nat.le_refl _,(((((FR.setCell (Nat.le_refl _) _).setCell (Nat.le_refl _) _).setCell (Nat.le_refl _) _).setCell (Nat.le_refl _) _).setCell (Nat.le_refl _) _)⟩|exact⟨w4.heap.size,rfl,rfl,Blk.new _ _ _,FR.size,FR.al _⟩
     case rest=>
      obtain⟨g,rfl,rfl,hg,hgl,b5⟩:=hcut;clear KB PA FR FR0 FR00;have P5:=P3.out.below b5 l3;obtain⟨c0,c1⟩:=P5.A2;have y5:=Y2.out.below ((HB3.out.then_ b5)) Y2.out.lt
      by_cases hpe:p.err=0
      ·have e0:(p.err != 0)=false:=by simp[hpe]
       have hst:=HS.out;rw[if_neg (λh=>h hpe)]at hst;obtain⟨hq1,hq2⟩:=HPL.out hpe (by intro h;have:=HDS.out;rw[h]at this;simp at this;omega);rw[HDS.out]at hq2;rw[HDR2.out]at hst;have HS2:=h! hst;have k1:=hg.out.c1;have k3:=hg.out.c3;have k4:=hg.out.c4;have q3:=hg.out.frozen 3;have q4:=hg.out.frozen 4;have hne:g≠wr.heap.size:=by omega
       have o5:=ho3.out.below_ b5;have hbw:=HB3.out.then_ b5;have hlt5:∀q,Value.ownBlock u5=some q->q<W3.heap.size:=ho3.out.lt;have hge5:=ho3.out.block;have G6:Hid (Blk ((wc.setCell ⟨g,3,none⟩ (.I line)).setCell ⟨g,4,none⟩ (.I (k-first+1))) g 122 (b7! ⟨p.kind,p.text,p.n,line,k-first+1⟩).toArray):=((hg.out.set_ 3 _).set_ 4 _);have b6:Below W3.heap.size W3 ((wc.setCell ⟨g,3,none⟩ (.I line)).setCell ⟨g,4,none⟩ (.I (k-first+1))):=(b5.setCell (p:=⟨g,3,none⟩) hgl _).setCell (p:=⟨g,4,none⟩) hgl _;clear y5 P5 o5 hbw;go_upto_region 22 with fail;generalize ((wc.setCell ⟨g,3,none⟩ (.I line)).setCell ⟨g,4,none⟩ (.I (k-first+1)))=W6 at*;clear c0 c1 k1 k3 k4 q3 q4;have o6:=h! (ho3.out.below_ b6);have w6:=HB3.out.then_ b6;obtain⟨k0,k1,k2,k3,k4⟩:=G6.out.A5;have gl6:=G6.out.lt;have RD:=h! (a49! W6 ⟨p.kind,p.text,p.n,line,k-first+1⟩);have ONE:=h! (a48! ⟨p.kind,p.text,p.n,line,k-first+1⟩);have G7:=h! (G6.out.alloc (.cells (b7! ⟨p.kind,p.text,p.n,line,k-first+1⟩).toArray 122));have W6z:W2.heap.size<=W6.heap.size:=w6.size;have hsz:(str p.text).size=p.text.length:=by rw[<-b1!,str_list]
       obtain⟨i0,hi0,hz0,hz1,hz2⟩:=info_parts a50!;have own7:=h! (World.ownsRow.alloc o6.out (.cells (b7! ⟨p.kind,p.text,p.n,line,k-first+1⟩).toArray 122))
       go_wp2_with (first|(at_builtin;refine e5! _ (by rfl) (.tmp 68) (.tmp 70) 111 rfl W2.heap.size 122 i0 _ 5 48 Tryz.underlying111 hi0 hz0 hz1 hz2 rfl (by omega) u5 acc.length (b8! acc) rfl own7.out _ _ 1 1 (b7! ⟨p.kind,p.text,p.n,line,k-first+1⟩) rfl RD.out ONE.out (by unfold maxLen;omega) (by omega) (by simp;omega) ?_;intro v8 w8 o8 g8 at8;have k1':=(G7.out.grown g8 (λe=>by have:=hlt5 g e.symm;omega)).c1;have O8:=h! o8;have G8:=h! g8;clear o8 g8 at8))
       have O9:Hid (OT w8 W2.heap.size v8 (acc++[⟨p.kind,p.text,p.n,line,k-first+1⟩])):=by
        have:=O8.out;unfold OT Hid;rw[t7!,List.length_append];exact this
       have b8:Below W2.heap.size W2 w8:=(w6.alloc w6.size _).grown G8.out (by have:=w6.size;simp;omega) hge5;clear k0 k1 k2 k3 k4 k1' O8 G8 G7 RD ONE own7
       go_roundw
       case rel=>exact⟨k+p.text.length,f',line,first,acc++[⟨p.kind,p.text,p.n,line,k-first+1⟩],by omega,by omega,by go_num,rfl,rfl,by omega,by omega,by omega,by omega,by simp;omega,O9,b8,by rw[Hid,HS2.out];congr 1;omega⟩
       case measure=>simp[intOf];omega
      ·have e0:(p.err != 0)=true:=by simpa using hpe
       have hst:=HS.out;rw[if_pos hpe]at hst;have HS2:=h! hst;obtain⟨k0,k1⟩:=y5.A2;obtain⟨q0,q1⟩:=y5.F2;have F5:=h! (F3.out.then_ b5);have Y5:=h! y5;have hne:wr.heap.size≠w.heap.size:=by have:=Y2.out.lt;omega
       have cc:wc.drew.cell? ⟨wr.heap.size,0,none⟩=some (.I line)∧wc.drew.cell? ⟨wr.heap.size,1,none⟩=some (.I (k-first+1)):=⟨c0,c1⟩;clear hst HS y5 P5;go_wp2_with fail
       go_region_held3 (λw'=>w'.cell? ⟨wr.heap.size,0,none⟩=some (.I line)∧w'.cell? ⟨wr.heap.size,1,none⟩=some (.I (k-first+1))) (first|(with_reducible exact cc)|exact⟨(far2 hne _ _ _).trans cc.1,(far2 hne _ _ _).trans cc.2⟩) (fail)
       go_wp2_with fail;rw[Exit.noGoto_ret];refine bodyPost_ret (v:=.tuple #[.N,.agg #[.I line,.I (k-first+1)],.I p.err]) (by simp[results,Tryz.results51,go_sem,k0,k1]) rfl ?_;have HX:lexS s.data.toList=.err line (k-first+1) p.err:=by rw[HL.out];exact HS2.out
       unfold k3!;rw[HX];exact⟨rfl,((F5.out.drew.setCell (Nat.le_refl _) _).setCell (Nat.le_refl _) _)⟩
  ·obtain rfl:k=s.size:=by omega
   obtain⟨f',rfl⟩:∃f',f=f'+1:=⟨f-1,by omega⟩
   have hnil:l.drop s.size=[]:=List.drop_of_length_le (by rw[HLL.out];omega);have hst:=hlx.out;rw[hnil]at hst;have HS:Hid (lexS l=.ok (acc++[⟨0,[],0,line,s.size-first+1⟩])):=hst.symm;clear hst hnil hlx;have RD:=h! (a49! wr ⟨0,[],0,line,s.size-first+1⟩);have ONE:=h! (a48! ⟨0,[],0,line,s.size-first+1⟩);have hbz:=hb.size;have Y7:=h! ((Y2.out.below hb Y2.out.lt).alloc (.cells (b7! ⟨0,[],0,line,s.size-first+1⟩).toArray 122));have hge5:=ho.out.block;have F7:=h! (F2.out.then_ hb);obtain⟨i0,hi0,hz0,hz1,hz2⟩:=info_parts a50!;have own7:=h! (World.ownsRow.alloc ho.out (.cells (b7! ⟨0,[],0,line,s.size-first+1⟩).toArray 122))
   go_wp2_with (first|(at_builtin;refine e5! _ (by rfl) (.tmp 77) (.tmp 85) 111 rfl W2.heap.size 122 i0 _ 5 48 Tryz.underlying111 hi0 hz0 hz1 hz2 rfl (by omega) u5 acc.length (b8! acc) rfl own7.out _ _ 1 1 (b7! ⟨0,[],0,line,s.size-first+1⟩) rfl RD.out ONE.out (by unfold maxLen;omega) (by omega) (by simp;omega) ?_;intro v8 w8 o8 g8 at8;have Y8:=h! (Y7.out.grown g8 (λe=>by have:=hge5 _ e.symm;have:=Y2.out.lt;omega));have k0:=Y8.out.c0;have k1:=Y8.out.c1;have q0:=Y8.out.frozen 0;have q1:=Y8.out.frozen 1;have O8:=h! o8;have G8:=h! g8;clear o8 g8 at8))
   rw[Exit.noGoto_ret];have O9:OT w8 W2.heap.size v8 (acc++[⟨0,[],0,line,s.size-first+1⟩]):=by
    have:=O8.out;unfold OT;rw[t7!,List.length_append];exact this
   have b8:Below W2.heap.size W2 w8:=(hb.alloc hb.size _).grown G8.out (by simp;omega) hge5;obtain⟨A8,c8,rfl⟩:=a47! O9;refine bodyPost_ret (v:=.tuple #[.slice A8 (acc++[(⟨0,[],0,line,s.size-first+1⟩:Tk)]).length c8,.agg #[.I 0,.I 0],.I 0]) (by simp[results,Tryz.results51,go_sem,k0,k1]) rfl ?_;have HX:lexS s.data.toList=.ok (acc++[⟨0,[],0,line,s.size-first+1⟩]):=by rw[HL.out];exact HS.out
   have kk:Kept (λq=>q=w.heap.size) w8 ((w8.setCell ⟨w.heap.size,0,none⟩ (.I 0)).setCell ⟨w.heap.size,1,none⟩ (.I 0)):=((Kept.refl (λq=>q=w.heap.size) w8).setCell (p:=⟨w.heap.size,0,none⟩) (λ_=>rfl) _).setCell (p:=⟨w.heap.size,1,none⟩) (λ_=>rfl) _;have hzz:=F2.out.size;have hyz:=Y2.out.lt;have F8:=F2.out.trans (b8.mono hzz);unfold k3!;rw[HX];exact⟨A8,c8,rfl,(O9.kept kk (λq hq e=>by omega)).mono hzz,F8.trans (kk.to_below F8.size (λq hq e=>by omega))⟩
inductive Ex where
 |num (n:Int)
 |nam (s:List UInt8)
 |idx (s:List UInt8) (e:Ex)
 |neg (e:Ex)
 |non (e:Ex)
 |bin (op:Int) (a b:Ex)
inductive PR where
 |ok (e:Ex) (r:List Tk)
 |bad (r:List Tk) (err:Int)
def hasT(x:List UInt8):List Tk->Bool
 |[]=>false
 |t::_=>(decide (t.kind=3)||decide (t.kind=4))&&decide (t.text=x)
def d7!:List Tk->Int
 |[]=>4
 |t::_=>if t.kind=0 then 4 else 3
def lvlT:Nat->List (List UInt8×Int)
 |0=>[([111,114],17)]
 |1=>[([97,110,100],16)]
 |2=>[([61],10),([33,61],11),([60],12),([60,61],13),([62],14),([62,61],15)]
 |3=>[([43],8),([45],9)]
 |4=>[([42],5),([47],6),([37],7)]
 |_=>[]
def opAt(lvl:Nat):List Tk->Option Int
 |[]=>none
 |t::_=>(lvlT lvl).lookup t.text
def openT(r:List Tk):Bool:=
 (match r with|[]=>false|t::_=>decide (t.kind=2)||decide (t.kind=1))||hasT [40] r||hasT [45] r||hasT [110,111,116] r
def mustT(x:List UInt8)(e:Ex)(r:List Tk):PR:=if hasT x r then .ok e r.tail else .bad r (d7! r)
def loopJ(lvl:Nat)(next:List Tk->PR):Nat->Ex->List Tk->PR
 |0,e,r=>.ok e r
 |f+1,e,r=>match opAt lvl r with
  |none=>.ok e r
  |some op=>match next r.tail with
   | .bad r2 er=>.bad r2 er
   | .ok e2 r2=>if lvl=2 then .ok (.bin op e e2) r2 else loopJ lvl next f (.bin op e e2) r2
def joinL(plain:List Tk->PR):Nat->List Tk->PR
 |0,r=>plain r
 |k+1,r=>match joinL plain k r with
  | .bad r2 er=>.bad r2 er
  | .ok e r2=>loopJ (4-k) (joinL plain k) r2.length e r2
def a0!:Nat->List Tk->PR
 |_,[]=>.bad [] 4
 |0,t::r=>if openT (t::r)then .bad (t::r) 25 else .bad (t::r) (d7! (t::r))
 |d+1,t::r=>
  if openT (t::r)=false then .bad (t::r) (d7! (t::r))
  else if t.kind=2 then .ok (.num t.n) r
  else if t.kind=1 then
   (if hasT [91] r then (match joinL (a0! d) 5 r.tail with
    | .bad r2 er=>.bad r2 er
    | .ok e r2=>mustT [93] (.idx t.text e) r2)
   else .ok (.nam t.text) r)
  else if t.text=[40]then (match joinL (a0! d) 5 r with
   | .bad r2 er=>.bad r2 er
   | .ok e r2=>mustT [41] e r2)
  else if t.text=[45]then (match a0! d r with
   | .bad r2 er=>.bad r2 er
   | .ok e r2=>.ok (.neg e) r2)
  else (match a0! d r with
   | .bad r2 er=>.bad r2 er
   | .ok e r2=>.ok (.non e) r2)
def exprS(ts:List Tk):PR:=match joinL (a0! 16) 5 ts with
 | .bad r er=>.bad r er
 | .ok e r=>match r with
  |[]=>.ok e r
  |t::_=>if t.kind=0 then .ok e r else .bad r 3
def PR.map(f:Tk->Tk):PR->PR
 | .ok e r=>.ok e (r.map f)
 | .bad r er=>.bad (r.map f) er
def Tk.z(t:Tk):Tk:=⟨t.kind,t.text,t.n,0,0⟩
def Eats(next:List Tk->PR):Prop:=∀r e r2,next r=.ok e r2->r2.length<r.length
theorem a52!{lvl:Nat}{next:List Tk->PR}(hn:Eats next):∀(f:Nat) (e:Ex) (r:List Tk) (e2:Ex) (r2:List Tk),loopJ lvl next f e r=.ok e2 r2->r2.length<=r.length
 |0,e,r,e2,r2,h=>by
  simp only[loopJ,PR.ok.injEq]at h
  rw[h.2];exact Nat.le_refl _
 |f+1,e,r,e2,r2,h=>by
  simp only[loopJ]at h
  have ht:r.tail.length<=r.length:=by rw[List.length_tail];omega
  cases ho:opAt lvl r with
  |none=>
   rw[ho]at h
   simp only[PR.ok.injEq]at h
   rw[h.2];exact Nat.le_refl _
  |some op=>
   rw[ho]at h
   simp only at h
   cases hq:next r.tail with
   |bad r3 er=>rw[hq]at h;cases h
   |ok e3 r3=>
    rw[hq]at h
    simp only at h
    have h3:=hn _ _ _ hq
    split at h
    ·simp only[PR.ok.injEq]at h
     rw[<-h.2]
     omega
    ·have:=a52! hn f _ _ _ _ h
     omega
theorem n0!{plain:List Tk->PR}(hp:Eats plain):∀k,Eats (joinL plain k)
 |0=>hp
 |k+1=>λr e r2 h=>by
  simp only[joinL]at h
  cases hq:joinL plain k r with
  |bad r3 er=>rw[hq]at h;cases h
  |ok e3 r3=>
   rw[hq]at h
   simp only at h
   have h1:=n0! hp k _ _ _ hq;have h2:=a52! (n0! hp k) _ _ _ _ _ h
   omega
theorem a53!{e e2:Ex}{r r2:List Tk}(h:mustT x e r=.ok e2 r2):r2.length<r.length:=by
 unfold mustT at h
 split at h
 ·rename_i hh
  simp only[PR.ok.injEq]at h
  rw[<-h.2]
  cases r with
  |nil=>simp[hasT]at hh
  |cons t r=>simp
 ·cases h
theorem t9!:∀d,Eats (a0! d)
 |0=>λr e r2 h=>by
  cases r with
  |nil=>simp[a0!]at h
  |cons t r=>
   simp only[a0!]at h
   split at h<;>cases h
 |d+1=>λr e r2 h=>by
  have ih:=t9! d;have ij:=n0! ih 5
  cases r with
  |nil=>simp[a0!]at h
  |cons t r=>
   simp only[a0!]at h
   have ht:r.tail.length<=r.length:=by rw[List.length_tail];omega
   rw[List.length_cons]
   split at h
   ·cases h
   ·split at h
    ·simp only[PR.ok.injEq]at h
     rw[<-h.2];omega
    ·split at h
     ·split at h
      ·cases hq:joinL (a0! d) 5 r.tail with
       |bad r3 er=>rw[hq]at h;cases h
       |ok e3 r3=>
        rw[hq]at h;have h1:=ij _ _ _ hq;have h2:=a53! h
        omega
      ·simp only[PR.ok.injEq]at h
       rw[<-h.2];omega
     ·split at h
      ·cases hq:joinL (a0! d) 5 r with
       |bad r3 er=>rw[hq]at h;cases h
       |ok e3 r3=>
        rw[hq]at h;have h1:=ij _ _ _ hq;have h2:=a53! h
        omega
      ·split at h
       ·cases hq:a0! d r with
        |bad r3 er=>rw[hq]at h;cases h
        |ok e3 r3=>
         rw[hq]at h
         simp only[PR.ok.injEq]at h
         have h1:=ih _ _ _ hq;rw[<-h.2];omega
       ·cases hq:a0! d r with
        |bad r3 er=>rw[hq]at h;cases h
        |ok e3 r3=>
         rw[hq]at h
         simp only[PR.ok.injEq]at h
         have h1:=ih _ _ _ hq;rw[<-h.2];omega
theorem u0!{lvl:Nat}{next:List Tk->PR}(hn:Eats next):∀(n:Nat) (r:List Tk),r.length<=n->∀(f:Nat) (e:Ex),r.length<=f->loopJ lvl next f e r=loopJ lvl next r.length e r
 |0,r,h,f,e,_=>by
  have:r=[]:=List.eq_nil_of_length_eq_zero (by omega);subst this
  cases f<;>simp[loopJ,opAt]
 |n+1,r,h,f,e,hf=>by
  cases r with
  |nil=>cases f<;>simp[loopJ,opAt]
  |cons t r=>
   rw[List.length_cons]at h hf ⊢;obtain⟨f,rfl⟩:∃q,f=q+1:=⟨f-1,by omega⟩
   simp only[loopJ]
   cases opAt lvl (t::r)with
   |none=>rfl
   |some op=>
    simp only[List.tail_cons]
    cases hq:next r with
    |bad r3 er=>rfl
    |ok e3 r3=>
     simp only
     have h3:=hn _ _ _ hq
     split
     ·rfl
     ·rw[u0! hn n r3 (by omega) f _ (by omega),u0! hn n r3 (by omega) r.length _ (by omega)]
def Dead(X:List Tk):Prop:=openT X=false∧hasT [91] X=false∧hasT [93] X=false∧hasT [41] X=false∧∀l,opAt l X=none
def Calm(Y:List Tk):Prop:=hasT [91] Y=false∧∀l,opAt l Y=none
def Loc(next:List Tk->PR):Prop:=∀(X Y us:List Tk) (e:Ex) (r:List Tk),Dead X->Calm Y->next (us++X)=.ok e r->∃vs,r=vs++X∧vs<:+us∧next (us++Y)=.ok e (vs++Y)
def Less(p q:List Tk->PR):Prop:=∀r,p r=q r∨∃r',p r=.bad r' 25
def c29!:Tk:=⟨4,[40],0,0,0⟩
def c30!:Tk:=⟨4,[41],0,0,0⟩
def wrapT:Nat->List Tk->List Tk
 |0,us=>us
 |k+1,us=>c29!::wrapT k us++[c30!]
inductive PS (α:Type) where
 |ok (a:α) (r:List Tk)
 |bad (r:List Tk) (err:Int)
def PS.bind{α β:Type}(p:PS α)(f:α->List Tk->PS β):PS β:=match p with
 | .ok a r=>f a r
 | .bad r e=>.bad r e
def PS.map{α:Type}(f:Tk->Tk):PS α->PS α
 | .ok a r=>.ok a (r.map f)
 | .bad r e=>.bad (r.map f) e
def PR.ps:PR->PS Ex
 | .ok e r=>.ok e r
 | .bad r e=>.bad r e
inductive St where
 |mk (kind:Int) (nm:List UInt8) (E:List Ex) (lo hi:Int) (L El:List St)
structure Va where
 nm:List UInt8
 size:Int
 lo:Int
 hi:Int
structure Pg where
 nm:List UInt8
 seats:Int
 stakes:List Int
 vars:List Va
 start:List St
 turn:List St
 params:List Va
 play:List St
 silent:List UInt8
 quiet:List St
 pays:List St
def kindT(k:Int):List Tk->Bool
 |[]=>false
 |t::_=>decide (t.kind=k)
def mustP(x:List UInt8)(r:List Tk):PS Unit:=if hasT x r then .ok () r.tail else .bad r (d7! r)
def takeP(k:Int):List Tk->PS Tk
 |[]=>.bad [] 4
 |t::r=>if t.kind=k then .ok t r else .bad (t::r) (d7! (t::r))
def nameP(r:List Tk):PS (List UInt8):=(takeP 1 r).bind λt r=>.ok t.text r
def wordP(r:List Tk):PS (List UInt8):=(takeP 3 r).bind λt r=>.ok t.text r
def numP(r:List Tk):PS Int:=(takeP 2 r).bind λt r=>.ok t.n r
def b4!(r:List Tk):PS Int:=if hasT [45] r then (numP r.tail).bind λn r=>.ok (IntKind.i64.wrap (-n)) r else numP r
def exprP(r:List Tk):PS Ex:=(joinL (a0! 16) 5 r).ps
def listP{α:Type}(more:List Tk->Bool)(one:List Tk->PS α):Nat->List α->List Tk->PS (List α)
 |0,acc,r=>.ok acc r
 |f+1,acc,r=>if more r then (one r).bind λa r=>listP more one f (acc++[a]) r else .ok acc r
def beginW:List (List UInt8):=[[105,102],[102,111,114],[114,101,102,117,115,101],[114,111,108,108],[115,101,97,116],[111,118,101,114],[112,97,121],[114,101,115,116]]
def a7!:List Tk->Bool
 |[]=>false
 |t::_=>decide (t.kind=1)||(decide (t.kind=3)&&decide (t.text∈beginW))
def h2!(r:List Tk):PS St:=
 (nameP r).bind λnm r=>
 if hasT [91] r then
  (exprP r.tail).bind λe r=>(mustP [93] r).bind λ_ r=>(mustP [61] r).bind λ_ r=>(exprP r).bind λe2 r=>.ok (.mk 1 nm [e,e2] 0 0 [] []) r
 else (mustP [61] r).bind λ_ r=>(exprP r).bind λe r=>.ok (.mk 0 nm [e] 0 0 [] []) r
def stmtD:Nat->List Tk->PS St
 |0,r=>.bad r 25
 |d+1,r=>
  if kindT 1 r then h2! r
  else (wordP r).bind λx r=>
   if x=[105,102]then
    (exprP r).bind λe r=>(mustP [116,104,101,110] r).bind λ_ r=>(listP a7! (stmtD d) r.length [] r).bind λl r=>
    (if hasT [101,108,115,101] r then listP a7! (stmtD d) r.tail.length [] r.tail else .ok [] r).bind λel r=>(mustP [101,110,100] r).bind λ_ r=>.ok (.mk 2 [] [e] 0 0 l el) r
   else if x=[102,111,114]then
    (nameP r).bind λnm r=>(b4! r).bind λlo r=>(b4! r).bind λhi r=>(mustP [100,111] r).bind λ_ r=>
    (listP a7! (stmtD d) r.length [] r).bind λl r=>(mustP [101,110,100] r).bind λ_ r=>.ok (.mk 3 nm [] lo hi l []) r
   else if x=[114,101,102,117,115,101]then .ok (.mk 4 [] [] 0 0 [] []) r
   else if x=[114,111,108,108]then (nameP r).bind λnm r=>(numP r).bind λn r=>.ok (.mk 5 nm [] n 0 [] []) r
   else if x=[115,101,97,116]then (exprP r).bind λe r=>.ok (.mk 6 [] [e] 0 0 [] []) r
   else if x=[111,118,101,114]then .ok (.mk 7 [] [] 0 0 [] []) r
   else if x=[112,97,121]then (exprP r).bind λe r=>(exprP r).bind λe2 r=>.ok (.mk 8 [] [e,e2] 0 0 [] []) r
   else (exprP r).bind λe r=>.ok (.mk 9 [] [e] 0 0 [] []) r
def partP(r:List Tk):PS (List St):=(listP a7! (stmtD 16) r.length [] r).bind λl r=>(mustP [101,110,100] r).bind λ_ r=>.ok l r
def d8!(r:List Tk):PS Va:=
 (mustP [118,97,114] r).bind λ_ r=>(nameP r).bind λnm r=>
 (if hasT [91] r then (numP r.tail).bind λn r=>(mustP [93] r).bind λ_ r=>.ok n r else .ok 0 r).bind λsz r=>
 (b4! r).bind λlo r=>(b4! r).bind λhi r=>.ok ⟨nm,sz,lo,hi⟩ r
def c8!(r:List Tk):PS Va:=(nameP r).bind λnm r=>(b4! r).bind λlo r=>(b4! r).bind λhi r=>.ok ⟨nm,0,lo,hi⟩ r
def e8!(r:List Tk):PS Va:=(mustP [44] r).bind λ_ r=>c8! r
def g6!(r:List Tk):Bool:=match r.tail with
 |[]=>false
 |t::_=>decide (t.kind=2)||decide (t.text=[45])
def d9!(r:List Tk):PS (List Va):=
 if kindT 1 r=false then .ok [] r else if g6! r=false then .ok [] r
 else (c8! r).bind λv r=>listP (hasT [44]) e8! r.length [v] r
def progP(r:List Tk):PS Pg:=
 (mustP [103,97,109,101] r).bind λ_ r=>(nameP r).bind λnm r=>(mustP [115,101,97,116,115] r).bind λ_ r=>(numP r).bind λseats r=>
 (mustP [115,116,97,107,101] r).bind λ_ r=>(numP r).bind λs0 r=>(listP (kindT 2) numP r.length [] r).bind λss r=>
 (listP (hasT [118,97,114]) d8! r.length [] r).bind λvars r=>(mustP [115,116,97,114,116] r).bind λ_ r=>(partP r).bind λstart r=>
 (mustP [116,117,114,110] r).bind λ_ r=>(partP r).bind λturn r=>(mustP [112,108,97,121] r).bind λ_ r=>(d9! r).bind λparams r=>(partP r).bind λplay r=>
 (mustP [115,105,108,101,110,116] r).bind λ_ r=>(nameP r).bind λsilent r=>(partP r).bind λquiet r=>(mustP [112,97,121] r).bind λ_ r=>(partP r).bind λpays r=>
 .ok ⟨nm,seats,s0::ss,vars,start,turn,params,play,silent,quiet,pays⟩ r
def Zi{α:Type}(f:List Tk->PS α):Prop:=∀r,f (r.map Tk.z)=(f r).map Tk.z
end Go.Proofs.YtdgekckedchjbaaGreatDoor
