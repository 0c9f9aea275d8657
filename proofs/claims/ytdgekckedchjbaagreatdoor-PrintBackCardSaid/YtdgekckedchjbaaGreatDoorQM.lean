
/-
 The writer of texts in memory: its builder, put. The builder within a writer: Len, copyCheck, WriteString, String. The builder within a writer: String. The writer's put. The writer's line. The writer's expr: what it a03! with; Itoa.
-/
import Derived.Test.YtdgekckedchjbaaGreatDoorQL
import Derived.Test.YtdgekckedchjbaaGreatDoorProg
import Derived.Lib.AppendStr
import Derived.Lib.LaidTab
import Derived.Lib.ItoaMem
import Derived.Lib.MakeNoZero
import Derived.Lib.Builder
import Derived.WalkMore
import Derived.Laws.Externs
import Derived.Laws.IdiomCopy
import Derived.Deep.RegionHeld3
import Derived.Lib.UnsafeStr
import Derived.Deep.QuietTactic
import Derived.BigQuiet
import Derived.Lib.AppendIntMem
import Derived.Lib.ItoaLen
set_option maxHeartbeats 4000000
set_option maxRecDepth 100000
namespace Go.Proofs.YtdgekckedchjbaaGreatDoor
open Go.RowKit
variable {M b base g i k n q room:Nat} {D S:Nat->Prop} {w w':World} {t:TypeId} {cs:Array Value} {a:Gx} {l:List UInt8} {bad:Bool} {N op:Int} {nm:ByteArray} {A:Option Addr} {gs:List Gx}
structure Tabs (base:Nat) (w:World):Prop where
 sp:Spaces w
 pow:Lib.TabIs Tryz.prog w "internal/strconv.uint64pow10" .u64 Lib.pow10Tab
 op0:∀op:Nat,op<18->w.cell? ⟨0,op*3,none⟩=some (.string (str (markN (op:Int))))
 op1:∀op:Nat,op<18->w.cell? ⟨0,op*3+1,none⟩=some (.I (b0! (op:Int)))
 op2:∀op:Nat,op<18->w.cell? ⟨0,op*3+2,none⟩=some (.I (partsN (op:Int):Nat))
 lt:4<=base
theorem Tabs.kept(h:Tabs base w)(hk:Kept S w w')(hs:∀k,k<base->¬S k):Tabs base w':=by
 have hl:=h.lt
 have hc:∀(b o:Nat) (v:Value),b<4->w.cell? ⟨b,o,none⟩=some v->w'.cell? ⟨b,o,none⟩=some v:=λb o v hb e=>
  (hk.cell (p:=⟨b,o,none⟩) (World.block_lt_of_cell? _ _ e) (hs _ (by show b<base;omega))).trans e
 refine⟨λc hx=>hc _ _ _ (by decide) (h.sp c hx),?_,λop hx=>hc _ _ _ (by omega) (h.op0 op hx),λop hx=>hc _ _ _ (by omega) (h.op1 op hx),λop hx=>hc _ _ _ (by omega) (h.op2 op hx),hl⟩
 have hp:=h.pow
 unfold Lib.TabIs World.var? at hp ⊢
 have hg:Tryz.prog.globalNamed "internal/strconv.uint64pow10" =some 3:=by kernel_rfl
 simp only[hg,Option.bind_some]at hp ⊢
 have hlt:3<w.heap.size:=by
  rcases Nat.lt_or_ge 3 w.heap.size with h'|h'
  ·exact h'
  ·rw[Array.getElem?_eq_none h']at hp;simp at hp
 rw[hk.block _ hlt (hs _ (by omega))]
 exact hp
theorem Tabs.below{B:Nat}(h:Tabs base w)(hb:Below B w w')(hB:base<=B):Tabs base w':=
 h.kept (S:=λk=>¬k<base) ⟨hb.os,hb.tape,hb.output,hb.size,λk _ hn=>hb.block k (by have:k<base:=Classical.not_not.1 hn;omega)⟩ (λk hk hn=>hn hk)
theorem Tabs.more{base':Nat}(h:Tabs base w)(hb:base<=base'):Tabs base' w:=⟨h.sp,h.pow,h.op0,h.op1,h.op2,Nat.le_trans h.lt hb⟩
def Wr(base:Nat)(w:World)(g:Nat)(ob:Option Nat)(room:Nat)(l:List UInt8)(bad:Bool):Prop:=
 base<=g∧(∀z,ob=some z->base<=z∧z≠g)∧l.length<=room∧room<=1073741824∧
 ∃p v,Blk w g 68 #[p,v,.I (room:Int),.bool bad]∧(p=.pointer none∨p=.pointer (some ⟨g,0,none⟩))∧w.ownsRow 0 5 1 v l.length (B8 l)∧v.ownBlock=ob
def Turns(w:World)(g:Nat)(ob:Option Nat)(w':World)(ob':Option Nat):Prop:=Kept (λz=>z=g∨ob=some z) w w'∧(ob'=ob∨∀z,ob'=some z->w.heap.size<=z)
def Wrote(base:Nat)(w:World)(g:Nat)(ob:Option Nat)(room:Nat)(l:List UInt8)(bad:Bool)(o:Option (List UInt8))(w':World):Prop:=
 ∃ob' l' bad',Turns w g ob w' ob'∧Wr base w' g ob' room l' bad'∧WOut room l bad o l' bad'
section
variable {base g room:Nat} {w w1 w2:World} {ob ob1 ob2:Option Nat} {l l1:List UInt8} {bad b1:Bool} {o o1 o2:Option (List UInt8)}
theorem Turns.refl(w:World)(g:Nat)(ob:Option Nat):Turns w g ob w ob:=⟨Kept.refl _ _,.inl rfl⟩
theorem Turns.trans(h:Turns w g ob w1 ob1)(k:Turns w1 g ob1 w2 ob2):Turns w g ob w2 ob2:=by
 refine⟨h.1.then_ k.1 λi hi e=>?_,?_⟩
 ·rcases e with e|e
  ·exact .inl e
  ·rcases h.2 with h2|h2
   ·exact .inr (h2▸e)
   ·have:=h2 i e
    omega
 ·rcases k.2 with k2|k2
  ·rw[k2]
   exact h.2
  ·exact .inr λz e=>Nat.le_trans h.1.size (k2 z e)
theorem Turns.below(h:Turns w g ob w1 ob1)(hb:Below w1.heap.size w1 w2):Turns w g ob w2 ob1:=h.trans ⟨Kept.of_below hb,.inl rfl⟩
theorem Turns.of_below(hb:Below w.heap.size w w1):Turns w g ob w1 ob:=(Turns.refl w g ob).below hb
theorem Wr.lt(h:Wr base w g ob room l bad):g<w.heap.size:=by
 obtain⟨_,_,_,_,p,v,hb,_⟩:=h
 exact hb.lt
theorem Wr.own_lt_(h:Wr base w g ob room l bad):∀z,ob=some z->z<w.heap.size:=by
 obtain⟨_,_,_,_,p,v,_,_,ho,hv⟩:=h
 intro z e
 exact c2! ho z (hv.trans e)
theorem Wr.kept(h:Wr base w g ob room l bad)(hk:Kept S w w1)(hg:¬S g)(hs:∀z,ob=some z->¬S z):Wr base w1 g ob room l bad:=by
 obtain⟨h1,h2,h3,h4,p,v,hb,hp,ho,hv⟩:=h
 exact⟨h1,h2,h3,h4,p,v,hb.kept hk hg,hp,a6! ho hk (λk e=>hs k (hv.symm.trans e)),hv⟩
theorem Wr.below(h:Wr base w g ob room l bad)(hb:Below w.heap.size w w1):Wr base w1 g ob room l bad:=h.kept (Kept.of_below (S:=λ_=>False) hb) id (λ_ _=>id)
theorem Wr.al(h:Wr base w g ob room l bad)(x:Obj):Wr base (w.alloc x) g ob room l bad:=h.below ((Below.refl _ w).al x)
theorem Turns.low(h:Turns w g ob w1 ob1)(k:Wr base w g ob room l bad):Below base w w1:=
 h.1.to_below (Nat.le_of_lt (Nat.lt_of_le_of_lt k.1 k.lt)) λz hz e=>by
  rcases e with e|e
  ·have:=k.1;omega
  ·have:=(k.2.1 z e).1;omega
def Far(w:World)(g:Nat)(ob:Option Nat)(b:Nat):Prop:=b≠g∧ob≠some b∧b<w.heap.size
theorem Far.turn(h:Far w g ob b)(k:Turns w g ob w1 ob1):Far w1 g ob1 b:=by
 refine⟨h.1,λe=>?_,Nat.lt_of_lt_of_le h.2.2 k.1.size⟩
 rcases k.2 with k2|k2
 ·exact h.2.1 (k2▸e)
 ·have:=k2 b e
  have:=h.2.2
  omega
theorem Far.new(h:Wr base w g ob room l bad)(x:Obj):Far (w.alloc x) g ob w.heap.size:=
 ⟨λe=>by have:=h.lt;omega,λe=>by have:=h.own_lt_ _ e;omega,by simp⟩
theorem Far.blk(h:Far w g ob b)(k:Turns w g ob w1 ob1)(hb:Blk w b t cs):Blk w1 b t cs:=
 hb.kept k.1 λe=>e.elim h.1 h.2.1
theorem Far.below(h:Far w g ob b)(hb:Below w.heap.size w w1):Far w1 g ob b:=⟨h.1,h.2.1,Nat.lt_of_lt_of_le h.2.2 hb.size⟩
theorem Wrote.none_(h:Wr base w g ob room l bad):Wrote base w g ob room l bad (some []) w:=⟨ob,l,bad,Turns.refl _ _ _,h,WOut.none_ h.2.2.1⟩
end
theorem d25!:(Tryz.prog.info? 5).map (λi=>(i.zero,i.size,i.bytes))=some (some (.int .u8 0),1,1):=by kernel_rfl
theorem d26!(s:ByteArray):Lib.strCells s=B8 s.data.toList:=by
 unfold Lib.strCells B8
 rfl
section
variable {P:Program} (w:World)
theorem d27!(base:Nat)(t u ty e:TypeId)(i:TypeInfo)(ht:P.underlying t=some (.slice e))(hu:P.underlying u=some .string)(hi:P.info? e=some i)(hz:i.zero=some (.int .u8 0))
 (hsize:i.size=1) (hby:i.bytes=1)
 (v:Value) (n:Nat) (xs:List Value) (hown:w.ownsRow base e 1 v n xs) (s:ByteArray)
 (h63:n+s.size<=maxLen) (hbytes:n+s.size<=140737488355328) (hbase:base<=w.heap.size):
 ∃v' w',(Builtin.append_ #[t,u] ty #[v,.string s]).run P w=.ok v' w'∧w'.ownsRow base e 1 v' (n+s.size) (xs++Lib.strCells s)∧w.grownBy w' v.ownBlock∧
  (v'.ownBlock=v.ownBlock∨v'.ownBlock=some w.heap.size):=by
 obtain⟨v',w',hr,h1,h2,h3⟩:=Lib.run_append_own_string (P:=P) w base t u ty e i ht hu hi hz hsize hby v n xs hown s h63 hbytes hbase
 refine⟨v',w',hr,h1,h2,?_⟩
 have hxl:xs.length=n:=by simpa using hown.1
 rcases hown.2 with ⟨rfl,rfl⟩|⟨g,cap,cur,rfl,hbg,hg,hnc,hcm,hcs,htake⟩
 ·by_cases hm:s.size=0
  ·rw[h3.2 ⟨rfl,hm⟩]
   exact .inl rfl
  ·have hq:=run_append_nil_string (P:=P) w t u ty e i (.int .u8 0) ht hu hi hz s (by omega) (by simp only[maxLen]at h63;omega) (by rw[hby];omega)
   rw[hr]at hq;injection hq with hq _;rw[hq];exact .inr rfl
 ·by_cases hroom:n+s.size<=cap
  ·have hcs':cur.size=cap:=by simpa using hcs
   have hq:=Lib.run_append_room_string (P:=P) w t u ty e i ht hu hi hsize g n cap cur hg s hroom (by omega);rw[hr]at hq;injection hq with hq _;rw[hq];exact .inl rfl
  ·have holds:∀j u,xs[j]?=some u->w.cell? ((⟨g,0,none⟩:Addr).add j)=some u:=hown.cells (g:=g) rfl
   have hq:=Lib.run_append_grow_string (P:=P) w t u ty e i (.int .u8 0) ht hu hi hz ⟨g,0,none⟩ n cap xs (by rw[hsize];simpa using hxl) holds s (by omega) (by simp only[maxLen]at h63;omega) (by rw[hby];exact growslice_fits (by omega) (by omega));rw[hr]at hq;injection hq with hq _;rw[hq];exact .inr rfl
theorem d28!{ops:Array Oper}{rest:List Oper}{o:Oper}{a:Act}{Q:Exit->Act->World->Prop}(hgd:o.guard=none)(sl x:Operand)(t u:TypeId)
 (ho:o.op=.call {callee:=.builtin .append,args:=#[sl,x],argTypes:=#[t,u]})
 (base:Nat) (e:TypeId) (i:TypeInfo) (ht:P.underlying t=some (.slice e)) (hu:P.underlying u=some .string) (hi:P.info? e=some i) (hz:i.zero=some (.int .u8 0))
 (hsize:i.size=1) (hby:i.bytes=1)
 (v:Value) (n:Nat) (xs:List Value) (hs:a.eval sl=v) (hown:w.ownsRow base e 1 v n xs) (s:ByteArray) (hx:a.eval x=.string s)
 (h63:n+s.size<=maxLen) (hbytes:n+s.size<=140737488355328) (hbase:base<=w.heap.size)
 (h:∀v' w',w'.ownsRow base e 1 v' (n+s.size) (xs++Lib.strCells s)->w.grownBy w' v.ownBlock->(v'.ownBlock=v.ownBlock∨v'.ownBlock=some w.heap.size)->wpList P ops Q rest (a.put o.dst v') w'):wpList P ops Q (o::rest) a w:=by
 refine wpList_plain hgd λK hK=>?_
 obtain⟨v',w',hr,h2,h3,h4⟩:=d27! (P:=P) w base t u o.type e i ht hu hi hz hsize hby v n xs hown s h63 hbytes hbase
 unfold Oper.wp execOp
 simp only[ho,resolve,invoke,builtin,Sem.run_bind,Sem.run_pure,Result.andThen_ok,List.map_toArray,List.map_cons,List.map_nil,hs,hx,hr]
 exact hK _ _ (h v' w' h2 h3 h4)
end
theorem d29!:(Tryz.prog.info? 66).map (·.size)=some 2:=by kernel_rfl
theorem d30!(base g room:Nat)(ob:Option Nat)(l:List UInt8)(bad:Bool)(w:World)(h:Wr base w g ob room l bad):
 Calls Tryz.prog 110 #[.pointer (some ⟨g,0,none⟩)] w λe w'=>e=.returned (.I l.length)∧w'=w:=by
 obtain⟨-,-,-,-,p,v,hb,-,ho,-⟩:=h
 obtain⟨A,c,rfl,-⟩:=b2! ho
 have c1:=hb.c1
 clear hb ho
 go_enter Tryz.func110,Tryz.ntmps110
 go_wp2_with fail
 go_ret
 exact⟨rfl,rfl⟩
theorem d31!(g:Nat)(v x y:Value)(p:Value)(w:World)(hb:Blk w g 68 #[p,v,x,y])(hp:p=.pointer none∨p=.pointer (some ⟨g,0,none⟩)):
 Calls Tryz.prog 139 #[.pointer (some ⟨g,0,none⟩)] w λe w'=>e=.returned (.tuple #[])∧Blk w' g 68 #[.pointer (some ⟨g,0,none⟩),v,x,y]∧Kept (λz=>z=g) w w':=by
 obtain⟨j,hj,hjs⟩:=Option.map_eq_some_iff.1 d29!
 rcases hp with rfl|rfl
 ·have h0:=hb.c0
  have hsh:w.shape? g=some (68,4):=by
   unfold Blk at hb
   simp[World.shape?,hb]
  have hfz:=hb.frozen 0;have HB:=h! (hb.set_ 0 (.pointer (some ⟨g,0,none⟩)));have HK:=h! ((Kept.refl (λz=>z=g) w).setCell (p:=⟨g,0,none⟩) (λ_=>rfl) (.pointer (some ⟨g,0,none⟩)));clear hb;go_enter Tryz.func139,Tryz.ntmps139;go_wp2_with fail;rw[Lib.run_to_unsafe w ⟨g,0,none⟩ Tryz.underlying63 Tryz.underlying210 hj (by rw[hjs];decide) hsh (Nat.zero_lt_succ 3)]
  simp only[Result.andThen]
  rw[Oper.upon_value];go_wp2_with fail;rw[run_callFunc_extern Tryz.func154 (by kernel_rfl) (by kernel_rfl) (by kernel_rfl) (e:=Extern.AbiNoEscape.same) (by kernel_rfl)];rw[Lib.run_noEscape]
  simp only[Result.andThen]
  rw[Oper.upon_value];go_wp2_with fail;rw[Lib.run_from_unsafe w ⟨g,0,none⟩ Tryz.underlying210 Tryz.underlying63 hj hsh (by kernel_rfl)]
  simp only[Result.andThen]
  rw[Oper.upon_value];go_wp2_with fail
  go_end0
  exact⟨rfl,HB.out,HK.out⟩
 ·have h0:=hb.c0
  have HB:=h! hb;clear hb;go_enter Tryz.func139,Tryz.ntmps139;go_wp2_with fail;rw[Lib.run_neq_ptr_same w _ Tryz.underlying63 hj];go_wp2_with fail
  go_end0
  exact⟨rfl,HB.out,Kept.refl _ _⟩
theorem Blk.put_(h:Blk w g t cs)(i:Nat)(u:Value){ds:Array Value}(e:cs.setIfInBounds i u=ds):Blk (w.setCell ⟨g,i,none⟩ u) g t ds:=e▸h.set_ i u
theorem d32!(base g room:Nat)(ob:Option Nat)(l:List UInt8)(bad:Bool)(s:ByteArray)(w:World)(h:Wr base w g ob room l bad)(hl:l.length+s.size<=room):
 Calls Tryz.prog 111 #[.pointer (some ⟨g,0,none⟩),.string s] w λe w'=>(∃n:Int,e=.returned (.tuple #[.I n,.nilIface]))∧∃ob',Turns w g ob w' ob'∧Wr base w' g ob' room (l++s.data.toList) bad:=by
 obtain⟨i0,hi,hz0,hz1,hz2⟩:=info_parts d25!
 have hw:=h.lt
 obtain⟨hb0,hz,hlr,hr,p,v,hb,hp,ho,hv⟩:=h
 have CC:=h! (d31! g v _ _ p w hb hp)
 have HO:=h! ho
 have HV:=h! hv
 clear hb hp ho hv
 go_enter Tryz.func111,Tryz.ntmps111
 go_wp2_with (go_at_call 139;refine CC.out.mono ?_)
 rintro e w1⟨rfl,hb1,k1⟩
 have c1:w1.cell? ⟨g,1,none⟩=some v:=hb1.cell 1
 have ho1:w1.ownsRow 0 5 1 v l.length (B8 l):=a6! HO.out k1 (λz e hz'=>(hz z (HV.out▸e)).2 hz')
 go_wp2_with (at_builtin;refine d28! _ rfl _ _ 64 9 rfl 0 5 i0 Tryz.underlying64 Tryz.underlying9 hi hz0 hz1 hz2 _ _ _ rfl ho1 s rfl ?c3 ?c4 ?c5 ?_)
 case c3=>unfold maxLen;omega
 case c4=>omega
 case c5=>omega
 intro v' w2 ho2 gr hv2
 have hgv:v.ownBlock≠some g:=λe=>(hz g (HV.out▸e)).2 rfl
 have hb2:=h! (hb1.kept (Kept.of_grown (S:=λz=>v.ownBlock=some z) gr (λ_ e=>e)) (λe=>hgv e))
 have d1:w2.cell? ⟨g,1,none⟩=some v:=hb2.out.cell 1
 have f1:=hb2.out.frozen 1
 obtain⟨A',c',rfl,-⟩:=b2! ho2
 have HO2:=h! ho2
 have HV2:=h! hv2
 have GR:=h! gr
 have K1:=h! k1
 clear ho2 hv2 gr k1 ho1 hb1
 go_wp2_with fail
 go_ret2
 refine⟨⟨_,rfl⟩,(Value.slice A' (l.length+s.size) c').ownBlock,⟨?_,?_⟩,hb0,?_,by rw[List.length_append];exact hl,hr,.pointer (some ⟨g,0,none⟩),.slice A' (l.length+s.size) c',?_,.inr rfl,?_,rfl⟩
 ·have k2:Kept (λz=>z=g∨ob=some z) w1 w2:=Kept.of_grown GR.out (λz e=>.inr (HV.out▸e))
  exact((K1.out.mono (T:=λz=>z=g∨ob=some z) (λ_ _ e=>.inl e)).then_ k2 (λ_ _ e=>e)).setCell (p:=⟨g,1,none⟩) (λ_=>.inl rfl) _
 ·rcases HV2.out with e|e
  ·exact .inl (e.trans HV.out)
  ·exact .inr λz ez=>by
    rw[e]at ez;have:=K1.out.size;injection ez
    omega
 ·intro z ez
  rcases HV2.out with e|e
  ·exact hz z ((e.trans HV.out).symm.trans ez)
  ·rw[e]at ez
   injection ez with ez;have:=K1.out.size
   omega
 ·exact hb2.out.put_ 1 _ rfl
 ·have hn:(l++s.data.toList).length=l.length+s.size:=by rw[List.length_append];rfl
  rw[hn,c08!,<-d26!];exact a6! HO2.out ((Kept.refl (λz=>z=g) w2).setCell (p:=⟨g,1,none⟩) (λ_=>rfl) _) (λz ez e=>by
   rcases HV2.out with e2|e2
   ·exact hgv (by rw[<-e2,ez,e])
   ·rw[e2]at ez
    injection ez with ez;have:=K1.out.size
    omega)
def StrTo(w:World)(ob:Option Nat)(l:List UInt8)(e:Ending)(w':World):Prop:=e=.returned (.string (str l))∧Kept (λz=>ob=some z) w w'
theorem d33!:Tryz.prog.cellsOf 5=1:=by kernel_rfl
theorem keptN(w:World):Kept S w w.drew:=(Kept.refl S w).drew
theorem d34!(g:Nat)(p x y:Value)(w:World)(hb:Blk w g 68 #[p,.N,x,y]):
 Calls Tryz.prog 30 #[.pointer (some ⟨g,0,none⟩)] w (StrTo w none []):=by
 have hUS:=λW q=>Lib.run_unsafeString_none (P:=Tryz.prog) W 132 3 9 q
 have c1:w.drew.cell? ⟨g,1,none⟩=some (.N):=hb.cell 1
 have hSD:(Builtin.unsafeSliceData_ #[64] 132 #[.N]).run Tryz.prog w.drew=.ok (.pointer none) w.drew:=rfl
 have K:=h! (keptN (S:=λz=>(none:Option Nat)=some z) w)
 go_enter Tryz.func30,Tryz.ntmps30
 go_wp2_with fail
 go_region
 all_goals (go_wp2_with fail;go_ret;exact⟨rfl,K.out⟩)
theorem d35!(g z0:Nat)(p x y:Value)(cur:Array Value)(w:World)(hb:Blk w g 68 #[p,.slice (some ⟨z0,0,none⟩) 0 0,x,y])(hg:w.heap[z0]?=some (.cells cur 5 (0,0))):
 Calls Tryz.prog 30 #[.pointer (some ⟨g,0,none⟩)] w (StrTo w (some z0) []):=by
 have hUS:=λW q=>Lib.run_unsafeString_none (P:=Tryz.prog) W 132 3 9 q
 have c1:w.drew.cell? ⟨g,1,none⟩=some (.slice (some ⟨z0,0,none⟩) 0 0):=hb.cell 1
 have hSD:(Builtin.unsafeSliceData_ #[64] 132 #[.slice (some ⟨z0,0,none⟩) 0 0]).run Tryz.prog w.drew=.ok (.pointer (some ⟨w.drew.heap.size,0,none⟩)) (w.drew.alloc (.view ⟨z0,0,none⟩ 5)):=
  Lib.run_unsafeSliceData_zero w.drew _ _ 5 Tryz.underlying132 ⟨z0,0,none⟩ 0 (5,cur.size) (by have hg':w.drew.heap[z0]?=some (.cells cur 5 (0,0)):=hg;simp[World.shape?,hg'])
 have c3:(w.alloc (.view ⟨z0,0,none⟩ 5)).drew.cell? ⟨g,1,none⟩=some (.slice (some ⟨z0,0,none⟩) 0 0):=(hb.alloc _).cell 1
 have c0:w.cell? ⟨g,1,none⟩=some (.slice (some ⟨z0,0,none⟩) 0 0):=c1
 have K:=h! (keptN (S:=λz=>some z0=some z) w)
 go_enter Tryz.func30,Tryz.ntmps30
 go_wp2_with fail
 go_region
 all_goals (go_wp2_with fail;go_ret;exact⟨rfl,K.out.alloc _⟩)
theorem d36!(g z0 cap:Nat)(p x y:Value)(w:World)(hc0:cap≠0)(hb:Blk w g 68 #[p,.slice (some ⟨z0,0,none⟩) 0 cap,x,y]):
 Calls Tryz.prog 30 #[.pointer (some ⟨g,0,none⟩)] w (StrTo w (some z0) []):=by
 have hUS:=λW q=>Lib.run_unsafeString_none (P:=Tryz.prog) W 132 3 9 q
 have c1:w.drew.cell? ⟨g,1,none⟩=some (.slice (some ⟨z0,0,none⟩) 0 cap):=hb.cell 1
 have hSD:(Builtin.unsafeSliceData_ #[64] 132 #[.slice (some ⟨z0,0,none⟩) 0 cap]).run Tryz.prog w.drew=.ok (.pointer (some ⟨z0,0,none⟩)) w.drew:=
  Lib.run_unsafeSliceData_row _ _ _ _ _ _ hc0
 have K:=h! (keptN (S:=λz=>some z0=some z) w)
 clear hc0
 go_enter Tryz.func30,Tryz.ntmps30
 go_wp2_with fail
 go_region
 all_goals (go_wp2_with fail;go_ret;exact⟨rfl,K.out⟩)
theorem d37!{a b:World}(h:Kept S a b){p:Addr}(hp:p.block<a.heap.size->S p.block)(n:Nat):Kept S a (b.freeze p n):=by
 unfold World.freeze
 split
 ·exact h
 ·refine⟨h.os,h.tape,h.output,by simpa using h.size,λk hk hn=>?_⟩
  have hne:p.block≠k:=λe=>hn (e▸hp (by omega))
  rw[<-h.block k hk hn]
  simp[Array.getElem?_modify,hne]
theorem d38!(g z0 cap:Nat)(p x y:Value)(l:List UInt8)(h0:l≠[])(w:World)(hb:Blk w g 68 #[p,.slice (some ⟨z0,0,none⟩) l.length cap,x,y])(ho:w.ownsRow 0 5 1 (.slice (some ⟨z0,0,none⟩) l.length cap) l.length (B8 l)):
 Calls Tryz.prog 30 #[.pointer (some ⟨g,0,none⟩)] w (StrTo w (some z0) l):=by
 have hl0:l.length≠0:=by simpa using h0
 have c1:w.drew.cell? ⟨g,1,none⟩=some (.slice (some ⟨z0,0,none⟩) l.length cap):=hb.cell 1
 have hcells:=ho.cells (g:=z0) rfl
 obtain⟨cur,hg,hnc,hcm,hcs⟩:∃cur,w.heap[z0]?=some (.cells cur 5 (0,0))∧l.length<=cap∧cap<=maxLen∧cur.size=cap*1:=by
  rcases ho.2 with ⟨hv,_⟩|⟨g',cap',cur,hv,r⟩
  ·cases hv
  ·injection hv with h1 h2 h3
   injection h1 with h1;injection h1 with h1;subst h1 h3;exact⟨cur,r.2.1,r.2.2.1,r.2.2.2.1,r.2.2.2.2.1⟩
 have hSD:(Builtin.unsafeSliceData_ #[64] 132 #[.slice (some ⟨z0,0,none⟩) l.length cap]).run Tryz.prog w.drew=.ok (.pointer (some ⟨z0,0,none⟩)) w.drew:=
  Lib.run_unsafeSliceData_row _ _ _ _ _ _ (by omega)
 have hUS:(Builtin.unsafeString_ #[132,3] 9 #[.pointer (some ⟨z0,0,none⟩),.I l.length]).run Tryz.prog w.drew=.ok (.string (str l)) (w.drew.freeze ⟨z0,0,none⟩ l.length):=by
  refine Lib.run_unsafeString_row w.drew 132 3 9 5 Tryz.underlying132 d33! z0 cur.size (by have hg':w.drew.heap[z0]?=some (.cells cur 5 (0,0)):=hg;simp[World.shape?,hg']) l h0 (by omega) (by unfold maxLen at hcm;omega) ?_
  intro j x hx
  have:=hcells j (.int .u8 x.toNat) (by simp[B8,hx]);exact this
 have K:=h! (d37! (keptN (S:=λz=>some z0=some z) w) (p:=⟨z0,0,none⟩) (λ_=>rfl) l.length)
 generalize hS:str l=S at*
 have HS:=h! hS
 clear hS
 go_enter Tryz.func30,Tryz.ntmps30
 go_wp2_with fail
 go_region
 all_goals (go_wp2_with fail;go_ret;exact⟨congrArg (λs=>Ending.returned (.string s)) HS.out.symm,K.out⟩)
theorem a99!(base g room:Nat)(ob:Option Nat)(l:List UInt8)(bad:Bool)(w:World)(h:Wr base w g ob room l bad):
 Calls Tryz.prog 30 #[.pointer (some ⟨g,0,none⟩)] w (StrTo w ob l):=by
 obtain⟨hb0,hz,hlr,hr,p,v,hb,hp,ho,rfl⟩:=h
 rcases ho.2 with ⟨rfl,hl⟩|⟨z0,cap,cur,rfl,_,hg,_⟩
 ·obtain rfl:=List.eq_nil_of_length_eq_zero hl
  exact d34! g _ _ _ w hb
 ·by_cases hl:l=[]
  ·subst hl
   by_cases hc:cap=0
   ·subst hc
    exact d35! g z0 _ _ _ cur w hb hg
   ·exact d36! g z0 cap _ _ _ w hc hb
  ·exact d38! g z0 cap _ _ _ l hl w hb ho
def flatB(ps:List ByteArray):List UInt8:=(ps.map λs=>s.data.toList).flatten
theorem d39!{ps:List ByteArray}(h:k<ps.length):flatB (ps.take (k+1))=flatB (ps.take k)++ps[k].data.toList:=by
 unfold flatB
 rw[List.take_succ_eq_append_getElem h,List.map_append,List.flatten_append]
 simp
theorem d40!{ps:List ByteArray}(h:k<ps.length):flatB (ps.drop k)=ps[k].data.toList++flatB (ps.drop (k+1)):=by
 unfold flatB
 rw[List.drop_eq_getElem_cons h,List.map_cons,List.flatten_cons]
theorem b00!(ps:List ByteArray)(k:Nat):some (flatB (ps.take k)++flatB (ps.drop k))=some (flatB ps):=by
 unfold flatB
 rw[<-List.flatten_append,<-List.map_append,List.take_append_drop]
theorem WOut.over{t:List UInt8}(h:l.length<=room)(k:room<l.length+t.length):WOut room l bad (some t) l true:=⟨λe=>by simp at e,λ_=>.inr (.inr ⟨t,rfl,k⟩),h⟩
theorem WOut.put{t:List UInt8}(h:(l++t).length<=room):WOut room l false (some t) (l++t) false:=⟨λ_=>⟨rfl,t,rfl,rfl⟩,λe=>by simp at e,h⟩
theorem Wr.set_bad{ob:Option Nat}(h:Wr base w g ob room l bad)(b:Bool):Wr base (w.setCell ⟨g,3,none⟩ (.bool b)) g ob room l b∧Kept (λz=>z=g) w (w.setCell ⟨g,3,none⟩ (.bool b)):=by
 have hk:=(Kept.refl (λz=>z=g) w).setCell (p:=⟨g,3,none⟩) (λ_=>rfl) (.bool b)
 obtain⟨h1,h2,h3,h4,p,v,hb,hp,ho,hv⟩:=h
 exact⟨⟨h1,h2,h3,h4,p,v,hb.put_ 3 (.bool b) rfl,hp,a6! ho hk (λk e=>(h2 k (hv.symm.trans e)).2),hv⟩,hk⟩
theorem Wr.cells_{ob:Option Nat}(h:Wr base w g ob room l bad):w.cell? ⟨g,2,none⟩=some (.I (room:Int))∧w.cell? ⟨g,3,none⟩=some (.bool bad)∧w.frozen? ⟨g,3,none⟩=false:=by
 obtain⟨h1,h2,h3,h4,p,v,hb,hp,ho,hv⟩:=h
 exact⟨hb.cell 2,hb.cell 3,hb.frozen 3⟩
def b5!(base:Nat)(w:World)(g:Nat)(ob:Option Nat)(room:Nat)(l:List UInt8)(bad:Bool)(o:Option (List UInt8))(e:Ending)(w':World):Prop:=e=.returned (.tuple #[])∧Wrote base w g ob room l bad o w'
theorem i7!(base g room:Nat)(ob:Option Nat)(l:List UInt8)(bad:Bool)(A:Option Addr)(n c:Nat)(ps:List ByteArray)(w:World)(h:Wr base w g ob room l bad)(hr:RV w A n (ps.map Value.string))(hA:∀a,A=some a->Far w g ob a.block)(hn:n<=1000000)
 (hs:∀s∈ps,s.size<=140737488355328):
 Calls Tryz.prog 75 #[.pointer (some ⟨g,0,none⟩),.slice A n c] w (b5! base w g ob room l bad (some (flatB ps))):=by
 have H:=h! h
 have HR:=h! hr
 have HA:=h! hA
 have HS:=h! hs
 have hlen:ps.length=n:=by have:=hr.len;rw[List.length_map]at this;exact this.symm
 have HL:=h! hlen
 clear h hr hA hs hlen
 go_enter Tryz.func75,Tryz.ntmps75
 go_wp2_with fail
 go_loopw [8] (λi wr=>∃k:Nat,k<=n∧i=.I k∧Hid (Wrote base w g ob room l bad (some (flatB (ps.take k))) wr)) (λi _=>n-(intOf i).toNat)
 case atStart=>exact⟨0,by omega,rfl,Wrote.none_ H.out⟩
 case round=>
  obtain⟨k,hk,rfl,hw⟩:=hrel;obtain⟨ob1,l1,b1,t1,w1,o1⟩:=hw.out;clear hw
  by_cases hlt:k<n
  ·obtain⟨b,o,rfl,hb,hl0,hcell⟩:=HR.out.at_ hlt
   have hfar:=HA.out _ rfl;have hkp:k<ps.length:=by rw[HL.out];exact hlt
   have hps:=HS.out _ (List.getElem_mem hkp);have hft:=h! (d39! hkp);have hdr:=h! (d40! hkp);rw[List.getElem_map]at hcell;generalize ps[k]=s at*;have hc0:wr.cell? ⟨b,o+k,none⟩=some (.string s):=(t1.1.cell (p:=⟨b,o+k,none⟩) hb (λe=>e.elim hfar.1 hfar.2.1)).trans hcell;clear hcell hfar;obtain⟨q2,q3,q4⟩:=w1.cells_;have W1:=h! w1;have T1:=h! t1;have O1:=h! o1;have hr1:=w1.2.2.1;have hr2:=w1.2.2.2.1;clear w1 t1 o1;have g1:(0:Int)<=(k:Int):=by omega
   have g2:(k:Int)<(n:Int):=by omega
   have LN:=h! (λq=>d30! base g room ob1 l1 b1 (wr.drewN q) (W1.out.below (a5! (Below.refl _ _) q)) |>.mono λe w' ⟨he,hw⟩=>(⟨he,hw.symm⟩:e=_∧wr.drewN q=w'))
   cases b1 with
   |true=>
    go_upto_region 3 with fail
    go_quiet (fail)
    go_wp2_with fail
    go_end0
    obtain⟨wb,kb⟩:=(W1.out.below (a5! (Below.refl _ wr) nq)).set_bad true;refine⟨rfl,ob1,l1,true,T1.out.trans ⟨((Kept.of_below (a5! (Below.refl _ wr) nq)).then_ kb (λ_ _ e=>e)).mono (λ_ _ e=>.inl e),.inl rfl⟩,wb,?_⟩;exact(O1.out.then_ (WOut.was (o:=some (flatB (ps.drop k))) hr1)).cong (by rw[l7!,b00!])
   |false=>
    have e1:IntKind.i64.wrap ((l1.length:Int)+(s.size:Int))=(l1.length:Int)+(s.size:Int):=IntWalk.i64_in _ (by omega);go_upto_region 3 with fail
    go_quiet ((go_at_call 110;exact c09! (LN.out _)))
    by_cases hgt:room<l1.length+s.size
    ·have e2:(room:Int)<(l1.length:Int)+(s.size:Int):=by omega
     go_wp2_with fail
     go_end0
     obtain⟨wb,kb⟩:=(W1.out.below (a5! (Below.refl _ wr) nq)).set_bad true;refine⟨rfl,ob1,l1,true,T1.out.trans ⟨((Kept.of_below (a5! (Below.refl _ wr) nq)).then_ kb (λ_ _ e=>e)).mono (λ_ _ e=>.inl e),.inl rfl⟩,wb,?_⟩;refine(O1.out.then_ (WOut.over (t:=flatB (ps.drop k)) hr1 ?_)).cong (by rw[l7!,b00!]);rw[hdr.out,List.length_append];exact Nat.lt_of_lt_of_le hgt (by rw[show s.data.toList.length=s.size from rfl];omega)
    ·have e2:¬(room:Int)<(l1.length:Int)+(s.size:Int):=by omega
     have WS:=h! (λW hW=>d32! base g room ob1 l1 false s W (W1.out.below hW) (by omega));go_wp2_with fail;refine(WS.out _ (a5! (Below.refl _ wr) _)).mono ?_;rintro e w2⟨⟨n2,rfl⟩,ob2,t2,w2r⟩;have HW:=h! (show Wrote base w g ob room l bad (some (flatB (ps.take (k+1)))) w2 from
      ⟨ob2,l1++s.data.toList,false,(T1.out.below (a5! (Below.refl _ wr) _)).trans t2,w2r,(O1.out.then_ (WOut.put (t:=s.data.toList) (by rw[List.length_append,show s.data.toList.length=s.size from rfl];omega))).cong (by rw[l7!,hft.out])⟩)
     clear t2 w2r WS;go_wp2_with fail
     go_roundw
     case rel=>exact⟨k+1,by omega,by go_num,HW⟩
     case measure=>simp[intOf];omega
  ·obtain rfl:k=n:=by omega
   go_wp2_with fail
   go_end0
   rw[List.take_of_length_le (Nat.le_of_eq HL.out)]at o1;exact⟨rfl,ob1,l1,b1,t1,w1,o1⟩
theorem b01!(l:List UInt8):∀n,(Lib.repeatL l n).length=n*l.length
 |0=>by simp[Lib.repeatL]
 |n+1=>by
  rw[Lib.repeatL,List.length_append,b01! l n,Nat.succ_mul]
  omega
theorem j8!(W:World)(a b c:ByteArray):RV (W.alloc (.cells #[.string a,.string b,.string c] 9)) (some ⟨W.heap.size,0,none⟩) 3 ([a,b,c].map Value.string):=by
 refine⟨rfl,λ_=>⟨_,rfl,by simp,λj u hu=>?_⟩⟩
 rw[Addr.add_lit,Nat.zero_add,(Blk.new W 9 #[.string a,.string b,.string c]).cell j]
 simpa using hu
theorem c6!(base g room deep:Nat)(ob:Option Nat)(l:List UInt8)(bad:Bool)(A:Option Addr)(n c:Nat)(ps:List ByteArray)(w:World)(h:Wr base w g ob room l bad)(hd:deep<=1000)(hr:RV w A n (ps.map Value.string))(hn:0<n)(hc:n<=c)
 (hn2:n<=10000000) (hj:(Lib.join (ps.map (·.data.toList)) [32]).length<=140737488355328):
 Calls Tryz.prog 65 #[.pointer (some ⟨g,0,none⟩),.I deep,.slice A n c] w (b5! base w g ob room l bad (some (lineB deep (ps.map (·.data.toList))))):=by
 have hlen:ps.length=n:=by have:=hr.len;rw[List.length_map]at this;exact this.symm
 obtain⟨b,o,rfl,hb,hl0,-⟩:=hr.at_ (k:=0) hn
 have RP:=h! (Tryz.strings_Repeat ⟨#[32,32]⟩ deep w (by omega) (by show 2*deep<=_;omega))
 have hcells:∀(j:Nat) x,ps[j]?=some x->w.cell? ⟨b,o+j,none⟩=some (.string x):=by
  intro j x hx
  obtain⟨hjl,hjx⟩:=List.getElem?_eq_some_iff.1 hx;obtain⟨b',o',e,_,hl,hcell⟩:=hr.at_ (k:=j) (by omega);injection e with e;injection e with e1 e2;subst e1 e2;rw[List.getElem_map,hjx]at hcell;exact hcell
 have JN:=h! (λW (hW:Below w.heap.size w W)=>Tryz.strings_Join b o c ps ⟨#[32]⟩ W (λj x hx=>(hW.cell (p:=⟨b,o+j,none⟩) hb).trans (hcells j x hx)) (Nat.lt_of_lt_of_le hb hW.size) (by omega) (by omega) hj)
 rw[hlen]at JN
 have H:=h! h
 have hrm:(Lib.repeatL [32,32] deep).length<=140737488355328:=by rw[b01!];simp;omega
 have EQ:Hid (flatB [str (Lib.repeatL [32,32] deep),str (Lib.join (ps.map (·.data.toList)) [32]),⟨#[10]⟩]=lineB deep (ps.map (·.data.toList))):=by
  simp[Hid,flatB,lineB,blanks,str]
 generalize hS1:Lib.repeatL [32,32] deep=S1 at*
 generalize hS2:Lib.join (ps.map (·.data.toList)) [32]=S2 at*
 have RP':Hid (Calls Tryz.prog 96 #[.string ⟨#[32,32]⟩,.I deep] w λe w'=>e=.returned (.string (str S1))∧Below w.heap.size w w'):=by
  exact RP.out
 have JN':Hid (∀W,Below w.heap.size w W->Calls Tryz.prog 97 #[.slice (some ⟨b,o,none⟩) n c,.string ⟨#[32]⟩] W λe w'=>e=.returned (.string (str S2))∧Below W.heap.size W w'):=λW hW=>by
  exact JN.out W hW
 clear h hr hcells RP JN hlen hS1 hS2 hl0
 go_enter Tryz.func65,Tryz.ntmps65
 go_wp2_with fail
 refine RP'.out.mono ?_
 rintro e w1⟨rfl,b1⟩
 go_wp2_with fail
 refine(JN'.out w1 b1).mono ?_
 rintro e w2⟨rfl,b2⟩
 have B2:=h! (b1.then_ b2)
 have H2:=h! ((H.out.below B2.out).al (.cells #[.string (str S1),.string (str S2),.string ⟨#[10]⟩] 9))
 have F2:=h! (Far.new (H.out.below B2.out) (.cells #[.string (str S1),.string (str S2),.string ⟨#[10]⟩] 9))
 have R2:=h! (j8! w2 (str S1) (str S2) ⟨#[10]⟩)
 clear b1 b2
 go_wp2_with fail
 refine(i7! base g room ob l bad _ 3 3 [str S1,str S2,⟨#[10]⟩] _ H2.out R2.out (λa e=>by injection e with e;subst e;exact F2.out) (by omega) ?_).mono ?_
 ·intro s hs
  simp only[List.mem_cons,List.not_mem_nil,or_false]at hs
  rcases hs with rfl|rfl|rfl
  ·exact hrm
  ·exact hj
  ·decide
 rintro e w3⟨rfl,ob3,l3,bad3,t3,w3r,o3⟩
 go_wp2_with fail
 go_end0
 refine⟨rfl,ob3,l3,bad3,(Turns.of_below B2.out).trans ((Turns.of_below ((Below.refl _ w2).al _)).trans t3),w3r,?_⟩
 rw[EQ.out]at o3
 exact o3
theorem h7!(base:Nat)(n:Int)(w:World)(hT:Tabs base w)(hn:FitN n):
 Calls Tryz.prog 66 #[.I n] w λe w'=>e=.returned (.string (str (Lib.itoa n)))∧Below w.heap.size w w':=
 (Tryz.strconv_Itoa n hn.1 hn.2 w hT.pow).mono λ_ _ ⟨he,k,os,hw⟩=>⟨he,hw▸Lib.below_grow _ w (Nat.le_refl _) k os⟩
theorem f1!{n:Int}(hn:FitN n):(Lib.itoa n).length<=21:=Lib.itoa_length_le n hn.1 hn.2
theorem GC.parts_{op0 N0:Int}{nm0:ByteArray}{l c:Nat}(h:GC D w M n [.I op,.I N,.string nm,.slice A l c] (.mk op0 N0 nm0 gs)):
 op=op0∧N=N0∧nm=nm0∧l=gs.length∧∃q,n=q+1∧ElsG D w 4 M (GC D w M q) A l gs:=by
 cases n with
 |zero=>exact absurd h id
 |succ q=>
  obtain⟨A',l',c',hcs,hel⟩:=h;injection hcs with q1 hcs;injection hcs with q2 hcs;injection hcs with q3 hcs;injection hcs with q4 _;injection q1 with _ q1;injection q2 with _ q2;injection q3 with q3;injection q4 with q4 q5 q6;subst q1 q2 q3 q4 q5 q6;refine⟨rfl,rfl,rfl,?_,q,rfl,hel⟩;obtain⟨_,_,_,_,h,_⟩:=hel;exact h.symm
theorem ElsG.at4{l:Nat}(h:ElsG D w 4 M (GC D w M q) A l gs)(hi:i<gs.length):
 ∃(b o:Nat) (op N:Int) (nm:ByteArray) (A':Option Addr) (l' c':Nat),A=some ⟨b,o,none⟩∧D b∧b<w.heap.size∧GC D w M q [.I op,.I N,.string nm,.slice A' l' c'] (gs[i]'hi)∧
  w.cell? ⟨b,o+i*4,none⟩=some (.I op)∧w.cell? ⟨b,o+i*4+1,none⟩=some (.I N)∧w.cell? ⟨b,o+i*4+2,none⟩=some (.string nm)∧w.cell? ⟨b,o+i*4+3,none⟩=some (.slice A' l' c'):=by
 obtain⟨xs,h1,h0,-,h4,h5⟩:=h
 have hc:=h5 i hi
 obtain⟨op,N,nm,A',l',c',hcs⟩:=hc.form
 obtain⟨b,o,hA,hb,hq⟩:=h1.chunk (by omega) (show i<l by omega) hcs
 rw[hcs]at hc
 exact⟨b,o,op,N,nm,A',l',c',hA,h0 (by omega) _ hA,hb,hc,hq 0 _ rfl,hq 1 _ rfl,hq 2 _ rfl,hq 3 _ rfl⟩
structure Kid (base n:Nat) (w:World) (A:Option Addr) (i:Nat) (x:Gx) (b o:Nat) (op N:Int) (nm:ByteArray) (A':Option Addr) (l' c':Nat):Prop where
 at_:A=some ⟨b,o,none⟩
 gc:GC (λk=>k<base) w 1000000 n [.I op,.I N,.string nm,.slice A' l' c'] x
 c0:w.cell? ⟨b,o+i*4,none⟩=some (.I op)
 c1:w.cell? ⟨b,o+i*4+1,none⟩=some (.I N)
 c2:w.cell? ⟨b,o+i*4+2,none⟩=some (.string nm)
 c3:w.cell? ⟨b,o+i*4+3,none⟩=some (.slice A' l' c')
 lt:b<base
 low:base<=w.heap.size
theorem Kid.of{l:Nat}(h:ElsG (λk=>k<base) w 4 1000000 (GC (λk=>k<base) w 1000000 q) A l gs)(hi:i<gs.length)(hb:base<=w.heap.size):
 ∃(b o:Nat) (op N:Int) (nm:ByteArray) (A':Option Addr) (l' c':Nat),Kid base q w A i (gs[i]'hi) b o op N nm A' l' c':=by
 obtain⟨b,o,op,N,nm,A',l',c',h1,h2,h3,h4,h5,h6,h7,h8⟩:=h.at4 hi
 exact⟨b,o,op,N,nm,A',l',c',h1,h4,h5,h6,h7,h8,h2,hb⟩
theorem Kid.below{x:Gx}{o:Nat}{A':Option Addr}{l' c':Nat}(h:Kid base n w A i x b o op N nm A' l' c')(hb:Below base w w'):Kid base n w' A i x b o op N nm A' l' c':=
 ⟨h.at_,GC.kept (S:=λk=>¬k<base) ⟨hb.os,hb.tape,hb.output,hb.size,λk _ hn=>hb.block k (Classical.not_not.1 hn)⟩ (λ_ _ hk hn=>hn hk) (λ_ _ hk=>hk) _ _ _ h.gc,
  (hb.cell (p:=⟨b,o+i*4,none⟩) h.lt).trans h.c0,(hb.cell (p:=⟨b,o+i*4+1,none⟩) h.lt).trans h.c1,(hb.cell (p:=⟨b,o+i*4+2,none⟩) h.lt).trans h.c2,(hb.cell (p:=⟨b,o+i*4+3,none⟩) h.lt).trans h.c3,h.lt,Nat.le_trans h.low hb.size⟩
theorem Wr.low{ob:Option Nat}(h:Wr base w g ob room l bad):base<=w.heap.size:=Nat.le_of_lt (Nat.lt_of_le_of_lt h.1 h.lt)
def j9!(base n:Nat):Prop:=∀(g room:Nat) (ob:Option Nat) (l:List UInt8) (bad:Bool) (op N:Int) (nm:ByteArray) (A:Option Addr) (len cap:Nat) (x:Gx) (w:World),Tabs base w->Wr base w g ob room l bad->
 GC (λk=>k<base) w 1000000 n [.I op,.I N,.string nm,.slice A len cap] x->FitG n x->
 Calls Tryz.prog 38 #[.pointer (some ⟨g,0,none⟩),.agg #[.I op,.I N,.string nm,.slice A len cap]] w (b5! base w g ob room l bad (rawE x))
def q4!(base n:Nat):Prop:=∀(g room:Nat) (ob:Option Nat) (l:List UInt8) (bad:Bool) (op N:Int) (nm:ByteArray) (A:Option Addr) (len cap:Nat) (x:Gx) (t:Int) (w:World),Tabs base w->Wr base w g ob room l bad->
 GC (λk=>k<base) w 1000000 n [.I op,.I N,.string nm,.slice A len cap] x->FitG n x->
 Calls Tryz.prog 76 #[.pointer (some ⟨g,0,none⟩),.agg #[.I op,.I N,.string nm,.slice A len cap],.I t] w (b5! base w g ob room l bad (operO op t (rawE x)))
theorem k0!{l:List Gx}(h:¬(0<=op∧op<18∧l.length=partsN op)):rawE (.mk op N nm l)=none:=by
 unfold rawE
 exact if_neg h
theorem b02!:rawE (.mk 0 N nm [])=some (Lib.itoa N):=by simp[rawE,partsN]
theorem rawE_nam:rawE (.mk 1 N nm [])=some nm.data.toList:=by simp[rawE,partsN]
theorem z3!:rawE (.mk 2 N nm [a])=ocat (some (nm.data.toList++[32,91,32])) (ocat (rawE a) (some [32,93])):=by
 rw[rawE]
 simp only[partsN]
 cases rawE a<;>simp[ocat]
theorem v0!(h:op=3∨op=4):rawE (.mk op N nm [a])=ocat (some (markN op++[32])) (operO a.op 6 (rawE a)):=by
 have h1:0<=op∧op<18∧[a].length=partsN op:=by rcases h with rfl|rfl<;>simp[partsN]
 have h2:op≠2:=by omega
 rw[rawE,if_pos h1]
 simp only[if_neg h2]
 cases operO a.op 6 (rawE a)<;>simp[ocat]
theorem b03!{b:Gx}(h:5<=op∧op<18):rawE (.mk op N nm [a,b])=ocat (operO a.op (leftN op) (rawE a)) (ocat (some ([32]++markN op++[32])) (operO b.op (b0! op+1) (rawE b))):=by
 have h1:0<=op∧op<18∧[a,b].length=partsN op:=⟨by omega,h.2,by unfold partsN;rw[if_neg (by omega),if_neg (by omega)];rfl⟩
 rw[rawE,if_pos h1]
end Go.Proofs.YtdgekckedchjbaaGreatDoor
