
/-
 Words for memory used by all walks of this seat: a slice that reads as a list, append onto a row of the call's own, bytes. No program is named here. Frames: what of memory a call may have turned; blocks that are known whole; bytes in known blocks. No program is named here. package lex: what a byte may be; the longest beginning of a text. package lex: the longest beginning of a text. package lex: the number that a text is. Maps whose keys are texts and whose elements are true: sets.
-/
import Derived.WalkKit
import Derived.Below
import Derived.Laws.OwnMore
import Derived.Deep.AppendLies
import Derived.Deep.Draws
import Derived.Maps.AppendAt
import Derived.RegionTactic
import Derived.OwnWalk
import Derived.Lib.Hide
import Derived.Deep.QuietTactic
import Derived.BigQuiet
import Derived.Laws.Rows
import Derived.Test.YtdgekckedchjbaaGreatDoorProg
import Derived.WalkMore
import Derived.WalkSpells
import Derived.MapKept
import Derived.Laws.MakeOwn
set_option maxHeartbeats 2000000
set_option maxRecDepth 100000
namespace Go.Proofs.YtdgekckedchjbaaGreatDoor
open Go.RowKit
abbrev _root_.Go.Value.I (n:Int):Value:=.int .i64 n
abbrev _root_.Go.Value.N:Value:=.slice none 0 0
abbrev _root_.Go.Value.E:Value:=.string ⟨#[]⟩
variable {B k:Nat} {e t:TypeId} {a b w:World} {P:Program} {S:Nat->Prop} {s:ByteArray}
theorem c05!(a:Addr)(n:Nat):(a.add n).block=a.block:=by unfold Addr.add;split<;>rfl
def Reads(w:World)(B size:Nat)(A:Option Addr)(n:Nat)(xs:List Value):Prop:=
 xs.length=n*size∧(0<n->∃ad,A=some ad∧ad.block<B∧∀j u,xs[j]?=some u->w.cell? (ad.add j)=some u)
section
variable {w w':World} {B B' size n:Nat} {A:Option Addr} {xs:List Value}
theorem Reads.none_:Reads w B size A 0 []:=⟨by simp,λh=>absurd h (by omega)⟩
theorem Reads.at_(h:Reads w B 1 A n xs)(hk:k<n):∃ad u,A=some ad∧ad.block<B∧xs[k]?=some u∧w.cell? (ad.add k)=some u:=by
 obtain⟨ad,e,hb,hc⟩:=h.2 (by omega)
 have hl:k<xs.length:=by have:=h.1;omega
 exact⟨ad,xs[k],e,hb,List.getElem?_eq_getElem hl,hc k _ (List.getElem?_eq_getElem hl)⟩
theorem Reads.keep(h:Reads w B size A n xs)(hk:∀p:Addr,p.block<B->w'.cell? p=w.cell? p):Reads w' B size A n xs:=
 ⟨h.1,λhn=>by
  obtain⟨ad,e,hb,hc⟩:=h.2 hn;exact⟨ad,e,hb,λj u hu=>(hk _ (by rw[c05!];exact hb)).trans (hc j u hu)⟩⟩
theorem Reads.more(h:Reads w B size A n xs)(hB:B<=B'):Reads w B' size A n xs:=
 ⟨h.1,λhn=>by
  obtain⟨ad,e,hb,hc⟩:=h.2 hn;exact⟨ad,e,by omega,hc⟩⟩
theorem Reads.below(h:Reads w B size A n xs)(hb:Below B w w'):Reads w' B size A n xs:=h.keep λ_ hp=>hb.cell hp
theorem Reads.of_own{base:Nat}{c:Nat}(h:w.ownsRow base e size (.slice A n c) n xs):Reads w w.heap.size size A n xs:=by
 refine⟨h.1,λhn=>?_⟩
 obtain⟨g,cap,hv,_,hlt⟩:=h.form hn
 have hA:A=some ⟨g,0,none⟩:=by injection hv
 subst hA
 exact⟨_,rfl,hlt,h.cells (g:=g) rfl⟩
end
section
variable {P:Program} (w:World)
theorem c06!(base:Nat)(t ty e:TypeId)(i:TypeInfo)(size:Nat)(ht:P.underlying t=some (.slice e))(hi:P.info? e=some i)
 (v:Value) (n:Nat) (xs:List Value) (hown:w.ownsRow base e size v n xs) (c:Nat):(Builtin.append_ #[t,t] ty #[v,.slice none 0 c]).run P w=.ok v w:=by
 rcases hown.2 with ⟨rfl,rfl⟩|⟨g,cap,cur,rfl,_,_,hnc,_⟩
 ·simp[Builtin.append_,run_underlying ht,sizeOf,typeInfo,hi,Builtin.lenOf,Builtin.firstCells]
 ·simp[Builtin.append_,run_underlying ht,sizeOf,typeInfo,hi,Builtin.lenOf,Builtin.firstCells,hnc,storeCells]
theorem c07!(base:Nat)(t ty e:TypeId)(i:TypeInfo)(z:Value)(size bytes:Nat)(ht:P.underlying t=some (.slice e))(hi:P.info? e=some i)(hz:i.zero=some z)
 (hsize:i.size=size) (hby:i.bytes=bytes) (hzs:z.cells.size=size) (hsz:0<size)
 (v:Value) (n:Nat) (xs:List Value) (hown:w.ownsRow base e size v n xs)
 (B:Nat) (A:Option Addr) (m c:Nat) (news:List Value) (hr:Reads w B size A m news) (h1:∀u∈news,u.oneCell'=true)
 (h63:n+m<=maxLen) (hbytes:(n+m)*bytes<=140737488355328) (hbase:base<=w.heap.size):
 ∃v' w',(Builtin.append_ #[t,t] ty #[v,.slice A m c]).run P w=.ok v' w'∧w'.ownsRow base e size v' (n+m) (xs++news)∧w.grownBy w' v.ownBlock∧
  (v'.ownBlock=v.ownBlock∨v'.ownBlock=some w.heap.size):=by
 rcases A with _|ad
 ·have hm:m=0:=by
   rcases Nat.eq_zero_or_pos m with h0|h0
   ·exact h0
   ·obtain⟨ad,h,_⟩:=hr.2 h0
    cases h
  subst hm;have hn:news=[]:=List.eq_nil_of_length_eq_zero (by simpa using hr.1);subst hn;exact⟨v,w,c06! w base t ty e i size ht hi v n xs hown c,by simpa using hown,World.grownBy.refl w _,.inl rfl⟩
 ·have hcells:∀j u,news[j]?=some u->w.cell? (ad.add j)=some u:=by
   intro j u hu
   rcases Nat.eq_zero_or_pos m with h0|h0
   ·subst h0
    have hn:news=[]:=List.eq_nil_of_length_eq_zero (by simpa using hr.1);subst hn
    simp at hu
   ·obtain⟨ad',h,_,hc⟩:=hr.2 h0
    injection h with h;subst h;exact hc j u hu
  obtain⟨v',w',hrun,h2,h3,_,h5⟩:=run_append_own_at (P:=P) w base t ty e i z size bytes ht hi hz hsize hby hzs hsz v n xs hown ad m c news hr.1 hcells h1 h63 hbytes hbase;exact⟨v',w',hrun,h2,h3,h5⟩
theorem a37!{o:Oper}{a:Act}{K:Act->World->Prop}{Q:Exit->Act->World->Prop}(s x:Operand)(t:TypeId)
 (ho:o.op=.call {callee:=.builtin .append,args:=#[s,x],argTypes:=#[t,t]})
 (base:Nat) (e:TypeId) (i:TypeInfo) (z:Value) (size bytes:Nat) (ht:P.underlying t=some (.slice e)) (hi:P.info? e=some i) (hz:i.zero=some z)
 (hsize:i.size=size) (hby:i.bytes=bytes) (hzs:z.cells.size=size) (hsz:0<size)
 (v:Value) (n:Nat) (xs:List Value) (hs:a.eval s=v) (hown:w.ownsRow base e size v n xs)
 (B:Nat) (A:Option Addr) (m c:Nat) (news:List Value) (hx:a.eval x=.slice A m c) (hr:Reads w B size A m news) (h1:∀u∈news,u.oneCell'=true)
 (h63:n+m<=maxLen) (hbytes:(n+m)*bytes<=140737488355328) (hbase:base<=w.heap.size)
 (h:∀v' w',w'.ownsRow base e size v' (n+m) (xs++news)->w.grownBy w' v.ownBlock->(v'.ownBlock=v.ownBlock∨v'.ownBlock=some w.heap.size)->K (a.put o.dst v') w'):o.wp P a w K Q:=by
 obtain⟨v',w',hrun,h2,h3,h4⟩:=c07! (P:=P) w base t o.type e i z size bytes ht hi hz hsize hby hzs hsz v n xs hown B A m c news hr h1 h63 hbytes hbase
 unfold Oper.wp execOp
 simp only[ho,resolve,invoke,builtin,Sem.run_bind,Sem.run_pure,Result.andThen_ok,List.map_toArray,List.map_cons,List.map_nil,hs,hx,hrun]
 exact h v' w' h2 h3 h4
theorem e5!{ops:Array Oper}{rest:List Oper}{o:Oper}{a:Act}{Q:Exit->Act->World->Prop}(hgd:Region.wanted o (yielded ops a.tmps)=true)(s x:Operand)(t:TypeId)
 (ho:o.op=.call {callee:=.builtin .append,args:=#[s,x],argTypes:=#[t,t]})
 (base:Nat) (e:TypeId) (i:TypeInfo) (z:Value) (size bytes:Nat) (ht:P.underlying t=some (.slice e)) (hi:P.info? e=some i) (hz:i.zero=some z)
 (hsize:i.size=size) (hby:i.bytes=bytes) (hzs:z.cells.size=size) (hsz:0<size)
 (v:Value) (n:Nat) (xs:List Value) (hs:a.eval s=v) (hown:w.ownsRow base e size v n xs)
 (B:Nat) (A:Option Addr) (m c:Nat) (news:List Value) (hx:a.eval x=.slice A m c) (hr:Reads w B size A m news) (h1:∀u∈news,u.oneCell'=true)
 (h63:n+m<=maxLen) (hbytes:(n+m)*bytes<=140737488355328) (hbase:base<=w.heap.size)
 (h:∀v' w',w'.ownsRow base e size v' (n+m) (xs++news)->w.grownBy w' v.ownBlock->(v'.ownBlock=v.ownBlock∨v'.ownBlock=some w.heap.size)->wpList P ops Q rest (a.put o.dst v') w'):wpList P ops Q (o::rest) a w:=
 BigFrame.wpList_want hgd λ_ hK=>a37! w s x t ho base e i z size bytes ht hi hz hsize hby hzs hsz v n xs hs hown B A m c news hx hr h1 h63 hbytes hbase λv' w' h2 h3 h4=>hK _ _ (h v' w' h2 h3 h4)
end
def B8(l:List UInt8):List Value:=l.map λc=>.int .u8 (c.toNat:Int)
theorem c08!(l m:List UInt8):B8 (l++m)=B8 l++B8 m:=by simp[B8]
def RB(w:World)(A:Option Addr)(n:Nat)(l:List UInt8):Prop:=Reads w w.heap.size 1 A n (B8 l)
section
variable {w w':World} {n:Nat} {A:Option Addr} {l:List UInt8}
end
theorem _root_.Go.RowKit.Below.then_{c:World}(h:Below a.heap.size a b)(k:Below b.heap.size b c):Below a.heap.size a c:=h.trans (k.mono h.size)
theorem _root_.Go.RowKit.Below.al(h:Below a.heap.size a b)(o:Obj):Below a.heap.size a (b.alloc o):=h.alloc h.size o
theorem a5!(h:Below B a w)(n:Nat):Below B a (w.drewN n):=⟨h.os,h.tape,h.output,h.size,h.block⟩
theorem bcell{W w1:World}(hb:Below W.heap.size W w1):(∀b o,b<W.heap.size->w1.cell? ⟨b,o,none⟩=W.cell? ⟨b,o,none⟩)∧(∀b o,b<W.heap.size->w1.frozen? ⟨b,o,none⟩=W.frozen? ⟨b,o,none⟩):=
 ⟨λb o h=>hb.cell (p:=⟨b,o,none⟩) h,λb o h=>hb.frozen (p:=⟨b,o,none⟩) h⟩
def Tells(w:World)(b:Bool)(e:Ending)(w':World):Prop:=e=.returned (.bool b)∧Below w.heap.size w w'
structure Kept (S:Nat->Prop) (w w':World):Prop where
 os:w'.os=w.os
 tape:w'.tape=w.tape
 output:w'.output=w.output
 size:w.heap.size<=w'.heap.size
 block:∀k,k<w.heap.size->¬S k->w'.heap[k]?=w.heap[k]?
section
variable {S T:Nat->Prop} {a b c w w':World}
theorem Kept.refl(S:Nat->Prop)(w:World):Kept S w w:=⟨rfl,rfl,rfl,Nat.le_refl _,λ_ _ _=>rfl⟩
theorem Kept.mono(h:Kept S a b)(hs:∀k,k<a.heap.size->S k->T k):Kept T a b:=⟨h.os,h.tape,h.output,h.size,λk hk hn=>h.block k hk (λhS=>hn (hs k hk hS))⟩
theorem Kept.then_(h:Kept S a b)(k:Kept T b c)(hs:∀i,i<a.heap.size->T i->S i):Kept S a c:=
 ⟨k.os.trans h.os,k.tape.trans h.tape,k.output.trans h.output,Nat.le_trans h.size k.size,λi hi hn=>(k.block i (Nat.lt_of_lt_of_le hi h.size) (λhT=>hn (hs i hi hT))).trans (h.block i hi hn)⟩
theorem Kept.drew(h:Kept S a b):Kept S a b.drew:=⟨h.os,h.tape,h.output,h.size,h.block⟩
theorem Kept.drewN(h:Kept S a b)(n:Nat):Kept S a (b.drewN n):=⟨h.os,h.tape,h.output,h.size,h.block⟩
theorem Kept.alloc(h:Kept S a b)(o:Obj):Kept S a (b.alloc o):=
 ⟨h.os,h.tape,h.output,Nat.le_trans h.size (by simp),λi hi hn=>(Below.heap_alloc b o i (Nat.lt_of_lt_of_le hi h.size)).trans (h.block i hi hn)⟩
theorem Kept.setCell(h:Kept S a b){p:Addr}(hp:p.block<a.heap.size->S p.block)(u:Value):Kept S a (b.setCell p u):=
 ⟨h.os,h.tape,h.output,by simpa[World.setCell]using h.size,λi hi hn=>(Below.heap_setCell b p u i (by rintro rfl;exact hn (hp hi))).trans (h.block i hi hn)⟩
theorem Kept.of_below(h:Below a.heap.size a b):Kept S a b:=⟨h.os,h.tape,h.output,h.size,λk hk _=>h.block k hk⟩
theorem Kept.below_(h:Kept S a b)(k:Below b.heap.size b c):Kept S a c:=h.then_ (Kept.of_below (S:=S) k) (λ_ _ h=>h)
theorem Kept.of_grown{row:Option Nat}(h:a.grownBy b row)(hs:∀k,row=some k->S k):Kept S a b:=
 ⟨h.os,h.tape,h.output,h.size,λk hk hn=>h.block k hk (λe=>hn (hs k e.symm))⟩
theorem Kept.to_below(h:Kept S a b)(hB:B<=a.heap.size)(hs:∀k,k<B->¬S k):Below B a b:=⟨h.os,h.tape,h.output,h.size,λk hk=>h.block k (by omega) (hs k hk)⟩
theorem Kept.cell(h:Kept S a b){p:Addr}(hp:p.block<a.heap.size)(hn:¬S p.block):b.cell? p=a.cell? p:=World.cell?_of_block (h.block p.block hp hn)
end
theorem c09!{f:FuncId}{args:Array Value}{n:Nat}{v:Value}
 (h:Calls P f args (w.drewN n) λe w'=>e=.returned v∧w.drewN n=w'):Calls P f args (w.drewN n) λe w''=>e=.returned v∧∃m,w''=w.drewN m:=
 h.mono λ_ _ ⟨he,hm⟩=>⟨he,n,hm.symm⟩
def Blk(w:World)(g:Nat)(t:TypeId)(cs:Array Value):Prop:=w.heap[g]?=some (.cells cs t (0,0))
section
variable {w w':World} {g:Nat} {t:TypeId} {cs:Array Value}
theorem Blk.lt(h:Blk w g t cs):g<w.heap.size:=by
 rcases Nat.lt_or_ge g w.heap.size with hlt|hge
 ·exact hlt
 ·unfold Blk at h;rw[Array.getElem?_eq_none hge]at h;cases h
theorem Blk.cell(h:Blk w g t cs)(i:Nat):w.cell? ⟨g,i,none⟩=cs[i]?:=cell_of_row w g i cs t (0,0) h
theorem Blk.frozen(h:Blk w g t cs)(i:Nat):w.frozen? ⟨g,i,none⟩=false:=by
 unfold Blk at h
 simp[World.frozen?,h]
theorem Blk.new(w:World)(t:TypeId)(cs:Array Value):Blk (w.alloc (.cells cs t)) w.heap.size t cs:=heap_alloc_new w _
theorem Blk.drew(h:Blk w g t cs):Blk w.drew g t cs:=h
theorem Blk.drewN(h:Blk w g t cs)(n:Nat):Blk (w.drewN n) g t cs:=h
theorem Blk.alloc(h:Blk w g t cs)(o:Obj):Blk (w.alloc o) g t cs:=(Below.heap_alloc w o g h.lt).trans h
theorem Blk.set_(h:Blk w g t cs)(i:Nat)(u:Value):Blk (w.setCell ⟨g,i,none⟩ u) g t (cs.setIfInBounds i u):=by
 unfold Blk at h ⊢
 simp[World.setCell,Array.getElem?_modify,h]
theorem Blk.far(h:Blk w g t cs){p:Addr}(hp:g≠p.block)(u:Value):Blk (w.setCell p u) g t cs:=(Below.heap_setCell w p u g hp).trans h
theorem Blk.below(h:Blk w g t cs)(hb:Below B w w')(hg:g<B):Blk w' g t cs:=(hb.block g hg).trans h
theorem Blk.kept(h:Blk w g t cs)(hb:Kept S w w')(hg:¬S g):Blk w' g t cs:=(hb.block g h.lt hg).trans h
end
theorem h!{p:Prop}(h:p):Hid p:=h
theorem k!{S:Nat->Prop}{w w':World}{g:Nat}{t:TypeId}{cs:Array Value}(h:Hid (Blk w g t cs))(k:Kept S w w')(hn:¬S g:=by omega):Hid (Blk w' g t cs):=Blk.kept h k hn
theorem b!{w w':World}{g:Nat}{t:TypeId}{cs:Array Value}(h:Hid (Blk w g t cs))(b:Below w.heap.size w w'):Hid (Blk w' g t cs):=Blk.below h b (Blk.lt h)
theorem q!{S:Nat->Prop}{a b c:World}(h:Hid (Kept S a b))(k:Kept S b c):Hid (Kept S a c):=Kept.then_ h k (λ_ _ e=>e)
theorem t!{S T:Nat->Prop}{a b c:World}(h:Hid (Kept S a b))(k:Kept T b c)(hs:∀i,i<a.heap.size->T i->S i:=by intro z hz e;omega):Hid (Kept S a c):=Kept.then_ h k hs
theorem x!(n:Nat)(h:n<=9223372036854775807:=by omega):¬(9223372036854775807<n):=by omega
theorem y!(n:Int)(h: -9223372036854775808<=n∧n<=9223372036854775807:=by omega):IntKind.i64.wrap n=n:=IntWalk.i64_in _ h
theorem e!{S:Nat->Prop}{a b c:World}(h:Hid (Kept S a b))(k:Below b.heap.size b c):Hid (Kept S a c):=Kept.below_ h k
theorem o!{a b:World}(g:Nat)(h:Below a.heap.size a b):Hid (Kept (λz=>z=g) a b):=Kept.of_below h
theorem r!{a b c:World}(h:Hid (Below a.heap.size a b))(k:Below b.heap.size b c):Hid (Below a.heap.size a c):=Below.trans h (k.mono (Below.size h))
theorem a!(w:World)(o:Obj):Below w.heap.size w (w.alloc o):=⟨rfl,rfl,rfl,by simp,λk hk=>Below.heap_alloc w o k hk⟩
theorem z!(w:World)(o:Obj):(w.alloc o).heap.size=w.heap.size+1:=by simp
theorem Blk.c0{w:World}{g:Nat}{t:TypeId}{v0:Value}{l:List Value}(h:Blk w g t (List.toArray (v0::l))):w.cell? ⟨g,0,none⟩=some v0:=h.cell 0
theorem Blk.c1{w:World}{g:Nat}{t:TypeId}{v0 v1:Value}{l:List Value}(h:Blk w g t (List.toArray (v0::v1::l))):w.cell? ⟨g,1,none⟩=some v1:=h.cell 1
theorem Blk.c2{w:World}{g:Nat}{t:TypeId}{v0 v1 v2:Value}{l:List Value}(h:Blk w g t (List.toArray (v0::v1::v2::l))):w.cell? ⟨g,2,none⟩=some v2:=h.cell 2
theorem Blk.c3{w:World}{g:Nat}{t:TypeId}{v0 v1 v2 v3:Value}{l:List Value}(h:Blk w g t (List.toArray (v0::v1::v2::v3::l))):w.cell? ⟨g,3,none⟩=some v3:=h.cell 3
theorem Blk.c4{w:World}{g:Nat}{t:TypeId}{v0 v1 v2 v3 v4:Value}{l:List Value}(h:Blk w g t (List.toArray (v0::v1::v2::v3::v4::l))):w.cell? ⟨g,4,none⟩=some v4:=h.cell 4
theorem Blk.c5{w:World}{g:Nat}{t:TypeId}{v0 v1 v2 v3 v4 v5:Value}{l:List Value}(h:Blk w g t (List.toArray (v0::v1::v2::v3::v4::v5::l))):w.cell? ⟨g,5,none⟩=some v5:=h.cell 5
theorem Blk.c6{w:World}{g:Nat}{t:TypeId}{v0 v1 v2 v3 v4 v5 v6:Value}{l:List Value}(h:Blk w g t (List.toArray (v0::v1::v2::v3::v4::v5::v6::l))):w.cell? ⟨g,6,none⟩=some v6:=h.cell 6
theorem Blk.c7{w:World}{g:Nat}{t:TypeId}{v0 v1 v2 v3 v4 v5 v6 v7:Value}{l:List Value}(h:Blk w g t (List.toArray (v0::v1::v2::v3::v4::v5::v6::v7::l))):w.cell? ⟨g,7,none⟩=some v7:=h.cell 7
theorem Blk.c8{w:World}{g:Nat}{t:TypeId}{v0 v1 v2 v3 v4 v5 v6 v7 v8:Value}{l:List Value}(h:Blk w g t (List.toArray (v0::v1::v2::v3::v4::v5::v6::v7::v8::l))):w.cell? ⟨g,8,none⟩=some v8:=h.cell 8
theorem Blk.c9{w:World}{g:Nat}{t:TypeId}{v0 v1 v2 v3 v4 v5 v6 v7 v8 v9:Value}{l:List Value}(h:Blk w g t (List.toArray (v0::v1::v2::v3::v4::v5::v6::v7::v8::v9::l))):w.cell? ⟨g,9,none⟩=some v9:=h.cell 9
theorem Blk.c10{w:World}{g:Nat}{t:TypeId}{v0 v1 v2 v3 v4 v5 v6 v7 v8 v9 v10:Value}{l:List Value}(h:Blk w g t (List.toArray (v0::v1::v2::v3::v4::v5::v6::v7::v8::v9::v10::l))):w.cell? ⟨g,10,none⟩=some v10:=h.cell 10
theorem Blk.A2{w:World}{g:Nat}{t:TypeId}{v0 v1:Value}{l:List Value}(h:Blk w g t (List.toArray (v0::v1::l))):w.cell? ⟨g,0,none⟩=some v0∧w.cell? ⟨g,1,none⟩=some v1:=⟨h.cell 0,h.cell 1⟩
theorem Blk.F2{w:World}{g:Nat}{t:TypeId}{cs:Array Value}(h:Blk w g t cs):w.frozen? ⟨g,0,none⟩=false∧w.frozen? ⟨g,1,none⟩=false:=⟨h.frozen 0,h.frozen 1⟩
theorem Blk.A3{w:World}{g:Nat}{t:TypeId}{v0 v1 v2:Value}{l:List Value}(h:Blk w g t (List.toArray (v0::v1::v2::l))):w.cell? ⟨g,0,none⟩=some v0∧w.cell? ⟨g,1,none⟩=some v1∧w.cell? ⟨g,2,none⟩=some v2:=⟨h.cell 0,h.cell 1,h.cell 2⟩
theorem Blk.F3{w:World}{g:Nat}{t:TypeId}{cs:Array Value}(h:Blk w g t cs):w.frozen? ⟨g,0,none⟩=false∧w.frozen? ⟨g,1,none⟩=false∧w.frozen? ⟨g,2,none⟩=false:=⟨h.frozen 0,h.frozen 1,h.frozen 2⟩
theorem Blk.A4{w:World}{g:Nat}{t:TypeId}{v0 v1 v2 v3:Value}{l:List Value}(h:Blk w g t (List.toArray (v0::v1::v2::v3::l))):w.cell? ⟨g,0,none⟩=some v0∧w.cell? ⟨g,1,none⟩=some v1∧w.cell? ⟨g,2,none⟩=some v2∧w.cell? ⟨g,3,none⟩=some v3:=⟨h.cell 0,h.cell 1,h.cell 2,h.cell 3⟩
theorem Blk.F4{w:World}{g:Nat}{t:TypeId}{cs:Array Value}(h:Blk w g t cs):w.frozen? ⟨g,0,none⟩=false∧w.frozen? ⟨g,1,none⟩=false∧w.frozen? ⟨g,2,none⟩=false∧w.frozen? ⟨g,3,none⟩=false:=⟨h.frozen 0,h.frozen 1,h.frozen 2,h.frozen 3⟩
theorem Blk.A5{w:World}{g:Nat}{t:TypeId}{v0 v1 v2 v3 v4:Value}{l:List Value}(h:Blk w g t (List.toArray (v0::v1::v2::v3::v4::l))):w.cell? ⟨g,0,none⟩=some v0∧w.cell? ⟨g,1,none⟩=some v1∧w.cell? ⟨g,2,none⟩=some v2∧w.cell? ⟨g,3,none⟩=some v3∧w.cell? ⟨g,4,none⟩=some v4:=⟨h.cell 0,h.cell 1,h.cell 2,h.cell 3,h.cell 4⟩
theorem Blk.F5{w:World}{g:Nat}{t:TypeId}{cs:Array Value}(h:Blk w g t cs):w.frozen? ⟨g,0,none⟩=false∧w.frozen? ⟨g,1,none⟩=false∧w.frozen? ⟨g,2,none⟩=false∧w.frozen? ⟨g,3,none⟩=false∧w.frozen? ⟨g,4,none⟩=false:=⟨h.frozen 0,h.frozen 1,h.frozen 2,h.frozen 3,h.frozen 4⟩
theorem Blk.A7{w:World}{g:Nat}{t:TypeId}{v0 v1 v2 v3 v4 v5 v6:Value}{l:List Value}(h:Blk w g t (List.toArray (v0::v1::v2::v3::v4::v5::v6::l))):w.cell? ⟨g,0,none⟩=some v0∧w.cell? ⟨g,1,none⟩=some v1∧w.cell? ⟨g,2,none⟩=some v2∧w.cell? ⟨g,3,none⟩=some v3∧w.cell? ⟨g,4,none⟩=some v4∧w.cell? ⟨g,5,none⟩=some v5∧w.cell? ⟨g,6,none⟩=some v6:=⟨h.cell 0,h.cell 1,h.cell 2,h.cell 3,h.cell 4,h.cell 5,h.cell 6⟩
theorem Blk.F7{w:World}{g:Nat}{t:TypeId}{cs:Array Value}(h:Blk w g t cs):w.frozen? ⟨g,0,none⟩=false∧w.frozen? ⟨g,1,none⟩=false∧w.frozen? ⟨g,2,none⟩=false∧w.frozen? ⟨g,3,none⟩=false∧w.frozen? ⟨g,4,none⟩=false∧w.frozen? ⟨g,5,none⟩=false∧w.frozen? ⟨g,6,none⟩=false:=⟨h.frozen 0,h.frozen 1,h.frozen 2,h.frozen 3,h.frozen 4,h.frozen 5,h.frozen 6⟩
theorem Blk.A11{w:World}{g:Nat}{t:TypeId}{v0 v1 v2 v3 v4 v5 v6 v7 v8 v9 v10:Value}{l:List Value}(h:Blk w g t (List.toArray (v0::v1::v2::v3::v4::v5::v6::v7::v8::v9::v10::l))):w.cell? ⟨g,0,none⟩=some v0∧w.cell? ⟨g,1,none⟩=some v1∧w.cell? ⟨g,2,none⟩=some v2∧w.cell? ⟨g,3,none⟩=some v3∧w.cell? ⟨g,4,none⟩=some v4∧w.cell? ⟨g,5,none⟩=some v5∧w.cell? ⟨g,6,none⟩=some v6∧w.cell? ⟨g,7,none⟩=some v7∧w.cell? ⟨g,8,none⟩=some v8∧w.cell? ⟨g,9,none⟩=some v9∧w.cell? ⟨g,10,none⟩=some v10:=⟨h.cell 0,h.cell 1,h.cell 2,h.cell 3,h.cell 4,h.cell 5,h.cell 6,h.cell 7,h.cell 8,h.cell 9,h.cell 10⟩
theorem Blk.F11{w:World}{g:Nat}{t:TypeId}{cs:Array Value}(h:Blk w g t cs):w.frozen? ⟨g,0,none⟩=false∧w.frozen? ⟨g,1,none⟩=false∧w.frozen? ⟨g,2,none⟩=false∧w.frozen? ⟨g,3,none⟩=false∧w.frozen? ⟨g,4,none⟩=false∧w.frozen? ⟨g,5,none⟩=false∧w.frozen? ⟨g,6,none⟩=false∧w.frozen? ⟨g,7,none⟩=false∧w.frozen? ⟨g,8,none⟩=false∧w.frozen? ⟨g,9,none⟩=false∧w.frozen? ⟨g,10,none⟩=false:=⟨h.frozen 0,h.frozen 1,h.frozen 2,h.frozen 3,h.frozen 4,h.frozen 5,h.frozen 6,h.frozen 7,h.frozen 8,h.frozen 9,h.frozen 10⟩
theorem Blk.u0{w:World}{g:Nat}{t:TypeId}{v0:Value}{l:List Value}(h:Blk w g t (List.toArray (v0::l)))(x:Value):∃w',w.setCell ⟨g,0,none⟩ x=w'∧Hid (Blk w' g t (List.toArray (x::l)))∧Kept (λz=>z=g) w w':=⟨_,rfl,h! (by simpa using h.set_ 0 x),(Kept.refl (λz=>z=g) w).setCell (p:=⟨g,0,none⟩) (λ_=>rfl) x⟩
theorem Blk.u1{w:World}{g:Nat}{t:TypeId}{v0 v1:Value}{l:List Value}(h:Blk w g t (List.toArray (v0::v1::l)))(x:Value):∃w',w.setCell ⟨g,1,none⟩ x=w'∧Hid (Blk w' g t (List.toArray (v0::x::l)))∧Kept (λz=>z=g) w w':=⟨_,rfl,h! (by simpa using h.set_ 1 x),(Kept.refl (λz=>z=g) w).setCell (p:=⟨g,1,none⟩) (λ_=>rfl) x⟩
theorem Blk.u2{w:World}{g:Nat}{t:TypeId}{v0 v1 v2:Value}{l:List Value}(h:Blk w g t (List.toArray (v0::v1::v2::l)))(x:Value):∃w',w.setCell ⟨g,2,none⟩ x=w'∧Hid (Blk w' g t (List.toArray (v0::v1::x::l)))∧Kept (λz=>z=g) w w':=⟨_,rfl,h! (by simpa using h.set_ 2 x),(Kept.refl (λz=>z=g) w).setCell (p:=⟨g,2,none⟩) (λ_=>rfl) x⟩
theorem Blk.u3{w:World}{g:Nat}{t:TypeId}{v0 v1 v2 v3:Value}{l:List Value}(h:Blk w g t (List.toArray (v0::v1::v2::v3::l)))(x:Value):∃w',w.setCell ⟨g,3,none⟩ x=w'∧Hid (Blk w' g t (List.toArray (v0::v1::v2::x::l)))∧Kept (λz=>z=g) w w':=⟨_,rfl,h! (by simpa using h.set_ 3 x),(Kept.refl (λz=>z=g) w).setCell (p:=⟨g,3,none⟩) (λ_=>rfl) x⟩
theorem Blk.u4{w:World}{g:Nat}{t:TypeId}{v0 v1 v2 v3 v4:Value}{l:List Value}(h:Blk w g t (List.toArray (v0::v1::v2::v3::v4::l)))(x:Value):∃w',w.setCell ⟨g,4,none⟩ x=w'∧Hid (Blk w' g t (List.toArray (v0::v1::v2::v3::x::l)))∧Kept (λz=>z=g) w w':=⟨_,rfl,h! (by simpa using h.set_ 4 x),(Kept.refl (λz=>z=g) w).setCell (p:=⟨g,4,none⟩) (λ_=>rfl) x⟩
theorem Blk.u5{w:World}{g:Nat}{t:TypeId}{v0 v1 v2 v3 v4 v5:Value}{l:List Value}(h:Blk w g t (List.toArray (v0::v1::v2::v3::v4::v5::l)))(x:Value):∃w',w.setCell ⟨g,5,none⟩ x=w'∧Hid (Blk w' g t (List.toArray (v0::v1::v2::v3::v4::x::l)))∧Kept (λz=>z=g) w w':=⟨_,rfl,h! (by simpa using h.set_ 5 x),(Kept.refl (λz=>z=g) w).setCell (p:=⟨g,5,none⟩) (λ_=>rfl) x⟩
theorem Blk.u6{w:World}{g:Nat}{t:TypeId}{v0 v1 v2 v3 v4 v5 v6:Value}{l:List Value}(h:Blk w g t (List.toArray (v0::v1::v2::v3::v4::v5::v6::l)))(x:Value):∃w',w.setCell ⟨g,6,none⟩ x=w'∧Hid (Blk w' g t (List.toArray (v0::v1::v2::v3::v4::v5::x::l)))∧Kept (λz=>z=g) w w':=⟨_,rfl,h! (by simpa using h.set_ 6 x),(Kept.refl (λz=>z=g) w).setCell (p:=⟨g,6,none⟩) (λ_=>rfl) x⟩
theorem Blk.u7{w:World}{g:Nat}{t:TypeId}{v0 v1 v2 v3 v4 v5 v6 v7:Value}{l:List Value}(h:Blk w g t (List.toArray (v0::v1::v2::v3::v4::v5::v6::v7::l)))(x:Value):∃w',w.setCell ⟨g,7,none⟩ x=w'∧Hid (Blk w' g t (List.toArray (v0::v1::v2::v3::v4::v5::v6::x::l)))∧Kept (λz=>z=g) w w':=⟨_,rfl,h! (by simpa using h.set_ 7 x),(Kept.refl (λz=>z=g) w).setCell (p:=⟨g,7,none⟩) (λ_=>rfl) x⟩
theorem Blk.u8{w:World}{g:Nat}{t:TypeId}{v0 v1 v2 v3 v4 v5 v6 v7 v8:Value}{l:List Value}(h:Blk w g t (List.toArray (v0::v1::v2::v3::v4::v5::v6::v7::v8::l)))(x:Value):∃w',w.setCell ⟨g,8,none⟩ x=w'∧Hid (Blk w' g t (List.toArray (v0::v1::v2::v3::v4::v5::v6::v7::x::l)))∧Kept (λz=>z=g) w w':=⟨_,rfl,h! (by simpa using h.set_ 8 x),(Kept.refl (λz=>z=g) w).setCell (p:=⟨g,8,none⟩) (λ_=>rfl) x⟩
theorem Blk.u9{w:World}{g:Nat}{t:TypeId}{v0 v1 v2 v3 v4 v5 v6 v7 v8 v9:Value}{l:List Value}(h:Blk w g t (List.toArray (v0::v1::v2::v3::v4::v5::v6::v7::v8::v9::l)))(x:Value):∃w',w.setCell ⟨g,9,none⟩ x=w'∧Hid (Blk w' g t (List.toArray (v0::v1::v2::v3::v4::v5::v6::v7::v8::x::l)))∧Kept (λz=>z=g) w w':=⟨_,rfl,h! (by simpa using h.set_ 9 x),(Kept.refl (λz=>z=g) w).setCell (p:=⟨g,9,none⟩) (λ_=>rfl) x⟩
theorem Blk.u10{w:World}{g:Nat}{t:TypeId}{v0 v1 v2 v3 v4 v5 v6 v7 v8 v9 v10:Value}{l:List Value}(h:Blk w g t (List.toArray (v0::v1::v2::v3::v4::v5::v6::v7::v8::v9::v10::l)))(x:Value):∃w',w.setCell ⟨g,10,none⟩ x=w'∧Hid (Blk w' g t (List.toArray (v0::v1::v2::v3::v4::v5::v6::v7::v8::v9::x::l)))∧Kept (λz=>z=g) w w':=⟨_,rfl,h! (by simpa using h.set_ 10 x),(Kept.refl (λz=>z=g) w).setCell (p:=⟨g,10,none⟩) (λ_=>rfl) x⟩
theorem n!(w:World)(t:TypeId)(cs:Array Value):∃w',Hid (w.alloc (.cells cs t)=w')∧Below w.heap.size w w'∧Blk w' w.heap.size t cs∧w'.heap.size=w.heap.size+1:=⟨_,rfl,a! w _,Blk.new w t cs,z! w _⟩
theorem i!{S T:Nat->Prop}{a b c:World}(j:Hid (Kept S a b))(k:Hid (Kept T b c))(hs:∀i,i<a.heap.size->S i->T i:=by intro z hz e;omega):Hid (Kept T a c):=Kept.then_ (Kept.mono j hs) k (λ_ _ e=>e)
theorem d!{S T:Nat->Prop}{a b:World}(k:Kept S a b)(hs:∀i,i<a.heap.size->S i->T i:=by intro z hz e;omega):Hid (Kept T a b):=Kept.mono k hs
def RIn(D:Nat->Prop)(w:World)(A:Option Addr)(n:Nat)(l:List UInt8):Prop:=
 n=l.length∧(0<n->∃ad,A=some ad∧D ad.block∧ad.block<w.heap.size∧∀j u,(B8 l)[j]?=some u->w.cell? (ad.add j)=some u)
section
variable {D S:Nat->Prop} {w w':World} {A:Option Addr} {n:Nat} {l:List UInt8}
end
def RV(w:World)(A:Option Addr)(n:Nat)(xs:List Value):Prop:=Reads w w.heap.size 1 A n xs
section
variable {w w':World} {n:Nat} {A:Option Addr} {xs:List Value}
theorem RV.len(h:RV w A n xs):n=xs.length:=by have:=h.1;omega
theorem RV.below(h:RV w A n xs)(hb:Below w.heap.size w w'):RV w' A n xs:=(Reads.below h hb).more hb.size
theorem RV.at_(h:RV w A n xs)(hk:k<n):∃b o,A=some ⟨b,o,none⟩∧b<w.heap.size∧∃hl:k<xs.length,w.cell? ⟨b,o+k,none⟩=some (xs[k]'hl):=by
 have hl:k<xs.length:=by have:=h.len;omega
 obtain⟨ad,u,rfl,hb,hx,hc⟩:=Reads.at_ h hk
 obtain⟨ad0,u0,e0,_,_,hc0⟩:=Reads.at_ h (k:=0) (by omega)
 obtain rfl:=Option.some.inj e0
 obtain⟨b,o,spot⟩:=ad
 have hspot:spot=none:=by simpa[Addr.add]using World.cell?_spot hc0
 subst hspot
 rw[Addr.add_lit]at hc
 rw[List.getElem?_eq_getElem hl]at hx
 injection hx with hx
 exact⟨b,o,rfl,hb,hl,by rw[hc,hx]⟩
end
def letB(c:UInt8):Bool:=decide (97<=c.toNat∧c.toNat<=122∨65<=c.toNat∧c.toNat<=90)
def digB(c:UInt8):Bool:=decide (48<=c.toNat∧c.toNat<=57)
def innB(c:UInt8):Bool:=letB c||digB c||decide (c.toNat=95)
def nlB(c:UInt8):Bool:=decide (c.toNat≠10)
theorem l4!{c:UInt8}:digB c=true↔48<=c.toNat∧c.toNat<=57:=by simp[digB]
theorem a38!{a b:Bool}(h:a=b):Ending.returned (.bool a)=.returned (.bool b):=by rw[h]
theorem g9!(c:UInt8)(w:World):Calls Tryz.prog 126 #[.int .u8 (c.toNat:Int)] w λe w'=>e=.returned (.bool (letB c))∧w=w':=by
 obtain⟨x,hx⟩:∃x,c.toNat=x:=⟨_,rfl⟩
 have h5:x<65∨(65<=x∧x<=90)∨(90<x∧x<97)∨(97<=x∧x<=122)∨122<x:=by omega
 have hb:Hid (letB c=decide (97<=x∧x<=122∨65<=x∧x<=90)):=by rw[<-hx];rfl
 rw[hx]
 clear hx
 rcases h5 with h|⟨h,h'⟩|⟨h,h'⟩|⟨h,h'⟩|h
 ·have t1:decide ((97:Int)<=(x:Int))=false:=by simp;omega
  have t2:decide ((x:Int)<=122)=true:=by simp;omega
  have t3:decide ((65:Int)<=(x:Int))=false:=by simp;omega
  have t4:decide ((x:Int)<=90)=true:=by simp;omega
  go_enter Tryz.func126,Tryz.ntmps126
  go_wp2
  go_ret
  refine⟨?_,rfl⟩;rw[hb.out,show decide (97<=x∧x<=122∨65<=x∧x<=90)=false from by simp;omega]
  rfl
 ·have t1:decide ((97:Int)<=(x:Int))=false:=by simp;omega
  have t2:decide ((x:Int)<=122)=true:=by simp;omega
  have t3:decide ((65:Int)<=(x:Int))=true:=by simp;omega
  have t4:decide ((x:Int)<=90)=true:=by simp;omega
  go_enter Tryz.func126,Tryz.ntmps126
  go_wp2
  go_ret
  refine⟨?_,rfl⟩;rw[hb.out,show decide (97<=x∧x<=122∨65<=x∧x<=90)=true from by simp;omega]
  rfl
 ·have t1:decide ((97:Int)<=(x:Int))=false:=by simp;omega
  have t2:decide ((x:Int)<=122)=true:=by simp;omega
  have t3:decide ((65:Int)<=(x:Int))=true:=by simp;omega
  have t4:decide ((x:Int)<=90)=false:=by simp;omega
  go_enter Tryz.func126,Tryz.ntmps126
  go_wp2
  go_ret
  refine⟨?_,rfl⟩;rw[hb.out,show decide (97<=x∧x<=122∨65<=x∧x<=90)=false from by simp;omega]
  rfl
 ·have t1:decide ((97:Int)<=(x:Int))=true:=by simp;omega
  have t2:decide ((x:Int)<=122)=true:=by simp;omega
  have t3:decide ((65:Int)<=(x:Int))=true:=by simp;omega
  have t4:decide ((x:Int)<=90)=false:=by simp;omega
  go_enter Tryz.func126,Tryz.ntmps126
  go_wp2
  go_ret
  refine⟨?_,rfl⟩;rw[hb.out,show decide (97<=x∧x<=122∨65<=x∧x<=90)=true from by simp;omega]
  rfl
 ·have t1:decide ((97:Int)<=(x:Int))=true:=by simp;omega
  have t2:decide ((x:Int)<=122)=false:=by simp;omega
  have t3:decide ((65:Int)<=(x:Int))=true:=by simp;omega
  have t4:decide ((x:Int)<=90)=false:=by simp;omega
  go_enter Tryz.func126,Tryz.ntmps126
  go_wp2
  go_ret
  refine⟨?_,rfl⟩;rw[hb.out,show decide (97<=x∧x<=122∨65<=x∧x<=90)=false from by simp;omega]
  rfl
theorem f7!(c:UInt8)(w:World):Calls Tryz.prog 113 #[.int .u8 (c.toNat:Int)] w λe w'=>e=.returned (.bool (letB c))∧w=w':=by
 obtain⟨x,hx⟩:∃x,c.toNat=x:=⟨_,rfl⟩
 have h5:x<65∨(65<=x∧x<=90)∨(90<x∧x<97)∨(97<=x∧x<=122)∨122<x:=by omega
 have hb:Hid (letB c=decide (97<=x∧x<=122∨65<=x∧x<=90)):=by rw[<-hx];rfl
 rw[hx]
 clear hx
 rcases h5 with h|⟨h,h'⟩|⟨h,h'⟩|⟨h,h'⟩|h
 ·have t1:decide ((97:Int)<=(x:Int))=false:=by simp;omega
  have t2:decide ((x:Int)<=122)=true:=by simp;omega
  have t3:decide ((65:Int)<=(x:Int))=false:=by simp;omega
  have t4:decide ((x:Int)<=90)=true:=by simp;omega
  go_enter Tryz.func113,Tryz.ntmps113
  go_wp2
  go_ret
  refine⟨?_,rfl⟩;rw[hb.out,show decide (97<=x∧x<=122∨65<=x∧x<=90)=false from by simp;omega]
  rfl
 ·have t1:decide ((97:Int)<=(x:Int))=false:=by simp;omega
  have t2:decide ((x:Int)<=122)=true:=by simp;omega
  have t3:decide ((65:Int)<=(x:Int))=true:=by simp;omega
  have t4:decide ((x:Int)<=90)=true:=by simp;omega
  go_enter Tryz.func113,Tryz.ntmps113
  go_wp2
  go_ret
  refine⟨?_,rfl⟩;rw[hb.out,show decide (97<=x∧x<=122∨65<=x∧x<=90)=true from by simp;omega]
  rfl
 ·have t1:decide ((97:Int)<=(x:Int))=false:=by simp;omega
  have t2:decide ((x:Int)<=122)=true:=by simp;omega
  have t3:decide ((65:Int)<=(x:Int))=true:=by simp;omega
  have t4:decide ((x:Int)<=90)=false:=by simp;omega
  go_enter Tryz.func113,Tryz.ntmps113
  go_wp2
  go_ret
  refine⟨?_,rfl⟩;rw[hb.out,show decide (97<=x∧x<=122∨65<=x∧x<=90)=false from by simp;omega]
  rfl
 ·have t1:decide ((97:Int)<=(x:Int))=true:=by simp;omega
  have t2:decide ((x:Int)<=122)=true:=by simp;omega
  have t3:decide ((65:Int)<=(x:Int))=true:=by simp;omega
  have t4:decide ((x:Int)<=90)=false:=by simp;omega
  go_enter Tryz.func113,Tryz.ntmps113
  go_wp2
  go_ret
  refine⟨?_,rfl⟩;rw[hb.out,show decide (97<=x∧x<=122∨65<=x∧x<=90)=true from by simp;omega]
  rfl
 ·have t1:decide ((97:Int)<=(x:Int))=true:=by simp;omega
  have t2:decide ((x:Int)<=122)=false:=by simp;omega
  have t3:decide ((65:Int)<=(x:Int))=true:=by simp;omega
  have t4:decide ((x:Int)<=90)=false:=by simp;omega
  go_enter Tryz.func113,Tryz.ntmps113
  go_wp2
  go_ret
  refine⟨?_,rfl⟩;rw[hb.out,show decide (97<=x∧x<=122∨65<=x∧x<=90)=false from by simp;omega]
  rfl
theorem f8!(c:UInt8)(w:World):Calls Tryz.prog 127 #[.int .u8 (c.toNat:Int)] w λe w'=>e=.returned (.bool (digB c))∧w=w':=by
 obtain⟨x,hx⟩:∃x,c.toNat=x:=⟨_,rfl⟩
 have h5:x<48∨(48<=x∧x<=57)∨57<x:=by omega
 have hb:Hid (digB c=decide (48<=x∧x<=57)):=by rw[<-hx];rfl
 rw[hx]
 clear hx
 rcases h5 with h|⟨h,h'⟩|h
 ·have t1:decide ((48:Int)<=(x:Int))=false:=by simp;omega
  have t2:decide ((x:Int)<=57)=true:=by simp;omega
  go_enter Tryz.func127,Tryz.ntmps127
  go_wp2
  go_ret
  refine⟨?_,rfl⟩;rw[hb.out,show decide (48<=x∧x<=57)=false from by simp;omega]
  rfl
 ·have t1:decide ((48:Int)<=(x:Int))=true:=by simp;omega
  have t2:decide ((x:Int)<=57)=true:=by simp;omega
  go_enter Tryz.func127,Tryz.ntmps127
  go_wp2
  go_ret
  refine⟨?_,rfl⟩;rw[hb.out,show decide (48<=x∧x<=57)=true from by simp;omega]
  rfl
 ·have t1:decide ((48:Int)<=(x:Int))=true:=by simp;omega
  have t2:decide ((x:Int)<=57)=false:=by simp;omega
  go_enter Tryz.func127,Tryz.ntmps127
  go_wp2
  go_ret
  refine⟨?_,rfl⟩;rw[hb.out,show decide (48<=x∧x<=57)=false from by simp;omega]
  rfl
theorem e3!(c:UInt8)(w:World):Calls Tryz.prog 114 #[.int .u8 (c.toNat:Int)] w λe w'=>e=.returned (.bool (digB c))∧w=w':=by
 obtain⟨x,hx⟩:∃x,c.toNat=x:=⟨_,rfl⟩
 have h5:x<48∨(48<=x∧x<=57)∨57<x:=by omega
 have hb:Hid (digB c=decide (48<=x∧x<=57)):=by rw[<-hx];rfl
 rw[hx]
 clear hx
 rcases h5 with h|⟨h,h'⟩|h
 ·have t1:decide ((48:Int)<=(x:Int))=false:=by simp;omega
  have t2:decide ((x:Int)<=57)=true:=by simp;omega
  go_enter Tryz.func114,Tryz.ntmps114
  go_wp2
  go_ret
  refine⟨?_,rfl⟩;rw[hb.out,show decide (48<=x∧x<=57)=false from by simp;omega]
  rfl
 ·have t1:decide ((48:Int)<=(x:Int))=true:=by simp;omega
  have t2:decide ((x:Int)<=57)=true:=by simp;omega
  go_enter Tryz.func114,Tryz.ntmps114
  go_wp2
  go_ret
  refine⟨?_,rfl⟩;rw[hb.out,show decide (48<=x∧x<=57)=true from by simp;omega]
  rfl
 ·have t1:decide ((48:Int)<=(x:Int))=true:=by simp;omega
  have t2:decide ((x:Int)<=57)=false:=by simp;omega
  go_enter Tryz.func114,Tryz.ntmps114
  go_wp2
  go_ret
  refine⟨?_,rfl⟩;rw[hb.out,show decide (48<=x∧x<=57)=false from by simp;omega]
  rfl
theorem a39!(c:UInt8)(w:World):Calls Tryz.prog 84 #[.int .u8 (c.toNat:Int)] w λe w'=>e=.returned (.bool (nlB c))∧w=w':=by
 go_enter Tryz.func84,Tryz.ntmps84
 go_wp2
 go_ret
 refine⟨a38! ?_,rfl⟩
 rw[Bool.eq_iff_iff]
 simp[nlB]
 omega
theorem a40!(c:UInt8)(w:World):Calls Tryz.prog 125 #[.int .u8 (c.toNat:Int)] w λe w'=>e=.returned (.bool (innB c))∧w=w':=by
 have hi:Hid (innB c=(letB c||digB c||decide (c.toNat=95))):=rfl
 cases h1:letB c<;>cases h2:digB c
 all_goals
  have H1:=h! h1;have H2:=h! h2;clear h1 h2;go_enter Tryz.func125,Tryz.ntmps125;go_wp2_with fail;refine(g9! c w).mono ?_;rintro e w'⟨rfl,rfl⟩;rw[H1.out]
  go_wp2_with (first|(go_at_call 127;refine(f8! c _).mono ?_;rintro e w'⟨rfl,rfl⟩;rw[H2.out]))
  go_ret
  refine⟨?_,rfl⟩;rw[hi.out,H1.out,H2.out]
  first|rfl|exact a38! (by rw[Bool.eq_iff_iff];simp;omega)
def preN(p:UInt8->Bool)(l:List UInt8):Nat:=(l.takeWhile p).length
theorem j1!(p:UInt8->Bool)(l:List UInt8):preN p l<=l.length:=by
 unfold preN
 exact(List.takeWhile_sublist p).length_le
theorem h0!{p:UInt8->Bool}{l:List UInt8}(hk:k<=l.length)(h1:∀j (hj:j<l.length),j<k->p (l[j]'hj)=true)(h2:∀hj:k<l.length,p (l[k]'hj)=false):preN p l=k:=by
 unfold preN
 induction l generalizing k with
 |nil=>simp at hk;simp[hk]
 |cons c l ih=>
  rcases k with _|k
  ·have:=h2 (by simp)
   simp at this
   simp[this]
  ·have h0:=h1 0 (by simp) (by omega)
   simp at h0
   have:=ih (k:=k) (by simpa using hk) (λj hj hjk=>by have:=h1 (j+1) (by simpa using hj) (by omega);simpa using this) (λhj=>by have:=h2 (by simpa using hj);simpa using this)
   simp[h0,this]
theorem t4!(s:ByteArray):s.extract 0 s.size=s:=by
 first|exact ByteArray.extract_zero_size|simp
theorem i4!(s:ByteArray)(w:World)(hs:s.size<=9223372036854775807):
 Calls Tryz.prog 83 #[.string s,.func (.func 125) #[] #[]] w λe w'=>e=.returned (.string (s.extract 0 (preN innB s.data.toList)))∧w=w':=by
 have hlen:s.data.toList.length=s.size:=Array.length_toList
 have HL:=h! hlen
 clear hlen
 go_enter Tryz.func83,Tryz.ntmps83
 go_wp2
 go_loop [5] (λi=>∃k:Nat,k<=s.size∧i=.I k∧Hid (∀j (hj:j<s.data.toList.length),j<k->innB (s.data.toList[j]'hj)=true)) (λi=>s.size-(intOf i).toNat)
 case atStart=>exact⟨0,by omega,rfl,λj hj h=>absurd h (by omega)⟩
 case round=>
  obtain⟨k,hk,rfl,hp⟩:=hrel
  by_cases hlt:k<s.size
  ·obtain⟨c,hcc⟩:∃c:UInt8,s[k]=c:=⟨_,rfl⟩
   have hq:∃hj:k<s.data.toList.length,s.data.toList[k]'hj=c:=⟨by rw[HL.out];exact hlt,by rw[<-hcc];rfl⟩;have HQ:=h! hq;clear hq
   cases hpc:innB c
   ·have HP:=h! hpc
    clear hpc;go_wp2_with fail;refine(a40! c w).mono ?_;rintro e w'⟨rfl,rfl⟩;rw[HP.out];have hpre:preN innB s.data.toList=k:=h0! (by rw[HL.out];exact hk) hp.out (λhj=>by obtain⟨_,h⟩:=HQ.out;rw[h];exact HP.out);have HPRE:=h! hpre;clear hpre hcc;go_wp2_with fail
    go_ret
    exact⟨by rw[HPRE.out];rfl,rfl⟩
   ·have HP:=h! hpc
    clear hpc;go_wp2_with fail;refine(a40! c w).mono ?_;rintro e w'⟨rfl,rfl⟩;rw[HP.out];clear hcc;go_wp2_with fail
    go_round
    case rel=>exact⟨k+1,by omega,by go_num,λj hj h=>by
     rcases Nat.lt_or_ge j k with h1|h1
     ·exact hp.out j hj h1
     ·obtain rfl:j=k:=by omega
      obtain⟨_,h2⟩:=HQ.out;rw[h2];exact HP.out⟩
    case measure=>simp[intOf];omega
  ·obtain rfl:k=s.size:=by omega
   have hpre:preN innB s.data.toList=s.size:=h0! (by rw[HL.out];exact hk) hp.out (λhj=>by rw[HL.out]at hj;omega);have HPRE:=h! hpre;clear hpre;go_wp2_with fail
   go_ret
   exact⟨by rw[HPRE.out,t4!];rfl,rfl⟩
theorem x7!(s:ByteArray)(w:World)(hs:s.size<=9223372036854775807):
 Calls Tryz.prog 83 #[.string s,.func (.func 127) #[] #[]] w λe w'=>e=.returned (.string (s.extract 0 (preN digB s.data.toList)))∧w=w':=by
 have hlen:s.data.toList.length=s.size:=Array.length_toList
 have HL:=h! hlen
 clear hlen
 go_enter Tryz.func83,Tryz.ntmps83
 go_wp2
 go_loop [5] (λi=>∃k:Nat,k<=s.size∧i=.I k∧Hid (∀j (hj:j<s.data.toList.length),j<k->digB (s.data.toList[j]'hj)=true)) (λi=>s.size-(intOf i).toNat)
 case atStart=>exact⟨0,by omega,rfl,λj hj h=>absurd h (by omega)⟩
 case round=>
  obtain⟨k,hk,rfl,hp⟩:=hrel
  by_cases hlt:k<s.size
  ·obtain⟨c,hcc⟩:∃c:UInt8,s[k]=c:=⟨_,rfl⟩
   have hq:∃hj:k<s.data.toList.length,s.data.toList[k]'hj=c:=⟨by rw[HL.out];exact hlt,by rw[<-hcc];rfl⟩;have HQ:=h! hq;clear hq
   cases hpc:digB c
   ·have HP:=h! hpc
    clear hpc;go_wp2_with fail;refine(f8! c w).mono ?_;rintro e w'⟨rfl,rfl⟩;rw[HP.out];have hpre:preN digB s.data.toList=k:=h0! (by rw[HL.out];exact hk) hp.out (λhj=>by obtain⟨_,h⟩:=HQ.out;rw[h];exact HP.out);have HPRE:=h! hpre;clear hpre hcc;go_wp2_with fail
    go_ret
    exact⟨by rw[HPRE.out];rfl,rfl⟩
   ·have HP:=h! hpc
    clear hpc;go_wp2_with fail;refine(f8! c w).mono ?_;rintro e w'⟨rfl,rfl⟩;rw[HP.out];clear hcc;go_wp2_with fail
    go_round
    case rel=>exact⟨k+1,by omega,by go_num,λj hj h=>by
     rcases Nat.lt_or_ge j k with h1|h1
     ·exact hp.out j hj h1
     ·obtain rfl:j=k:=by omega
      obtain⟨_,h2⟩:=HQ.out;rw[h2];exact HP.out⟩
    case measure=>simp[intOf];omega
  ·obtain rfl:k=s.size:=by omega
   have hpre:preN digB s.data.toList=s.size:=h0! (by rw[HL.out];exact hk) hp.out (λhj=>by rw[HL.out]at hj;omega);have HPRE:=h! hpre;clear hpre;go_wp2_with fail
   go_ret
   exact⟨by rw[HPRE.out,t4!];rfl,rfl⟩
theorem c10!(s:ByteArray)(w:World)(hs:s.size<=9223372036854775807):
 Calls Tryz.prog 83 #[.string s,.func (.func 84) #[] #[]] w λe w'=>e=.returned (.string (s.extract 0 (preN nlB s.data.toList)))∧w=w':=by
 have hlen:s.data.toList.length=s.size:=Array.length_toList
 have HL:=h! hlen
 clear hlen
 go_enter Tryz.func83,Tryz.ntmps83
 go_wp2
 go_loop [5] (λi=>∃k:Nat,k<=s.size∧i=.I k∧Hid (∀j (hj:j<s.data.toList.length),j<k->nlB (s.data.toList[j]'hj)=true)) (λi=>s.size-(intOf i).toNat)
 case atStart=>exact⟨0,by omega,rfl,λj hj h=>absurd h (by omega)⟩
 case round=>
  obtain⟨k,hk,rfl,hp⟩:=hrel
  by_cases hlt:k<s.size
  ·obtain⟨c,hcc⟩:∃c:UInt8,s[k]=c:=⟨_,rfl⟩
   have hq:∃hj:k<s.data.toList.length,s.data.toList[k]'hj=c:=⟨by rw[HL.out];exact hlt,by rw[<-hcc];rfl⟩;have HQ:=h! hq;clear hq
   cases hpc:nlB c
   ·have HP:=h! hpc
    clear hpc;go_wp2_with fail;refine(a39! c w).mono ?_;rintro e w'⟨rfl,rfl⟩;rw[HP.out];have hpre:preN nlB s.data.toList=k:=h0! (by rw[HL.out];exact hk) hp.out (λhj=>by obtain⟨_,h⟩:=HQ.out;rw[h];exact HP.out);have HPRE:=h! hpre;clear hpre hcc;go_wp2_with fail
    go_ret
    exact⟨by rw[HPRE.out];rfl,rfl⟩
   ·have HP:=h! hpc
    clear hpc;go_wp2_with fail;refine(a39! c w).mono ?_;rintro e w'⟨rfl,rfl⟩;rw[HP.out];clear hcc;go_wp2_with fail
    go_round
    case rel=>exact⟨k+1,by omega,by go_num,λj hj h=>by
     rcases Nat.lt_or_ge j k with h1|h1
     ·exact hp.out j hj h1
     ·obtain rfl:j=k:=by omega
      obtain⟨_,h2⟩:=HQ.out;rw[h2];exact HP.out⟩
    case measure=>simp[intOf];omega
  ·obtain rfl:k=s.size:=by omega
   have hpre:preN nlB s.data.toList=s.size:=h0! (by rw[HL.out];exact hk) hp.out (λhj=>by rw[HL.out]at hj;omega);have HPRE:=h! hpre;clear hpre;go_wp2_with fail
   go_ret
   exact⟨by rw[HPRE.out,t4!];rfl,rfl⟩
def numF(a:Int):List UInt8->Int×Int
 |[]=>(a,0)
 |c::r=>if 10*a+((c.toNat:Int)-48)>2147483647 then (0,2)else numF (10*a+((c.toNat:Int)-48)) r
def numS(l:List UInt8):Int×Int:=if l=[]∨preN digB l≠l.length∨(1<l.length∧l.head?=some 48)then (0,3)else numF 0 l
theorem b1!(s:ByteArray):s.data.toList.length=s.size:=Array.length_toList
theorem h1!(s:ByteArray)(h:k<s.size):s.data.toList[k]?=some s[k]:=by
 rw[List.getElem?_eq_getElem (by rw[b1!];exact h)]
 rfl
theorem tl_eq(s:ByteArray):s.toList=s.data.toList:=ByteArray.toList_eq s
theorem j2!{a b:ByteArray}(h:a.data.toList=b.data.toList):a=b:=by
 obtain⟨⟨x⟩⟩:=a
 obtain⟨⟨y⟩⟩:=b
 simp at h
 subst h
 rfl
theorem a41!{p:UInt8->Bool}:∀{l:List UInt8},l.takeWhile p=l.take (preN p l)
 |[]=>by simp
 |c::l=>by
  unfold preN
  cases h:p c
  ·simp[h]
  ·simp[h]
   exact a41! (l:=l)
theorem x8!{p:UInt8->Bool}:∀{l:List UInt8},preN p l=l.length->∀c∈l,p c=true
 |[],_,c,h=>by cases h
 |a::l,h,c,hc=>by
  unfold preN at h
  cases ha:p a
  ·simp[ha]at h
  ·simp[ha]at h
   rcases List.mem_cons.1 hc with rfl|h1
   ·exact ha
   ·exact x8! (l:=l) h c h1
theorem c11!(a:Int)(l:List UInt8)(hk:k<l.length):numF a (l.drop k)=if 10*a+(((l[k]'hk).toNat:Int)-48)>2147483647 then (0,2)else numF (10*a+(((l[k]'hk).toNat:Int)-48)) (l.drop (k+1)):=by
 rw[List.drop_eq_getElem_cons hk]
 rfl
theorem o9!(s:ByteArray)(w:World)(hs:s.size<=9223372036854775807):
 Calls Tryz.prog 128 #[.string s] w λe w'=>e=.returned (.tuple #[.I (numS s.data.toList).1,.I (numS s.data.toList).2])∧w=w':=by
 by_cases h0:s.size=0
 ·have hl:s.data.toList=[]:=List.eq_nil_of_length_eq_zero (by rw[b1!];exact h0)
  have hn:numS s.data.toList=(0,3):=by rw[hl];rfl
  obtain rfl:s=ByteArray.empty:=j2! hl;have HN:=h! hn;clear hn h0 hl;go_enter Tryz.func128,Tryz.ntmps128;go_wp2_with fail
  go_ret2
  exact⟨by rw[HN.out];rfl,rfl⟩
 ·have h1:0<s.size:=by omega
  have hne:s.toList≠[]:=by
   rw[tl_eq]
   intro h
   have:=b1! s;rw[h]at this
   simp at this
   omega
  have hie:s.toList.isEmpty=false:=by
   cases hq:s.toList
   ·exact absurd hq hne
   ·rfl
  by_cases hd:preN digB s.data.toList=s.size
  ·obtain⟨c0,hc0⟩:∃c:UInt8,s[0]=c:=⟨_,rfl⟩
   have hh:s.data.toList.head?=some c0:=by
    rw[List.head?_eq_getElem?,h1! s h1,hc0]
   have hext:s.extract 0 (preN digB s.data.toList)=s:=by rw[hd,t4!]
   have HX:=h! hext;have HD:Hid (∀c∈s.data.toList,digB c=true):=x8! (by rw[b1!];exact hd);have HH:=h! hh;have HDN:=h! hd;clear hext hh hd
   by_cases hz:1<s.size∧c0=48
   ·obtain⟨hz1,rfl⟩:=hz
    have hn:numS s.data.toList=(0,3):=by
     unfold numS;rw[if_pos (.inr (.inr ⟨by rw[b1!];exact hz1,HH.out⟩))]
    have HN:=h! hn;clear hn;have t1:decide ((1:Int)<(s.size:Int))=true:=by simp;omega
    go_enter Tryz.func128,Tryz.ntmps128
    go_wp2_with (first|(go_at_call 83;refine(x7! s w hs).mono ?_;rintro e w'⟨rfl,rfl⟩;rw[HX.out]))
    go_ret2
    exact⟨by rw[HN.out];rfl,rfl⟩
   ·have hn:numS s.data.toList=numF 0 s.data.toList:=by
     unfold numS;rw[if_neg];rintro (h|h|⟨h,h'⟩)
     ·rw[<-tl_eq]at h;exact hne h
     ·exact h (by rw[HDN.out,b1!])
     ·rw[HH.out]at h'
      injection h' with h';exact hz ⟨by rw[b1!]at h;exact h,h'⟩
    have HN:=h! hn;clear hn;have hcut:Hid (decide ((1:Int)<(s.size:Int))=false∨decide ((1:Int)<(s.size:Int))=true∧(((c0.toNat:Int))==48)=false):=by
     by_cases h:1<s.size
     ·refine .inr ⟨by simp;omega,?_⟩
      have:c0≠48:=λe=>hz ⟨h,e⟩
      have h2:c0.toNat≠48:=λe=>this (UInt8.toNat_inj.1 e)
      simp
      omega
     ·exact .inl (by simp;omega)
    clear hz;rcases hcut.out with t1|⟨t1,t2⟩
    all_goals
     clear hcut;go_enter Tryz.func128,Tryz.ntmps128
     go_wp2_with (first|(go_at_call 83;refine(x7! s w hs).mono ?_;rintro e w'⟨rfl,rfl⟩;rw[HX.out]))
     clear t1
     try clear t2
     go_loop [4,26] (λv i=>∃(k:Nat) (a:Int),k<=s.size∧i=.I k∧v=.I a∧0<=a∧a<=2147483647∧Hid (numF a (s.data.toList.drop k)=numS s.data.toList)) (λ_ i=>s.size-(intOf i).toNat)
     case atStart=>exact⟨0,0,by omega,rfl,rfl,by omega,by omega,by rw[Hid,HN.out];rfl⟩
     case round=>
      obtain⟨k,a,hk,rfl,rfl,ha0,ha1,hf⟩:=hrel;clear HN
      by_cases hlt:k<s.size
      ·have hs':=c11! a s.data.toList (k:=k) (by rw[b1!];exact hlt)
       have hd:=HD.out _ (List.getElem_mem (l:=s.data.toList) (n:=k) (by rw[b1!];exact hlt));have hsk:s.data.toList[k]'(by rw[b1!];exact hlt)=s[k]:=rfl;rw[hsk]at hs' hd;rw[l4!]at hd;obtain⟨x,hx⟩:∃x:Nat,s[k].toNat=x:=⟨_,rfl⟩
       rw[hx]at hs' hd;obtain⟨hd0,hd1⟩:=hd;have hd0':(48:Int)<=(x:Int):=by omega
       have hd1':(x:Int)<=57:=by omega
       have HS:=h! hs';clear hs' hsk hc0
       by_cases hgt:2147483647<10*a+((x:Int)-48)
       ·have hres:numS s.data.toList=(0,2):=by rw[<-hf.out,HS.out,if_pos hgt]
        have HRES:=h! hres;clear hres;go_wp2_with fail
        go_ret2
        exact⟨by rw[HRES.out];rfl,rfl⟩
       ·have hres:numF (10*a+((x:Int)-48)) (s.data.toList.drop (k+1))=numS s.data.toList:=by rw[<-hf.out,HS.out,if_neg hgt]
        have HRES:=h! hres;clear hres;have hle:10*a+((x:Int)-48)<=2147483647:=by omega
        go_wp2_with fail
        go_round
        case rel=>exact⟨k+1,10*a+((x:Int)-48),by omega,by go_num,rfl,by omega,hle,HRES⟩
        case measure=>simp[intOf];omega
      ·obtain rfl:k=s.size:=by omega
       have hres:numS s.data.toList=(a,0):=by
        rw[<-hf.out,List.drop_of_length_le (by rw[b1!];omega)]
        rfl
       have HRES:=h! hres;clear hres;go_wp2_with fail
       go_ret2
       exact⟨by rw[HRES.out];rfl,rfl⟩
  ·obtain⟨t,ht⟩:∃t,s.extract 0 (preN digB s.data.toList)=t:=⟨_,rfl⟩
   have hn:numS s.data.toList=(0,3):=by
    unfold numS;rw[if_pos (.inr (.inl (by rw[b1!];exact hd)))]
   have htn:¬t.toList=s.toList:=by
    rw[tl_eq,tl_eq]
    intro h
    have h2:=j2! h;rw[<-ht]at h2;have h3:=congrArg ByteArray.size h2;have:=j1! digB s.data.toList;rw[b1!]at this
    simp at h3
    omega
   have HN:=h! hn;have HT:=h! ht;clear hn ht;go_enter Tryz.func128,Tryz.ntmps128
   go_wp2_with (first|(go_at_call 83;refine(x7! s w hs).mono ?_;rintro e w'⟨rfl,rfl⟩;rw[HT.out]))
   go_ret2
   exact⟨by rw[HN.out];rfl,rfl⟩
def inL(l:List ByteArray)(s:ByteArray):Bool:=(l.map (·.data.toList)).contains s.data.toList
theorem a42!{l:List ByteArray}:inL l s=true↔s∈l:=by
 unfold inL
 rw[List.contains_iff_mem,List.mem_map]
 constructor
 ·rintro⟨a,ha,he⟩
  have:a=s:=by
   obtain⟨⟨x⟩⟩:=a;obtain⟨⟨y⟩⟩:=s
   simp at he
   subst he
   rfl
  rw[<-this];exact ha
 ·intro h
  exact⟨s,h,rfl⟩
theorem c12!{l:List ByteArray}:inL l s=false↔s∉l:=by
 rw[<-a42!]
 simp
def SetIs(w:World)(r:Nat)(l:List ByteArray):Prop:=∃(es:Array MapEntry) (c:Nat),w.heap[r]?=some (.map es c)∧es.toList.map (λe=>(e.key,e.val))=l.map λs=>(Value.string s,Value.bool true)
section
variable {w w':World} {r:Nat} {l:List ByteArray}
theorem SetIs.lt(h:SetIs w r l):r<w.heap.size:=by
 obtain⟨es,c,h,_⟩:=h
 exact(Array.getElem?_eq_some_iff.1 h).1
theorem SetIs.kept(h:SetIs w r l)(hk:Kept S w w')(hs:¬S r):SetIs w' r l:=by
 have hl:=h.lt
 obtain⟨es,c,h,h2⟩:=h
 exact⟨es,c,(hk.block r hl hs).trans h,h2⟩
theorem SetIs.below(h:SetIs w r l)(hb:Below w.heap.size w w'):SetIs w' r l:=h.kept (Kept.of_below (S:=λ_=>False) hb) (λh=>h)
theorem SetIs.new(w:World):SetIs (w.alloc (.map #[] 0)) w.heap.size []:=⟨#[],0,heap_alloc_new w _,rfl⟩
theorem SetIs.keys{es:Array MapEntry}(h:es.toList.map (λe=>(e.key,e.val))=l.map λs=>(Value.string s,Value.bool true)):∀x∈es.toList,Go.MapKept.IsKey .string x.key∧x.val=.bool true∧∃s∈l,x.key=.string s:=by
 intro x hx
 have:(x.key,x.val)∈l.map λs=>(Value.string s,Value.bool true):=by rw[<-h];exact List.mem_map.2 ⟨x,hx,rfl⟩
 obtain⟨s,hs,he⟩:=List.mem_map.1 this
 injection he with h1 h2
 exact⟨by rw[<-h1];trivial,h2.symm,s,hs,h1.symm⟩
theorem SetIs.has{es:Array MapEntry}(h:es.toList.map (λe=>(e.key,e.val))=l.map λs=>(Value.string s,Value.bool true))(hs:s∈l):∃x∈es.toList,x.key=.string s:=by
 have:(Value.string s,Value.bool true)∈es.toList.map (λe=>(e.key,e.val)):=by rw[h];exact List.mem_map.2 ⟨s,hs,rfl⟩
 obtain⟨x,hx,he⟩:=List.mem_map.1 this
 injection he with h1 h2
 exact⟨x,hx,h1⟩
theorem SetIs.find{es:Array MapEntry}(h:es.toList.map (λe=>(e.key,e.val))=l.map λs=>(Value.string s,Value.bool true))(s:ByteArray):
 (s∉l∧Instr.findNow .string (.string s) es.toList 0=some none)∨(s∈l∧∃j,Instr.findNow .string (.string s) es.toList 0=some (some (j,.bool true))):=by
 rcases Go.MapKept.findNow_spec (d:=.string) (k:=.string s) trivial es.toList 0 (λx hx=>(SetIs.keys h x hx).1)with ⟨h1,h2⟩|⟨j,e,h1,h2,h3⟩
 ·refine .inl ⟨λhs=>?_,h1⟩
  obtain⟨x,hx,he⟩:=SetIs.has h hs;exact h2 x hx he
 ·have he:e∈es.toList:=List.mem_of_getElem? h2
  obtain⟨_,hv,s',hs',hk⟩:=SetIs.keys h e he;rw[h3]at hk;injection hk with hk;subst hk;exact .inr ⟨hs',0+j,by rw[h1,hv]⟩
variable {P:Program}
theorem SetIs.lookup(h:SetIs w r l){k:TypeId}(ht:P.underlying t=some (.map k e))(hk:P.underlying k=some .string)(hz:(zeroValue e).run P w=.ok (.bool false) w)(s:ByteArray):
 (Instr.lookup t (.map (some r)) (.string s) false).run P w=.ok (.bool (inL l s)) w:=by
 obtain⟨es,c,hm,hl⟩:=h
 unfold Instr.lookup
 rcases SetIs.find hl s with ⟨h1,h2⟩|⟨h1,j,h2⟩
 ·rw[c12!.2 h1]
  simp[run_underlying ht,Go.MapKept.run_getObj_map hm,Go.MapKept.run_checkKey (P:=P) (w:=w) hk (k:=.string s) trivial,Go.MapKept.run_findKey hk h2,Result.andThen,hz]
 ·rw[a42!.2 h1]
  simp[run_underlying ht,Go.MapKept.run_getObj_map hm,Go.MapKept.run_checkKey (P:=P) (w:=w) hk (k:=.string s) trivial,Go.MapKept.run_findKey hk h2,Result.andThen]
theorem c13!{ops:Array Oper}{rest:List Oper}{o:Oper}{a:Act}{Q:Exit->Act->World->Prop}(hgd:Region.wanted o (yielded ops a.tmps)=true)(m x y:Operand){k:TypeId}(r:Nat)(l:List ByteArray)(s:ByteArray)
 (ho:o.op=.mapUpdate t m x y) (hd:o.dst=none) (ht:P.underlying t=some (.map k e)) (hk:P.underlying k=some .string) (hm:SetIs w r l) (em:a.eval m=.map (some r)) (ex:a.eval x=.string s) (ey:a.eval y=.bool true) (hs:s∉l)
 (h:∀w',SetIs w' r (l++[s])->Kept (λz=>z=r) w w'->wpList P ops Q rest a w'):wpList P ops Q (o::rest) a w:=by
 obtain⟨es,c,hh,hl⟩:=hm
 rcases SetIs.find hl s with ⟨h1,h2⟩|⟨h1,_⟩
 ·refine BigFrame.wpList_want hgd λK hK=>?_
  have hr:(Instr.mapUpdate t (.map (some r)) (.string s) (.bool true)).run P w=.ok () {w with heap:=w.heap.setIfInBounds r (.map (es.push {key:=.string s,val:=.bool true,born:=c}) (c+1))}:=by
   unfold Instr.mapUpdate
   simp only[run_underlying ht,Sem.run_bind,Result.andThen_ok,Go.MapKept.run_getObj_map hh,Go.MapKept.run_checkKey (P:=P) (w:=w) hk (k:=.string s) trivial,Go.MapKept.run_findKey hk h2,Go.MapKept.run_setObj_map _ hh]
  have hb:=Go.MapKept.heap_set (o':=.map (es.push {key:=.string s,val:=.bool true,born:=c}) (c+1)) hh;have hw:=h {w with heap:=w.heap.setIfInBounds r (.map (es.push {key:=.string s,val:=.bool true,born:=c}) (c+1))} ⟨_,_,hb.1,by simp[hl]⟩ ⟨rfl,rfl,rfl,by simp,λz _ hz=>hb.2 z hz⟩;unfold Oper.wp
  simp only[execOp,ho,em,ex,ey,hr,Sem.run_bind,Result.andThen_ok,Sem.run_pure,Oper.upon,hd]
  exact hK _ _ hw
 ·exact absurd h1 hs
end
theorem c14!(t k e:TypeId)(kd:IntKind)(n:Int)(ht:P.underlying t=some (.map k e))(w:World):
 (Instr.makeMap t (some (.int kd n))).run P w=.ok (.map (some w.heap.size)) (w.alloc (.map #[] 0)):=by
 simp[Instr.makeMap,run_underlying ht];rfl
def c15!(w:World)(l:List ByteArray)(e:Ending)(w':World):Prop:=∃r,e=.returned (.map (some r))∧SetIs w' r l∧w.heap.size<=r∧Below w.heap.size w w'
theorem a43!(A:Option Addr)(n c:Nat)(l:List ByteArray)(w:World)(hr:RV w A n (l.map Value.string))(hd:l.Nodup)(hn:n<=1000):
 Calls Tryz.prog 122 #[.slice A n c] w (c15! w l):=by
 have hmk:=λW=>c14! (P:=Tryz.prog) 151 _ _ .i64 (n:Int) Tryz.underlying151 W
 have hln:l.length=n:=by have:=hr.len;simp at this;omega
 have HR:=h! hr
 have HD:=h! hd
 have HL:=h! hln
 clear hr hd hln
 go_enter Tryz.func122,Tryz.ntmps122
 go_wp2_with fail
 go_loopw [11] (λi wr=>∃k:Nat,k<=n∧i=.I k∧Hid (SetIs wr w.heap.size (l.take k))∧Below w.heap.size w wr) (λi _=>n-(intOf i).toNat)
 case atStart=>exact⟨0,by omega,rfl,SetIs.new w,(Below.refl _ w).al _⟩
 case round=>
  obtain⟨k,hk,rfl,hs,hb⟩:=hrel;clear hmk
  by_cases hlt:k<n
  ·obtain⟨b,o,rfl,hbl,hkl,hc⟩:=(HR.out.below hb).at_ hlt
   have hkl':k<l.length:=by simpa using hkl
   have hnd:l[k]∉l.take k:=by
    intro hm
    have h1:=List.take_append_drop k l;have h2:=HD.out;rw[<-h1,List.nodup_append]at h2;exact h2.2.2 _ hm _ (by rw[List.drop_eq_getElem_cons hkl'];exact List.mem_cons_self ..) rfl
   have HT:=h! (List.take_succ_eq_append_getElem hkl')
   simp only[List.getElem_map]at hc
   have HN:=h! hnd;clear hnd;generalize l[k]=s at*;have g1:(k:Int)<(n:Int):=by omega
   go_wp2_with (first|((with_reducible show wpList _ _ _ (⟨none,Op.mapUpdate _ (.tmp 15) (.tmp 16) _,_,_,_,_⟩::_) _ _);refine c13! (by rfl) (.tmp 15) (.tmp 16) _ w.heap.size (l.take k) s rfl rfl Tryz.underlying151 Tryz.underlying9 hs.out rfl rfl rfl HN.out ?_;intro w2 s2 k2))
   have s3:Hid (SetIs w2 w.heap.size (l.take (k+1))):=by rw[Hid,HT.out];exact s2
   clear s2 hc hs;go_wp2_with fail
   go_roundw
   case rel=>exact⟨k+1,by omega,by go_num,s3,hb.trans (k2.to_below hb.size (λq hq e=>by omega))⟩
   case measure=>simp[intOf];omega
  ·obtain rfl:k=n:=by omega
   have h3:=hs.out;rw[List.take_of_length_le (by rw[HL.out];omega)]at h3;have H3:=h! h3;clear h3 hs;go_wp2_with fail
   go_ret
   exact⟨w.heap.size,rfl,H3.out,Nat.le_refl _,hb⟩
end Go.Proofs.YtdgekckedchjbaaGreatDoor
