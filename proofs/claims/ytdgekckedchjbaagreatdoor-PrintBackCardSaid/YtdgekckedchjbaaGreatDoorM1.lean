
/-
 The chapter's examples: known. Numbers in decimals, and what their texts are read as. LexNumbers: the walk. package lex: Same. The parser in memory; which token comes next. The parser: opens, wrong, skip, must, take. Trees in memory; what the parser's plain and join give. Trees of any shape in memory. No program is named here. How trees are written, in plain Lean: expressions of any shape, statements, programs. No program is named here.
-/
import Derived.Test.YtdgekckedchjbaaGreatDoorQB
import Derived.Laws.StructEq
import Derived.Laws.IdiomStrings
import Derived.Lib.AppendStr
import Derived.MapKept
import Derived.Laws.MakeOwn
import Derived.BigQuiet
import Derived.Deep.QuietTactic
import Derived.Lib.ItoaNum
import Derived.Lib.Repeat
import Derived.Lib.Join
namespace Go.Proofs.YtdgekckedchjbaaGreatDoor
open Go.RowKit
variable {l:List UInt8} {ts:List Tk} {w w':World} {e:Ending} {n:Nat} {A:Option Addr}
theorem c31!(h:lexS l=.ok ts)(hp:k3! l w e w'):∃A c,e=.returned (.tuple #[.slice A ts.length c,.agg #[.I 0,.I 0],.I 0])∧OT w' w.heap.size (.slice A ts.length c) ts∧Below w.heap.size w w':=by
 unfold k3! at hp
 rw[h]at hp
 exact hp
theorem c32!{line col er:Int}(h:lexS l=.err line col er)(hp:k3! l w e w'):e=.returned (.tuple #[.N,.agg #[.I line,.I col],.I er])∧Below w.heap.size w w':=by
 unfold k3! at hp
 rw[h]at hp
 exact hp
theorem OT.addr{base c:Nat}(h:OT w base (.slice A n c) ts)(hn:0<n):∃g,A=some ⟨g,0,none⟩∧base<=g∧g<w.heap.size∧n=ts.length∧n<=c∧c<=9223372036854775807∧∀j u,(b8! ts)[j]?=some u->w.cell? ⟨g,j,none⟩=some u:=by
 have h':=h
 rcases h.2 with ⟨h0,_⟩|⟨g,cap,cur,hv,hg,hh,hnc,hcm,hcz,htk⟩
 ·simp at h0
  omega
 ·simp only[Value.slice.injEq]at hv
  obtain⟨rfl,rfl,rfl⟩:=hv;have hlt:g<w.heap.size:=Blk.lt (t:=122) (cs:=cur) hh;refine⟨g,rfl,hg,hlt,rfl,hnc,by unfold maxLen at hcm;omega,λj u hu=>?_⟩;have:=World.ownsRow.cells h' (g:=g) rfl j u hu;rw[Addr.add_lit,Nat.zero_add]at this;exact this
theorem a54!{p:UInt8->Bool}(h:∀c∈l,p c=true):preN p l=l.length:=
 h0! (Nat.le_refl _) (λj hj _=>h _ (List.getElem_mem hj)) (λhj=>absurd hj (by omega))
def valD(l:List UInt8):Nat:=l.foldl (λa c=>10*a+(c.toNat-48)) 0
theorem foldD(l:List UInt8):∀a:Nat,l.foldl (λa c=>10*a+(c.toNat-48)) a=a*10^l.length+valD l:=by
 induction l with
 |nil=>intro a;simp[valD]
 |cons c l ih=>
  intro a
  unfold valD;rw[List.foldl_cons,List.foldl_cons,ih,ih (10*0+(c.toNat-48)),List.length_cons,Nat.pow_succ];have e:(10*a+(c.toNat-48))*10^l.length=a*(10^l.length*10)+(c.toNat-48)*10^l.length:=by
   rw[Nat.add_mul,Nat.mul_comm 10 a,Nat.mul_assoc,Nat.mul_comm 10 (10^l.length)]
  rw[e]
  simp only[Nat.mul_zero,Nat.zero_add]
  omega
theorem c33!(c:UInt8)(l:List UInt8):valD (c::l)=(c.toNat-48)*10^l.length+valD l:=by
 have:=foldD l (10*0+(c.toNat-48))
 unfold valD
 rw[List.foldl_cons,this]
 simp[valD]
theorem n1!(a b:List UInt8):str a++str b=str (a++b):=by
 apply j2!
 rw[str_list]
 simp[str]
theorem a55!(l:List UInt8):(str l).toList=l:=by rw[tl_eq,str_list]
theorem str_size(l:List UInt8):(str l).size=l.length:=by rw[<-b1!,str_list]
theorem a56!(W:World)(x:Int)(h0:0<=x)(h1:x<=255):(convert 64 9 (.slice (some ⟨W.heap.size,0,none⟩) 1 1)).run Tryz.prog (W.alloc (.cells #[.int .u8 x] 5))=.ok (.string (str [UInt8.ofNat x.toNat])) (W.alloc (.cells #[.int .u8 x] 5)):=by
 refine run_convert_bytes_back _ 64 9 5 ⟨W.heap.size,0,none⟩ 1 [UInt8.ofNat x.toNat] Tryz.underlying64 Tryz.underlying5 Tryz.underlying9 ?_
 intro j hj
 match j,hj with
 |0,_=>
  have:=(Blk.new W 5 #[.int .u8 x]).cell 0;rw[Addr.add_lit];refine this.trans ?_
  simp[UInt8.toNat_ofNat']
  omega
structure Dec (N m:Nat) (t:List UInt8):Prop where
 dig:∀c∈t,digB c=true
 val:N=m*10^t.length+valD t
 head:t≠[]->m=0->t.length=1∨t.head?≠some 48
 few:t.length<=11
theorem Dec.start(N:Nat):Dec N N []:=⟨by simp,by simp[valD],λh=>absurd rfl h,by simp⟩
theorem Dec.step{N m:Nat}{t:List UInt8}(h:Dec N m t)(hN:N<100000000000)(hm:t=[]∨0<m):Dec N (m/10) (UInt8.ofNat (48+m%10)::t):=by
 have hc:(UInt8.ofNat (48+m%10)).toNat=48+m%10:=by rw[UInt8.toNat_ofNat'];omega
 have hv:=h.val
 have hfew:t.length<=10:=by
  rcases hm with rfl|hm
  ·simp
  ·rcases Nat.lt_or_ge t.length 11 with h1|h1
   ·omega
   ·exfalso
    have h2:10^11<=10^t.length:=Nat.pow_le_pow_right (by omega) h1;have h3:10^t.length<=m*10^t.length:=Nat.le_mul_of_pos_left _ hm;have h4:(10:Nat)^11=100000000000:=by decide
    omega
 refine⟨?_,?_,?_,by simp;omega⟩
 ·intro c hcm
  rcases List.mem_cons.1 hcm with rfl|h1
  ·rw[l4!,hc];omega
  ·exact h.dig c h1
 ·rw[c33!,hc,List.length_cons,Nat.pow_succ,hv]
  have e:m=10*(m/10)+m%10:=by omega
  generalize 10^t.length=p;generalize valD t=v;have e2:m*p=(10*(m/10)+m%10)*p:=by rw[<-e]
  rw[e2,Nat.add_mul];have e3:48+m%10-48=m%10:=by omega
  rw[e3,Nat.mul_comm p 10,<-Nat.mul_assoc,Nat.mul_comm (m/10) 10]
  omega
 ·intro _ hz
  rcases hm with rfl|hm
  ·exact .inl (by simp)
  ·right
   simp only[List.head?_cons,ne_eq,Option.some.injEq]
   intro he
   have:=congrArg UInt8.toNat he;rw[hc]at this
   simp at this
   omega
theorem Reads.chunk{B s:Nat}{xs cs:List Value}(h:Reads w B s A n xs)(hs:0<s){k:Nat}(hk:k<n)(hcs:(xs.drop (k*s)).take s=cs):
 ∃b o,A=some ⟨b,o,none⟩∧b<B∧∀j u,cs[j]?=some u->w.cell? ⟨b,o+k*s+j,none⟩=some u:=by
 obtain⟨ad,rfl,hb,hc⟩:=h.2 (by omega)
 have hlen:k*s+s<=xs.length:=by
  rw[h.1];have h1:k*s+s=(k+1)*s:=by rw[Nat.add_mul,Nat.one_mul]
  rw[h1];exact Nat.mul_le_mul_right _ hk
 have h0:=hc 0 _ (List.getElem?_eq_getElem (by omega))
 obtain⟨b,o,spot⟩:=ad
 have hspot:spot=none:=by simpa[Addr.add]using World.cell?_spot h0
 subst hspot
 refine⟨b,o,rfl,hb,λj u hu=>?_⟩
 rw[<-hcs,List.getElem?_take]at hu
 split at hu
 ·rw[List.getElem?_drop]at hu
  have:=hc _ u hu;rw[Addr.add_lit]at this;rw[Nat.add_assoc];exact this
 ·cases hu
theorem u1!:∀(ts:List Tk) (k:Nat) (h:k<ts.length),((b8! ts).drop (k*5)).take 5=b7! (ts[k]'h)
 |t::ts,0,_=>by simp[b8!,b7!]
 |t::ts,k+1,h=>by
  have e:b8! (t::ts)=b7! t++b8! ts:=rfl;have e2:(b7! t).length=5:=rfl;have e3:(b7! t++b8! ts).drop ((k+1)*5)=(b8! ts).drop (k*5):=by
   rw[List.drop_append,List.drop_eq_nil_of_le (by rw[e2];omega),e2,List.nil_append]
   congr 1
   omega
  rw[e,e3,List.getElem_cons_succ];exact u1! ts k (by simpa using h)
def Tk.bare(t:Tk):Int×List UInt8×Int:=(t.kind,t.text,t.n)
def sameT(a b:List Tk):Bool:=decide (a.map Tk.bare=b.map Tk.bare)
end Go.Proofs.YtdgekckedchjbaaGreatDoor
set_option maxHeartbeats 1000000
set_option maxRecDepth 100000
namespace Go.Proofs.YtdgekckedchjbaaGreatDoor
open Go.RowKit
variable {a d v:Value} {B M b base base' c g i len n s size:Nat} {D E S:Nat->Prop} {t:Tk} {e:TypeId} {w w':World} {A:Option Addr} {c1 cs cs' xs:List Value} {r ts:List Tk} {x:List UInt8} {dp er:Int}
def DictIs(w:World)(r:Nat)(l:List (List UInt8×Int)):Prop:=
 (l.map Prod.fst).Nodup∧∃(es:Array MapEntry) (c:Nat),w.heap[r]?=some (.map es c)∧es.toList.map (λe=>(e.key,e.val))=l.map λs=>(Value.string (str s.1),Value.int .i64 s.2)
section
variable {w w':World} {r:Nat} {l:List (List UInt8×Int)}
theorem j3!{a b:List UInt8}(h:str a=str b):a=b:=by
 have:=congrArg (λs:ByteArray=>s.data.toList) h
 simpa[str]using this
theorem DictIs.lt(h:DictIs w r l):r<w.heap.size:=by
 obtain⟨_,es,c,h,_⟩:=h
 exact(Array.getElem?_eq_some_iff.1 h).1
theorem DictIs.kept(h:DictIs w r l)(hk:Kept S w w')(hs:¬S r):DictIs w' r l:=by
 have hl:=h.lt
 obtain⟨hn,es,c,h,h2⟩:=h
 exact⟨hn,es,c,(hk.block r hl hs).trans h,h2⟩
theorem DictIs.new(w:World):DictIs (w.alloc (.map #[] 0)) w.heap.size []:=⟨List.nodup_nil,#[],0,heap_alloc_new w _,rfl⟩
theorem DictIs.keys{es:Array MapEntry}(h:es.toList.map (λe=>(e.key,e.val))=l.map λs=>(Value.string (str s.1),Value.int .i64 s.2)):∀x∈es.toList,Go.MapKept.IsKey .string x.key∧∃s∈l,x.key=.string (str s.1)∧x.val=.I s.2:=by
 intro x hx
 have:(x.key,x.val)∈l.map λs=>(Value.string (str s.1),Value.int .i64 s.2):=by rw[<-h];exact List.mem_map.2 ⟨x,hx,rfl⟩
 obtain⟨s,hs,he⟩:=List.mem_map.1 this
 injection he with h1 h2
 exact⟨by rw[<-h1];trivial,s,hs,h1.symm,h2.symm⟩
theorem c34!{l:List (List UInt8×Int)}(hn:(l.map Prod.fst).Nodup){s:List UInt8×Int}(hs:s∈l):l.lookup s.1=some s.2:=by
 induction l with
 |nil=>simp at hs
 |cons a l ih=>
  rw[List.map_cons,List.nodup_cons]at hn;rcases List.mem_cons.1 hs with rfl|h
  ·simp[List.lookup]
  ·have hne:s.1≠a.1:=λe=>hn.1 (List.mem_map.2 ⟨s,h,e⟩)
   rw[List.lookup,show (s.1==a.1)=false from by simp[hne]];exact ih hn.2 h
theorem c35!{l:List (List UInt8×Int)}{k:List UInt8}(h:∀s∈l,s.1≠k):l.lookup k=none:=by
 induction l with
 |nil=>rfl
 |cons a l ih=>
  have h1:=h a (List.mem_cons_self ..);rw[List.lookup,show (k==a.1)=false from by simp;exact λe=>h1 e.symm];exact ih λs hs=>h s (List.mem_cons_of_mem _ hs)
theorem DictIs.find(hn:(l.map Prod.fst).Nodup){es:Array MapEntry}(h:es.toList.map (λe=>(e.key,e.val))=l.map λs=>(Value.string (str s.1),Value.int .i64 s.2))(k:List UInt8):
 (l.lookup k=none∧Instr.findNow .string (.string (str k)) es.toList 0=some none)∨(∃v j,l.lookup k=some v∧Instr.findNow .string (.string (str k)) es.toList 0=some (some (j,.I v))):=by
 rcases Go.MapKept.findNow_spec (d:=.string) (k:=.string (str k)) trivial es.toList 0 (λx hx=>(DictIs.keys h x hx).1)with ⟨h1,h2⟩|⟨j,e,h1,h2,h3⟩
 ·refine .inl ⟨c35! λs hs hk=>?_,h1⟩
  have:(Value.string (str s.1),Value.int .i64 s.2)∈es.toList.map (λe=>(e.key,e.val)):=by rw[h];exact List.mem_map.2 ⟨s,hs,rfl⟩
  obtain⟨x,hx,he⟩:=List.mem_map.1 this;injection he with h4 h5;exact h2 x hx (by rw[h4,hk])
 ·have he:e∈es.toList:=List.mem_of_getElem? h2
  obtain⟨_,s,hs,hk,hv⟩:=DictIs.keys h e he;rw[h3]at hk;injection hk with hk;have:=j3! hk;subst this;exact .inr ⟨s.2,0+j,c34! hn hs,by rw[h1,hv]⟩
variable {P:Program}
theorem DictIs.lookup(h:DictIs w r l){t k:TypeId}(ht:P.underlying t=some (.map k e))(hk:P.underlying k=some .string)(hz:(zeroValue e).run P w=.ok (.I 0) w)(s:List UInt8):
 (Instr.lookup t (.map (some r)) (.string (str s)) true).run P w=.ok (.tuple #[.I ((l.lookup s).getD 0),.bool (l.lookup s).isSome]) w:=by
 obtain⟨hn,es,c,hm,hl⟩:=h
 unfold Instr.lookup
 rcases DictIs.find hn hl s with ⟨h1,h2⟩|⟨v,j,h1,h2⟩
 ·rw[h1]
  simp[run_underlying ht,Go.MapKept.run_getObj_map hm,Go.MapKept.run_checkKey (P:=P) (w:=w) hk (k:=.string (str s)) trivial,Go.MapKept.run_findKey hk h2,Result.andThen,hz]
 ·rw[h1]
  simp[run_underlying ht,Go.MapKept.run_getObj_map hm,Go.MapKept.run_checkKey (P:=P) (w:=w) hk (k:=.string (str s)) trivial,Go.MapKept.run_findKey hk h2,Result.andThen]
end
structure ParS (w:World) (g:Nat) (A:Option Addr) (m:Nat->Nat) (ts:List Tk):Prop where
 rd:Reads w w.heap.size 5 A ts.length (b8! ts)
 far:∀a,A=some a->a.block≠g
 dict:∀k,k<5->DictIs w (m k) (lvlT k)
 mfar:∀k,k<5->m k≠g
 lim:ts.length<=70000
 ends:∃us L C,ts=us++[⟨0,[],0,L,C⟩]
def a2!(A:Option Addr)(n c:Nat)(m:Nat->Nat)(i:Nat)(dp er:Int):Array Value:=
 #[.slice A n c,.I i,.I dp,.map (some (m 0)),.map (some (m 1)),.map (some (m 2)),.map (some (m 3)),.map (some (m 4)),.I er]
structure Par (w:World) (g:Nat) (A:Option Addr) (c:Nat) (m:Nat->Nat) (ts:List Tk) (i:Nat) (dp er:Int):Prop where
 st:ParS w g A m ts
 blk:Blk w g 119 (a2! A ts.length c m i dp er)
 at_:i<ts.length
theorem Reads.keptfar(h:Reads w w.heap.size s A n xs)(hk:Kept S w w')(hf:∀a,A=some a->¬S a.block):Reads w' w'.heap.size s A n xs:=
 ⟨h.1,λhn=>by
  obtain⟨ad,e,hb,hc⟩:=h.2 hn;exact⟨ad,e,Nat.lt_of_lt_of_le hb hk.size,λj u hu=>by
   have e1:(ad.add j).block=ad.block:=by first|rfl|(unfold Addr.add;split<;>rfl)
   exact(hk.cell (p:=ad.add j) (by rw[e1];exact hb) (by rw[e1];exact hf ad e)).trans (hc j u hu)⟩⟩
section
variable {w w':World} {g c:Nat} {A:Option Addr} {m:Nat->Nat} {ts:List Tk} {i:Nat} {dp er:Int}
theorem ParS.kept(h:ParS w g A m ts)(hk:Kept S w w')(hs:∀k,k<w.heap.size->S k->k=g):ParS w' g A m ts:=
 ⟨by
  have hk':Kept (λz=>z=g) w w':=hk.mono hs;exact Reads.keptfar h.rd hk' h.far,h.far,λk hk'=>(h.dict k hk').kept hk (λe=>h.mfar k hk' (hs _ (h.dict k hk').lt e)),h.mfar,h.lim,h.ends⟩
theorem Par.below(h:Par w g A c m ts i dp er)(hb:Below w.heap.size w w'):Par w' g A c m ts i dp er:=
 ⟨h.st.kept (Kept.of_below (S:=λ_=>False) hb) (λ_ _ h=>h.elim),h.blk.below hb h.blk.lt,h.at_⟩
theorem Par.drewN(h:Par w g A c m ts i dp er)(q:Nat):Par (w.drewN q) g A c m ts i dp er:=h.below (a5! (Below.refl _ _) q)
theorem ParS.tok(h:ParS w g A m ts)(ht:ts[i]?=some t):∃b o,A=some ⟨b,o,none⟩∧b<w.heap.size∧b≠g∧w.cell? ⟨b,o+i*5,none⟩=some (.I t.kind)∧w.cell? ⟨b,o+i*5+1,none⟩=some (.string (str t.text))∧
 w.cell? ⟨b,o+i*5+2,none⟩=some (.I t.n)∧w.cell? ⟨b,o+i*5+3,none⟩=some (.I t.line)∧w.cell? ⟨b,o+i*5+4,none⟩=some (.I t.col):=by
 obtain⟨hi,rfl⟩:=List.getElem?_eq_some_iff.1 ht
 obtain⟨b,o,rfl,hb,hc⟩:=h.rd.chunk (by omega) hi (u1! ts i hi)
 exact⟨b,o,rfl,hb,λe=>h.far _ rfl e,hc 0 _ rfl,hc 1 _ rfl,hc 2 _ rfl,hc 3 _ rfl,hc 4 _ rfl⟩
theorem a1!(ht:ts[i]?=some t):ts.drop i=t::ts.drop (i+1):=by
 obtain⟨hi,rfl⟩:=List.getElem?_eq_some_iff.1 ht
 exact List.drop_eq_getElem_cons hi
end
theorem c36!(w:World)(n q:Nat):(w.drewN n).drewN q=w.drewN (n+q):=by simp[World.drewN,Nat.add_assoc]
def Still(w:World)(v:Value)(e:Ending)(w':World):Prop:=e=.returned v∧∃q,w'=w.drewN q
theorem Still.in_{P:Program}{f:FuncId}{args:Array Value}(h:Calls P f args (w.drewN n) (Still (w.drewN n) v)):Calls P f args (w.drewN n) λe w''=>e=.returned v∧∃q,w''=w.drewN q:=
 h.mono λ_ _ ⟨he,q,hq⟩=>⟨he,n+q,by rw[hq,c36!]⟩
def nextB(t:Tk)(er k:Int):Bool:=(er==0)&&(t.kind==k)
theorem c9!(g c:Nat)(A:Option Addr)(m:Nat->Nat)(ts:List Tk)(i:Nat)(dp er k:Int)(w:World)(h:Par w g A c m ts i dp er)(t:Tk)(ht:ts[i]?=some t):
 Calls Tryz.prog 53 #[.pointer (some ⟨g,0,none⟩),.I k] w (Still w (.bool (nextB t er k))):=by
 obtain⟨b,o,rfl,hb,hbg,q0,q1,q2,q3,q4⟩:=h.st.tok ht
 have hi:=h.at_
 obtain⟨n,hn⟩:∃n,ts.length=n:=⟨_,rfl⟩
 have B:=h.blk
 rw[hn]at B hi
 obtain⟨c0,c1⟩:=B.A2
 have c8:=B.c8
 have g1:(0:Int)<=(i:Int):=by omega
 have g2:(i:Int)<(n:Int):=by omega
 clear q1 q2 q3 q4 B h hn ht
 by_cases he:er=0
 ·subst he
  go_enter Tryz.func53,Tryz.ntmps53;go_upto_region 1 with fail
  go_quiet (fail)
  go_wp2_with fail
  go_ret
  exact⟨by simp[nextB],_,rfl⟩
 ·have he':(er==0)=false:=by simp[he]
  go_enter Tryz.func53,Tryz.ntmps53;go_upto_region 1 with fail
  go_quiet (fail)
  go_wp2_with fail
  go_ret
  exact⟨by simp[nextB,he'],_,rfl⟩
def hasB(t:Tk)(er:Int)(x:List UInt8):Bool:=(er==0)&&((t.kind==3)||(t.kind==4))&&decide (t.text=x)
theorem j4!:hasB t 0 x=hasT x (t::r):=by
 simp only[hasB,hasT,beq_self_eq_true,Bool.true_and]
 congr 1
theorem c37!(a b:List UInt8):((str a).toList==(str b).toList)=decide (a=b):=by
 rw[ByteArray.toList_eq,ByteArray.toList_eq,str_list,str_list]
 by_cases h:a=b<;>simp[h]
theorem n2!(g c:Nat)(A:Option Addr)(m:Nat->Nat)(ts:List Tk)(i:Nat)(dp er:Int)(x:List UInt8)(w:World)(h:Par w g A c m ts i dp er)(t:Tk)(ht:ts[i]?=some t):
 Calls Tryz.prog 88 #[.pointer (some ⟨g,0,none⟩),.string (str x)] w (Still w (.bool (hasB t er x))):=by
 have N3:=h! (λq=>Still.in_ (c9! g c A m ts i dp er 3 (w.drewN q) (h.drewN q) t ht))
 have N4:=h! (λq=>Still.in_ (c9! g c A m ts i dp er 4 (w.drewN q) (h.drewN q) t ht))
 obtain⟨b,o,rfl,hb,hbg,q0,q1,q2,q3,q4⟩:=h.st.tok ht
 have hi:=h.at_
 obtain⟨n,hn⟩:∃n,ts.length=n:=⟨_,rfl⟩
 have B:=h.blk
 rw[hn]at B hi
 obtain⟨c0,c1⟩:=B.A2
 have g1:(0:Int)<=(i:Int):=by omega
 have g2:(i:Int)<(n:Int):=by omega
 have HB:Hid (hasB t er x=((nextB t er 3||nextB t er 4)&&decide (t.text=x))):=by
  simp only[hasB,nextB,Hid]
  cases (er==0)<;>simp
 have g3:=c37! t.text x
 generalize decide (t.text=x)=bx at*
 generalize nextB t er 3=b3 at*
 generalize nextB t er 4=b4 at*
 generalize hasB t er x=res at*
 clear q0 q2 q3 q4 B h hn ht
 cases b3<;>cases b4<;>
 ·go_enter Tryz.func88,Tryz.ntmps88
  go_upto_region 1 with fail
  go_quiet ((first
   |(go_at_call 53;with_reducible exact N3.out _)
   |(go_at_call 53;with_reducible exact N4.out _)))
  go_wp2_with fail
  go_ret
  exact⟨by rw[HB.out];simp,_,rfl⟩
section
variable {w w':World} {g c:Nat} {A:Option Addr} {m:Nat->Nat} {ts:List Tk} {i:Nat} {dp er:Int}
theorem ParS.more(h:ParS w g A m ts)(ht:ts[i]?=some t)(hk:t.kind≠0∨t.text≠[]):i+1<ts.length:=by
 obtain⟨us,L,C,e⟩:=h.ends
 obtain⟨hi,rfl⟩:=List.getElem?_eq_some_iff.1 ht
 rcases Nat.lt_or_ge (i+1) ts.length with h1|h1
 ·exact h1
 ·exfalso
  subst e;rw[List.length_append,List.length_singleton]at hi h1;have h2:i=us.length:=by omega
  subst h2
  simp at hk
theorem ParS.at_some(h:i<ts.length):∃t,ts[i]?=some t:=⟨_,List.getElem?_eq_getElem h⟩
theorem Par.put(h:Par w g A c m ts i dp er){i':Nat}{er':Int}(hi:i'<ts.length)(hb:Blk w' g 119 (a2! A ts.length c m i' dp er'))(hk:Kept (λz=>z=g) w w'):Par w' g A c m ts i' dp er':=
 ⟨h.st.kept hk (λ_ _ e=>e),hb,hi⟩
end
def openB(t:Tk)(er:Int):Bool:=nextB t er 2||nextB t er 1||hasB t er [40]||hasB t er [45]||hasB t er [110,111,116]
theorem j5!:openB t 0=openT (t::r):=by
 unfold openB openT
 rw[j4! (r:=r),j4! (r:=r),j4! (r:=r)]
 simp only[nextB,beq_self_eq_true,Bool.true_and]
 rfl
theorem j6!(g c:Nat)(A:Option Addr)(m:Nat->Nat)(ts:List Tk)(i:Nat)(dp er:Int)(w:World)(h:Par w g A c m ts i dp er)(t:Tk)(ht:ts[i]?=some t):
 Calls Tryz.prog 140 #[.pointer (some ⟨g,0,none⟩)] w (Still w (.bool (openB t er))):=by
 have N2:=h! (c9! g c A m ts i dp er 2 w h t ht)
 have N1:=h! (λq=>Still.in_ (c9! g c A m ts i dp er 1 (w.drewN q) (h.drewN q) t ht))
 have H1:Hid (∀q,Calls Tryz.prog 88 #[.pointer (some ⟨g,0,none⟩),.string ⟨#[40]⟩] (w.drewN q) λe w''=>e=.returned (.bool (hasB t er [40]))∧∃q,w''=w.drewN q):=λq=>Still.in_ (n2! g c A m ts i dp er [40] (w.drewN q) (h.drewN q) t ht)
 have H2:Hid (∀q,Calls Tryz.prog 88 #[.pointer (some ⟨g,0,none⟩),.string ⟨#[45]⟩] (w.drewN q) λe w''=>e=.returned (.bool (hasB t er [45]))∧∃q,w''=w.drewN q):=λq=>Still.in_ (n2! g c A m ts i dp er [45] (w.drewN q) (h.drewN q) t ht)
 have H3:Hid (∀q,Calls Tryz.prog 88 #[.pointer (some ⟨g,0,none⟩),.string ⟨#[110,111,116]⟩] (w.drewN q) λe w''=>e=.returned (.bool (hasB t er [110,111,116]))∧∃q,w''=w.drewN q):=λq=>Still.in_ (n2! g c A m ts i dp er [110,111,116] (w.drewN q) (h.drewN q) t ht)
 have HB:Hid (openB t er=(nextB t er 2||nextB t er 1||hasB t er [40]||hasB t er [45]||hasB t er [110,111,116])):=rfl
 generalize openB t er=res at*
 generalize nextB t er 2=b2 at*
 generalize nextB t er 1=b1 at*
 generalize hasB t er [40]=c1 at*
 generalize hasB t er [45]=c2 at*
 generalize hasB t er [110,111,116]=c3 at*
 clear h ht
 go_enter Tryz.func140,Tryz.ntmps140
 go_wp2_with fail
 refine N2.out.mono ?_
 rintro e w1⟨rfl,q1,rfl⟩
 cases b2
 ·go_wp2_with fail
  refine(N1.out q1).mono ?_;rintro e w1⟨rfl,q2,rfl⟩
  cases b1
  ·go_wp2_with fail
   refine(H1.out q2).mono ?_;rintro e w1⟨rfl,q3,rfl⟩
   cases c1
   ·go_wp2_with fail
    refine(H2.out q3).mono ?_;rintro e w1⟨rfl,q4,rfl⟩
    cases c2
    ·go_wp2_with fail
     refine(H3.out q4).mono ?_;rintro e w1⟨rfl,q5,rfl⟩;go_wp2_with fail
     go_ret
     exact⟨by rw[HB.out];rfl,_,rfl⟩
    ·go_wp2_with fail
     go_ret
     exact⟨by rw[HB.out];rfl,_,rfl⟩
   ·go_wp2_with fail
    go_ret
    exact⟨by rw[HB.out];rfl,_,rfl⟩
  ·go_wp2_with fail
   go_ret
   exact⟨by rw[HB.out];rfl,_,rfl⟩
 ·go_wp2_with fail
  go_ret
  exact⟨by rw[HB.out];rfl,_,rfl⟩
def ParTo(w:World)(g c:Nat)(A:Option Addr)(m:Nat->Nat)(ts:List Tk)(dp:Int)(v:Value)(i:Nat)(er:Int)(e:Ending)(w':World):Prop:=
 e=.returned v∧Par w' g A c m ts i dp er∧Kept (λz=>z=g) w w'
def b9!(t:Tk)(er:Int):Int:=if er=0 then (if t.kind=0 then 4 else 3)else er
theorem c38!:b9! t 0=d7! (t::r):=rfl
theorem f9!(g c:Nat)(A:Option Addr)(m:Nat->Nat)(ts:List Tk)(i:Nat)(dp er:Int)(w:World)(h:Par w g A c m ts i dp er)(t:Tk)(ht:ts[i]?=some t):
 Calls Tryz.prog 54 #[.pointer (some ⟨g,0,none⟩)] w (ParTo w g c A m ts dp (.tuple #[]) i (b9! t er)):=by
 obtain⟨b,o,rfl,hb,hbg,q0,q1,q2,q3,q4⟩:=h.st.tok ht
 have hi:=h.at_
 have PP:=h! (λ(er':Int) (w':World) hb hk=>h.put (w':=w') (i':=i) (er':=er') hi hb hk)
 have B:=h.blk
 unfold a2! at B PP
 obtain⟨n,hn⟩:∃n,ts.length=n:=⟨_,rfl⟩
 rw[hn]at B hi PP
 have HW:Hid (b9! t er=if er=0 then (if t.kind=0 then 4 else 3)else er):=rfl
 have HH:=h! h
 have BB:=h! B
 generalize b9! t er=res at*
 obtain⟨c0,c1⟩:=B.A2
 have c8:=B.c8
 have f8:=B.frozen 8
 have g1:(0:Int)<=(i:Int):=by omega
 have g2:(i:Int)<(n:Int):=by omega
 clear q1 q2 q3 q4 B h hn ht
 by_cases he:er=0
 ·subst he
  by_cases hk:t.kind=0
  ·have HR:Hid (res=4):=by rw[Hid,HW.out,if_pos rfl,if_pos hk]
   rw[hk]at q0;clear HW hk;go_enter Tryz.func54,Tryz.ntmps54;go_wp2_with fail
   go_quiet (fail)
   go_wp2_with fail
   go_end0
   exact⟨rfl,by rw[HR.out];exact PP.out _ _ ((BB.out.drewN nq).set_ 8 _) (((Kept.refl (λz=>z=g) w).drewN nq).setCell (p:=⟨g,8,none⟩) (λ_=>rfl) _),((Kept.refl (λz=>z=g) w).drewN nq).setCell (p:=⟨g,8,none⟩) (λ_=>rfl) _⟩
  ·have HR:Hid (res=3):=by rw[Hid,HW.out,if_pos rfl,if_neg hk]
   have hk':(t.kind==0)=false:=by simp[hk]
   clear HW;go_enter Tryz.func54,Tryz.ntmps54;go_wp2_with fail
   go_quiet (fail)
   go_wp2_with fail
   go_end0
   exact⟨rfl,by rw[HR.out];exact PP.out _ _ ((BB.out.drewN nq).set_ 8 _) (((Kept.refl (λz=>z=g) w).drewN nq).setCell (p:=⟨g,8,none⟩) (λ_=>rfl) _),((Kept.refl (λz=>z=g) w).drewN nq).setCell (p:=⟨g,8,none⟩) (λ_=>rfl) _⟩
 ·have HR:Hid (res=er):=by rw[Hid,HW.out,if_neg he]
  have he':(er==0)=false:=by simp[he]
  clear HW;go_enter Tryz.func54,Tryz.ntmps54;go_wp2_with fail
  go_end0
  exact⟨rfl,by rw[HR.out];exact HH.out,Kept.refl _ _⟩
theorem l6!(g c:Nat)(A:Option Addr)(m:Nat->Nat)(ts:List Tk)(i:Nat)(dp er:Int)(x:List UInt8)(w:World)(h:Par w g A c m ts i dp er)(t:Tk)(ht:ts[i]?=some t):
 Calls Tryz.prog 86 #[.pointer (some ⟨g,0,none⟩),.string (str x)] w (ParTo w g c A m ts dp (.bool (hasB t er x)) (if hasB t er x then i+1 else i) er):=by
 have HX:=h! (n2! g c A m ts i dp er x w h t ht)
 have HM:Hid (hasB t er x=true->i+1<ts.length):=λhb=>h.st.more ht (.inl λh0=>by
  unfold hasB at hb;rw[h0]at hb
  simp at hb)
 have B:=h.blk
 have lim:=h.st.lim
 have hi:=h.at_
 have HH:=h! h
 generalize hasB t er x=b at*
 have BB:=h! B
 unfold a2! at B
 clear h ht
 cases b
 ·go_enter Tryz.func86,Tryz.ntmps86
  go_wp2_with fail;refine HX.out.mono ?_;rintro e w1⟨rfl,q,rfl⟩;go_wp2_with fail
  go_ret
  exact⟨rfl,HH.out.drewN q,(Kept.refl _ w).drewN q⟩
 ·have hm:=HM.out rfl
  go_enter Tryz.func86,Tryz.ntmps86;go_wp2_with fail;refine HX.out.mono ?_;rintro e w1⟨rfl,q,rfl⟩;have c1:(w.drewN q).cell? ⟨g,1,none⟩=some (.I i):=B.cell 1;have f1:(w.drewN q).frozen? ⟨g,1,none⟩=false:=B.frozen 1;go_wp2_with fail
  go_ret
  refine⟨rfl,HH.out.put hm ?_ (((Kept.refl (λz=>z=g) w).drewN q).setCell (p:=⟨g,1,none⟩) (λ_=>rfl) _),((Kept.refl (λz=>z=g) w).drewN q).setCell (p:=⟨g,1,none⟩) (λ_=>rfl) _⟩;exact(BB.out.drewN q).set_ 1 _
def mustE(t:Tk)(er:Int)(x:List UInt8):Int:=if hasB t er x then er else b9! t er
theorem y1!(g c:Nat)(A:Option Addr)(m:Nat->Nat)(ts:List Tk)(i:Nat)(dp er:Int)(x:List UInt8)(w:World)(h:Par w g A c m ts i dp er)(t:Tk)(ht:ts[i]?=some t):
 Calls Tryz.prog 55 #[.pointer (some ⟨g,0,none⟩),.string (str x)] w (ParTo w g c A m ts dp (.tuple #[]) (if hasB t er x then i+1 else i) (mustE t er x)):=by
 have SK:=h! (l6! g c A m ts i dp er x w h t ht)
 have WR:=h! (λw' (h':Par w' g A c m ts i dp er)=>f9! g c A m ts i dp er w' h' t ht)
 unfold mustE
 generalize hasB t er x=b at*
 clear h ht
 cases b
 ·go_enter Tryz.func55,Tryz.ntmps55
  go_wp2_with fail;refine SK.out.mono ?_;rintro e w1⟨rfl,p1,k1⟩;go_wp2_with fail;refine(WR.out w1 p1).mono ?_;rintro e w2⟨rfl,p2,k2⟩;go_wp2_with fail
  go_end0
  exact⟨rfl,p2,k1.then_ k2 (λ_ _ e=>e)⟩
 ·go_enter Tryz.func55,Tryz.ntmps55
  go_wp2_with fail;refine SK.out.mono ?_;rintro e w1⟨rfl,p1,k1⟩;go_wp2_with fail
  go_end0
  exact⟨rfl,p1,k1⟩
theorem Blk.put5{t:TypeId}{b c e:Value}(h:Blk w g t #[a,b,c,d,e])(x0 x1 x2 x3 x4:Value):
 Blk (((((w.setCell ⟨g,0,none⟩ x0).setCell ⟨g,1,none⟩ x1).setCell ⟨g,2,none⟩ x2).setCell ⟨g,3,none⟩ x3).setCell ⟨g,4,none⟩ x4) g t #[x0,x1,x2,x3,x4]:=((((h.set_ 0 x0).set_ 1 x1).set_ 2 x2).set_ 3 x3).set_ 4 x4
theorem Kept.put5(w:World)(g:Nat)(x0 x1 x2 x3 x4:Value):Kept (λk=>k=g) w (((((w.setCell ⟨g,0,none⟩ x0).setCell ⟨g,1,none⟩ x1).setCell ⟨g,2,none⟩ x2).setCell ⟨g,3,none⟩ x3).setCell ⟨g,4,none⟩ x4):=
 (((((Kept.refl (λk=>k=g) w).setCell (p:=⟨g,0,none⟩) (λ_=>rfl) _).setCell (p:=⟨g,1,none⟩) (λ_=>rfl) _).setCell (p:=⟨g,2,none⟩) (λ_=>rfl) _).setCell (p:=⟨g,3,none⟩) (λ_=>rfl) _).setCell (p:=⟨g,4,none⟩) (λ_=>rfl) _
theorem Blk.e5{w:World}{g:Nat}{t:TypeId}{a0 a1 a2 a3 a4:Value}(h:Blk w g t #[a0,a1,a2,a3,a4])(x0 x1 x2 x3 x4:Value):∃w',((((w.setCell ⟨g,0,none⟩ x0).setCell ⟨g,1,none⟩ x1).setCell ⟨g,2,none⟩ x2).setCell ⟨g,3,none⟩ x3).setCell ⟨g,4,none⟩ x4=w'∧Blk w' g t #[x0,x1,x2,x3,x4]∧Kept (λk=>k=g) w w':=⟨_,rfl,h.put5 x0 x1 x2 x3 x4,Kept.put5 w g x0 x1 x2 x3 x4⟩
def tkVal(t:Tk):Value:=.agg #[.I t.kind,.string (str t.text),.I t.n,.I t.line,.I t.col]
def noTk:Tk:=⟨0,[],0,0,0⟩
theorem e9!(g c:Nat)(A:Option Addr)(m:Nat->Nat)(ts:List Tk)(i:Nat)(dp er k:Int)(w:World)(h:Par w g A c m ts i dp er)(t:Tk)(ht:ts[i]?=some t)(hk0:k≠0):
 Calls Tryz.prog 87 #[.pointer (some ⟨g,0,none⟩),.I k] w (ParTo w g c A m ts dp (tkVal (if nextB t er k then t else noTk)) (if nextB t er k then i+1 else i) (if nextB t er k then er else b9! t er)):=by
 have f0:=a! w (.cells #[.I 0,.E,.I 0,.I 0,.I 0] 122)
 have x0:=Blk.new w 122 #[.I 0,.E,.I 0,.I 0,.I 0]
 have h0:=h.below f0
 have hgl:=h.blk.lt
 have HGL:=h! hgl
 have HX:=h! (c9! g c A m ts i dp er k _ h0 t ht)
 have WR:=h! (λw' (h':Par w' g A c m ts i dp er)=>f9! g c A m ts i dp er w' h' t ht)
 have HM:Hid (nextB t er k=true->i+1<ts.length):=λhb=>h.st.more ht (.inl λh0=>by
  unfold nextB at hb;rw[h0]at hb
  simp at hb
  exact hk0 hb.2.symm)
 have lim:=h.st.lim
 have hi:=h.at_
 have HH:=h! h0
 have H0:=h! h
 have F0:=h! f0
 have X0:=h! x0
 generalize nextB t er k=b at*
 have z0:=f0.size
 clear h f0 x0
 cases b
 ·go_enter Tryz.func87,Tryz.ntmps87
  go_wp2_with fail;generalize w.alloc (.cells #[.I 0,.E,.I 0,.I 0,.I 0] 122)=W0 at*;refine HX.out.mono ?_;rintro e w1⟨rfl,q,rfl⟩;go_wp2_with fail;refine(WR.out _ (HH.out.drewN q)).mono ?_;rintro e w2⟨rfl,p2,k2⟩;have x2:=(X0.out.drewN q).kept k2 (by omega);obtain⟨s0,s1,s2,s3,s4⟩:=x2.A5;obtain⟨t0,t1,t2,t3,t4⟩:=x2.F5;have P2:=h! p2;have K2:=h! k2;clear p2 k2 HX WR HM HH;go_wp2_with fail;obtain⟨W9,e9,X9,K9⟩:=x2.e5 (.I 0) (.E) (.I 0) (.I 0) (.I 0);rw[e9];clear e9;clear s0 s1 s2 s3 s4;obtain⟨s0,s1,s2,s3,s4⟩:=X9.A5;have KK:Kept (λz=>z=g) w W9:=(((Kept.of_below (S:=λz=>z=g) F0.out).then_ ((Kept.refl (λz=>z=g) W0).drewN q) (λ_ _ e=>e)).then_ K2.out (λ_ _ e=>e)).then_ K9 (λz hz e=>by omega);refine bodyPost_ret (v:=tkVal noTk) (by simp[results,Tryz.results87,go_sem,s0,s1,s2,s3,s4,tkVal,noTk,str]) rfl ⟨rfl,?_,KK⟩;exact H0.out.put hi (P2.out.blk.kept K9 (by omega)) KK
 ·have hm:=HM.out rfl
  obtain⟨b,o,rfl,hb,hbg,q0,q1,q2,q3,q4⟩:=HH.out.st.tok ht;go_enter Tryz.func87,Tryz.ntmps87;go_wp2_with fail;generalize w.alloc (.cells #[.I 0,.E,.I 0,.I 0,.I 0] 122)=W0 at*;refine HX.out.mono ?_;rintro e w1⟨rfl,q,rfl⟩;have B:=HH.out.blk;unfold a2! at B;obtain⟨n,hn⟩:∃n,ts.length=n:=⟨_,rfl⟩
  rw[hn]at B hi hm lim;have c1:(W0.drewN q).cell? ⟨g,1,none⟩=some (.I i):=B.cell 1;have f1:(W0.drewN q).frozen? ⟨g,1,none⟩=false:=B.frozen 1;have HNN:=h! hn;clear HX WR HM hn;go_upto_region 5 with fail;have KB:=(((Kept.refl (λz=>z=g) W0).drewN q).setCell (p:=⟨g,1,none⟩) (λ_=>rfl) (.I ((i:Int)+1)));have B1:Blk ((W0.drewN q).setCell ⟨g,1,none⟩ (.I ((i:Int)+1))) g 119 #[.slice (some ⟨b,o,none⟩) n c,.I ((i:Int)+1),.I dp,.map (some (m 0)),.map (some (m 1)),.map (some (m 2)),.map (some (m 3)),.map (some (m 4)),.I er]:=(B.drewN q).set_ 1 _;generalize (W0.drewN q).setCell ⟨g,1,none⟩ (.I ((i:Int)+1))=W1 at*;have x2:=X0.out.kept KB (by have:=HGL.out;omega);obtain⟨d0,d1⟩:=B1.A2;have r0:=(KB.cell (p:=⟨b,o+i*5,none⟩) hb hbg).trans q0;have r1:=(KB.cell (p:=⟨b,o+i*5+1,none⟩) hb hbg).trans q1;have r2:=(KB.cell (p:=⟨b,o+i*5+2,none⟩) hb hbg).trans q2;have r3:=(KB.cell (p:=⟨b,o+i*5+3,none⟩) hb hbg).trans q3;have r4:=(KB.cell (p:=⟨b,o+i*5+4,none⟩) hb hbg).trans q4;obtain⟨s0,s1,s2,s3,s4⟩:=x2.A5;obtain⟨t0,t1,t2,t3,t4⟩:=x2.F5;have g1:(0:Int)<=(i:Int):=by omega
  have g2:(i:Int)<(n:Int):=by omega
  have g3:(i:Int)+1-1=(i:Int):=by omega
  have g4:IntKind.i64.wrap ((i:Int)+1-1)=(i:Int):=by rw[g3];exact IntWalk.i64_in _ ⟨by omega,by omega⟩
  clear q0 q1 q2 q3 q4 c1 f1
  go_region
  go_wp2_with fail;have X9:=(x2.put5 (.I t.kind) (.string (str t.text)) (.I t.n) (.I t.line) (.I t.col)).drew;have K9:=(Kept.put5 W1 w.heap.size (.I t.kind) (.string (str t.text)) (.I t.n) (.I t.line) (.I t.col)).drew;generalize (((((W1.setCell ⟨w.heap.size,0,none⟩ (.I t.kind)).setCell ⟨w.heap.size,1,none⟩ (.string (str t.text))).setCell ⟨w.heap.size,2,none⟩ (.I t.n)).setCell ⟨w.heap.size,3,none⟩ (.I t.line)).setCell ⟨w.heap.size,4,none⟩ (.I t.col)).drew=W9 at*;clear s0 s1 s2 s3 s4;obtain⟨s0,s1,s2,s3,s4⟩:=X9.A5;have KK:Kept (λz=>z=g) w W9:=((Kept.of_below (S:=λz=>z=g) F0.out).then_ KB (λ_ _ e=>e)).then_ K9 (λz hz e=>by omega);refine bodyPost_ret (v:=tkVal t) (by simp[results,Tryz.results87,go_sem,s0,s1,s2,s3,s4,tkVal]) rfl ⟨rfl,H0.out.put (by rw[HNN.out];exact hm) ?_ KK,KK⟩;unfold a2!;rw[HNN.out];exact B1.kept K9 (by omega)
def TE(D:Nat->Prop)(w:World):Ex->List Value->Prop
 | .num n,cs=>cs=[.int .i64 0,.int .i64 n,.string ⟨#[]⟩,.slice none 0 0]
 | .nam s,cs=>cs=[.int .i64 1,.int .i64 0,.string (str s),.slice none 0 0]
 | .idx s e,cs=>∃b c1,cs=[.int .i64 2,.int .i64 0,.string (str s),.slice (some ⟨b,0,none⟩) 1 1]∧D b∧Blk w b 40 (List.toArray c1)∧TE D w e c1
 | .neg e,cs=>∃b c1,cs=[.int .i64 3,.int .i64 0,.string ⟨#[]⟩,.slice (some ⟨b,0,none⟩) 1 1]∧D b∧Blk w b 40 (List.toArray c1)∧TE D w e c1
 | .non e,cs=>∃b c1,cs=[.int .i64 4,.int .i64 0,.string ⟨#[]⟩,.slice (some ⟨b,0,none⟩) 1 1]∧D b∧Blk w b 40 (List.toArray c1)∧TE D w e c1
 | .bin op e f,cs=>∃b c1 c2,cs=[.int .i64 op,.int .i64 0,.string ⟨#[]⟩,.slice (some ⟨b,0,none⟩) 2 2]∧D b∧Blk w b 40 (List.toArray (c1++c2))∧TE D w e c1∧TE D w f c2
theorem TE.kept(hk:Kept S w w')(hs:∀k,D k->¬S k):∀(e:Ex) (cs:List Value),TE D w e cs->TE D w' e cs
 | .num _,_,h=>h
 | .nam _,_,h=>h
 | .idx _ e,_,⟨b,c1,h1,h2,h3,h4⟩=>⟨b,c1,h1,h2,h3.kept hk (hs b h2),TE.kept hk hs e c1 h4⟩
 | .neg e,_,⟨b,c1,h1,h2,h3,h4⟩=>⟨b,c1,h1,h2,h3.kept hk (hs b h2),TE.kept hk hs e c1 h4⟩
 | .non e,_,⟨b,c1,h1,h2,h3,h4⟩=>⟨b,c1,h1,h2,h3.kept hk (hs b h2),TE.kept hk hs e c1 h4⟩
 | .bin _ e f,_,⟨b,c1,c2,h1,h2,h3,h4,h5⟩=>⟨b,c1,c2,h1,h2,h3.kept hk (hs b h2),TE.kept hk hs e c1 h4,TE.kept hk hs f c2 h5⟩
theorem TE.mono(hd:∀k,k<w.heap.size->D k->E k):∀(e:Ex) (cs:List Value),TE D w e cs->TE E w e cs
 | .num _,_,h=>h
 | .nam _,_,h=>h
 | .idx _ e,_,⟨b,c1,h1,h2,h3,h4⟩=>⟨b,c1,h1,hd b h3.lt h2,h3,TE.mono hd e c1 h4⟩
 | .neg e,_,⟨b,c1,h1,h2,h3,h4⟩=>⟨b,c1,h1,hd b h3.lt h2,h3,TE.mono hd e c1 h4⟩
 | .non e,_,⟨b,c1,h1,h2,h3,h4⟩=>⟨b,c1,h1,hd b h3.lt h2,h3,TE.mono hd e c1 h4⟩
 | .bin _ e f,_,⟨b,c1,c2,h1,h2,h3,h4,h5⟩=>⟨b,c1,c2,h1,hd b h3.lt h2,h3,TE.mono hd e c1 h4,TE.mono hd f c2 h5⟩
def PR.thenMust(x:List UInt8)(k:Ex->Ex):PR->PR
 | .bad r e=>.bad r e
 | .ok y r=>mustT x (k y) r
def PR.wrap(k:Ex->Ex):PR->PR
 | .bad r e=>.bad r e
 | .ok y r=>.ok (k y) r
section
variable {d:Nat} {t:Tk} {r:List Tk}
theorem a57!(h:openT (t::r)=true)(hk:t.kind=2):a0! (d+1) (t::r)=.ok (.num t.n) r:=by
 simp only[a0!]
 rw[h,if_neg (by decide),if_pos hk]
theorem a58!(h:openT (t::r)=true)(hk:t.kind=1)(hb:hasT [91] r=false):a0! (d+1) (t::r)=.ok (.nam t.text) r:=by
 simp only[a0!]
 rw[h,if_neg (by decide),if_neg (by rw[hk];decide),if_pos hk,hb,if_neg (by decide)]
theorem a59!(h:openT (t::r)=true)(hk:t.kind=1)(hb:hasT [91] r=true):a0! (d+1) (t::r)=(joinL (a0! d) 5 r.tail).thenMust [93] (.idx t.text):=by
 simp only[a0!]
 rw[h,if_neg (by decide),if_neg (by rw[hk];decide),if_pos hk,hb,if_pos rfl]
 cases joinL (a0! d) 5 r.tail<;>rfl
theorem a60!(h:openT (t::r)=true)(h2:t.kind≠2)(h1:t.kind≠1)(hx:t.text=[40]):a0! (d+1) (t::r)=(joinL (a0! d) 5 r).thenMust [41] id:=by
 simp only[a0!]
 rw[h,if_neg (by decide),if_neg h2,if_neg h1,if_pos hx]
 cases joinL (a0! d) 5 r<;>rfl
theorem a61!(h:openT (t::r)=true)(h2:t.kind≠2)(h1:t.kind≠1)(h0:t.text≠[40])(hx:t.text=[45]):a0! (d+1) (t::r)=(a0! d r).wrap .neg:=by
 simp only[a0!]
 rw[h,if_neg (by decide),if_neg h2,if_neg h1,if_neg h0,if_pos hx]
 cases a0! d r<;>rfl
theorem a62!(h:openT (t::r)=true)(h2:t.kind≠2)(h1:t.kind≠1)(h0:t.text≠[40])(hx:t.text≠[45]):a0! (d+1) (t::r)=(a0! d r).wrap .non:=by
 simp only[a0!]
 rw[h,if_neg (by decide),if_neg h2,if_neg h1,if_neg h0,if_neg hx]
 cases a0! d r<;>rfl
theorem y2!(h:openT (t::r)=true):a0! 0 (t::r)=.bad (t::r) 25:=by
 simp only[a0!]
 rw[if_pos h]
end
def ExAt(base g c:Nat)(A:Option Addr)(m:Nat->Nat)(ts:List Tk)(dp:Int)(cs:List Value)(w':World)(p:PR):Prop:=
 ∃i er,i<ts.length∧Blk w' g 119 (a2! A ts.length c m i dp er)∧(match p with
  | .ok x r=>r=ts.drop i∧er=0∧TE (λk=>base<=k) w' x cs
  | .bad r e=>r=ts.drop i∧e=er∧er≠0)
def ExTo(w:World)(g c:Nat)(A:Option Addr)(m:Nat->Nat)(ts:List Tk)(dp:Int)(p:PR)(e:Ending)(w':World):Prop:=
 ∃(op N:Int) (nm:ByteArray) (B:Option Addr) (l k:Nat),e=.returned (.agg #[.I op,.I N,.string nm,.slice B l k])∧Kept (λz=>z=g) w w'∧
  ExAt w.heap.size g c A m ts dp [.I op,.I N,.string nm,.slice B l k] w' p
theorem ExAt.kept{m:Nat->Nat}{p:PR}(h:ExAt base g c A m ts dp cs w p)(hk:Kept S w w')(hg:¬S g)(hs:∀k,base<=k->¬S k):ExAt base g c A m ts dp cs w' p:=by
 obtain⟨i,er,hi,hb,hp⟩:=h
 refine⟨i,er,hi,hb.kept hk hg,?_⟩
 cases p with
 |ok x r=>exact⟨hp.1,hp.2.1,hp.2.2.kept hk hs⟩
 |bad r e=>exact hp
theorem u2!(r:List Tk):d7! r≠0:=by
 cases r with
 |nil=>simp[d7!]
 |cons t r=>simp only[d7!];split<;>decide
theorem ExAt.must{m:Nat->Nat}{p:PR}(k:Ex->Ex)
 (hp:match p with| .ok y r=>r=ts.drop i∧er=0∧TE (λz=>base<=z) w y cs| .bad r e=>r=ts.drop i∧e=er∧er≠0) (ht:ts[i]?=some t)
 (hi:(if hasB t er x then i+1 else i)<ts.length) (hb:Blk w' g 119 (a2! A ts.length c m (if hasB t er x then i+1 else i) dp (mustE t er x)))
 (hk:∀y,TE (λz=>base<=z) w y cs->TE (λz=>base'<=z) w' (k y) cs'):
 ExAt base' g c A m ts dp cs' w' (p.thenMust x k):=by
 cases p with
 |ok y r=>
  obtain⟨rfl,rfl,hT⟩:=hp;have e1:hasB t 0 x=hasT x (ts.drop i):=by rw[a1! ht];exact j4!
  refine⟨_,_,hi,hb,?_⟩;unfold mustE
  dsimp only[PR.thenMust,mustT]
  rw[e1]
  cases hasT x (ts.drop i)with
  |true=>
   rw[if_pos rfl,if_pos rfl,if_pos rfl];exact⟨List.tail_drop ..,rfl,hk y hT⟩
  |false=>
   have e2:b9! t 0=d7! (ts.drop i):=by rw[a1! ht];rfl
   rw[if_neg (by decide),if_neg (by decide),if_neg (by decide),e2];exact⟨rfl,rfl,u2! _⟩
 |bad r e=>
  obtain⟨rfl,rfl,hne⟩:=hp;have e0:hasB t e x=false:=by simp[hasB,hne]
  refine⟨_,_,hi,hb,?_⟩;unfold mustE;rw[e0];refine⟨rfl,?_,?_⟩
  ·simp[b9!,hne]
  ·simp[b9!,hne]
theorem ExAt.wrap{m:Nat->Nat}{p:PR}(k:Ex->Ex)
 (hp:match p with| .ok y r=>r=ts.drop i∧er=0∧TE (λz=>base<=z) w y cs| .bad r e=>r=ts.drop i∧e=er∧er≠0)
 (hi:i<ts.length) (hb:Blk w' g 119 (a2! A ts.length c m i dp er))
 (hk:∀y,TE (λz=>base<=z) w y cs->TE (λz=>base'<=z) w' (k y) cs'):
 ExAt base' g c A m ts dp cs' w' (p.wrap k):=by
 cases p with
 |ok y r=>exact⟨i,er,hi,hb,hp.1,hp.2.1,hk y hp.2.2⟩
 |bad r e=>exact⟨i,er,hi,hb,hp⟩
theorem ExAt.base_le{b':Nat}{m:Nat->Nat}{p:PR}(hb:b'<=b)(h:ExAt b g c A m ts dp cs w p):ExAt b' g c A m ts dp cs w p:=by
 obtain⟨i,er,hi,hbk,hp⟩:=h
 refine⟨i,er,hi,hbk,?_⟩
 cases p with
 |ok x r=>exact⟨hp.1,hp.2.1,hp.2.2.mono (λk _ h=>Nat.le_trans hb h)⟩
 |bad r e=>exact hp
theorem e0!(w:World)(t1 t2:TypeId)(a b:Array Value):Blk ((w.alloc (.cells a t1)).alloc (.cells b t2)) w.heap.size t1 a∧Blk ((w.alloc (.cells a t1)).alloc (.cells b t2)) (w.heap.size+1) t2 b:=by
 refine⟨(Blk.new w t1 a).alloc _,?_⟩
 have:=Blk.new (w.alloc (.cells a t1)) t2 b
 rwa[show (w.alloc (.cells a t1)).heap.size=w.heap.size+1 from by simp]at this
def h3!(g c:Nat)(A:Option Addr)(m:Nat->Nat)(ts:List Tk)(dp:Int)(d:Nat):Prop:=
 ∀(deep:Int) (i:Nat) (w:World),deep+(d:Int)=16->0<=deep->Par w g A c m ts i dp 0->Calls Tryz.prog 112 #[.pointer (some ⟨g,0,none⟩),.I deep] w (ExTo w g c A m ts dp (a0! d (ts.drop i)))
def JoinC(g c:Nat)(A:Option Addr)(m:Nat->Nat)(ts:List Tk)(dp:Int)(d k:Nat):Prop:=
 ∀(deep lv:Int) (i:Nat) (w:World),deep+(d:Int)=16->0<=deep->lv+(k:Int)=5->Par w g A c m ts i dp 0->Calls Tryz.prog 77 #[.pointer (some ⟨g,0,none⟩),.I lv,.I deep] w (ExTo w g c A m ts dp (joinL (a0! d) k (ts.drop i)))
theorem Blk.put4{t:TypeId}{b c:Value}(h:Blk w g t #[a,b,c,d])(x0 x1 x2 x3:Value):
 Blk ((((w.setCell ⟨g,0,none⟩ x0).setCell ⟨g,1,none⟩ x1).setCell ⟨g,2,none⟩ x2).setCell ⟨g,3,none⟩ x3) g t #[x0,x1,x2,x3]:=(((h.set_ 0 x0).set_ 1 x1).set_ 2 x2).set_ 3 x3
theorem Kept.put4(w:World)(g:Nat)(x0 x1 x2 x3:Value):Kept (λk=>k=g) w ((((w.setCell ⟨g,0,none⟩ x0).setCell ⟨g,1,none⟩ x1).setCell ⟨g,2,none⟩ x2).setCell ⟨g,3,none⟩ x3):=
 ((((Kept.refl (λk=>k=g) w).setCell (p:=⟨g,0,none⟩) (λ_=>rfl) _).setCell (p:=⟨g,1,none⟩) (λ_=>rfl) _).setCell (p:=⟨g,2,none⟩) (λ_=>rfl) _).setCell (p:=⟨g,3,none⟩) (λ_=>rfl) _
theorem Blk.e4{w:World}{g:Nat}{t:TypeId}{a0 a1 a2 a3:Value}(h:Blk w g t #[a0,a1,a2,a3])(x0 x1 x2 x3:Value):∃w',(((w.setCell ⟨g,0,none⟩ x0).setCell ⟨g,1,none⟩ x1).setCell ⟨g,2,none⟩ x2).setCell ⟨g,3,none⟩ x3=w'∧Blk w' g t #[x0,x1,x2,x3]∧Kept (λk=>k=g) w w':=⟨_,rfl,h.put4 x0 x1 x2 x3,Kept.put4 w g x0 x1 x2 x3⟩
theorem c39!{d:Nat}(h:openT (t::r)=false):a0! d (t::r)=.bad (t::r) (d7! (t::r)):=by
 cases d<;>simp[a0!,h]
inductive Gx where
 |mk (op n:Int) (nm:ByteArray) (l:List Gx)
def ElsG{α:Type}(D:Nat->Prop)(w:World)(s M:Nat)(Q:List Value->α->Prop)(A:Option Addr)(len:Nat)(ks:List α):Prop:=
 ∃xs:List Value,Reads w w.heap.size s A len xs∧(0<len->∀a,A=some a->D a.block)∧len<=M∧ks.length=len∧∀i (h:i<ks.length),Q ((xs.drop (i*s)).take s) (ks[i]'h)
theorem Reads.keptD(h:Reads w w.heap.size s A n xs)(hd:0<n->∀a,A=some a->D a.block)(hk:Kept S w w')(hs:∀k,k<w.heap.size->D k->¬S k):Reads w' w'.heap.size s A n xs:=
 ⟨h.1,λhn=>by
  obtain⟨ad,e,hb,hc⟩:=h.2 hn;exact⟨ad,e,Nat.lt_of_lt_of_le hb hk.size,λj u hu=>by
   have e1:(ad.add j).block=ad.block:=by first|rfl|(unfold Addr.add;split<;>rfl)
   exact(hk.cell (p:=ad.add j) (by rw[e1];exact hb) (by rw[e1];exact hs _ hb (hd hn ad e))).trans (hc j u hu)⟩⟩
theorem Reads.blk_lt{a:Addr}(h:Reads w B s (some a) n xs)(hn:0<n):a.block<B:=by
 obtain⟨ad,e,hb,_⟩:=h.2 hn
 cases e
 exact hb
theorem ElsG.kept{α:Type}{Q Q':List Value->α->Prop}{ks:List α}(h:ElsG D w s M Q A len ks)(hk:Kept S w w')(hs:∀k,k<w.heap.size->D k->¬S k)(hE:∀k,k<w.heap.size->D k->E k)(hq:∀cs k,Q cs k->Q' cs k):ElsG E w' s M Q' A len ks:=by
 obtain⟨xs,h1,h0,h2,h3,h4⟩:=h
 exact⟨xs,h1.keptD h0 hk hs,λhn a ha=>hE _ (by subst ha;exact h1.blk_lt hn) (h0 hn a ha),h2,h3,λi hi=>hq _ _ (h4 i hi)⟩
theorem ElsG.none_{α:Type}(D:Nat->Prop)(w:World)(s M:Nat)(Q:List Value->α->Prop)(A:Option Addr):ElsG D w s M Q A 0 []:=⟨[],Reads.none_,λh=>absurd h (by omega),by omega,rfl,λi hi=>by simp at hi⟩
def GC(D:Nat->Prop)(w:World)(M:Nat):Nat->List Value->Gx->Prop
 |0,_,_=>False
 |n+1,cs,.mk op N nm l=>∃(A:Option Addr) (len cap:Nat),cs=[.I op,.I N,.string nm,.slice A len cap]∧ElsG D w 4 M (GC D w M n) A len l
theorem GC.kept(hk:Kept S w w')(hs:∀k,k<w.heap.size->D k->¬S k)(hE:∀k,k<w.heap.size->D k->E k):∀(n:Nat) (cs:List Value) (g:Gx),GC D w M n cs g->GC E w' M n cs g
 |0,_,_,h=>h
 |n+1,cs,.mk op N nm l,h=>by
  obtain⟨A,len,cap,h1,h2⟩:=h;exact⟨A,len,cap,h1,h2.kept hk hs hE (GC.kept hk hs hE n)⟩
theorem GC.below{g:Gx}(h:GC D w M n cs g)(hb:Below w.heap.size w w'):GC D w' M n cs g:=GC.kept (Kept.of_below (S:=λ_=>False) hb) (λ_ _ _ h=>h) (λ_ _ h=>h) n cs g h
theorem ElsG.below{l:List Gx}(h:ElsG D w 4 M (GC D w M n) A len l)(hb:Below w.heap.size w w'):ElsG D w' 4 M (GC D w' M n) A len l:=h.kept (Kept.of_below (S:=λ_=>False) hb) (λ_ _ _ h=>h) (λ_ _ h=>h) (λ_ _ h=>h.below hb)
theorem GC.deep:∀(n:Nat) (cs:List Value) (g:Gx),GC D w M n cs g->GC D w M (n+1) cs g
 |0,_,_,h=>absurd h id
 |n+1,cs,.mk op N nm l,h=>by
  obtain⟨A,len,cap,h1,h2⟩:=h;exact⟨A,len,cap,h1,h2.kept (Kept.refl (λ_=>False) _) (λ_ _ _ h=>h) (λ_ _ h=>h) (GC.deep n)⟩
theorem GC.deeper{m:Nat}(hm:n<=m){g:Gx}(h:GC D w M n cs g):GC D w M m cs g:=by
 obtain⟨d,rfl⟩:∃d,m=n+d:=⟨m-n,by omega⟩
 induction d with
 |zero=>exact h
 |succ d ih=>exact GC.deep _ _ _ (ih (by omega))
theorem GC.form{g:Gx}(h:GC D w M n cs g):∃(op N:Int) (nm:ByteArray) (A:Option Addr) (len cap:Nat),cs=[.I op,.I N,.string nm,.slice A len cap]:=by
 cases n with
 |zero=>exact absurd h id
 |succ n=>
  obtain⟨op,N,nm,l⟩:=g;obtain⟨A,len,cap,h1,_⟩:=h;exact⟨op,N,nm,A,len,cap,h1⟩
def Ex.gx:Ex->Gx
 | .num n=>.mk 0 n ⟨#[]⟩ []
 | .nam s=>.mk 1 0 (str s) []
 | .idx s e=>.mk 2 0 (str s) [e.gx]
 | .neg e=>.mk 3 0 ⟨#[]⟩ [e.gx]
 | .non e=>.mk 4 0 ⟨#[]⟩ [e.gx]
 | .bin op a b=>.mk op 0 ⟨#[]⟩ [a.gx,b.gx]
def Ex.dep:Ex->Nat
 | .num _=>1
 | .nam _=>1
 | .idx _ e=>e.dep+1
 | .neg e=>e.dep+1
 | .non e=>e.dep+1
 | .bin _ a b=>max a.dep b.dep+1
theorem TE.len4{e:Ex}(h:TE D w e cs):cs.length=4:=by
 cases e with
 |num n=>rw[show cs=_ from h];rfl
 |nam s=>rw[show cs=_ from h];rfl
 |idx s e=>obtain⟨_,_,rfl,_⟩:=h;rfl
 |neg e=>obtain⟨_,_,rfl,_⟩:=h;rfl
 |non e=>obtain⟨_,_,rfl,_⟩:=h;rfl
 |bin op a b=>obtain⟨_,_,_,rfl,_⟩:=h;rfl
theorem p1!{t:TypeId}{g:Gx}(hM:1<=M)(hb:Blk w b t (List.toArray c1))(hD:D b)(hl:c1.length=4)(h:GC D w M n c1 g):ElsG D w 4 M (GC D w M n) (some ⟨b,0,none⟩) 1 [g]:=by
 refine⟨c1,⟨by rw[hl],λ_=>⟨_,rfl,hb.lt,λj u hu=>?_⟩⟩,λ_ a ha=>by cases ha;exact hD,hM,rfl,λi hi=>?_⟩
 ·rw[Addr.add_lit,Nat.zero_add,hb.cell j]
  simpa using hu
 ·obtain rfl:i=0:=by simp at hi;exact hi
  rw[Nat.zero_mul,List.drop_zero,List.take_of_length_le (by omega)];exact h
theorem p2!{t:TypeId}{c2:List Value}{g1 g2:Gx}(hM:2<=M)(hb:Blk w b t (List.toArray (c1++c2)))(hD:D b)(hl:c1.length=4)(hl2:c2.length=4)(h:GC D w M n c1 g1)(h2:GC D w M n c2 g2):ElsG D w 4 M (GC D w M n) (some ⟨b,0,none⟩) 2 [g1,g2]:=by
 refine⟨c1++c2,⟨by rw[List.length_append,hl,hl2],λ_=>⟨_,rfl,hb.lt,λj u hu=>?_⟩⟩,λ_ a ha=>by cases ha;exact hD,hM,rfl,λi hi=>?_⟩
 ·rw[Addr.add_lit,Nat.zero_add,hb.cell j]
  simpa using hu
 ·match i,hi with
  |0,_=>
   rw[Nat.zero_mul,List.drop_zero,List.take_append_of_le_length (by omega),List.take_of_length_le (by omega)];exact h
  |1,_=>
   rw[Nat.one_mul,List.drop_append_of_le_length (by omega),List.drop_of_length_le (by omega),List.nil_append,List.take_of_length_le (by omega)];exact h2
  |i+2,h=>simp at h;omega
theorem TE.gc(hM:2<=M):∀(e:Ex) (cs:List Value),TE D w e cs->GC D w M e.dep cs e.gx
 | .num n,cs,h=>⟨none,0,0,h,ElsG.none_ _ _ _ _ _ _⟩
 | .nam s,cs,h=>⟨none,0,0,h,ElsG.none_ _ _ _ _ _ _⟩
 | .idx s e,cs,⟨b,c1,h1,h2,h3,h4⟩=>⟨_,1,1,h1,p1! (by omega) h3 h2 h4.len4 (TE.gc hM e c1 h4)⟩
 | .neg e,cs,⟨b,c1,h1,h2,h3,h4⟩=>⟨_,1,1,h1,p1! (by omega) h3 h2 h4.len4 (TE.gc hM e c1 h4)⟩
 | .non e,cs,⟨b,c1,h1,h2,h3,h4⟩=>⟨_,1,1,h1,p1! (by omega) h3 h2 h4.len4 (TE.gc hM e c1 h4)⟩
 | .bin op e f,cs,⟨b,c1,c2,h1,h2,h3,h4,h5⟩=>⟨_,2,2,h1,p2! hM h3 h2 h4.len4 h5.len4 ((TE.gc hM e c1 h4).deeper (Nat.le_max_left _ _)) ((TE.gc hM f c2 h5).deeper (Nat.le_max_right _ _))⟩
def OwnG(w:World)(base:Nat)(t:TypeId)(M n:Nat)(v:Value)(l:List Gx):Prop:=∃ys:List Value,w.ownsRow base t 4 v l.length ys∧ys.length=l.length*4∧∀i (h:i<l.length),GC (λz=>base<=z∧v.ownBlock≠some z) w M n ((ys.drop (i*4)).take 4) (l[i]'h)
theorem c2!(h:w.ownsRow base e size v n xs):∀k,v.ownBlock=some k->k<w.heap.size:=by
 intro k hk
 rcases h.2 with ⟨rfl,h0⟩|⟨g,cap,cur,rfl,hg,hh,_⟩
 ·simp[Value.ownBlock]at hk
 ·simp only[Value.ownBlock,Option.some.injEq]at hk
  subst hk;exact Blk.lt (t:=e) (cs:=cur) hh
theorem f2!(h:w.ownsRow base e size v n xs):∀k,v.ownBlock=some k->base<=k:=by
 intro k hk
 rcases h.2 with ⟨rfl,h0⟩|⟨g,cap,cur,rfl,hg,hh,_⟩
 ·simp[Value.ownBlock]at hk
 ·simp only[Value.ownBlock,Option.some.injEq]at hk
  subst hk;exact hg
theorem b2!(h:w.ownsRow base e size v n xs):∃A c,v=.slice A n c∧∀a,0<n->A=some a->v.ownBlock=some a.block:=by
 rcases h.2 with ⟨rfl,h0⟩|⟨g,cap,cur,rfl,hg,hh,_⟩
 ·exact⟨none,0,by rw[h0],λa hn=>by omega⟩
 ·exact⟨_,_,rfl,λa _ ha=>by cases ha;rfl⟩
theorem a63!(h:w.ownsRow base e size v n xs)(hb:Below B w w')(hB:w.heap.size<=B):w'.ownsRow base e size v n xs:=by
 refine⟨h.1,?_⟩
 rcases h.2 with h2|⟨g,cap,cur,hv,hg,hh,r⟩
 ·exact .inl h2
 ·have hlt:g<w.heap.size:=Blk.lt (t:=e) (cs:=cur) hh
  exact .inr ⟨g,cap,cur,hv,hg,(hb.block g (by omega)).trans hh,r⟩
def ocat:Option (List UInt8)->Option (List UInt8)->Option (List UInt8)
 |some a,some b=>some (a++b)
 |_,_=>none
def b0!(op:Int):Int:=if op<5 then 6 else if op<8 then 5 else if op<10 then 4 else if op<16 then 3 else if op=16 then 2 else 1
def partsN(op:Int):Nat:=if op<2 then 0 else if op<5 then 1 else 2
def markN(op:Int):List UInt8:=
 if op<3 then []else if op=3 then [45]else if op=4 then [110,111,116]else if op=5 then [42]else if op=6 then [47]else if op=7 then [37]else if op=8 then [43]else if op=9 then [45]
 else if op=10 then [61]else if op=11 then [33,61]else if op=12 then [60]else if op=13 then [60,61]else if op=14 then [62]else if op=15 then [62,61]else if op=16 then [97,110,100]else [111,114]
def operO(op t:Int)(s:Option (List UInt8)):Option (List UInt8):=if b0! op<t then s.map λs=>[40,32]++s++[32,41]else s
def Gx.op:Gx->Int
 | .mk op _ _ _=>op
def leftN(op:Int):Int:=if b0! op=3 then b0! op+1 else b0! op
def rawE:Gx->Option (List UInt8)
 | .mk op N nm l=>
  if 0<=op∧op<18∧l.length=partsN op then
   match l with
   |[]=>if op=0 then some (Lib.itoa N)else some nm.data.toList
   |[a]=>if op=2 then (rawE a).map λs=>nm.data.toList++[32,91,32]++s++[32,93]else (operO a.op 6 (rawE a)).map λs=>markN op++[32]++s
   |[a,b]=>ocat (operO a.op (leftN op) (rawE a)) (ocat (some ([32]++markN op++[32])) (operO b.op (b0! op+1) (rawE b)))
   |_=>none
  else none
inductive Sx where
 |mk (kind:Int) (nm:List UInt8) (E:List Gx) (lo hi:Int) (L El:List Sx)
structure Px where
 nm:List UInt8
 seats:Int
 stakes:List Int
 vars:List Va
 start:List Sx
 turn:List Sx
 params:List Va
 play:List Sx
 silent:List UInt8
 quiet:List Sx
 pays:List Sx
def partsS(k:Int):Nat:=if k=1∨k=8 then 2 else if k=3∨k=4∨k=5∨k=7 then 0 else 1
def blanks(deep:Nat):List UInt8:=Lib.repeatL [32,32] deep
def lineB(deep:Nat)(ps:List (List UInt8)):List UInt8:=blanks deep++Lib.join ps [32]++[10]
def rawEs:List Gx->Option (List (List UInt8))
 |[]=>some []
 |g::l=>match rawE g,rawEs l with
  |some a,some b=>some (a::b)
  |_,_=>none
def payB(t:List UInt8):List UInt8:=if t.head?=some 45 then [40,32]++t++[32,41]else t
mutual
def rawS(deep:Nat):Sx->Option (List UInt8)
 | .mk k nm E lo hi L El=>
  if 0<=k∧k<10∧E.length=partsS k then
   match rawEs E with
   |none=>none
   |some T=>
    if k=0 then some (lineB deep [nm,[61],T.getD 0 []])
    else if k=1 then some (lineB deep [nm,[91],T.getD 0 [],[93,32,61],T.getD 1 []])
    else if k=2 then ocat (some (lineB deep [[105,102],T.getD 0 [],[116,104,101,110]])) (ocat (rawB (deep+1) L)
     (ocat (if El.length=0 then some []else ocat (some (lineB deep [[101,108,115,101]])) (rawB (deep+1) El)) (some (lineB deep [[101,110,100]]))))
    else if k=3 then ocat (some (lineB deep [[102,111,114],nm,Lib.itoa lo,Lib.itoa hi,[100,111]])) (ocat (rawB (deep+1) L) (some (lineB deep [[101,110,100]])))
    else if k=4 then some (lineB deep [[114,101,102,117,115,101]])
    else if k=5 then some (lineB deep [[114,111,108,108],nm,Lib.itoa lo])
    else if k=6 then some (lineB deep [[115,101,97,116],T.getD 0 []])
    else if k=7 then some (lineB deep [[111,118,101,114]])
    else if k=8 then some (lineB deep [[112,97,121],T.getD 0 [],payB (T.getD 1 [])])
    else some (lineB deep [[114,101,115,116],T.getD 0 []])
  else none
def rawB(deep:Nat):List Sx->Option (List UInt8)
 |[]=>some []
 |s::l=>ocat (rawS deep s) (rawB deep l)
end
def varB(v:Va):List UInt8:=lineB 0 ([[118,97,114],v.nm]++(if v.size=0 then []else [[91],Lib.itoa v.size,[93]])++[Lib.itoa v.lo,Lib.itoa v.hi])
def partO(first:List (List UInt8))(l:List Sx):Option (List UInt8):=ocat (some (lineB 0 first)) (ocat (rawB 1 l) (some (lineB 0 [[101,110,100]])))
def f3!:List Va->List (List UInt8)
 |[]=>[]
 |[v]=>[v.nm,Lib.itoa v.lo,Lib.itoa v.hi]
 |v::l=>[v.nm,Lib.itoa v.lo,Lib.itoa v.hi++[44]]++f3! l
def rawP(p:Px):Option (List UInt8):=
 ocat (some (lineB 0 [[103,97,109,101],p.nm]++lineB 0 [[115,101,97,116,115],Lib.itoa p.seats]++lineB 0 ([115,116,97,107,101]::p.stakes.map Lib.itoa)++(p.vars.map varB).flatten))
  (ocat (partO [[115,116,97,114,116]] p.start) (ocat (partO [[116,117,114,110]] p.turn) (ocat (partO ([112,108,97,121]::f3! p.params) p.play)
   (ocat (partO [[115,105,108,101,110,116],p.silent] p.quiet) (partO [[112,97,121]] p.pays)))))
structure WOut (room:Nat) (l:List UInt8) (bad:Bool) (o:Option (List UInt8)) (l':List UInt8) (bad':Bool):Prop where
 good:bad'=false->bad=false∧∃t,o=some t∧l'=l++t
 ill:bad'=true->bad=true∨o=none∨∃t,o=some t∧room<l.length+t.length
 len:l'.length<=room
section
variable {room:Nat} {l l1 l2:List UInt8} {bad b1 b2:Bool} {o o1 o2:Option (List UInt8)}
theorem WOut.none_(h:l.length<=room):WOut room l bad (some []) l bad:=⟨λe=>⟨e,[],rfl,by simp⟩,λe=>.inl e,h⟩
theorem WOut.fail(h:l.length<=room):WOut room l bad none l true:=⟨λe=>by simp at e,λ_=>.inr (.inl rfl),h⟩
theorem WOut.was(h:l.length<=room):WOut room l true o l true:=⟨λe=>by simp at e,λ_=>.inl rfl,h⟩
theorem WOut.then_(h:WOut room l bad o1 l1 b1)(k:WOut room l1 b1 o2 l2 b2):WOut room l bad (ocat o1 o2) l2 b2:=by
 refine⟨λe=>?_,λe=>?_,k.len⟩
 ·obtain⟨e1,t2,rfl,rfl⟩:=k.good e
  obtain⟨e0,t1,rfl,rfl⟩:=h.good e1;exact⟨e0,t1++t2,rfl,by simp⟩
 ·rcases k.ill e with e1|rfl|⟨t2,rfl,hl⟩
  ·rcases h.ill e1 with e0|rfl|⟨t1,rfl,hl⟩
   ·exact .inl e0
   ·exact .inr (.inl (by cases o2<;>rfl))
   ·cases o2 with
    |none=>exact .inr (.inl rfl)
    |some t2=>exact .inr (.inr ⟨t1++t2,rfl,by simp;omega⟩)
  ·exact .inr (.inl (by cases o1<;>rfl))
  ·cases b1 with
   |true=>
    rcases h.ill rfl with e0|rfl|⟨t1,rfl,hl⟩
    ·exact .inl e0
    ·exact .inr (.inl rfl)
    ·exact .inr (.inr ⟨t1++t2,rfl,by simp;omega⟩)
   |false=>
    obtain⟨_,t1,rfl,rfl⟩:=h.good rfl;exact .inr (.inr ⟨t1++t2,rfl,by simp at hl ⊢;omega⟩)
theorem WOut.cong(h:WOut room l bad o1 l1 b1)(e:o1=o2):WOut room l bad o2 l1 b1:=e▸h
end
theorem c40!(o:Option (List UInt8)):ocat o (some [])=o:=by cases o<;>simp[ocat]
theorem a64!(o:Option (List UInt8)):ocat (some []) o=o:=by cases o<;>simp[ocat]
theorem i5!(a b c:Option (List UInt8)):ocat (ocat a b) c=ocat a (ocat b c):=by cases a<;>cases b<;>cases c<;>simp[ocat]
theorem l7!(a b:List UInt8):ocat (some a) (some b)=some (a++b):=rfl
end Go.Proofs.YtdgekckedchjbaaGreatDoor
