
/-
 The listed tables: what the condition gives the walks.
-/
import Derived.Test.YtdgekckedchjbaaGreatDoorTie
import Derived.Test.YtdgekckedchjbaaGreatDoorCards
import Derived.Test.YtdgekckedchjbaaGreatDoorQO
import Derived.ProofKit
import Derived.LaidMore
import Derived.LaidSub
import Derived.OpenShut
import Derived.Lay
import Derived.Stop.Joined
namespace Go.Proofs.YtdgekckedchjbaaGreatDoor
open Go.ChangeShapes Go.WideShapes Go.ChangeAt Go.RowKit
variable {W:World}
def laidE:List (String×DataW Unit):=[("math/bits.deBruijn32tab",Rows.laid_math_bits_deBruijn32tab),("math/bits.deBruijn64tab",Rows.laid_math_bits_deBruijn64tab),("internal/strconv.uint64pow10",Rows.laid_internal_strconv_uint64pow10),("unicode.White_Space",Rows.laid_unicode_White_Space),("strings.asciiSpace",Rows.laid_strings_asciiSpace),("baize/print.operations",Rows.laid_baize_print_operations)]
def laidB:List (String×DataW Unit):=laidE++[("baize/print.parts",Rows.laid_baize_print_parts)]
theorem v3!{P:Program}{laid:List (String×DataW Unit)}{n:String}{d:DataW Unit}(h:laidMetH P laid W)(keep:String×DataW Unit->Bool)(hf:laid.filter keep=[(n,d)])(hn:d.handleName?=none):laidMet P [(n,d)] W:=by
 have h2:=h.filter keep
 rw[hf]at h2
 rwa[MakeChecks.laidMetH_plain _ _ _ (by simp[hn])]at h2
def spZ:List Int:=(List.range 256).map λc=>if Lib.isSp (UInt8.ofNat c)then 1 else 0
theorem d69!:spZ.length=256:=by simp[spZ]
theorem d70!(c:Nat)(h:c<256):spZ.getD c 0=if Lib.isSp (UInt8.ofNat c)then 1 else 0:=by simp[spZ,h]
theorem d71!:Rows.laid_strings_asciiSpace (H:=Unit)=Lib.tabData .u8 spZ:=by kernel_rfl
theorem d72!:Rows.laid_internal_strconv_uint64pow10 (H:=Unit)=Lib.tabData .u64 Lib.pow10Tab:=by kernel_rfl
def opsZ:List (List UInt8×Int×Int):=(List.range 18).map λ(i:Nat)=>(markN (i:Int),b0! (i:Int),((partsN (i:Int):Nat):Int))
theorem d73!:Rows.laid_baize_print_operations (H:=Unit)=.agg (opsZ.map λz=>.agg [.lit (.string z.1),.lit (.int .i64 z.2.1),.lit (.int .i64 z.2.2)]):=by kernel_rfl
def ptsZ:List Int:=(List.range 10).map λ(i:Nat)=>((partsS (i:Int):Nat):Int)
theorem d74!:Rows.laid_baize_print_parts (H:=Unit)=Lib.tabData .i64 ptsZ:=by kernel_rfl
theorem d75!(h:laidMet Tryz.prog [("strings.asciiSpace",Rows.laid_strings_asciiSpace)] W):Spaces W:=by
 rw[d71!]at h
 have ht:=Lib.tabIs_of_head (g:=2) (t:=212) (e:=5) (n:=256) (by kernel_rfl) (by kernel_rfl) Tryz.underlying212 Tryz.underlying5 (by kernel_rfl) (by kernel_rfl) h
 intro c hc
 have:=ht.cell (g:=2) (by kernel_rfl) c (by rw[d69!];exact hc)
 rw[d70! c hc]at this
 exact this
theorem pow_(h:laidMet Tryz.prog [("internal/strconv.uint64pow10",Rows.laid_internal_strconv_uint64pow10)] W):Lib.TabIs Tryz.prog W "internal/strconv.uint64pow10" .u64 Lib.pow10Tab:=by
 rw[d72!]at h
 exact Lib.tabIs_of_head (g:=3) (t:=217) (e:=200) (n:=20) (by kernel_rfl) (by kernel_rfl) Tryz.underlying217 Tryz.underlying200 (by kernel_rfl) (by kernel_rfl) h
theorem pts_(h:laidMet Tryz.prog [("baize/print.parts",Rows.laid_baize_print_parts)] W):∀k:Nat,k<10->W.cell? ⟨1,k,none⟩=some (.int .i64 (partsS (k:Int):Nat)):=by
 rw[d74!]at h
 have ht:=Lib.tabIs_of_head (g:=1) (t:=192) (e:=3) (n:=10) (by kernel_rfl) (by kernel_rfl) Tryz.underlying192 Tryz.underlying3 (by kernel_rfl) (by kernel_rfl) h
 intro k hk
 have:=ht.cell (g:=1) (by kernel_rfl) k (by simpa[ptsZ]using hk)
 rw[this]
 simp[ptsZ,hk]
theorem ops_(h:laidMet Tryz.prog [("baize/print.operations",Rows.laid_baize_print_operations)] W):∀op:Nat,op<18->
 W.cell? ⟨0,op*3,none⟩=some (.string (str (markN (op:Int))))∧W.cell? ⟨0,op*3+1,none⟩=some (.int .i64 (b0! (op:Int)))∧W.cell? ⟨0,op*3+2,none⟩=some (.int .i64 (partsN (op:Int):Nat)):=by
 obtain⟨ps,⟨g,t,cs,fuel,p,q,hg,ht,hv,hd,_,_⟩,_,_⟩:=h
 obtain rfl:=Option.some.inj ((show Tryz.prog.globalNamed "baize/print.operations" =some 0 by kernel_rfl).symm.trans hg)
 obtain rfl:=Option.some.inj ((show (Tryz.prog.globals[0]?).map (·.type)=some 143 by kernel_rfl).symm.trans ht)
 obtain⟨xs,m,_,ex,_,hl,hel⟩:=DataW.trod_array Tryz.underlying143 hd
 have c3:Tryz.prog.cellsOf 142=3:=by kernel_rfl
 have cs1:Tryz.prog.cellsOf 9=1:=by kernel_rfl
 have ci1:Tryz.prog.cellsOf 3=1:=by kernel_rfl
 intro op hop
 have hE:=hel op hop
 rw[c3,List.getElem?_eq_getElem (by omega)]at hE
 have e3:(xs.map (·.1))=opsZ.map λz=>.agg [.lit (.string z.1),.lit (.int .i64 z.2.1),.lit (.int .i64 z.2.2)]:=(DataW.agg.inj (d73!.symm.trans (Prod.mk.inj ex).1)).symm
 have e4:(xs[op]'(by omega)).1=.agg [.lit (.string (markN (op:Int))),.lit (.int .i64 (b0! (op:Int))),.lit (.int .i64 ((partsN (op:Int):Nat):Int))]:=by
  have e5:(xs.map (·.1))[op]?=(opsZ.map λz=>(DataW.agg [.lit (.string z.1),.lit (.int .i64 z.2.1),.lit (.int .i64 z.2.2)]:DataW Unit))[op]?:=by rw[e3]
  rw[List.getElem?_map,List.getElem?_eq_getElem (by omega:op<xs.length)]at e5
  simpa[opsZ,hop]using e5
 obtain⟨ys,m',_,ey,hcl,hyl,hf⟩:=DataW.trod_struct Tryz.underlying142 hE
 have e6:ys.map (·.1)=[.lit (.string (markN (op:Int))),.lit (.int .i64 (b0! (op:Int))),.lit (.int .i64 ((partsN (op:Int):Nat):Int))]:=DataW.agg.inj ((Prod.mk.inj ey).1.symm.trans e4)
 have hyl3:ys.length=3:=by
  have:=congrArg List.length e6
  simpa using this
 have hy0:DataW.trod (λ_=>()) Tryz.prog W 0 (λ_=>true) false m' 9 ((((cs.toList.drop (op*3)).take 3).drop 0).take (Tryz.prog.cellsOf 9))=ys[0]?:=hf 0 _ rfl
 have hy1:DataW.trod (λ_=>()) Tryz.prog W 0 (λ_=>true) false m' 3 ((((cs.toList.drop (op*3)).take 3).drop 1).take (Tryz.prog.cellsOf 3))=ys[1]?:=hf 1 _ rfl
 have hy2:DataW.trod (λ_=>()) Tryz.prog W 0 (λ_=>true) false m' 3 ((((cs.toList.drop (op*3)).take 3).drop 2).take (Tryz.prog.cellsOf 3))=ys[2]?:=hf 2 _ rfl
 rw[cs1]at hy0
 rw[ci1]at hy1 hy2
 rw[List.getElem?_eq_getElem (by omega)]at hy0 hy1 hy2
 obtain⟨s,f1,f2,_⟩:=DataW.trod_string Tryz.underlying9 hy0
 obtain⟨z1,f3,f4,_⟩:=DataW.trod_int Tryz.underlying3 hy1
 obtain⟨z2,f5,f6,_⟩:=DataW.trod_int Tryz.underlying3 hy2
 obtain⟨a,b,c,rfl⟩:∃a b c,ys=[a,b,c]:=by
  match ys,hyl3 with
  |[a,b,c],_=>exact⟨a,b,c,rfl⟩
 simp only[List.map_cons,List.map_nil,List.cons.injEq,and_true]at e6
 change a=_ at f2
 change b=_ at f4
 change c=_ at f6
 obtain⟨g1,g2,g3⟩:=e6
 rw[f2]at g1
 rw[f4]at g2
 rw[f6]at g3
 simp only[DataW.lit.injEq,Lit.string.injEq,Lit.int.injEq,true_and]at g1 g2 g3
 have hs:s=str (markN (op:Int)):=by rw[<-g1];simp[str]
 have hcell:∀(i:Nat) (v:Value),(((cs.toList.drop (op*3)).take 3).drop i).take 1=[v]->W.cell? ⟨0,op*3+i,none⟩=some v:=by
  intro i v hh
  rw[World.var?_cell hg hv (op*3+i)];have h0:((((cs.toList.drop (op*3)).take 3).drop i).take 1)[0]?=some v:=by rw[hh];rfl
  rw[List.getElem?_take,List.getElem?_drop,List.getElem?_take,List.getElem?_drop]at h0
  split at h0
  ·split at h0
   ·simpa using h0
   ·cases h0
  ·cases h0
 refine⟨?_,?_,?_⟩
 ·have:=hcell 0 _ f1
  rw[hs]at this;exact this
 ·have:=hcell 1 _ f3
  rw[g2]at this;exact this
 ·have:=hcell 2 _ f5
  rw[g3]at this;exact this
theorem tabs_(h1:laidMet Tryz.prog [("strings.asciiSpace",Rows.laid_strings_asciiSpace)] W)(h2:laidMet Tryz.prog [("internal/strconv.uint64pow10",Rows.laid_internal_strconv_uint64pow10)] W)(h3:laidMet Tryz.prog [("baize/print.operations",Rows.laid_baize_print_operations)] W):Tabs W.heap.size W:=by
 have hp:=pow_ h2
 refine⟨d75! h1,hp,λop h=>(ops_ h3 op h).1,λop h=>(ops_ h3 op h).2.1,λop h=>(ops_ h3 op h).2.2,?_⟩
 have:=hp.cell (g:=3) (by kernel_rfl) 0 (by decide)
 have hb:(3:Nat)<W.heap.size:=World.block_lt_of_cell? _ _ this
 have:=hp
 omega
theorem b17!(h:laidMetH Tryz.prog laidB W):Tabs W.heap.size W∧TabP W.heap.size W:=by
 have ht:=tabs_ (v3! h (λx=>x.1== "strings.asciiSpace") (by rfl) (by kernel_rfl)) (v3! h (λx=>x.1== "internal/strconv.uint64pow10") (by rfl) (by kernel_rfl)) (v3! h (λx=>x.1== "baize/print.operations") (by rfl) (by kernel_rfl))
 exact⟨ht,pts_ (v3! h (λx=>x.1== "baize/print.parts") (by rfl) (by kernel_rfl)),ht.lt⟩
end Go.Proofs.YtdgekckedchjbaaGreatDoor
