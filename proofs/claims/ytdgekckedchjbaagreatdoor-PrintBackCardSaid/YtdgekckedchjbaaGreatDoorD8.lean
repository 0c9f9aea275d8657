
/-
 The document's small ones of chapter 11: many, Tight, Marks, Num.
-/
import Derived.Test.YtdgekckedchjbaaGreatDoorQM
import Derived.IntWalk
import Derived.Deep.RegionWith
set_option maxHeartbeats 4000000
set_option maxRecDepth 100000
namespace Go.Proofs.YtdgekckedchjbaaGreatDoor
open Go.RowKit
variable {n:Nat}
theorem e66!(op:Int)(w:World):Calls Tryz.prog 41 #[.I op] w λe w'=>e=.returned (.I (partsN op:Nat))∧w'=w:=by
 by_cases h2:op<2
 ·have e1:partsN op=0:=by unfold partsN;rw[if_pos h2]
  rw[e1];clear e1;go_enter Tryz.func41,Tryz.ntmps41;go_wp2_with fail
  go_ret
  exact⟨rfl,rfl⟩
 ·by_cases h5:op<5
  ·have e1:partsN op=1:=by unfold partsN;rw[if_neg h2,if_pos h5]
   rw[e1];clear e1;go_enter Tryz.func41,Tryz.ntmps41;go_wp2_with fail
   go_ret
   exact⟨rfl,rfl⟩
  ·have e1:partsN op=2:=by unfold partsN;rw[if_neg h2,if_neg h5]
   rw[e1];clear e1;go_enter Tryz.func41,Tryz.ntmps41;go_wp2_with fail
   go_ret
   exact⟨rfl,rfl⟩
def s2!:Array Value:=#[.I 6,.I 6,.I 6,.I 6,.I 6,.I 5,.I 5,.I 5,.I 4,.I 4,.I 3,.I 3,.I 3,.I 3,.I 3,.I 3,.I 2,.I 1]
theorem e67!:∀k:Nat,k<18->s2![k]?=some (.I (b0! (k:Int))):=by
 intro k hk
 iterate 18
  rcases k with _|k
  ·rfl
 omega
theorem b66!(op:Int)(w:World)(h0:0<=op)(h1:op<18):Calls Tryz.prog 44 #[.I op] w λe w'=>e=.returned (.I (b0! op))∧Below w.heap.size w w':=by
 obtain⟨k,rfl⟩:∃k:Nat,op=(k:Int):=⟨op.toNat,by omega⟩
 have hk:k<18:=by omega
 have x1:=Blk.new w 3 s2!
 have c1:(w.alloc (.cells s2! 3)).cell? ⟨w.heap.size,k,none⟩=some (.I (b0! (k:Int))):=(x1.cell k).trans (e67! k hk)
 have f1:=a! w (.cells s2! 3)
 have F1:=h! f1
 unfold s2! at c1 F1
 generalize b0! (k:Int)=tt at*
 clear x1 f1
 go_enter Tryz.func44,Tryz.ntmps44
 go_wp2_with fail
 go_ret
 exact⟨rfl,F1.out⟩
def x1!:Array Value:=#[.string ⟨#[42]⟩,.string ⟨#[47]⟩,.string ⟨#[37]⟩,.string ⟨#[43]⟩,.string ⟨#[45]⟩,.string ⟨#[61]⟩,.string ⟨#[33,61]⟩,.string ⟨#[60]⟩,.string ⟨#[60,61]⟩,.string ⟨#[62]⟩,.string ⟨#[62,61]⟩,.string ⟨#[97,110,100]⟩,.string ⟨#[111,114]⟩]
theorem e68!:∀k:Nat,k<13->x1![k]?=some (.string (str (markN ((k+5:Nat):Int)))):=by
 intro k hk
 iterate 13
  rcases k with _|k
  ·rfl
 omega
theorem e69!(w:World):Calls Tryz.prog 45 #[] w λe w'=>e=.returned (.slice (some ⟨w.heap.size,0,none⟩) 13 13)∧w'=w.alloc (.cells x1! 9):=by
 unfold x1!
 go_enter Tryz.func45,Tryz.ntmps45
 go_wp2_with fail
 go_ret
 exact⟨rfl,rfl⟩
theorem e70!{W:World}{b:Nat}{x:Int}(h:Blk W b 5 #[.int .u8 x])(h0:0<=x)(h1:x<=255):(convert 64 9 (.slice (some ⟨b,0,none⟩) 1 1)).run Tryz.prog W=.ok (.string (str [UInt8.ofNat x.toNat])) W:=by
 refine run_convert_bytes_back _ 64 9 5 ⟨b,0,none⟩ 1 [UInt8.ofNat x.toNat] Tryz.underlying64 Tryz.underlying5 Tryz.underlying9 ?_
 intro j hj
 match j,hj with
 |0,_=>
  have:=h.cell 0;rw[Addr.add_lit];refine this.trans ?_
  simp[UInt8.toNat_ofNat']
  omega
theorem b67!(h:n<10):Lib.decDigits n=[UInt8.ofNat (48+n)]:=by rw[Lib.decDigits,dif_pos h]
theorem b68!(h:¬n<10):Lib.decDigits n=Lib.decDigits (n/10)++[UInt8.ofNat (48+n%10)]:=by rw[Lib.decDigits,dif_neg h]
theorem b69!(n:Nat)(h:n<=9223372036854775807):(Lib.decDigits n).length<=21:=by
 have:=Lib.itoa_length_le (n:Int) (by omega) (by omega)
 rwa[Lib.itoa_nonneg]at this
def NumOk(n:Nat):Prop:=∀w,Calls Tryz.prog 42 #[.I (n:Int)] w λe w'=>e=.returned (.string (str (Lib.decDigits n)))∧Below w.heap.size w w'
theorem b70!(n:Nat)(h:n<10):NumOk n:=by
 intro w
 have t1:(n:Int)<10:=by omega
 have tn:¬(n:Int)<0:=by omega
 have hcv:=a56! w (48+(n:Int)) (by omega) (by omega)
 rw[show (48+(n:Int)).toNat=48+n from by omega,<-b67! h]at hcv
 obtain⟨D,hD⟩:∃D,str (Lib.decDigits n)=D:=⟨_,rfl⟩
 rw[hD]at hcv ⊢
 have u1:IntKind.u8.wrap (48+(n:Int))=48+(n:Int):=by rw[IntKind.wrap_u8];omega
 have u2:=y! (48+(n:Int))
 clear hD
 go_enter Tryz.func42,Tryz.ntmps42
 go_wp2_with fail
 go_ret
 exact⟨rfl,(Below.refl _ w).al _⟩
theorem e71!(n:Nat)(h:¬n<10)(hn:n<=9223372036854775807)(H1:NumOk (n/10)):NumOk n:=by
 intro w
 have t1:¬(n:Int)<10:=by omega
 have tn:¬(n:Int)<0:=by omega
 have d1:((n:Int)).tdiv 10=((n/10:Nat):Int):=by rw[Int.tdiv_eq_ediv_of_nonneg (by omega)];omega
 have d2:((n:Int)).tmod 10=((n%10:Nat):Int):=by rw[Int.tmod_eq_emod_of_nonneg (by omega)];omega
 have d3:((n:Int))/10=((n/10:Nat):Int):=by omega
 have d4:((n:Int))%10=((n%10:Nat):Int):=by omega
 have hap:=n1! (Lib.decDigits (n/10)) [UInt8.ofNat (48+n%10)]
 have l1:(str (Lib.decDigits (n/10))).size<=21:=by rw[str_size];exact b69! _ (by omega)
 rw[<-b68! h]at hap
 have K1:=h! H1
 unfold NumOk at K1
 have hq9:n%10<10:=Nat.mod_lt _ (by omega)
 obtain⟨p,hp⟩:∃p,n/10=p:=⟨_,rfl⟩
 obtain⟨q,hq⟩:∃q,n%10=q:=⟨_,rfl⟩
 rw[hp]at d1 d3 hap l1 K1
 rw[hq]at d2 d4 hap hq9
 have e1:IntKind.i64.wrap (p:Int)=(p:Int):=IntWalk.i64_in _ ⟨by omega,by omega⟩
 have u1:IntKind.u8.wrap (48+(q:Int))=48+(q:Int):=by rw[IntKind.wrap_u8];omega
 have u2:=y! (48+(q:Int))
 have hCV:Hid (∀W b,Blk W b 5 #[.int .u8 (48+(q:Int))]->(convert 64 9 (.slice (some ⟨b,0,none⟩) 1 1)).run Tryz.prog W=.ok (.string (str [UInt8.ofNat (48+q)])) W):=λW b hb=>by
  have:=e70! hb (by omega) (by omega);rw[show (48+(q:Int)).toNat=48+q from by omega]at this;exact this
 have hB1:(str [UInt8.ofNat (48+q)]).size=1:=rfl
 generalize str (Lib.decDigits p)=A at*
 generalize str [UInt8.ofNat (48+q)]=B at*
 generalize str (Lib.decDigits n)=C at*
 have z1:=x! (A.size+B.size)
 clear hp hq H1 h hB1 l1
 have f0:Below w.heap.size w w.drew:=(Below.refl _ w).drew
 have HA:=h! hap
 clear hap
 go_enter Tryz.func42,Tryz.ntmps42
 go_upto_region 8 with fail
 have cv0:=hCV.out (w.alloc (.cells #[.int .u8 (48+(q:Int))] 5)).drew w.heap.size ((Blk.new w 5 #[.int .u8 (48+(q:Int))]).drew)
 go_region_with (first
  |(go_at_call 42;(with_reducible refine(K1.out _).mono ?_);rintro e w1⟨rfl,b1⟩;have c1:=hCV.out w1 w.heap.size ((Blk.new w 5 #[.int .u8 (48+(q:Int))]).drew.below b1 (by simp));have f1:=((Below.refl w.heap.size w).al (.cells #[.int .u8 (48+(q:Int))] 5)).drew.trans (b1.mono (by simp)))
  |(go_at_call 42;(with_reducible refine(K1.out _).mono ?_);rintro e w1⟨rfl,b1⟩;have f1:=f0.trans b1;have c1:=hCV.out _ w1.heap.size (Blk.new w1 5 #[.int .u8 (48+(q:Int))])))
 all_goals
  have F1:=h! f1;clear f1 c1;go_wp2_with fail
  go_ret
  have hC:=HA.out;subst hC
  first
   |exact⟨rfl,F1.out⟩
   |exact⟨rfl,F1.out.alloc F1.out.size _⟩
theorem b71!:∀(k n:Nat),n<10^(k+1)->n<=9223372036854775807->NumOk n
 |0,n,h,_=>b70! n (by simpa using h)
 |k+1,n,h,hn=>by
  by_cases h10:n<10
  ·exact b70! n h10
  ·have h1:n/10<10^(k+1):=by rw[Nat.pow_succ]at h;omega
   exact e71! n h10 hn (b71! k _ h1 (by omega))
theorem b72!(n:Nat)(hn:n<=9223372036854775807):NumOk n:=b71! 18 n (by omega) hn
theorem e72!(n:Nat)(h1:1<=n)(h2:n<=9223372036854775808)(w:World):Calls Tryz.prog 42 #[.I (-(n:Int))] w λe w'=>e=.returned (.string (str (45::Lib.decDigits n)))∧Below w.heap.size w w':=by
 have tn:(-(n:Int))<0:=by omega
 have d1:(-(n:Int)).tdiv 10= -((n/10:Nat):Int):=by rw[Int.neg_tdiv,Int.tdiv_eq_ediv_of_nonneg (by omega)];omega
 have d2:(-(n:Int)).tmod 10= -((n%10:Nat):Int):=by rw[Int.neg_tmod,Int.tmod_eq_emod_of_nonneg (by omega)];omega
 have K1:=h! (b72! (n/10) (by omega))
 unfold NumOk at K1
 have l1:(str (Lib.decDigits (n/10))).size<=21:=by rw[str_size];exact b69! _ (by omega)
 have hD:Hid (str (45::Lib.decDigits n)=str (45::((if n/10=0 then []else Lib.decDigits (n/10))++[UInt8.ofNat (48+n%10)]))):=by
  rw[Hid]
  congr 2
  by_cases h10:n<10
  ·rw[if_pos (by omega),b67! h10,Nat.mod_eq_of_lt h10]
   rfl
  ·rw[if_neg (by omega),b68! h10]
 have hq9:n%10<10:=Nat.mod_lt _ (by omega)
 have hpz:n/10<=922337203685477580:=by omega
 obtain⟨p,hp⟩:∃p,n/10=p:=⟨_,rfl⟩
 obtain⟨q,hq⟩:∃q,n%10=q:=⟨_,rfl⟩
 rw[hp]at d1 hD l1 K1 hpz
 rw[hq]at d2 hD hq9
 have e0:=y! (-(p:Int))
 have e1:IntKind.i64.wrap (p:Int)=(p:Int):=IntWalk.i64_in _ ⟨by omega,by omega⟩
 have e2: - -(p:Int)=(p:Int):=by omega
 have e3:(48:Int)- -(q:Int)=48+(q:Int):=by omega
 have e4:=y! (-(q:Int))
 have u1:IntKind.u8.wrap (48+(q:Int))=48+(q:Int):=by rw[IntKind.wrap_u8];omega
 have u2:=y! (48+(q:Int))
 have hCV:Hid (∀W:World,(convert 64 9 (.slice (some ⟨W.heap.size,0,none⟩) 1 1)).run Tryz.prog (W.alloc (.cells #[.int .u8 (48+(q:Int))] 5))=.ok (.string (str [UInt8.ofNat (48+q)])) (W.alloc (.cells #[.int .u8 (48+(q:Int))] 5))):=λW=>by
  have:=a56! W (48+(q:Int)) (by omega) (by omega);rw[show (48+(q:Int)).toNat=48+q from by omega]at this;exact this
 have hX:Hid (∀t:List UInt8,(⟨#[45]⟩:ByteArray)++str t++str [UInt8.ofNat (48+q)]=str (45::(t++[UInt8.ofNat (48+q)]))):=λt=>by
  rw[show (⟨#[45]⟩:ByteArray)=str [45]from rfl,n1!,n1!]
  rfl
 have hB1:(str [UInt8.ofNat (48+q)]).size=1:=rfl
 have hM1:(⟨#[45]⟩:ByteArray).size=1:=rfl
 have hXs:Hid (∀t:List UInt8,((⟨#[45]⟩:ByteArray)++str t).size=t.length+1):=λt=>by
  rw[show (⟨#[45]⟩:ByteArray)=str [45]from rfl,n1!,str_size]
  simp
 generalize hBB:str [UInt8.ofNat (48+q)]=B at*
 clear hBB
 clear hp hq h1 h2
 go_enter Tryz.func42,Tryz.ntmps42
 go_wp2_with fail
 refine(K1.out _).mono ?_
 rintro e w1⟨rfl,b1⟩
 have cv:=hCV.out w1
 by_cases hz:p=0
 ·have HD:=h! hD.out
  rw[if_pos hz]at HD;have X0:=hX.out [];have S0:=hXs.out [];have hn0:str []=(⟨#[]⟩:ByteArray):=rfl;rw[hn0]at X0 S0;have z0:((-(p:Int))==0)=true:=by simp[hz]
  have z1:¬(9223372036854775807<((⟨#[45]⟩:ByteArray)++(⟨#[]⟩:ByteArray)).size+B.size):=by rw[S0,hB1];decide
  have z2:¬(9223372036854775807<(⟨#[45]⟩:ByteArray).size+(⟨#[]⟩:ByteArray).size):=by decide
  rw[<-HD.out]at X0;have HX0:=h! X0;clear hD hX hXs X0 HD S0;go_wp2_with fail
  go_ret
  refine⟨?_,b1.alloc b1.size _⟩;rw[<-HX0.out]
  rfl
 ·have HD:=h! hD.out
  rw[if_neg hz]at HD;have X0:=hX.out (Lib.decDigits p);have S0:=hXs.out (Lib.decDigits p);have z0:((-(p:Int))==0)=false:=by simp;omega
  rw[str_size]at l1;have z2:¬(9223372036854775807<(⟨#[45]⟩:ByteArray).size+(str (Lib.decDigits p)).size):=by rw[hM1,str_size];omega
  have z1:¬(9223372036854775807<((⟨#[45]⟩:ByteArray)++str (Lib.decDigits p)).size+B.size):=by rw[S0,hB1];omega
  rw[<-HD.out]at X0;have HX0:=h! X0;clear hD hX hXs X0 HD S0;go_wp2_with fail
  go_ret
  refine⟨?_,b1.alloc b1.size _⟩;rw[<-HX0.out]
  rfl
theorem s3!(n:Int)(h0: -9223372036854775808<=n)(h1:n<=9223372036854775807)(w:World):Calls Tryz.prog 42 #[.I n] w λe w'=>e=.returned (.string (str (Lib.itoa n)))∧Below w.heap.size w w':=by
 by_cases h:n<0
 ·have:=e72! n.natAbs (by omega) (by omega) w
  rw[show-(n.natAbs:Int)=n from by omega]at this;unfold Lib.itoa;rw[if_pos h];exact this
 ·have:=b72! n.toNat (by omega) w
  rw[show ((n.toNat:Nat):Int)=n from by omega]at this;unfold Lib.itoa;rw[if_neg h];exact this
end Go.Proofs.YtdgekckedchjbaaGreatDoor
