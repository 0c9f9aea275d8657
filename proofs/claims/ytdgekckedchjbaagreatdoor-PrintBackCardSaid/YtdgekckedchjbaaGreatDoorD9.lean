
/-
 The document's text of a tree: Raw, in. (Printed by wip/tools/gend9.py.)
-/
import Derived.Test.YtdgekckedchjbaaGreatDoorD8
import Derived.Deep.RegionWith
import Derived.Deep.RegionHeld3
import Derived.BigQuiet
set_option maxHeartbeats 8000000
set_option maxRecDepth 100000
namespace Go.Proofs.YtdgekckedchjbaaGreatDoor
open Go.RowKit
variable {w:World} {A:Option Addr} {i l n:Nat} {a x:Gx} {b:Bool} {N op:Int} {m nm:ByteArray} {s:List UInt8}
def Gx.wgt:Gx->Nat
 | .mk _ _ nm l=>1+nm.size+(l.map Gx.wgt).sum
theorem wgt_mk(op N:Int)(nm:ByteArray)(l:List Gx):(Gx.mk op N nm l).wgt=1+nm.size+(l.map Gx.wgt).sum:=by rw[Gx.wgt]
theorem wgt_one(op N:Int)(nm:ByteArray)(a:Gx):(Gx.mk op N nm [a]).wgt=1+nm.size+a.wgt:=by rw[wgt_mk];simp
theorem b73!(op N:Int)(nm:ByteArray)(a b:Gx):(Gx.mk op N nm [a,b]).wgt=1+nm.size+a.wgt+b.wgt:=by rw[wgt_mk];simp;omega
structure KD (n:Nat) (w:World) (A:Option Addr) (i:Nat) (x:Gx) (b o:Nat) (op N:Int) (nm:ByteArray) (A':Option Addr) (l' c':Nat):Prop where
 at_:A=some ⟨b,o,none⟩
 gc:GC (λ_=>True) w 2513169434843 n [.I op,.I N,.string nm,.slice A' l' c'] x
 c0:w.cell? ⟨b,o+i*4,none⟩=some (.I op)
 c1:w.cell? ⟨b,o+i*4+1,none⟩=some (.I N)
 c2:w.cell? ⟨b,o+i*4+2,none⟩=some (.string nm)
 c3:w.cell? ⟨b,o+i*4+3,none⟩=some (.slice A' l' c')
 lt:b<w.heap.size
theorem KD.of{q:Nat}{gs:List Gx}(h:ElsG (λ_=>True) w 4 2513169434843 (GC (λ_=>True) w 2513169434843 q) A l gs)(hi:i<gs.length):
 ∃(b o:Nat) (op N:Int) (nm:ByteArray) (A':Option Addr) (l' c':Nat),KD q w A i (gs[i]'hi) b o op N nm A' l' c':=by
 obtain⟨b,o,op,N,nm,A',l',c',h1,_,h3,h4,h5,h6,h7,h8⟩:=h.at4 hi
 exact⟨b,o,op,N,nm,A',l',c',h1,h4,h5,h6,h7,h8,h3⟩
theorem KD.below{w':World}{b o:Nat}{A':Option Addr}{l' c':Nat}(h:KD n w A i x b o op N nm A' l' c')(hb:Below w.heap.size w w'):KD n w' A i x b o op N nm A' l' c':=
 ⟨h.at_,h.gc.below hb,(hb.cell (p:=⟨b,o+i*4,none⟩) h.lt).trans h.c0,(hb.cell (p:=⟨b,o+i*4+1,none⟩) h.lt).trans h.c1,(hb.cell (p:=⟨b,o+i*4+2,none⟩) h.lt).trans h.c2,(hb.cell (p:=⟨b,o+i*4+3,none⟩) h.lt).trans h.c3,Nat.lt_of_lt_of_le h.lt hb.size⟩
def TxtTo(w:World)(m:Nat)(t:Option (List UInt8))(e:Ending)(w':World):Prop:=
 ∃(s:ByteArray) (b:Bool),e=.returned (.tuple #[.string s,.bool b])∧Below w.heap.size w w'∧s.size<=m∧((b=true∧t=some s.data.toList)∨(b=false∧t=none))
def RawOk(n:Nat):Prop:=∀(op N:Int) (nm:ByteArray) (A:Option Addr) (len cap:Nat) (x:Gx) (w:World),GC (λ_=>True) w 2513169434843 n [.I op,.I N,.string nm,.slice A len cap] x->FitG n x->x.wgt<=1048576->
 Calls Tryz.prog 23 #[.agg #[.I op,.I N,.string nm,.slice A len cap]] w (TxtTo w (40*x.wgt) (rawE x))
def InOk(n:Nat):Prop:=∀(op N t:Int) (nm:ByteArray) (A:Option Addr) (len cap:Nat) (x:Gx) (w:World),GC (λ_=>True) w 2513169434843 n [.I op,.I N,.string nm,.slice A len cap] x->FitG n x->x.wgt<=1048576->
 Calls Tryz.prog 43 #[.agg #[.I op,.I N,.string nm,.slice A len cap],.I t] w (TxtTo w (40*x.wgt+4) (operO op t (rawE x)))
theorem e73!{l:List Gx}(h:rawE (.mk op N nm l)=some s):0<=op∧op<18:=by
 by_cases hc:0<=op∧op<18∧l.length=partsN op
 ·exact⟨hc.1,hc.2.1⟩
 ·rw[k0! hc]at h
  cases h
theorem gc_op{D:Nat->Prop}{M:Nat}{c:Nat}(h:GC D w M n [.I op,.I N,.string nm,.slice A l c] x):x.op=op:=by
 obtain⟨op0,N0,nm0,gs⟩:=x
 exact h.parts_.1.symm
theorem gx_op(h:rawE x=some s):0<=x.op∧x.op<18:=by
 obtain⟨op0,N0,nm0,gs⟩:=x
 exact e73! h
theorem e74!(n:Nat)(H:RawOk n):InOk n:=by
 intro op N t nm A len cap x w hG hF hW
 have X1:=h! (Blk.new w 24 #[.I op,.I N,.string nm,.slice A len cap])
 have F1:=h! ((Below.refl _ w).al (.cells #[.I op,.I N,.string nm,.slice A len cap] 24))
 have HOP:=h! (gc_op hG)
 have RW:=h! (H op N nm A len cap x _ (hG.below F1.out) hF hW)
 have hm:40*x.wgt<=41943040:=by omega
 generalize 40*x.wgt=m at*
 clear hG hF hW H
 go_enter Tryz.func43,Tryz.ntmps43
 go_upto_region 1 with fail
 generalize w.alloc (.cells #[.I op,.I N,.string nm,.slice A len cap] 24)=W1 at*
 have x1:=X1.out
 have v0:=x1.cell 0
 have v1:=x1.cell 1
 have v2:=x1.cell 2
 have v3:=x1.cell 3
 go_wp2_with fail
 refine RW.out.mono ?_
 rintro e w2⟨s,b,rfl,b2,hs,hb⟩
 have X2:=b! X1 b2
 have F2:=r! F1 b2
 have HB:=h! hb
 clear v0 v1 v2 v3 x1 hb b2 RW
 cases b
 ·have hn:rawE x=none:=by
   rcases HB.out with ⟨h,_⟩|⟨_,h⟩
   ·cases h
   ·exact h
  have ho:Hid (operO op t (rawE x)=none):=by
   rw[hn];unfold operO
   split<;>rfl
  clear hn;go_wp2_with fail;refine bodyPost_ret (v:=.tuple #[.string s,.bool false]) (by simp[results,Tryz.results43,go_sem]) rfl ⟨s,false,rfl,F2.out,by omega,.inr ⟨rfl,ho.out⟩⟩
 ·have hn:rawE x=some s.data.toList:=by
   rcases HB.out with ⟨_,h⟩|⟨h,_⟩
   ·exact h
   ·cases h
  have hop:=gx_op hn;rw[HOP.out]at hop;have TG:=h! (λW=>b66! op W hop.1 hop.2);have HN:=h! hn;clear hn hop HB;have v0:=X2.out.cell 0;obtain⟨tt,htt⟩:∃z,b0! op=z:=⟨_,rfl⟩
  rw[htt]at TG;have HT:=h! htt;clear htt;go_wp2_with fail;refine(TG.out _).mono ?_;rintro e w3⟨rfl,b3⟩;have F3:=r! F2 b3;clear v0 b3 TG
  by_cases hlt:tt<t
  ·have ho:Hid (operO op t (rawE x)=some ([40,32]++s.data.toList++[32,41])):=by
    rw[Hid,HN.out];unfold operO;rw[HT.out,if_pos hlt]
    rfl
   have z0:(⟨#[40,32]⟩:ByteArray).size=2:=rfl;have z9:(⟨#[32,41]⟩:ByteArray).size=2:=rfl;have z1:¬(9223372036854775807<(⟨#[40,32]⟩:ByteArray).size+s.size):=by rw[z0];omega
   have z2:¬(9223372036854775807<((⟨#[40,32]⟩:ByteArray)++s).size+(⟨#[32,41]⟩:ByteArray).size):=by rw[ByteArray.size_append,z0,z9];omega
   clear z0 z9;go_wp2_with fail;refine bodyPost_ret (v:=.tuple #[.string ((⟨#[40,32]⟩:ByteArray)++s++(⟨#[32,41]⟩:ByteArray)),.bool true]) (by simp[results,Tryz.results43,go_sem]) rfl ⟨_,true,rfl,F3.out,?_,.inl ⟨rfl,?_⟩⟩
   ·rw[ByteArray.size_append,ByteArray.size_append]
    show 2+s.size+2<=_
    omega
   ·rw[ho.out]
    simp
  ·have ho:Hid (operO op t (rawE x)=some s.data.toList):=by
    rw[Hid,HN.out];unfold operO;rw[HT.out,if_neg hlt]
   go_wp2_with fail;refine bodyPost_ret (v:=.tuple #[.string s,.bool true]) (by simp[results,Tryz.results43,go_sem]) rfl ⟨s,true,rfl,F3.out,by omega,.inl ⟨rfl,ho.out⟩⟩
theorem e75!{s:ByteArray}(h:(b=true∧rawE a=some s.data.toList)∨(b=false∧rawE a=none)):(b=true∧rawE (.mk 2 N nm [a])=some (nm++(⟨#[32,91,32]⟩:ByteArray)++s++(⟨#[32,93]⟩:ByteArray)).data.toList)∨(b=false∧rawE (.mk 2 N nm [a])=none):=by
 rcases h with⟨h1,h2⟩|⟨h1,h2⟩
 ·refine .inl ⟨h1,?_⟩
  rw[z3!,h2]
  simp[ocat]
 ·refine .inr ⟨h1,?_⟩
  rw[z3!,h2]
  rfl
theorem b74!{t:Int}{s:ByteArray}(hop:op=3∨op=4)(hm:m.data.toList=markN op++[32])(ha:a.op=t)(h:(b=true∧operO t 6 (rawE a)=some s.data.toList)∨(b=false∧operO t 6 (rawE a)=none)):(b=true∧rawE (.mk op N nm [a])=some (m++s).data.toList)∨(b=false∧rawE (.mk op N nm [a])=none):=by
 rcases h with⟨h1,h2⟩|⟨h1,h2⟩
 ·refine .inl ⟨h1,?_⟩
  rw[v0! hop,ha,h2]
  simp[ocat,hm]
 ·refine .inr ⟨h1,?_⟩
  rw[v0! hop,ha,h2]
  rfl
theorem e76!{ta tb l r:Int}{sa sb:ByteArray}{b:Gx}{x y:Bool}(hop:5<=op∧op<18)(hm:m.data.toList=markN op)(ha:a.op=ta)(hb:b.op=tb)(hl:leftN op=l)(hr:b0! op+1=r)(h:(x=true∧operO ta l (rawE a)=some sa.data.toList)∨(x=false∧operO ta l (rawE a)=none))
 (k:(y=true∧operO tb r (rawE b)=some sb.data.toList)∨(y=false∧operO tb r (rawE b)=none)):((x&&y)=true∧rawE (.mk op N nm [a,b])=some (sa++(⟨#[32]⟩:ByteArray)++m++(⟨#[32]⟩:ByteArray)++sb).data.toList)∨((x&&y)=false∧rawE (.mk op N nm [a,b])=none):=by
 rw[b03! hop,ha,hb,hl,hr]
 rcases h with⟨h1,h2⟩|⟨h1,h2⟩
 ·rcases k with⟨k1,k2⟩|⟨k1,k2⟩
  ·refine .inl ⟨by rw[h1,k1];rfl,?_⟩
   rw[h2,k2]
   simp[ocat,hm]
  ·refine .inr ⟨by rw[h1,k1];rfl,?_⟩
   rw[h2,k2]
   rfl
 ·refine .inr ⟨by rw[h1];rfl,?_⟩
  rw[h2]
  rfl
theorem e77!{c:Prop}[Decidable c]{a b:List UInt8}(ha:a.length<=n)(hb:b.length<=n):(if c then a else b).length<=n:=by
 split
 ·exact ha
 ·exact hb
theorem e78!{α:Type}{l:List α}(h:l.length=2):∃a b,l=[a,b]:=by
 match l,h with
 |[a,b],_=>exact⟨a,b,rfl⟩
theorem e79!(op:Int):(markN op).length<=3:=by
 unfold markN
 repeat refine e77! (by decide) ?_
 decide
theorem e80!(n:Nat)(HR:RawOk n)(HI:InOk n):RawOk (n+1):=by
 intro op N nm A len cap x w hG hF hW
 obtain⟨op0,N0,nm0,gs⟩:=x
 obtain⟨rfl,rfl,rfl,hlen,q,hq,hel⟩:=hG.parts_
 obtain rfl:n=q:=by omega
 obtain⟨hN,hnm,hk⟩:=hF
 have HK:=h! hk
 have HL:=h! hlen
 have HWG:=h! hW
 rw[wgt_mk]at hW
 have hsum:=Nat.le_trans (Nat.le_add_left _ _) hW
 have HS:=h! hsum
 have hnl:nm.size<=1048576:=by omega
 have X1:=h! (Blk.new w 24 #[.I op,.I N,.string nm,.slice A len cap])
 have F1:=h! ((Below.refl _ w).al (.cells #[.I op,.I N,.string nm,.slice A len cap] 24))
 have HE:=h! (hel.below F1.out)
 have MN:=h! (λW=>e66! op W)
 obtain⟨pn,hpn⟩:∃m,partsN op=m:=⟨_,rfl⟩
 rw[hpn]at MN
 have HP:=h! hpn
 clear hG hel hlen hW hsum hk hpn hq
 go_enter Tryz.func23,Tryz.ntmps23
 go_upto_region 1 with fail
 generalize w.alloc (.cells #[.I op,.I N,.string nm,.slice A len cap] 24)=W1 at*
 have x1:=X1.out
 have v0:=x1.cell 0
 have v1:=x1.cell 1
 have v2:=x1.cell 2
 have v3:=x1.cell 3
 by_cases n0:op<0
 ·have d0:decide (op<0)=true:=decide_eq_true n0
  have HB:Hid (rawE (.mk op N nm gs)=none):=k0! (λh=>by omega)
  go_quiet (fail)
  go_wp2_with fail;refine bodyPost_ret (v:=.tuple #[.E,.bool false]) (by simp[results,Tryz.results23,go_sem]) rfl ⟨⟨#[]⟩,false,rfl,F1.out.trans ((a5! (Below.refl _ W1) nq).mono F1.out.size),Nat.zero_le _,.inr ⟨rfl,HB.out⟩⟩
 have d0:decide (op<0)=false:=decide_eq_false n0
 by_cases n1:17<op
 ·have d1:decide (17<op)=true:=decide_eq_true n1
  have HB:Hid (rawE (.mk op N nm gs)=none):=k0! (λh=>by omega)
  go_quiet (fail)
  go_wp2_with fail;refine bodyPost_ret (v:=.tuple #[.E,.bool false]) (by simp[results,Tryz.results23,go_sem]) rfl ⟨⟨#[]⟩,false,rfl,F1.out.trans ((a5! (Below.refl _ W1) nq).mono F1.out.size),Nat.zero_le _,.inr ⟨rfl,HB.out⟩⟩
 have d1:decide (17<op)=false:=decide_eq_false n1
 by_cases n2:len=pn
 rotate_left
 ·have HB:Hid (rawE (.mk op N nm gs)=none):=k0! (λh=>n2 (by rw[HL.out,h.2.2,HP.out]))
  have zl:(((len:Nat):Int)==((pn:Nat):Int))=false:=by simp;omega
  clear n2
  go_quiet ((go_at_call 41;refine Calls.quiet_of_same (MN.out _)))
  go_wp2_with fail;refine bodyPost_ret (v:=.tuple #[.E,.bool false]) (by simp[results,Tryz.results23,go_sem]) rfl ⟨⟨#[]⟩,false,rfl,F1.out.trans ((a5! (Below.refl _ W1) nq).mono F1.out.size),Nat.zero_le _,.inr ⟨rfl,HB.out⟩⟩
 have zl:(((len:Nat):Int) != ((pn:Nat):Int))=false:=by simp[n2]
 have HLP:Hid (gs.length=partsN op):=by rw[Hid,<-HL.out,n2,HP.out]
 have HPN:Hid (pn=gs.length):=by rw[Hid,<-HL.out,n2]
 clear n2
 go_quiet ((go_at_call 41;refine Calls.quiet_of_same (MN.out _)))
 have X2:=h! (X1.out.drewN nq)
 have F2:=h! (F1.out.trans ((a5! (Below.refl _ W1) nq).mono F1.out.size))
 have HE2:=h! (HE.out.below (a5! (Below.refl _ W1) nq))
 clear v0 v1 v2 v3 x1 X1 F1 HE zl
 generalize W1.drewN nq=W2 at*
 have x2:=X2.out
 have v0:=x2.cell 0
 have v1:=x2.cell 1
 have v2:=x2.cell 2
 have v3:=x2.cell 3
 by_cases o0:op=0
 ·subst o0
  obtain rfl:gs=[]:=List.eq_nil_of_length_eq_zero HLP.out;have NC:=h! (s3! N hN.1 hN.2 W2);have hil:=h! (Lib.itoa_length_le N hN.1 hN.2);go_wp2_with fail;refine NC.out.mono ?_;rintro e w3⟨rfl,b3⟩;go_wp2_with fail;refine bodyPost_ret (v:=.tuple #[.string (str (Lib.itoa N)),.bool true]) (by simp[results,Tryz.results23,go_sem]) rfl ⟨_,true,rfl,F2.out.trans (b3.mono F2.out.size),?_,.inl ⟨rfl,by rw[b02!,str_list]⟩⟩;rw[str_size,wgt_mk];have:=hil.out
  omega
 have e0:((op:Int)==0)=false:=by simp[o0]
 by_cases o1:op=1
 ·subst o1
  obtain rfl:gs=[]:=List.eq_nil_of_length_eq_zero HLP.out;go_wp2_with fail;refine bodyPost_ret (v:=.tuple #[.string nm,.bool true]) (by simp[results,Tryz.results23,go_sem]) rfl ⟨_,true,rfl,F2.out,?_,.inl ⟨rfl,rawE_nam⟩⟩;rw[wgt_mk]
  omega
 have e1:((op:Int)==1)=false:=by simp[o1]
 by_cases o5:op<5
 ·obtain⟨a,rfl⟩:∃a,gs=[a]:=by
   have h:=HLP.out;unfold partsN at h;rw[if_neg (by omega),if_pos o5]at h;exact List.length_eq_one_iff.1 h
  obtain rfl:len=1:=HL.out;obtain⟨kb,ko,kop,kN,knm,kA,kl,kc,hk0⟩:=KD.of HE2.out (i:=0) (by simp);obtain rfl:=hk0.at_;have KX:=h! hk0;have hfa:FitG n a:=HK.out a (by simp);have hwa:a.wgt<=1048576:=by
   have:=HS.out
   simpa using this
  have HWE:=h! (wgt_one op N nm a);have HAO:=h! (gc_op (show GC (λ_=>True) W2 2513169434843 n _ a from KX.out.gc));have c0:W2.cell? ⟨kb,ko,none⟩=some (.I kop):=KX.out.c0;have c1:W2.cell? ⟨kb,ko+1,none⟩=some (.I kN):=KX.out.c1;have c2:W2.cell? ⟨kb,ko+2,none⟩=some (.string knm):=KX.out.c2;have c3:W2.cell? ⟨kb,ko+3,none⟩=some (.slice kA kl kc):=KX.out.c3
  by_cases o2:op=2
  ·subst o2
   have RW:=h! (HR kop kN knm kA kl kc a W2 KX.out.gc hfa hwa);go_wp2_with fail;refine RW.out.mono ?_;rintro e w3⟨s,b,rfl,b3,hs,hb⟩;have X3:=X2.out.below b3 X2.out.lt;have F3:=r! F2 b3;have HB:=h! (e75! (N:=N) (nm:=nm) hb);clear hb v0 v1 v2 v3 c0 c1 c2 c3;have v2:=X3.cell 2;have z1:¬(9223372036854775807<nm.size+(⟨#[32,91,32]⟩:ByteArray).size):=by show ¬(9223372036854775807<nm.size+3);omega
   have z2:¬(9223372036854775807<(nm++(⟨#[32,91,32]⟩:ByteArray)).size+s.size):=by rw[ByteArray.size_append];show ¬(9223372036854775807<nm.size+3+s.size);omega
   have z3:¬(9223372036854775807<(nm++(⟨#[32,91,32]⟩:ByteArray)++s).size+(⟨#[32,93]⟩:ByteArray).size):=by rw[ByteArray.size_append,ByteArray.size_append];show ¬(9223372036854775807<nm.size+3+s.size+2);omega
   go_wp2_with fail;refine bodyPost_ret (v:=.tuple #[.string (nm++(⟨#[32,91,32]⟩:ByteArray)++s++(⟨#[32,93]⟩:ByteArray)),.bool b]) (by simp[results,Tryz.results23,go_sem]) rfl ⟨_,b,rfl,F3.out,?_,HB.out⟩;rw[ByteArray.size_append,ByteArray.size_append,ByteArray.size_append,HWE.out]
   show nm.size+3+s.size+2<=_
   omega
  have e2:((op:Int)==2)=false:=by simp[o2]
  have RW:=h! (HI kop kN 6 knm kA kl kc a W2 KX.out.gc hfa hwa);rcases(show op=3∨op=4 from by omega)with rfl|rfl
  ·have HWF:=h! HWE.out
   go_wp2_with fail;refine RW.out.mono ?_;rintro e w3⟨s,b,rfl,b3,hs,hb⟩;have X3:=X2.out.below b3 X2.out.lt;have F3:=r! F2 b3;have HB:=h! (b74! (op:=3) (N:=N) (nm:=nm) (m:=⟨#[45,32]⟩) (by omega) rfl HAO.out hb);clear hb v0 v1 v2 v3 c0 c1 c2 c3;have v0:=X3.cell 0;have X4:=(X3.alloc (.cells #[.string ⟨#[45,32]⟩,.string ⟨#[110,111,116,32]⟩] 9)).cell 0;have Y4:=Blk.new w3 9 #[.string ⟨#[45,32]⟩,.string ⟨#[110,111,116,32]⟩];have y0:=Y4.cell 0;have y1:=Y4.cell 1;have z1:¬(9223372036854775807<(⟨#[45,32]⟩:ByteArray).size+s.size):=by show ¬(9223372036854775807<2+s.size);omega
   go_wp2_with fail;refine bodyPost_ret (v:=.tuple #[.string ((⟨#[45,32]⟩:ByteArray)++s),.bool b]) (by simp[results,Tryz.results23,go_sem]) rfl ⟨_,b,rfl,F3.out.al _,?_,HB.out⟩;rw[ByteArray.size_append,HWF.out]
   show 2+s.size<=_
   omega
  ·have HWF:=h! HWE.out
   go_wp2_with fail;refine RW.out.mono ?_;rintro e w3⟨s,b,rfl,b3,hs,hb⟩;have X3:=X2.out.below b3 X2.out.lt;have F3:=r! F2 b3;have HB:=h! (b74! (op:=4) (N:=N) (nm:=nm) (m:=⟨#[110,111,116,32]⟩) (by omega) rfl HAO.out hb);clear hb v0 v1 v2 v3 c0 c1 c2 c3;have v0:=X3.cell 0;have X4:=(X3.alloc (.cells #[.string ⟨#[45,32]⟩,.string ⟨#[110,111,116,32]⟩] 9)).cell 0;have Y4:=Blk.new w3 9 #[.string ⟨#[45,32]⟩,.string ⟨#[110,111,116,32]⟩];have y0:=Y4.cell 0;have y1:=Y4.cell 1;have z1:¬(9223372036854775807<(⟨#[110,111,116,32]⟩:ByteArray).size+s.size):=by show ¬(9223372036854775807<4+s.size);omega
   go_wp2_with fail;refine bodyPost_ret (v:=.tuple #[.string ((⟨#[110,111,116,32]⟩:ByteArray)++s),.bool b]) (by simp[results,Tryz.results23,go_sem]) rfl ⟨_,b,rfl,F3.out.al _,?_,HB.out⟩;rw[ByteArray.size_append,HWF.out]
   show 4+s.size<=_
   omega
 obtain⟨a,b',rfl⟩:∃a b,gs=[a,b]:=by
  have h:=HLP.out;unfold partsN at h;rw[if_neg (by omega),if_neg o5]at h;exact e78! h
 obtain rfl:len=2:=HL.out
 have e2:((op:Int)==2)=false:=by simp;omega
 have e3:((op:Int)==3)=false:=by simp;omega
 have e4:((op:Int)==4)=false:=by simp;omega
 obtain⟨kb,ko,kop,kN,knm,kA,kl,kc,hk0⟩:=KD.of HE2.out (i:=0) (by simp)
 obtain⟨kb2,ko2,jop,jN,jnm,jA,jl,jc,hk1⟩:=KD.of HE2.out (i:=1) (by simp)
 obtain rfl:=hk0.at_
 obtain⟨rfl,rfl⟩:kb=kb2∧ko=ko2:=by
  have:=hk1.at_;injection this with this;injection this with h1 h2;exact⟨h1,h2⟩
 have KX:=h! hk0
 have JX:=h! hk1
 have hfa:FitG n a:=HK.out a (by simp)
 have hfb:FitG n b':=HK.out b' (by simp)
 have HWE:=h! (b73! op N nm a b')
 have hww:a.wgt+b'.wgt<=1048576:=by
  have:=HS.out
  simpa using this
 have hwa:a.wgt<=1048576:=by omega
 have hwb:b'.wgt<=1048576:=by omega
 have HAO:=h! (gc_op (show GC (λ_=>True) W2 2513169434843 n _ a from KX.out.gc))
 have HBO:=h! (gc_op (show GC (λ_=>True) W2 2513169434843 n _ b' from JX.out.gc))
 have TG:=h! (λW=>b66! op W (by omega) (by omega))
 obtain⟨tt,htt⟩:∃z,b0! op=z:=⟨_,rfl⟩
 have htb:1<=tt∧tt<=6:=by
  rw[<-htt];unfold b0!
  repeat' split
  all_goals omega
 have HTT:=h! htt
 have HLT:Hid (leftN op=if tt=3 then 4 else tt):=by
  unfold leftN;rw[Hid,htt]
  split
  ·rename_i h
   rw[h]
   rfl
  ·rfl
 rw[htt]at TG
 have wtt:=y! (tt+1)
 have IB:=h! (λ(W:World) (hW:Below W2.heap.size W2 W)=>HI jop jN (tt+1) jnm jA jl jc b' W ((JX.out.below hW).gc) hfb hwb)
 have IA:=h! (λ(t:Int) (W:World) (hW:Below W2.heap.size W2 W)=>HI kop kN t knm kA kl kc a W ((KX.out.below hW).gc) hfa hwa)
 obtain⟨k,hk⟩:∃k:Nat,op=(k:Int)+5:=⟨(op-5).toNat,by omega⟩
 have hk13:k<13:=by omega
 have MK:Hid (∀W,Calls Tryz.prog 45 #[] W (λe w'=>e=.returned (.slice (some ⟨W.heap.size,0,none⟩) 13 13)∧Below W.heap.size W w'∧w'.cell? ⟨W.heap.size,k,none⟩=some (.string (str (markN op))))):=λW=>(e69! W).mono (λe w' ⟨h1,h2⟩=>by
  subst h2;refine⟨h1,(Below.refl _ W).al _,((Blk.new W 9 x1!).cell k).trans ?_⟩;rw[e68! k hk13,show ((k+5:Nat):Int)=op from by omega])
 have hml:(str (markN op)).size<=3:=by rw[str_size];exact e79! op
 have hms:(str (markN op)).data.toList=markN op:=str_list _
 generalize str (markN op)=MS at*
 have HMS:=h! hms
 have w5:op-5=(k:Int):=by omega
 have w6:IntKind.i64.wrap (k:Int)=(k:Int):=IntWalk.i64_in _ ⟨by omega,by omega⟩
 have w7:(0:Int)<=(k:Int):=by omega
 have w8:(k:Int)<13:=by omega
 have HOP:Hid (5<=op∧op<18):=⟨by omega,by omega⟩
 clear hk htt hms
 go_wp2_with fail
 refine(TG.out _).mono ?_
 rintro e w3⟨rfl,b3⟩
 have X3:=b! X2 b3
 have G3:=h! b3
 clear v0 v1 v2 v3 x2
 have v3:=X3.out.cell 3
 have k3:=KX.out.below b3
 have c0:w3.cell? ⟨kb,ko,none⟩=some (.I kop):=k3.c0
 have c1:w3.cell? ⟨kb,ko+1,none⟩=some (.I kN):=k3.c1
 have c2:w3.cell? ⟨kb,ko+2,none⟩=some (.string knm):=k3.c2
 have c3:w3.cell? ⟨kb,ko+3,none⟩=some (.slice kA kl kc):=k3.c3
 clear b3 k3 TG
 have q9:leftN op=if tt=3 then 4 else tt:=HLT.out
 have Q9:=h! q9
 clear q9
 go_upto_if 84 with fail
 go_cut [9] (λlv wc=>lv=.I (leftN op)∧w3=wc)
 case first=>
  by_cases t3:tt=3
  ·subst t3
   go_wp2_with fail;go_meet
   case rel=>exact⟨by rw[Q9.out];simp,rfl⟩
  ·have q3:((tt:Int)==3)=false:=by simp[t3]
   have T3:=h! t3;clear t3;go_wp2_with fail;go_meet
   case rel=>exact⟨by rw[Q9.out,if_neg T3.out],rfl⟩
 case rest=>
 obtain⟨rfl,rfl⟩:=hcut
 obtain⟨lf,hlf⟩:∃x,leftN op=x:=⟨_,rfl⟩
 rw[hlf]
 have HLF:=h! hlf
 clear hlf
 have IL:=h! (IA.out lf w3 G3.out)
 go_wp2_with fail
 refine IL.out.mono ?_
 rintro e w4⟨s,b,rfl,b4,hs,hb⟩
 have G4:=r! G3 b4
 have X4:=b! X3 b4
 have HB:=h! hb
 clear hb b4 v3 c0 c1 c2 c3 IL
 have v3:=X4.out.cell 3
 have j4:=JX.out.below G4.out
 have c0:w4.cell? ⟨kb,ko+4,none⟩=some (.I jop):=j4.c0
 have c1:w4.cell? ⟨kb,ko+4+1,none⟩=some (.I jN):=j4.c1
 have c2:w4.cell? ⟨kb,ko+4+2,none⟩=some (.string jnm):=j4.c2
 have c3:w4.cell? ⟨kb,ko+4+3,none⟩=some (.slice jA jl jc):=j4.c3
 clear j4
 have IR:=h! (IB.out w4 G4.out)
 go_wp2_with fail
 refine IR.out.mono ?_
 rintro e w5⟨s2,b2,rfl,b5,hs2,hb2⟩
 have G5:=r! G4 b5
 have X5:=b! X4 b5
 have HB2:=h! (e76! (N:=N) (nm:=nm) HOP.out HMS.out HAO.out HBO.out HLF.out (by rw[HTT.out]) HB.out hb2)
 clear hb2 b5 v3 c0 c1 c2 c3 IR
 have v0:=X5.out.cell 0
 have v0':=X5.out.drew.cell 0
 have z1:¬(9223372036854775807<s.size+(⟨#[32]⟩:ByteArray).size):=by show ¬(9223372036854775807<s.size+1);omega
 have z2:¬(9223372036854775807<(s++(⟨#[32]⟩:ByteArray)).size+MS.size):=by rw[ByteArray.size_append];show ¬(9223372036854775807<s.size+1+MS.size);omega
 have z3:¬(9223372036854775807<(s++(⟨#[32]⟩:ByteArray)++MS).size+(⟨#[32]⟩:ByteArray).size):=by rw[ByteArray.size_append,ByteArray.size_append];show ¬(9223372036854775807<s.size+1+MS.size+1);omega
 have z4:¬(9223372036854775807<(s++(⟨#[32]⟩:ByteArray)++MS++(⟨#[32]⟩:ByteArray)).size+s2.size):=by rw[ByteArray.size_append,ByteArray.size_append,ByteArray.size_append];show ¬(9223372036854775807<s.size+1+MS.size+1+s2.size);omega
 have y1:=x! (s.size+1)
 have y2:=x! (s.size+1+MS.size)
 have y3:=x! (s.size+1+MS.size+1)
 have y4:=x! (s.size+1+MS.size+1+s2.size)
 go_upto_region 21 with fail
 cases b
 ·refine wp_region_held_drew (S:=λw'=>w'.cell? ⟨w.heap.size,0,none⟩=some (.I op)) (by kernel_rfl) v0' (λhHeld=>?_)
  refine wpAnyH_take (i:=0) (oi:=_) (v:=?_) rfl (by kernel_rfl) (by kernel_rfl) (by kernel_rfl) (λ_ _ _ h=>h) (Or.inl ⟨by rfl,?_⟩) (by assumption) ?_;rotate_left
  ·intro w hSw
   (try dsimp only at hSw)
   go_simp
   (try with_reducible rfl)
  try simp only[Act.put,List.setIfInBounds_toArray,List.set_cons_zero,List.set_cons_succ,List.getElem_toArray,List.getElem_cons_zero]
  refine wpAnyH_take (i:=1) (oi:=_) (v:=?_) rfl (by kernel_rfl) (by kernel_rfl) (by kernel_rfl) (λ_ _ _ h=>h) (Or.inl ⟨by rfl,?_⟩) (by assumption) ?_;rotate_left
  ·intro w hSw
   (try dsimp only at hSw)
   go_simp
   (try with_reducible rfl)
  try simp only[Act.put,List.setIfInBounds_toArray,List.set_cons_zero,List.set_cons_succ,List.getElem_toArray,List.getElem_cons_succ,List.getElem_cons_zero]
  refine wpAnyH_take (i:=3) (oi:=_) (v:=?_) rfl (by kernel_rfl) (by kernel_rfl) (by kernel_rfl) (λ_ _ _ h=>h) (Or.inl ⟨by rfl,?_⟩) (by assumption) ?_;rotate_left
  ·intro w hSw
   (try dsimp only at hSw)
   go_simp
   (try with_reducible rfl)
  try simp only[Act.put,List.setIfInBounds_toArray,List.set_cons_zero,List.set_cons_succ,List.getElem_toArray,List.getElem_cons_succ,List.getElem_cons_zero]
  refine wpAnyH_take (i:=4) (oi:=_) (v:=?_) rfl (by kernel_rfl) (by kernel_rfl) (by kernel_rfl) (λ_ _ _ h=>h) (Or.inl ⟨by rfl,?_⟩) (by assumption) ?_;rotate_left
  ·intro w hSw
   (try dsimp only at hSw)
   go_simp
   (try with_reducible rfl)
  try simp only[Act.put,List.setIfInBounds_toArray,List.set_cons_zero,List.set_cons_succ,List.getElem_toArray,List.getElem_cons_succ,List.getElem_cons_zero]
  refine wpAnyH_take (i:=5) (oi:=_) (v:=?_) rfl (by kernel_rfl) (by kernel_rfl) (by kernel_rfl) (λ_ _ _ h=>h) (Or.inl ⟨by rfl,?_⟩) (by assumption) ?_;rotate_left
  ·intro w hSw
   (try dsimp only at hSw)
   go_simp
   (try with_reducible rfl)
  try simp only[Act.put,List.setIfInBounds_toArray,List.set_cons_zero,List.set_cons_succ,List.getElem_toArray,List.getElem_cons_succ,List.getElem_cons_zero]
  refine wpAnyH_take (i:=10) (oi:=_) (v:=?_) rfl (by kernel_rfl) (by kernel_rfl) (by kernel_rfl) (λ_ _ _ h=>h) (Or.inl ⟨by rfl,?_⟩) (by assumption) ?_;rotate_left
  ·intro w hSw
   (try dsimp only at hSw)
   go_simp
   (try with_reducible rfl)
  try simp only[Act.put,List.setIfInBounds_toArray,List.set_cons_zero,List.set_cons_succ,List.getElem_toArray,List.getElem_cons_succ,List.getElem_cons_zero]
  refine wpAnyH_take (i:=12) (oi:=_) (v:=?_) rfl (by kernel_rfl) (by kernel_rfl) (by kernel_rfl) (λ_ _ _ h=>h) (Or.inl ⟨by rfl,?_⟩) (by assumption) ?_;rotate_left
  ·intro w hSw
   (try dsimp only at hSw)
   go_simp
   (try with_reducible rfl)
  try simp only[Act.put,List.setIfInBounds_toArray,List.set_cons_zero,List.set_cons_succ,List.getElem_toArray,List.getElem_cons_succ,List.getElem_cons_zero]
  refine wpAnyH_ready (rs:=[2]) (by kernel_rfl) (by simp) ?_;refine AllReadyH.cons (o:=_) rfl (λK hK=>?_) AllReadyH.nil
  go_simp
  go_at_call 45
  (with_reducible refine(MK.out _).mono ?_)
  rintro e w9⟨rfl,b9,m9⟩;have q9:=(X5.out.drew.below b9 X5.out.lt).cell 0;have m9':w9.cell? ⟨w5.heap.size,k,none⟩=some (.string MS):=m9;refine hK.out _ _ q9 (λhHeld=>?_);clear hK K
  try simp only[Act.put,List.setIfInBounds_toArray,List.set_cons_zero,List.set_cons_succ,List.getElem_toArray,List.getElem_cons_succ,List.getElem_cons_zero]
  refine wpAnyH_take (i:=6) (oi:=_) (v:=?_) rfl (by kernel_rfl) (by kernel_rfl) (by kernel_rfl) (λ_ _ _ h=>h) (Or.inl ⟨by rfl,?_⟩) (by assumption) ?_;rotate_left
  ·intro w hSw
   (try dsimp only at hSw)
   go_simp
   (try with_reducible rfl)
  try simp only[Act.put,List.setIfInBounds_toArray,List.set_cons_zero,List.set_cons_succ,List.getElem_toArray,List.getElem_cons_succ,List.getElem_cons_zero]
  refine wpAnyH_take (i:=13) (oi:=_) (v:=?_) rfl (by kernel_rfl) (by kernel_rfl) (by kernel_rfl) (λ_ _ _ h=>h) (Or.inl ⟨by rfl,?_⟩) (by assumption) ?_;rotate_left
  ·intro w hSw
   (try dsimp only at hSw)
   go_simp
   (try with_reducible rfl)
  try simp only[Act.put,List.setIfInBounds_toArray,List.set_cons_zero,List.set_cons_succ,List.getElem_toArray,List.getElem_cons_succ,List.getElem_cons_zero]
  refine wpAnyH_take (i:=14) (oi:=_) (v:=undef) rfl (by kernel_rfl) (by kernel_rfl) (by kernel_rfl) (λ_ _ _ h=>h) (Or.inr ⟨by rfl,rfl⟩) (by assumption) ?_
  try simp only[Act.put,List.setIfInBounds_toArray,List.set_cons_zero,List.set_cons_succ,List.getElem_toArray,List.getElem_cons_succ,List.getElem_cons_zero]
  refine wpAnyH_take (i:=15) (oi:=_) (v:=?_) rfl (by kernel_rfl) (by kernel_rfl) (by kernel_rfl) (λ_ _ _ h=>h) (Or.inl ⟨by rfl,?_⟩) (by assumption) ?_;rotate_left
  ·intro w hSw
   (try dsimp only at hSw)
   go_simp
   (try with_reducible rfl)
  try simp only[Act.put,List.setIfInBounds_toArray,List.set_cons_zero,List.set_cons_succ,List.getElem_toArray,List.getElem_cons_succ,List.getElem_cons_zero]
  refine wpAnyH_ready (rs:=[7]) (by kernel_rfl) (by simp) ?_;refine AllReadyH.cons (o:=_) rfl (λK hK=>?_) AllReadyH.nil
  go_simp
  refine hK.out _ _ q9 (λhHeld=>?_);clear hK K
  try simp only[Act.put,List.setIfInBounds_toArray,List.set_cons_zero,List.set_cons_succ,List.getElem_toArray,List.getElem_cons_succ,List.getElem_cons_zero]
  refine wpAnyH_take (i:=8) (oi:=_) (v:=?_) rfl (by kernel_rfl) (by kernel_rfl) (by kernel_rfl) (λ_ _ _ h=>h) (Or.inl ⟨by rfl,?_⟩) (by assumption) ?_;rotate_left
  ·intro w hSw
   (try dsimp only at hSw)
   go_simp
   (try with_reducible rfl)
  try simp only[Act.put,List.setIfInBounds_toArray,List.set_cons_zero,List.set_cons_succ,List.getElem_toArray,List.getElem_cons_succ,List.getElem_cons_zero]
  refine wpAnyH_take (i:=9) (oi:=_) (v:=?_) rfl (by kernel_rfl) (by kernel_rfl) (by kernel_rfl) (λ_ _ _ h=>h) (Or.inl ⟨by rfl,?_⟩) (by assumption) ?_;rotate_left
  ·intro w hSw
   (try dsimp only at hSw)
   go_simp
   (try with_reducible rfl)
  try simp only[Act.put,List.setIfInBounds_toArray,List.set_cons_zero,List.set_cons_succ,List.getElem_toArray,List.getElem_cons_succ,List.getElem_cons_zero]
  refine wpAnyH_take (i:=11) (oi:=_) (v:=?_) rfl (by kernel_rfl) (by kernel_rfl) (by kernel_rfl) (λ_ _ _ h=>h) (Or.inl ⟨by rfl,?_⟩) (by assumption) ?_;rotate_left
  ·intro w hSw
   (try dsimp only at hSw)
   go_simp
   (try with_reducible rfl)
  try simp only[Act.put,List.setIfInBounds_toArray,List.set_cons_zero,List.set_cons_succ,List.getElem_toArray,List.getElem_cons_succ,List.getElem_cons_zero]
  refine wpAnyH_take (i:=16) (oi:=_) (v:=?_) rfl (by kernel_rfl) (by kernel_rfl) (by kernel_rfl) (λ_ _ _ h=>h) (Or.inl ⟨by rfl,?_⟩) (by assumption) ?_;rotate_left
  ·intro w hSw
   (try dsimp only at hSw)
   go_simp
   (try with_reducible rfl)
  try simp only[Act.put,List.setIfInBounds_toArray,List.set_cons_zero,List.set_cons_succ,List.getElem_toArray,List.getElem_cons_succ,List.getElem_cons_zero]
  refine wpAnyH_take (i:=17) (oi:=_) (v:=?_) rfl (by kernel_rfl) (by kernel_rfl) (by kernel_rfl) (λ_ _ _ h=>h) (Or.inl ⟨by rfl,?_⟩) (by assumption) ?_;rotate_left
  ·intro w hSw
   (try dsimp only at hSw)
   go_simp
   (try with_reducible rfl)
  try simp only[Act.put,List.setIfInBounds_toArray,List.set_cons_zero,List.set_cons_succ,List.getElem_toArray,List.getElem_cons_succ,List.getElem_cons_zero]
  refine wpAnyH_done (by kernel_rfl) ?_ _
  go_goals
  go_wp2_with fail;refine bodyPost_ret (v:=.tuple #[.string (s++(⟨#[32]⟩:ByteArray)++MS++(⟨#[32]⟩:ByteArray)++s2),.bool false]) (by simp[results,Tryz.results23,go_sem]) rfl ⟨_,_,rfl,F2.out.trans ((G5.out.trans (Below.mono ((Below.refl w5.heap.size w5).drew.trans (b9.mono (Nat.le_refl _))) G5.out.size)).mono F2.out.size),?_,HB2.out⟩;rw[ByteArray.size_append,ByteArray.size_append,ByteArray.size_append,ByteArray.size_append,HWE.out]
  show s.size+1+MS.size+1+s2.size<=_
  omega
 ·refine wp_region_held_drew (S:=λw'=>w'.cell? ⟨w.heap.size,0,none⟩=some (.I op)) (by kernel_rfl) v0' (λhHeld=>?_)
  refine wpAnyH_take (i:=0) (oi:=_) (v:=?_) rfl (by kernel_rfl) (by kernel_rfl) (by kernel_rfl) (λ_ _ _ h=>h) (Or.inl ⟨by rfl,?_⟩) (by assumption) ?_;rotate_left
  ·intro w hSw
   (try dsimp only at hSw)
   go_simp
   (try with_reducible rfl)
  try simp only[Act.put,List.setIfInBounds_toArray,List.set_cons_zero,List.set_cons_succ,List.getElem_toArray,List.getElem_cons_zero]
  refine wpAnyH_take (i:=1) (oi:=_) (v:=?_) rfl (by kernel_rfl) (by kernel_rfl) (by kernel_rfl) (λ_ _ _ h=>h) (Or.inl ⟨by rfl,?_⟩) (by assumption) ?_;rotate_left
  ·intro w hSw
   (try dsimp only at hSw)
   go_simp
   (try with_reducible rfl)
  try simp only[Act.put,List.setIfInBounds_toArray,List.set_cons_zero,List.set_cons_succ,List.getElem_toArray,List.getElem_cons_succ,List.getElem_cons_zero]
  refine wpAnyH_take (i:=3) (oi:=_) (v:=?_) rfl (by kernel_rfl) (by kernel_rfl) (by kernel_rfl) (λ_ _ _ h=>h) (Or.inl ⟨by rfl,?_⟩) (by assumption) ?_;rotate_left
  ·intro w hSw
   (try dsimp only at hSw)
   go_simp
   (try with_reducible rfl)
  try simp only[Act.put,List.setIfInBounds_toArray,List.set_cons_zero,List.set_cons_succ,List.getElem_toArray,List.getElem_cons_succ,List.getElem_cons_zero]
  refine wpAnyH_take (i:=4) (oi:=_) (v:=?_) rfl (by kernel_rfl) (by kernel_rfl) (by kernel_rfl) (λ_ _ _ h=>h) (Or.inl ⟨by rfl,?_⟩) (by assumption) ?_;rotate_left
  ·intro w hSw
   (try dsimp only at hSw)
   go_simp
   (try with_reducible rfl)
  try simp only[Act.put,List.setIfInBounds_toArray,List.set_cons_zero,List.set_cons_succ,List.getElem_toArray,List.getElem_cons_succ,List.getElem_cons_zero]
  refine wpAnyH_take (i:=5) (oi:=_) (v:=?_) rfl (by kernel_rfl) (by kernel_rfl) (by kernel_rfl) (λ_ _ _ h=>h) (Or.inl ⟨by rfl,?_⟩) (by assumption) ?_;rotate_left
  ·intro w hSw
   (try dsimp only at hSw)
   go_simp
   (try with_reducible rfl)
  try simp only[Act.put,List.setIfInBounds_toArray,List.set_cons_zero,List.set_cons_succ,List.getElem_toArray,List.getElem_cons_succ,List.getElem_cons_zero]
  refine wpAnyH_take (i:=10) (oi:=_) (v:=?_) rfl (by kernel_rfl) (by kernel_rfl) (by kernel_rfl) (λ_ _ _ h=>h) (Or.inl ⟨by rfl,?_⟩) (by assumption) ?_;rotate_left
  ·intro w hSw
   (try dsimp only at hSw)
   go_simp
   (try with_reducible rfl)
  try simp only[Act.put,List.setIfInBounds_toArray,List.set_cons_zero,List.set_cons_succ,List.getElem_toArray,List.getElem_cons_succ,List.getElem_cons_zero]
  refine wpAnyH_take (i:=12) (oi:=_) (v:=?_) rfl (by kernel_rfl) (by kernel_rfl) (by kernel_rfl) (λ_ _ _ h=>h) (Or.inl ⟨by rfl,?_⟩) (by assumption) ?_;rotate_left
  ·intro w hSw
   (try dsimp only at hSw)
   go_simp
   (try with_reducible rfl)
  try simp only[Act.put,List.setIfInBounds_toArray,List.set_cons_zero,List.set_cons_succ,List.getElem_toArray,List.getElem_cons_succ,List.getElem_cons_zero]
  refine wpAnyH_ready (rs:=[2]) (by kernel_rfl) (by simp) ?_;refine AllReadyH.cons (o:=_) rfl (λK hK=>?_) AllReadyH.nil
  go_simp
  go_at_call 45
  (with_reducible refine(MK.out _).mono ?_)
  rintro e w9⟨rfl,b9,m9⟩;have q9:=(X5.out.drew.below b9 X5.out.lt).cell 0;have m9':w9.cell? ⟨w5.heap.size,k,none⟩=some (.string MS):=m9;refine hK.out _ _ q9 (λhHeld=>?_);clear hK K
  try simp only[Act.put,List.setIfInBounds_toArray,List.set_cons_zero,List.set_cons_succ,List.getElem_toArray,List.getElem_cons_succ,List.getElem_cons_zero]
  refine wpAnyH_take (i:=6) (oi:=_) (v:=?_) rfl (by kernel_rfl) (by kernel_rfl) (by kernel_rfl) (λ_ _ _ h=>h) (Or.inl ⟨by rfl,?_⟩) (by assumption) ?_;rotate_left
  ·intro w hSw
   (try dsimp only at hSw)
   go_simp
   (try with_reducible rfl)
  try simp only[Act.put,List.setIfInBounds_toArray,List.set_cons_zero,List.set_cons_succ,List.getElem_toArray,List.getElem_cons_succ,List.getElem_cons_zero]
  refine wpAnyH_take (i:=13) (oi:=_) (v:=?_) rfl (by kernel_rfl) (by kernel_rfl) (by kernel_rfl) (λ_ _ _ h=>h) (Or.inl ⟨by rfl,?_⟩) (by assumption) ?_;rotate_left
  ·intro w hSw
   (try dsimp only at hSw)
   go_simp
   (try with_reducible rfl)
  try simp only[Act.put,List.setIfInBounds_toArray,List.set_cons_zero,List.set_cons_succ,List.getElem_toArray,List.getElem_cons_succ,List.getElem_cons_zero]
  refine wpAnyH_take (i:=14) (oi:=_) (v:=?_) rfl (by kernel_rfl) (by kernel_rfl) (by kernel_rfl) (λ_ _ _ h=>h) (Or.inl ⟨by rfl,?_⟩) (by assumption) ?_;rotate_left
  ·intro w hSw
   (try dsimp only at hSw)
   go_simp
   (try with_reducible rfl)
  try simp only[Act.put,List.setIfInBounds_toArray,List.set_cons_zero,List.set_cons_succ,List.getElem_toArray,List.getElem_cons_succ,List.getElem_cons_zero]
  refine wpAnyH_take (i:=15) (oi:=_) (v:=?_) rfl (by kernel_rfl) (by kernel_rfl) (by kernel_rfl) (λ_ _ _ h=>h) (Or.inl ⟨by rfl,?_⟩) (by assumption) ?_;rotate_left
  ·intro w hSw
   (try dsimp only at hSw)
   go_simp
   (try with_reducible rfl)
  try simp only[Act.put,List.setIfInBounds_toArray,List.set_cons_zero,List.set_cons_succ,List.getElem_toArray,List.getElem_cons_succ,List.getElem_cons_zero]
  refine wpAnyH_ready (rs:=[7]) (by kernel_rfl) (by simp) ?_;refine AllReadyH.cons (o:=_) rfl (λK hK=>?_) AllReadyH.nil
  go_simp
  refine hK.out _ _ q9 (λhHeld=>?_);clear hK K
  try simp only[Act.put,List.setIfInBounds_toArray,List.set_cons_zero,List.set_cons_succ,List.getElem_toArray,List.getElem_cons_succ,List.getElem_cons_zero]
  refine wpAnyH_take (i:=8) (oi:=_) (v:=?_) rfl (by kernel_rfl) (by kernel_rfl) (by kernel_rfl) (λ_ _ _ h=>h) (Or.inl ⟨by rfl,?_⟩) (by assumption) ?_;rotate_left
  ·intro w hSw
   (try dsimp only at hSw)
   go_simp
   (try with_reducible rfl)
  try simp only[Act.put,List.setIfInBounds_toArray,List.set_cons_zero,List.set_cons_succ,List.getElem_toArray,List.getElem_cons_succ,List.getElem_cons_zero]
  refine wpAnyH_take (i:=9) (oi:=_) (v:=?_) rfl (by kernel_rfl) (by kernel_rfl) (by kernel_rfl) (λ_ _ _ h=>h) (Or.inl ⟨by rfl,?_⟩) (by assumption) ?_;rotate_left
  ·intro w hSw
   (try dsimp only at hSw)
   go_simp
   (try with_reducible rfl)
  try simp only[Act.put,List.setIfInBounds_toArray,List.set_cons_zero,List.set_cons_succ,List.getElem_toArray,List.getElem_cons_succ,List.getElem_cons_zero]
  refine wpAnyH_take (i:=11) (oi:=_) (v:=?_) rfl (by kernel_rfl) (by kernel_rfl) (by kernel_rfl) (λ_ _ _ h=>h) (Or.inl ⟨by rfl,?_⟩) (by assumption) ?_;rotate_left
  ·intro w hSw
   (try dsimp only at hSw)
   go_simp
   (try with_reducible rfl)
  try simp only[Act.put,List.setIfInBounds_toArray,List.set_cons_zero,List.set_cons_succ,List.getElem_toArray,List.getElem_cons_succ,List.getElem_cons_zero]
  refine wpAnyH_take (i:=16) (oi:=_) (v:=?_) rfl (by kernel_rfl) (by kernel_rfl) (by kernel_rfl) (λ_ _ _ h=>h) (Or.inl ⟨by rfl,?_⟩) (by assumption) ?_;rotate_left
  ·intro w hSw
   (try dsimp only at hSw)
   go_simp
   (try with_reducible rfl)
  try simp only[Act.put,List.setIfInBounds_toArray,List.set_cons_zero,List.set_cons_succ,List.getElem_toArray,List.getElem_cons_succ,List.getElem_cons_zero]
  refine wpAnyH_take (i:=17) (oi:=_) (v:=?_) rfl (by kernel_rfl) (by kernel_rfl) (by kernel_rfl) (λ_ _ _ h=>h) (Or.inl ⟨by rfl,?_⟩) (by assumption) ?_;rotate_left
  ·intro w hSw
   (try dsimp only at hSw)
   go_simp
   (try with_reducible rfl)
  try simp only[Act.put,List.setIfInBounds_toArray,List.set_cons_zero,List.set_cons_succ,List.getElem_toArray,List.getElem_cons_succ,List.getElem_cons_zero]
  refine wpAnyH_done (by kernel_rfl) ?_ _
  go_goals
  go_wp2_with fail;refine bodyPost_ret (v:=.tuple #[.string (s++(⟨#[32]⟩:ByteArray)++MS++(⟨#[32]⟩:ByteArray)++s2),.bool b2]) (by simp[results,Tryz.results23,go_sem]) rfl ⟨_,_,rfl,F2.out.trans ((G5.out.trans (Below.mono ((Below.refl w5.heap.size w5).drew.trans (b9.mono (Nat.le_refl _))) G5.out.size)).mono F2.out.size),?_,HB2.out⟩;rw[ByteArray.size_append,ByteArray.size_append,ByteArray.size_append,ByteArray.size_append,HWE.out]
  show s.size+1+MS.size+1+s2.size<=_
  omega
theorem e81!:RawOk 0:=λ_ _ _ _ _ _ _ _ h=>absurd h id
theorem a29!:∀n,RawOk n
 |0=>e81!
 |n+1=>e80! n (a29! n) (e74! n (a29! n))
end Go.Proofs.YtdgekckedchjbaaGreatDoor
