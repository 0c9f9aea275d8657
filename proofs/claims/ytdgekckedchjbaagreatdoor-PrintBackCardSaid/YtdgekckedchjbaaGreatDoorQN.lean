
/-
 The writer's expr, by its cases. (Printed by wip/tools/genv9.py.) The writer's expr and operand. (Printed by wip/tools/genv10.py.) The writer's text: an expression's text, apart.
-/
import Derived.Test.YtdgekckedchjbaaGreatDoorQM
import Derived.Deep.DeepCutAuto
set_option maxHeartbeats 4000000
set_option maxRecDepth 100000
namespace Go.Proofs.YtdgekckedchjbaaGreatDoor
open Go.RowKit
variable {w:World} {base n:Nat} {op t:Int} {x:Gx} {cs:List Value}
theorem f4!(W:World)(a:ByteArray):RV (W.alloc (.cells #[.string a] 9)) (some ⟨W.heap.size,0,none⟩) 1 ([a].map Value.string):=by
 refine⟨rfl,λ_=>⟨_,rfl,by simp,λj u hu=>?_⟩⟩
 rw[Addr.add_lit,Nat.zero_add,(Blk.new W 9 #[.string a]).cell j]
 simpa using hu
theorem k1!(W:World)(a b:ByteArray):RV (W.alloc (.cells #[.string a,.string b] 9)) (some ⟨W.heap.size,0,none⟩) 2 ([a,b].map Value.string):=by
 refine⟨rfl,λ_=>⟨_,rfl,by simp,λj u hu=>?_⟩⟩
 rw[Addr.add_lit,Nat.zero_add,(Blk.new W 9 #[.string a,.string b]).cell j]
 simpa using hu
theorem GC.op_eq{D:Nat->Prop}{M:Nat}{N:Int}{nm:ByteArray}{A:Option Addr}{l c:Nat}(h:GC D w M n [.I op,.I N,.string nm,.slice A l c] x):x.op=op:=by
 obtain⟨op0,N0,nm0,gs⟩:=x
 obtain⟨rfl,_⟩:=h.parts_
 rfl
theorem q5!(a:ByteArray):flatB [a]=a.data.toList:=by simp[flatB]
theorem z4!(a b:ByteArray):flatB [a,b]=a.data.toList++b.data.toList:=by simp[flatB]
theorem d41!(a b c:ByteArray):flatB [a,b,c]=a.data.toList++(b.data.toList++c.data.toList):=by simp[flatB]
theorem d42!(base g room:Nat)(ob:Option Nat)(l:List UInt8)(bad:Bool)(N:Int)(nm:ByteArray)(A:Option Addr)(len cap:Nat)(w:World)(hT:Tabs base w)(h:Wr base w g ob room l bad)(hN:FitN N)(hbad:bad=false)(hl:len=0):
 Calls Tryz.prog 38 #[.pointer (some ⟨g,0,none⟩),.agg #[.I 0,.I N,.string nm,.slice A len cap]] w (b5! base w g ob room l bad (some (Lib.itoa N))):=by
 subst hbad hl
 have f0:=a! w (.cells #[.I 0,.I N,.string nm,.slice A 0 cap] 40)
 have H0:=h! (h.below f0)
 have X0:=h! (Blk.new w 40 #[.I 0,.I N,.string nm,.slice A 0 cap])
 have FX:=h! (Far.new h (.cells #[.I 0,.I N,.string nm,.slice A 0 cap] 40))
 have T0:=h! (Turns.of_below (g:=g) (ob:=ob) f0)
 have TB:=h! (hT.below f0 (Nat.le_of_lt (Nat.lt_of_le_of_lt h.1 h.lt)))
 have HH:=h! h
 have hr1:=h.2.2.1
 have hr2:=h.2.2.2.1
 have hgl:=h.lt
 clear f0 hT h
 go_enter Tryz.func38,Tryz.ntmps38
 go_upto_region 1 with fail
 generalize w.alloc (.cells #[.I 0,.I N,.string nm,.slice A 0 cap] 40)=W0 at*
 obtain⟨s0,s1,s2,s3⟩:=X0.out.A4
 obtain⟨q2,q3,q4⟩:=H0.out.cells_
 have p0:W0.cell? ⟨0,0,none⟩=some (.E):=TB.out.op0 0 (by decide)
 have p1:W0.cell? ⟨0,1,none⟩=some (.I 6):=TB.out.op1 0 (by decide)
 have p2:W0.cell? ⟨0,2,none⟩=some (.I 0):=TB.out.op2 0 (by decide)
 go_quiet (fail)
 have fq:Below W0.heap.size W0 (W0.drewN nq):=a5! (Below.refl _ W0) nq
 have HN:=h! (H0.out.below fq)
 have XN:=b! X0 fq
 have FN:=h! (FX.out.below fq)
 have TN:=h! (T0.out.below fq)
 have TBN:=h! (TB.out.below fq (Nat.le_of_lt (Nat.lt_of_le_of_lt H0.out.1 H0.out.lt)))
 have p0:(W0.drewN nq).cell? ⟨0,0,none⟩=some (.E):=p0
 have p1:(W0.drewN nq).cell? ⟨0,1,none⟩=some (.I 6):=p1
 have p2:(W0.drewN nq).cell? ⟨0,2,none⟩=some (.I 0):=p2
 have s0:(W0.drewN nq).cell? ⟨w.heap.size,0,none⟩=some (.I 0):=s0
 clear fq H0 X0 FX T0 TB
 generalize W0.drewN nq=Wd at*
 have f1:=a! Wd (.cells #[.E,.I 6,.I 0] 142)
 have H1:=h! (HN.out.below f1)
 have X1:=b! XN f1
 have Y1:=h! (Blk.new Wd 142 #[.E,.I 6,.I 0])
 have FX1:=h! (FN.out.below f1)
 have FY1:=h! (Far.new HN.out (.cells #[.E,.I 6,.I 0] 142))
 have T1:=h! (TN.out.below f1)
 have TB1:=h! (TBN.out.below f1 (Nat.le_of_lt (Nat.lt_of_le_of_lt HN.out.1 HN.out.lt)))
 clear f1 HN XN FN TN TBN
 go_upto_region 4 with fail
 clear s0 p0 p1 p2
 generalize Wd.alloc (.cells #[.E,.I 6,.I 0] 142)=W1 at*
 obtain⟨s0,s1,s2,s3⟩:=X1.out.A4
 obtain⟨y0,y1⟩:=Y1.out.A2
 have IT:=h! (h7! base N W1 TB1.out hN)
 have il:=f1! hN
 go_wp2_with fail
 refine IT.out.mono ?_
 rintro e w2⟨rfl,b2⟩
 have H2:=h! (H1.out.below b2)
 have T2:=h! (T1.out.below b2)
 have il2:Hid ((str (Lib.itoa N)).size<=140737488355328):=by rw[str_size];exact Nat.le_trans il (by decide)
 have hl2:Hid ((str (Lib.itoa N)).data.toList=Lib.itoa N):=str_list _
 clear b2 il IT
 generalize str (Lib.itoa N)=S at*
 have F3:=h! (Far.new H2.out (.cells #[.string S] 9))
 have R3:=h! (f4! w2 S)
 have H3:=h! (H2.out.al (.cells #[.string S] 9))
 go_wp2_with fail
 refine(i7! base g room ob l false _ 1 1 [S] _ H3.out R3.out (λa e=>by injection e with e;subst e;exact F3.out) (by omega) (λs hs=>by obtain rfl:=List.mem_singleton.1 hs;exact il2.out)).mono ?_
 rintro e w4⟨rfl,ob4,l4,b4,t4,r4,o4⟩
 go_wp2_with fail
 go_end0
 refine⟨rfl,ob4,l4,b4,(T2.out.below ((Below.refl _ w2).al _)).trans t4,r4,?_⟩
 rw[q5!,hl2.out]at o4
 exact o4
theorem d43!(base g room:Nat)(ob:Option Nat)(l:List UInt8)(bad:Bool)(N:Int)(nm:ByteArray)(A:Option Addr)(len cap:Nat)(w:World)(hT:Tabs base w)(h:Wr base w g ob room l bad)(hN:nm.size<=140737488355328)(hbad:bad=false)(hl:len=0):
 Calls Tryz.prog 38 #[.pointer (some ⟨g,0,none⟩),.agg #[.I 1,.I N,.string nm,.slice A len cap]] w (b5! base w g ob room l bad (some nm.data.toList)):=by
 subst hbad hl
 have f0:=a! w (.cells #[.I 1,.I N,.string nm,.slice A 0 cap] 40)
 have H0:=h! (h.below f0)
 have X0:=h! (Blk.new w 40 #[.I 1,.I N,.string nm,.slice A 0 cap])
 have FX:=h! (Far.new h (.cells #[.I 1,.I N,.string nm,.slice A 0 cap] 40))
 have T0:=h! (Turns.of_below (g:=g) (ob:=ob) f0)
 have TB:=h! (hT.below f0 (Nat.le_of_lt (Nat.lt_of_le_of_lt h.1 h.lt)))
 have HH:=h! h
 have hr1:=h.2.2.1
 have hr2:=h.2.2.2.1
 have hgl:=h.lt
 clear f0 hT h
 go_enter Tryz.func38,Tryz.ntmps38
 go_upto_region 1 with fail
 generalize w.alloc (.cells #[.I 1,.I N,.string nm,.slice A 0 cap] 40)=W0 at*
 obtain⟨s0,s1,s2,s3⟩:=X0.out.A4
 obtain⟨q2,q3,q4⟩:=H0.out.cells_
 have p0:W0.cell? ⟨0,3,none⟩=some (.E):=TB.out.op0 1 (by decide)
 have p1:W0.cell? ⟨0,4,none⟩=some (.I 6):=TB.out.op1 1 (by decide)
 have p2:W0.cell? ⟨0,5,none⟩=some (.I 0):=TB.out.op2 1 (by decide)
 go_quiet (fail)
 have fq:Below W0.heap.size W0 (W0.drewN nq):=a5! (Below.refl _ W0) nq
 have HN:=h! (H0.out.below fq)
 have XN:=b! X0 fq
 have FN:=h! (FX.out.below fq)
 have TN:=h! (T0.out.below fq)
 have TBN:=h! (TB.out.below fq (Nat.le_of_lt (Nat.lt_of_le_of_lt H0.out.1 H0.out.lt)))
 have p0:(W0.drewN nq).cell? ⟨0,3,none⟩=some (.E):=p0
 have p1:(W0.drewN nq).cell? ⟨0,4,none⟩=some (.I 6):=p1
 have p2:(W0.drewN nq).cell? ⟨0,5,none⟩=some (.I 0):=p2
 have s0:(W0.drewN nq).cell? ⟨w.heap.size,0,none⟩=some (.I 1):=s0
 clear fq H0 X0 FX T0 TB
 generalize W0.drewN nq=Wd at*
 have f1:=a! Wd (.cells #[.E,.I 6,.I 0] 142)
 have H1:=h! (HN.out.below f1)
 have X1:=b! XN f1
 have Y1:=h! (Blk.new Wd 142 #[.E,.I 6,.I 0])
 have FX1:=h! (FN.out.below f1)
 have FY1:=h! (Far.new HN.out (.cells #[.E,.I 6,.I 0] 142))
 have T1:=h! (TN.out.below f1)
 have TB1:=h! (TBN.out.below f1 (Nat.le_of_lt (Nat.lt_of_le_of_lt HN.out.1 HN.out.lt)))
 clear f1 HN XN FN TN TBN
 go_upto_region 4 with fail
 clear s0 p0 p1 p2
 generalize Wd.alloc (.cells #[.E,.I 6,.I 0] 142)=W1 at*
 obtain⟨s0,s1,s2,s3⟩:=X1.out.A4
 obtain⟨y0,y1⟩:=Y1.out.A2
 have F4:=h! (Far.new H1.out (.cells #[.string nm] 9))
 have R4:=h! (f4! W1 nm)
 have H4:=h! (H1.out.al (.cells #[.string nm] 9))
 go_wp2_with fail
 refine(i7! base g room ob l false _ 1 1 [nm] _ H4.out R4.out (λa e=>by injection e with e;subst e;exact F4.out) (by omega) (λs hs=>by obtain rfl:=List.mem_singleton.1 hs;exact hN)).mono ?_
 rintro e w4⟨rfl,ob4,l4,b4,t4,r4,o4⟩
 go_wp2_with fail
 go_end0
 refine⟨rfl,ob4,l4,b4,(T1.out.below ((Below.refl _ W1).al _)).trans t4,r4,?_⟩
 rw[q5!]at o4
 exact o4
theorem d44!(base g room:Nat)(ob:Option Nat)(l:List UInt8)(bad:Bool)(N:Int)(nm:ByteArray)(A:Option Addr)(len cap:Nat)(w:World)(hT:Tabs base w)(h:Wr base w g ob room l bad)(hN:nm.size<=140737488355328)(n:Nat)(HE:j9! base n)(a:Gx)(kb ko:Nat)(kop kN:Int)(knm:ByteArray)(kA:Option Addr)(kl kc:Nat)(hk:Kid base n w A 0 a kb ko kop kN knm kA kl kc)(hf:FitG n a)(hbad:bad=false)(hl:len=1):
 Calls Tryz.prog 38 #[.pointer (some ⟨g,0,none⟩),.agg #[.I 2,.I N,.string nm,.slice A len cap]] w (b5! base w g ob room l bad (ocat (some (nm.data.toList++[32,91,32])) (ocat (rawE a) (some [32,93])))):=by
 subst hbad hl
 obtain rfl:=hk.at_
 have HK:=h! hk
 have HF:=h! hf
 have HEx:=h! HE
 clear hk hf HE
 have f0:=a! w (.cells #[.I 2,.I N,.string nm,.slice (some ⟨kb,ko,none⟩) 1 cap] 40)
 have H0:=h! (h.below f0)
 have X0:=h! (Blk.new w 40 #[.I 2,.I N,.string nm,.slice (some ⟨kb,ko,none⟩) 1 cap])
 have FX:=h! (Far.new h (.cells #[.I 2,.I N,.string nm,.slice (some ⟨kb,ko,none⟩) 1 cap] 40))
 have T0:=h! (Turns.of_below (g:=g) (ob:=ob) f0)
 have TB:=h! (hT.below f0 (Nat.le_of_lt (Nat.lt_of_le_of_lt h.1 h.lt)))
 have HH:=h! h
 have hr1:=h.2.2.1
 have hr2:=h.2.2.2.1
 have hgl:=h.lt
 clear f0 hT h
 go_enter Tryz.func38,Tryz.ntmps38
 go_upto_region 1 with fail
 generalize w.alloc (.cells #[.I 2,.I N,.string nm,.slice (some ⟨kb,ko,none⟩) 1 cap] 40)=W0 at*
 obtain⟨s0,s1,s2,s3⟩:=X0.out.A4
 obtain⟨q2,q3,q4⟩:=H0.out.cells_
 have p0:W0.cell? ⟨0,6,none⟩=some (.E):=TB.out.op0 2 (by decide)
 have p1:W0.cell? ⟨0,7,none⟩=some (.I 6):=TB.out.op1 2 (by decide)
 have p2:W0.cell? ⟨0,8,none⟩=some (.I 1):=TB.out.op2 2 (by decide)
 go_quiet (fail)
 have fq:Below W0.heap.size W0 (W0.drewN nq):=a5! (Below.refl _ W0) nq
 have HN:=h! (H0.out.below fq)
 have XN:=b! X0 fq
 have FN:=h! (FX.out.below fq)
 have TN:=h! (T0.out.below fq)
 have TBN:=h! (TB.out.below fq (Nat.le_of_lt (Nat.lt_of_le_of_lt H0.out.1 H0.out.lt)))
 have p0:(W0.drewN nq).cell? ⟨0,6,none⟩=some (.E):=p0
 have p1:(W0.drewN nq).cell? ⟨0,7,none⟩=some (.I 6):=p1
 have p2:(W0.drewN nq).cell? ⟨0,8,none⟩=some (.I 1):=p2
 have s0:(W0.drewN nq).cell? ⟨w.heap.size,0,none⟩=some (.I 2):=s0
 clear fq H0 X0 FX T0 TB
 generalize W0.drewN nq=Wd at*
 have f1:=a! Wd (.cells #[.E,.I 6,.I 1] 142)
 have H1:=h! (HN.out.below f1)
 have X1:=b! XN f1
 have Y1:=h! (Blk.new Wd 142 #[.E,.I 6,.I 1])
 have FX1:=h! (FN.out.below f1)
 have FY1:=h! (Far.new HN.out (.cells #[.E,.I 6,.I 1] 142))
 have T1:=h! (TN.out.below f1)
 have TB1:=h! (TBN.out.below f1 (Nat.le_of_lt (Nat.lt_of_le_of_lt HN.out.1 HN.out.lt)))
 clear f1 HN XN FN TN TBN
 go_upto_region 4 with fail
 clear s0 p0 p1 p2
 generalize Wd.alloc (.cells #[.E,.I 6,.I 1] 142)=W1 at*
 obtain⟨s0,s1,s2,s3⟩:=X1.out.A4
 obtain⟨y0,y1⟩:=Y1.out.A2
 have F4:=h! (Far.new H1.out (.cells #[.string nm,.string ⟨#[32,91,32]⟩] 9))
 have R4:=h! (k1! W1 nm ⟨#[32,91,32]⟩)
 have H4:=h! (H1.out.al (.cells #[.string nm,.string ⟨#[32,91,32]⟩] 9))
 go_wp2_with fail
 refine(i7! base g room ob l false _ 2 2 [nm,⟨#[32,91,32]⟩] _ H4.out R4.out (λa e=>by injection e with e;subst e;exact F4.out) (by omega) (λs hs=>by simp only[List.mem_cons,List.not_mem_nil,or_false]at hs;rcases hs with rfl|rfl<;>first|exact hN|decide)).mono ?_
 rintro e w4⟨rfl,ob4,l4,b4,t4,r4,o4⟩
 have T4:=h! ((T1.out.below ((Below.refl _ W1).al _)).trans t4)
 have R4':=h! r4
 have O4:=h! o4
 have K4:=h! (HK.out.below (T4.out.low HH.out))
 have TB4:=h! (TB1.out.below ((Turns.of_below ((Below.refl _ W1).al _)).trans t4 |>.low H1.out) (Nat.le_refl _))
 have X4:=h! (FX1.out.blk ((Turns.of_below ((Below.refl _ W1).al _)).trans t4) X1.out)
 clear t4 r4 o4 s0 s1 s2 s3 y0 y1 TB1 X1 Y1 FX1 FY1 H1 T1
 have s3:=X4.out.c3
 have c0:w4.cell? ⟨kb,ko,none⟩=some (.I kop):=K4.out.c0
 have c1:w4.cell? ⟨kb,ko+1,none⟩=some (.I kN):=K4.out.c1
 have c2:w4.cell? ⟨kb,ko+2,none⟩=some (.string knm):=K4.out.c2
 have c3:w4.cell? ⟨kb,ko+3,none⟩=some (.slice kA kl kc):=K4.out.c3
 have EX:=h! (HEx.out g room ob4 l4 b4 kop kN knm kA kl kc a w4 TB4.out R4'.out K4.out.gc HF.out)
 go_wp2_with fail
 refine EX.out.mono ?_
 rintro e w5⟨rfl,ob5,l5,b5,t5,r5,o5⟩
 have T5:=h! (T4.out.trans t5)
 have R5':=h! r5
 have O5:=h! (O4.out.then_ o5)
 clear t5 r5 o5 T4 R4' O4 EX c0 c1 c2 c3 s3
 have F6:=h! (Far.new R5'.out (.cells #[.string ⟨#[32,93]⟩] 9))
 have R6:=h! (f4! w5 ⟨#[32,93]⟩)
 have H6:=h! (R5'.out.al (.cells #[.string ⟨#[32,93]⟩] 9))
 go_wp2_with fail
 refine(i7! base g room ob5 l5 b5 _ 1 1 [⟨#[32,93]⟩] _ H6.out R6.out (λa e=>by injection e with e;subst e;exact F6.out) (by omega) (λs hs=>by obtain rfl:=List.mem_singleton.1 hs;decide)).mono ?_
 rintro e w6⟨rfl,ob6,l6,b6,t6,r6,o6⟩
 go_wp2_with fail
 go_end0
 refine⟨rfl,ob6,l6,b6,(T5.out.below ((Below.refl _ w5).al _)).trans t6,r6,?_⟩
 have:=O5.out.then_ o6
 rw[z4!,q5!,i5!]at this
 exact this
theorem d45!(base g room:Nat)(ob:Option Nat)(l:List UInt8)(bad:Bool)(N:Int)(nm:ByteArray)(A:Option Addr)(len cap:Nat)(w:World)(hT:Tabs base w)(h:Wr base w g ob room l bad)(n:Nat)(HE:q4! base n)(a:Gx)(kb ko:Nat)(kop kN:Int)(knm:ByteArray)(kA:Option Addr)(kl kc:Nat)(hk:Kid base n w A 0 a kb ko kop kN knm kA kl kc)(hf:FitG n a)(hbad:bad=false)(hl:len=1):
 Calls Tryz.prog 38 #[.pointer (some ⟨g,0,none⟩),.agg #[.I 3,.I N,.string nm,.slice A len cap]] w (b5! base w g ob room l bad (ocat (some ([45]++[32])) (operO a.op 6 (rawE a)))):=by
 subst hbad hl
 obtain rfl:=hk.at_
 have HK:=h! hk
 have HF:=h! hf
 have HEx:=h! HE
 clear hk hf HE
 have f0:=a! w (.cells #[.I 3,.I N,.string nm,.slice (some ⟨kb,ko,none⟩) 1 cap] 40)
 have H0:=h! (h.below f0)
 have X0:=h! (Blk.new w 40 #[.I 3,.I N,.string nm,.slice (some ⟨kb,ko,none⟩) 1 cap])
 have FX:=h! (Far.new h (.cells #[.I 3,.I N,.string nm,.slice (some ⟨kb,ko,none⟩) 1 cap] 40))
 have T0:=h! (Turns.of_below (g:=g) (ob:=ob) f0)
 have TB:=h! (hT.below f0 (Nat.le_of_lt (Nat.lt_of_le_of_lt h.1 h.lt)))
 have HH:=h! h
 have hr1:=h.2.2.1
 have hr2:=h.2.2.2.1
 have hgl:=h.lt
 clear f0 hT h
 go_enter Tryz.func38,Tryz.ntmps38
 go_upto_region 1 with fail
 generalize w.alloc (.cells #[.I 3,.I N,.string nm,.slice (some ⟨kb,ko,none⟩) 1 cap] 40)=W0 at*
 obtain⟨s0,s1,s2,s3⟩:=X0.out.A4
 obtain⟨q2,q3,q4⟩:=H0.out.cells_
 have p0:W0.cell? ⟨0,9,none⟩=some (.string ⟨#[45]⟩):=TB.out.op0 3 (by decide)
 have p1:W0.cell? ⟨0,10,none⟩=some (.I 6):=TB.out.op1 3 (by decide)
 have p2:W0.cell? ⟨0,11,none⟩=some (.I 1):=TB.out.op2 3 (by decide)
 go_quiet (fail)
 have fq:Below W0.heap.size W0 (W0.drewN nq):=a5! (Below.refl _ W0) nq
 have HN:=h! (H0.out.below fq)
 have XN:=b! X0 fq
 have FN:=h! (FX.out.below fq)
 have TN:=h! (T0.out.below fq)
 have TBN:=h! (TB.out.below fq (Nat.le_of_lt (Nat.lt_of_le_of_lt H0.out.1 H0.out.lt)))
 have p0:(W0.drewN nq).cell? ⟨0,9,none⟩=some (.string ⟨#[45]⟩):=p0
 have p1:(W0.drewN nq).cell? ⟨0,10,none⟩=some (.I 6):=p1
 have p2:(W0.drewN nq).cell? ⟨0,11,none⟩=some (.I 1):=p2
 have s0:(W0.drewN nq).cell? ⟨w.heap.size,0,none⟩=some (.I 3):=s0
 clear fq H0 X0 FX T0 TB
 generalize W0.drewN nq=Wd at*
 have f1:=a! Wd (.cells #[.string ⟨#[45]⟩,.I 6,.I 1] 142)
 have H1:=h! (HN.out.below f1)
 have X1:=b! XN f1
 have Y1:=h! (Blk.new Wd 142 #[.string ⟨#[45]⟩,.I 6,.I 1])
 have FX1:=h! (FN.out.below f1)
 have FY1:=h! (Far.new HN.out (.cells #[.string ⟨#[45]⟩,.I 6,.I 1] 142))
 have T1:=h! (TN.out.below f1)
 have TB1:=h! (TBN.out.below f1 (Nat.le_of_lt (Nat.lt_of_le_of_lt HN.out.1 HN.out.lt)))
 clear f1 HN XN FN TN TBN
 go_upto_region 4 with fail
 clear s0 p0 p1 p2
 generalize Wd.alloc (.cells #[.string ⟨#[45]⟩,.I 6,.I 1] 142)=W1 at*
 obtain⟨s0,s1,s2,s3⟩:=X1.out.A4
 obtain⟨y0,y1⟩:=Y1.out.A2
 have F4:=h! (Far.new H1.out (.cells #[.string ⟨#[45]⟩,.string ⟨#[32]⟩] 9))
 have R4:=h! (k1! W1 ⟨#[45]⟩ ⟨#[32]⟩)
 have H4:=h! (H1.out.al (.cells #[.string ⟨#[45]⟩,.string ⟨#[32]⟩] 9))
 go_wp2_with fail
 refine(i7! base g room ob l false _ 2 2 [⟨#[45]⟩,⟨#[32]⟩] _ H4.out R4.out (λa e=>by injection e with e;subst e;exact F4.out) (by omega) (λs hs=>by simp only[List.mem_cons,List.not_mem_nil,or_false]at hs;rcases hs with rfl|rfl<;>first|decide|decide)).mono ?_
 rintro e w4⟨rfl,ob4,l4,b4,t4,r4,o4⟩
 have T4:=h! ((T1.out.below ((Below.refl _ W1).al _)).trans t4)
 have R4':=h! r4
 have O4:=h! o4
 have K4:=h! (HK.out.below (T4.out.low HH.out))
 have TB4:=h! (TB1.out.below ((Turns.of_below ((Below.refl _ W1).al _)).trans t4 |>.low H1.out) (Nat.le_refl _))
 have X4:=h! (FX1.out.blk ((Turns.of_below ((Below.refl _ W1).al _)).trans t4) X1.out)
 clear t4 r4 o4 s0 s1 s2 s3 y0 y1 TB1 X1 Y1 FX1 FY1 H1 T1
 have s3:=X4.out.c3
 have c0:w4.cell? ⟨kb,ko,none⟩=some (.I kop):=K4.out.c0
 have c1:w4.cell? ⟨kb,ko+1,none⟩=some (.I kN):=K4.out.c1
 have c2:w4.cell? ⟨kb,ko+2,none⟩=some (.string knm):=K4.out.c2
 have c3:w4.cell? ⟨kb,ko+3,none⟩=some (.slice kA kl kc):=K4.out.c3
 have EX:=h! (HEx.out g room ob4 l4 b4 kop kN knm kA kl kc a 6 w4 TB4.out R4'.out K4.out.gc HF.out)
 go_wp2_with fail
 refine EX.out.mono ?_
 rintro e w5⟨rfl,ob5,l5,b5,t5,r5,o5⟩
 go_wp2_with fail
 go_end0
 refine⟨rfl,ob5,l5,b5,T4.out.trans t5,r5,?_⟩
 have:=O4.out.then_ o5
 rw[z4!,<-K4.out.gc.op_eq]at this
 exact this
theorem d46!(base g room:Nat)(ob:Option Nat)(l:List UInt8)(bad:Bool)(N:Int)(nm:ByteArray)(A:Option Addr)(len cap:Nat)(w:World)(hT:Tabs base w)(h:Wr base w g ob room l bad)(n:Nat)(HE:q4! base n)(a:Gx)(kb ko:Nat)(kop kN:Int)(knm:ByteArray)(kA:Option Addr)(kl kc:Nat)(hk:Kid base n w A 0 a kb ko kop kN knm kA kl kc)(hf:FitG n a)(hbad:bad=false)(hl:len=1):
 Calls Tryz.prog 38 #[.pointer (some ⟨g,0,none⟩),.agg #[.I 4,.I N,.string nm,.slice A len cap]] w (b5! base w g ob room l bad (ocat (some ([110,111,116]++[32])) (operO a.op 6 (rawE a)))):=by
 subst hbad hl
 obtain rfl:=hk.at_
 have HK:=h! hk
 have HF:=h! hf
 have HEx:=h! HE
 clear hk hf HE
 have f0:=a! w (.cells #[.I 4,.I N,.string nm,.slice (some ⟨kb,ko,none⟩) 1 cap] 40)
 have H0:=h! (h.below f0)
 have X0:=h! (Blk.new w 40 #[.I 4,.I N,.string nm,.slice (some ⟨kb,ko,none⟩) 1 cap])
 have FX:=h! (Far.new h (.cells #[.I 4,.I N,.string nm,.slice (some ⟨kb,ko,none⟩) 1 cap] 40))
 have T0:=h! (Turns.of_below (g:=g) (ob:=ob) f0)
 have TB:=h! (hT.below f0 (Nat.le_of_lt (Nat.lt_of_le_of_lt h.1 h.lt)))
 have HH:=h! h
 have hr1:=h.2.2.1
 have hr2:=h.2.2.2.1
 have hgl:=h.lt
 clear f0 hT h
 go_enter Tryz.func38,Tryz.ntmps38
 go_upto_region 1 with fail
 generalize w.alloc (.cells #[.I 4,.I N,.string nm,.slice (some ⟨kb,ko,none⟩) 1 cap] 40)=W0 at*
 obtain⟨s0,s1,s2,s3⟩:=X0.out.A4
 obtain⟨q2,q3,q4⟩:=H0.out.cells_
 have p0:W0.cell? ⟨0,12,none⟩=some (.string ⟨#[110,111,116]⟩):=TB.out.op0 4 (by decide)
 have p1:W0.cell? ⟨0,13,none⟩=some (.I 6):=TB.out.op1 4 (by decide)
 have p2:W0.cell? ⟨0,14,none⟩=some (.I 1):=TB.out.op2 4 (by decide)
 go_quiet (fail)
 have fq:Below W0.heap.size W0 (W0.drewN nq):=a5! (Below.refl _ W0) nq
 have HN:=h! (H0.out.below fq)
 have XN:=b! X0 fq
 have FN:=h! (FX.out.below fq)
 have TN:=h! (T0.out.below fq)
 have TBN:=h! (TB.out.below fq (Nat.le_of_lt (Nat.lt_of_le_of_lt H0.out.1 H0.out.lt)))
 have p0:(W0.drewN nq).cell? ⟨0,12,none⟩=some (.string ⟨#[110,111,116]⟩):=p0
 have p1:(W0.drewN nq).cell? ⟨0,13,none⟩=some (.I 6):=p1
 have p2:(W0.drewN nq).cell? ⟨0,14,none⟩=some (.I 1):=p2
 have s0:(W0.drewN nq).cell? ⟨w.heap.size,0,none⟩=some (.I 4):=s0
 clear fq H0 X0 FX T0 TB
 generalize W0.drewN nq=Wd at*
 have f1:=a! Wd (.cells #[.string ⟨#[110,111,116]⟩,.I 6,.I 1] 142)
 have H1:=h! (HN.out.below f1)
 have X1:=b! XN f1
 have Y1:=h! (Blk.new Wd 142 #[.string ⟨#[110,111,116]⟩,.I 6,.I 1])
 have FX1:=h! (FN.out.below f1)
 have FY1:=h! (Far.new HN.out (.cells #[.string ⟨#[110,111,116]⟩,.I 6,.I 1] 142))
 have T1:=h! (TN.out.below f1)
 have TB1:=h! (TBN.out.below f1 (Nat.le_of_lt (Nat.lt_of_le_of_lt HN.out.1 HN.out.lt)))
 clear f1 HN XN FN TN TBN
 go_upto_region 4 with fail
 clear s0 p0 p1 p2
 generalize Wd.alloc (.cells #[.string ⟨#[110,111,116]⟩,.I 6,.I 1] 142)=W1 at*
 obtain⟨s0,s1,s2,s3⟩:=X1.out.A4
 obtain⟨y0,y1⟩:=Y1.out.A2
 have F4:=h! (Far.new H1.out (.cells #[.string ⟨#[110,111,116]⟩,.string ⟨#[32]⟩] 9))
 have R4:=h! (k1! W1 ⟨#[110,111,116]⟩ ⟨#[32]⟩)
 have H4:=h! (H1.out.al (.cells #[.string ⟨#[110,111,116]⟩,.string ⟨#[32]⟩] 9))
 go_wp2_with fail
 refine(i7! base g room ob l false _ 2 2 [⟨#[110,111,116]⟩,⟨#[32]⟩] _ H4.out R4.out (λa e=>by injection e with e;subst e;exact F4.out) (by omega) (λs hs=>by simp only[List.mem_cons,List.not_mem_nil,or_false]at hs;rcases hs with rfl|rfl<;>first|decide|decide)).mono ?_
 rintro e w4⟨rfl,ob4,l4,b4,t4,r4,o4⟩
 have T4:=h! ((T1.out.below ((Below.refl _ W1).al _)).trans t4)
 have R4':=h! r4
 have O4:=h! o4
 have K4:=h! (HK.out.below (T4.out.low HH.out))
 have TB4:=h! (TB1.out.below ((Turns.of_below ((Below.refl _ W1).al _)).trans t4 |>.low H1.out) (Nat.le_refl _))
 have X4:=h! (FX1.out.blk ((Turns.of_below ((Below.refl _ W1).al _)).trans t4) X1.out)
 clear t4 r4 o4 s0 s1 s2 s3 y0 y1 TB1 X1 Y1 FX1 FY1 H1 T1
 have s3:=X4.out.c3
 have c0:w4.cell? ⟨kb,ko,none⟩=some (.I kop):=K4.out.c0
 have c1:w4.cell? ⟨kb,ko+1,none⟩=some (.I kN):=K4.out.c1
 have c2:w4.cell? ⟨kb,ko+2,none⟩=some (.string knm):=K4.out.c2
 have c3:w4.cell? ⟨kb,ko+3,none⟩=some (.slice kA kl kc):=K4.out.c3
 have EX:=h! (HEx.out g room ob4 l4 b4 kop kN knm kA kl kc a 6 w4 TB4.out R4'.out K4.out.gc HF.out)
 go_wp2_with fail
 refine EX.out.mono ?_
 rintro e w5⟨rfl,ob5,l5,b5,t5,r5,o5⟩
 go_wp2_with fail
 go_end0
 refine⟨rfl,ob5,l5,b5,T4.out.trans t5,r5,?_⟩
 have:=O4.out.then_ o5
 rw[z4!,<-K4.out.gc.op_eq]at this
 exact this
theorem d47!(base m g room:Nat)(ob:Option Nat)(l:List UInt8)(bad:Bool)(N:Int)(nm:ByteArray)(A:Option Addr)(len cap:Nat)(w:World)(hT:Tabs base w)(h:Wr base w g ob room l bad)(n:Nat)(HE:q4! base n)(a b:Gx)(kb ko:Nat)(kop kN:Int)(knm:ByteArray)(kA:Option Addr)(kl kc:Nat)(hk:Kid base n w A 0 a kb ko kop kN knm kA kl kc)(hf:FitG n a)(jb jo:Nat)(jop jN:Int)(jnm:ByteArray)(jA:Option Addr)(jl jc:Nat)(hj:Kid base n w A 1 b jb jo jop jN jnm jA jl jc)(hg:FitG n b)(M:ByteArray)(T TL:Int)(hT0:1<=T∧T<=5)(hTL:TL=if T=3 then T+1 else T)(hM:M.size<=3)(h5:5<=m)(h18:m<18)(hp0:str (markN (m:Int))=M)(hp1:b0! (m:Int)=T)(hp2:partsN (m:Int)=2)(hbad:bad=false)(hl:len=2):
 Calls Tryz.prog 38 #[.pointer (some ⟨g,0,none⟩),.agg #[.I (m:Int),.I N,.string nm,.slice A len cap]] w (b5! base w g ob room l bad (ocat (operO a.op TL (rawE a)) (ocat (some ([32]++M.data.toList++[32])) (operO b.op (T+1) (rawE b))))):=by
 subst hbad hl
 obtain rfl:=hk.at_
 obtain⟨rfl,rfl⟩:jb=kb∧jo=ko:=by
  have:=hj.at_;injection this with this;injection this with q1 q2;exact⟨q1.symm,q2.symm⟩
 have HK:=h! hk
 have HF:=h! hf
 have HJ:=h! hj
 have HG:=h! hg
 have HEx:=h! HE
 have P0:Hid (∀W,Tabs base W->W.cell? ⟨0,m*3,none⟩=some (.string M)∧W.cell? ⟨0,m*3+1,none⟩=some (.I T)∧W.cell? ⟨0,m*3+2,none⟩=some (.I 2)):=λW hW=>⟨hp0▸hW.op0 m h18,hp1▸hW.op1 m h18,by have:=hW.op2 m h18;rw[hp2]at this;exact this⟩
 have HTL:=h! hTL
 have z0:((m:Int)==0)=false:=by simp;omega
 have z1:((m:Int)==1)=false:=by simp;omega
 have z2:((m:Int)==2)=false:=by simp;omega
 have z3:((m:Int)==3)=false:=by simp;omega
 have z4:((m:Int)==4)=false:=by simp;omega
 have zn:¬(m:Int)<0:=by omega
 have zh:¬(18:Int)<=(m:Int):=by omega
 have e3:IntKind.i64.wrap (T+1)=T+1:=IntWalk.i64_in _ (by omega)
 clear hk hf hj hg HE hp0 hp1 hp2 hTL h5
 have f0:=a! w (.cells #[.I (m:Int),.I N,.string nm,.slice (some ⟨jb,jo,none⟩) 2 cap] 40)
 have H0:=h! (h.below f0)
 have X0:=h! (Blk.new w 40 #[.I (m:Int),.I N,.string nm,.slice (some ⟨jb,jo,none⟩) 2 cap])
 have FX:=h! (Far.new h (.cells #[.I (m:Int),.I N,.string nm,.slice (some ⟨jb,jo,none⟩) 2 cap] 40))
 have T0:=h! (Turns.of_below (g:=g) (ob:=ob) f0)
 have TB:=h! (hT.below f0 (Nat.le_of_lt (Nat.lt_of_le_of_lt h.1 h.lt)))
 have HH:=h! h
 have hr1:=h.2.2.1
 have hr2:=h.2.2.2.1
 have hgl:=h.lt
 clear f0 hT h
 go_enter Tryz.func38,Tryz.ntmps38
 go_upto_region 1 with fail
 generalize w.alloc (.cells #[.I (m:Int),.I N,.string nm,.slice (some ⟨jb,jo,none⟩) 2 cap] 40)=W0 at*
 obtain⟨s0,s1,s2,s3⟩:=X0.out.A4
 obtain⟨q2,q3,q4⟩:=H0.out.cells_
 obtain⟨p0,p1,p2⟩:=P0.out W0 TB.out
 go_quiet (fail)
 have fq:Below W0.heap.size W0 (W0.drewN nq):=a5! (Below.refl _ W0) nq
 have HN:=h! (H0.out.below fq)
 have XN:=b! X0 fq
 have FN:=h! (FX.out.below fq)
 have TN:=h! (T0.out.below fq)
 have TBN:=h! (TB.out.below fq (Nat.le_of_lt (Nat.lt_of_le_of_lt H0.out.1 H0.out.lt)))
 have p0:(W0.drewN nq).cell? ⟨0,m*3,none⟩=some (.string M):=p0
 have p1:(W0.drewN nq).cell? ⟨0,m*3+1,none⟩=some (.I T):=p1
 have p2:(W0.drewN nq).cell? ⟨0,m*3+2,none⟩=some (.I 2):=p2
 have s0:(W0.drewN nq).cell? ⟨w.heap.size,0,none⟩=some (.I (m:Int)):=s0
 clear fq H0 X0 FX T0 TB
 generalize W0.drewN nq=Wd at*
 have f1:=a! Wd (.cells #[.string M,.I T,.I 2] 142)
 have H1:=h! (HN.out.below f1)
 have X1:=b! XN f1
 have Y1:=h! (Blk.new Wd 142 #[.string M,.I T,.I 2])
 have FX1:=h! (FN.out.below f1)
 have FY1:=h! (Far.new HN.out (.cells #[.string M,.I T,.I 2] 142))
 have T1:=h! (TN.out.below f1)
 have TB1:=h! (TBN.out.below f1 (Nat.le_of_lt (Nat.lt_of_le_of_lt HN.out.1 HN.out.lt)))
 clear f1 HN XN FN TN TBN
 go_upto_region 4 with fail
 clear s0 p0 p1 p2
 generalize Wd.alloc (.cells #[.string M,.I T,.I 2] 142)=W1 at*
 obtain⟨s0,s1,s2,s3⟩:=X1.out.A4
 obtain⟨y0,y1⟩:=Y1.out.A2
 go_upto_if 44 with fail
 go_cut [5] (λt wx=>wx=W1∧t=.I TL)
 case first=>
  by_cases h3:T=3
  ·have h3':(T==3)=true:=by simp[h3]
   have e4:IntKind.i64.wrap (T+1)=TL:=by rw[e3,HTL.out,if_pos h3]
   clear e3 h3;go_wp2_with fail;go_meet
   case rel=>exact⟨rfl,rfl⟩
  ·have h3':(T==3)=false:=by simp[h3]
   have e4:Hid (T=TL):=by rw[HTL.out,if_neg h3];exact rfl
   clear h3;go_wp2_with fail;go_meet
   case rel=>exact⟨rfl,by rw[e4.out]⟩
 case rest=>
 obtain⟨rfl,rfl⟩:=hcut
 have K1:=h! (HK.out.below (T1.out.low HH.out))
 have J1:=h! (HJ.out.below (T1.out.low HH.out))
 have c0:wc.cell? ⟨jb,jo,none⟩=some (.I kop):=K1.out.c0
 have c1:wc.cell? ⟨jb,jo+1,none⟩=some (.I kN):=K1.out.c1
 have c2:wc.cell? ⟨jb,jo+2,none⟩=some (.string knm):=K1.out.c2
 have c3:wc.cell? ⟨jb,jo+3,none⟩=some (.slice kA kl kc):=K1.out.c3
 have EX:=h! (HEx.out g room ob l false kop kN knm kA kl kc a TL wc TB1.out H1.out K1.out.gc HF.out)
 go_wp2_with fail
 refine EX.out.mono ?_
 rintro e w4⟨rfl,ob4,l4,b4,t4,r4,o4⟩
 have T4:=h! (T1.out.trans t4)
 have R4:=h! r4
 have O4:=h! (show WOut room l false (operO a.op TL (rawE a)) l4 b4 by rw[K1.out.gc.op_eq];exact o4)
 have TB4:=h! (TB1.out.below (t4.low H1.out) (Nat.le_refl _))
 have X4:=h! (FX1.out.blk t4 X1.out)
 have Y4:=h! (FY1.out.blk t4 Y1.out)
 have FX4:=h! (FX1.out.turn t4)
 have FY4:=h! (FY1.out.turn t4)
 clear t4 r4 o4 s0 s1 s2 s3 y0 y1 TB1 X1 Y1 FX1 FY1 H1 T1 EX c0 c1 c2 c3 K1 J1
 have y0:=Y4.out.c0
 have F6:=h! (Far.new R4.out (.cells #[.string ⟨#[32]⟩,.string M,.string ⟨#[32]⟩] 9))
 have R6:=h! (j8! w4 ⟨#[32]⟩ M ⟨#[32]⟩)
 have H6:=h! (R4.out.al (.cells #[.string ⟨#[32]⟩,.string M,.string ⟨#[32]⟩] 9))
 go_wp2_with fail
 refine(i7! base g room ob4 l4 b4 _ 3 3 [⟨#[32]⟩,M,⟨#[32]⟩] _ H6.out R6.out (λa e=>by injection e with e;subst e;exact F6.out) (by omega) (λs hs=>by simp only[List.mem_cons,List.not_mem_nil,or_false]at hs;rcases hs with rfl|rfl|rfl<;>first|decide|omega)).mono ?_
 rintro e w6⟨rfl,ob6,l6,b6,t6,r6,o6⟩
 have A4:Turns w4 g ob4 (w4.alloc (.cells #[.string ⟨#[32]⟩,.string M,.string ⟨#[32]⟩] 9)) ob4:=Turns.of_below ((Below.refl _ w4).al _)
 have T6:=h! (T4.out.trans (A4.trans t6))
 have R6':=h! r6
 have O6:=h! (O4.out.then_ o6)
 have TB6:=h! (TB4.out.below ((A4.trans t6).low R4.out) (Nat.le_refl _))
 have X6:=h! (FX4.out.blk (A4.trans t6) X4.out)
 have Y6:=h! (FY4.out.blk (A4.trans t6) Y4.out)
 have FX6:=h! (FX4.out.turn (A4.trans t6))
 have FY6:=h! (FY4.out.turn (A4.trans t6))
 have J6:=h! (HJ.out.below (T6.out.low HH.out))
 clear t6 r6 o6 A4 y0 T4 R4 O4 TB4 X4 Y4 FX4 FY4
 have EX:=h! (λW (hW:Below w6.heap.size w6 W)=>HEx.out g room ob6 l6 b6 jop jN jnm jA jl jc b (T+1) W (TB6.out.below hW R6'.out.low) (R6'.out.below hW) (J6.out.below (hW.mono R6'.out.low)).gc HG.out)
 go_upto_region 10 with fail
 have FF:∀W ob',Turns w6.drew g ob6 W ob'->W.cell? ⟨w.heap.size,3,none⟩=some (.slice (some ⟨jb,jo,none⟩) 2 cap)∧W.cell? ⟨Wd.heap.size,1,none⟩=some (.I T)∧W.cell? ⟨jb,jo+4,none⟩=some (.I jop)∧W.cell? ⟨jb,jo+4+1,none⟩=some (.I jN)∧W.cell? ⟨jb,jo+4+2,none⟩=some (.string jnm)∧W.cell? ⟨jb,jo+4+3,none⟩=some (.slice jA jl jc):=λW ob' hW=>by
  have J:=J6.out.below (((Turns.of_below (Below.refl _ w6).drew).trans hW).low R6'.out);exact⟨((FX6.out.below (Below.refl _ w6).drew).blk hW X6.out.drew).cell 3,((FY6.out.below (Below.refl _ w6).drew).blk hW Y6.out.drew).cell 1,J.c0,J.c1,J.c2,J.c3⟩
 have FF':=h! FF
 have qq:=FF w6.drew ob6 (Turns.refl _ _ _)
 clear FF
 go_region_held3 (λW=>W.cell? ⟨w.heap.size,3,none⟩=some (.slice (some ⟨jb,jo,none⟩) 2 cap)∧W.cell? ⟨Wd.heap.size,1,none⟩=some (.I T)∧W.cell? ⟨jb,jo+4,none⟩=some (.I jop)∧W.cell? ⟨jb,jo+4+1,none⟩=some (.I jN)∧W.cell? ⟨jb,jo+4+2,none⟩=some (.string jnm)∧W.cell? ⟨jb,jo+4+3,none⟩=some (.slice jA jl jc))
  (first|exact qq|exact q7)
  (first
   |(go_at_call 76;(with_reducible refine(EX.out _ (Below.refl _ w6).drew).mono ?_);rintro e w7⟨rfl,ob7,l7,b7,t7,r7,o7⟩;have q7:=FF'.out w7 ob7 t7;have T7:=h! t7;have R7:=h! r7;have O7:=h! o7;clear t7 r7 o7))
 go_wp2_with fail
 go_end0
 refine⟨rfl,ob7,l7,b7,(T6.out.below (Below.refl _ w6).drew).trans T7.out,R7.out,?_⟩
 have:=O6.out.then_ O7.out
 rw[d41!,<-HJ.out.gc.op_eq,i5!]at this
 exact this
theorem d48!(op:Int)(x:Option (List UInt8))(base g room:Nat)(ob:Option Nat)(l:List UInt8)(bad:Bool)(N:Int)(nm:ByteArray)(A:Option Addr)(len cap:Nat)(w:World)(hT:Tabs base w)(h:Wr base w g ob room l bad)(hbad:bad=true):
 Calls Tryz.prog 38 #[.pointer (some ⟨g,0,none⟩),.agg #[.I op,.I N,.string nm,.slice A len cap]] w (b5! base w g ob room l bad (x)):=by
 subst hbad
 have f0:=a! w (.cells #[.I op,.I N,.string nm,.slice A len cap] 40)
 have H0:=h! (h.below f0)
 have X0:=h! (Blk.new w 40 #[.I op,.I N,.string nm,.slice A len cap])
 have FX:=h! (Far.new h (.cells #[.I op,.I N,.string nm,.slice A len cap] 40))
 have T0:=h! (Turns.of_below (g:=g) (ob:=ob) f0)
 have TB:=h! (hT.below f0 (Nat.le_of_lt (Nat.lt_of_le_of_lt h.1 h.lt)))
 have HH:=h! h
 have hr1:=h.2.2.1
 have hr2:=h.2.2.2.1
 have hgl:=h.lt
 clear f0 hT h
 go_enter Tryz.func38,Tryz.ntmps38
 go_upto_region 1 with fail
 generalize w.alloc (.cells #[.I op,.I N,.string nm,.slice A len cap] 40)=W0 at*
 obtain⟨s0,s1,s2,s3⟩:=X0.out.A4
 obtain⟨q2,q3,q4⟩:=H0.out.cells_
 go_quiet (fail)
 go_wp2_with fail
 go_end0
 obtain⟨wb,kb⟩:=(H0.out.below (a5! (Below.refl _ W0) nq)).set_bad true
 refine⟨rfl,ob,l,true,T0.out.trans ⟨((Kept.of_below (a5! (Below.refl _ W0) nq)).then_ kb (λ_ _ e=>e)).mono (λ_ _ e=>.inl e),.inl rfl⟩,wb,?_⟩
 exact WOut.was hr1
theorem d49!(op:Int)(base g room:Nat)(ob:Option Nat)(l:List UInt8)(bad:Bool)(N:Int)(nm:ByteArray)(A:Option Addr)(len cap:Nat)(w:World)(hT:Tabs base w)(h:Wr base w g ob room l bad)(hbad:bad=false)(ho:op<0):
 Calls Tryz.prog 38 #[.pointer (some ⟨g,0,none⟩),.agg #[.I op,.I N,.string nm,.slice A len cap]] w (b5! base w g ob room l bad (none)):=by
 subst hbad
 have f0:=a! w (.cells #[.I op,.I N,.string nm,.slice A len cap] 40)
 have H0:=h! (h.below f0)
 have X0:=h! (Blk.new w 40 #[.I op,.I N,.string nm,.slice A len cap])
 have FX:=h! (Far.new h (.cells #[.I op,.I N,.string nm,.slice A len cap] 40))
 have T0:=h! (Turns.of_below (g:=g) (ob:=ob) f0)
 have TB:=h! (hT.below f0 (Nat.le_of_lt (Nat.lt_of_le_of_lt h.1 h.lt)))
 have HH:=h! h
 have hr1:=h.2.2.1
 have hr2:=h.2.2.2.1
 have hgl:=h.lt
 clear f0 hT h
 go_enter Tryz.func38,Tryz.ntmps38
 go_upto_region 1 with fail
 generalize w.alloc (.cells #[.I op,.I N,.string nm,.slice A len cap] 40)=W0 at*
 obtain⟨s0,s1,s2,s3⟩:=X0.out.A4
 obtain⟨q2,q3,q4⟩:=H0.out.cells_
 go_quiet (fail)
 go_wp2_with fail
 go_end0
 obtain⟨wb,kb⟩:=(H0.out.below (a5! (Below.refl _ W0) nq)).set_bad true
 refine⟨rfl,ob,l,true,T0.out.trans ⟨((Kept.of_below (a5! (Below.refl _ W0) nq)).then_ kb (λ_ _ e=>e)).mono (λ_ _ e=>.inl e),.inl rfl⟩,wb,?_⟩
 exact WOut.fail hr1
theorem d50!(op:Int)(base g room:Nat)(ob:Option Nat)(l:List UInt8)(bad:Bool)(N:Int)(nm:ByteArray)(A:Option Addr)(len cap:Nat)(w:World)(hT:Tabs base w)(h:Wr base w g ob room l bad)(hbad:bad=false)(ho:18<=op):
 Calls Tryz.prog 38 #[.pointer (some ⟨g,0,none⟩),.agg #[.I op,.I N,.string nm,.slice A len cap]] w (b5! base w g ob room l bad (none)):=by
 subst hbad
 have zn:¬op<0:=by omega
 have f0:=a! w (.cells #[.I op,.I N,.string nm,.slice A len cap] 40)
 have H0:=h! (h.below f0)
 have X0:=h! (Blk.new w 40 #[.I op,.I N,.string nm,.slice A len cap])
 have FX:=h! (Far.new h (.cells #[.I op,.I N,.string nm,.slice A len cap] 40))
 have T0:=h! (Turns.of_below (g:=g) (ob:=ob) f0)
 have TB:=h! (hT.below f0 (Nat.le_of_lt (Nat.lt_of_le_of_lt h.1 h.lt)))
 have HH:=h! h
 have hr1:=h.2.2.1
 have hr2:=h.2.2.2.1
 have hgl:=h.lt
 clear f0 hT h
 go_enter Tryz.func38,Tryz.ntmps38
 go_upto_region 1 with fail
 generalize w.alloc (.cells #[.I op,.I N,.string nm,.slice A len cap] 40)=W0 at*
 obtain⟨s0,s1,s2,s3⟩:=X0.out.A4
 obtain⟨q2,q3,q4⟩:=H0.out.cells_
 go_quiet (fail)
 go_wp2_with fail
 go_end0
 obtain⟨wb,kb⟩:=(H0.out.below (a5! (Below.refl _ W0) nq)).set_bad true
 refine⟨rfl,ob,l,true,T0.out.trans ⟨((Kept.of_below (a5! (Below.refl _ W0) nq)).then_ kb (λ_ _ e=>e)).mono (λ_ _ e=>.inl e),.inl rfl⟩,wb,?_⟩
 exact WOut.fail hr1
theorem d51!(m:Nat)(base g room:Nat)(ob:Option Nat)(l:List UInt8)(bad:Bool)(N:Int)(nm:ByteArray)(A:Option Addr)(len cap:Nat)(w:World)(hT:Tabs base w)(h:Wr base w g ob room l bad)(hbad:bad=false)(h18:m<18)(hl:len≠partsN (m:Int)):
 Calls Tryz.prog 38 #[.pointer (some ⟨g,0,none⟩),.agg #[.I (m:Int),.I N,.string nm,.slice A len cap]] w (b5! base w g ob room l bad (none)):=by
 subst hbad
 have zn:¬(m:Int)<0:=by omega
 have zh:¬(18:Int)<=(m:Int):=by omega
 have P2:Hid (∀W,Tabs base W->W.cell? ⟨0,m*3+2,none⟩=some (.I ((partsN (m:Int):Nat):Int))):=λW hW=>hW.op2 m h18
 have zl:(((len:Nat):Int)==((partsN (m:Int):Nat):Int))=false:=by simp;omega
 generalize partsN (m:Int)=PN at*
 clear hl
 have f0:=a! w (.cells #[.I (m:Int),.I N,.string nm,.slice A len cap] 40)
 have H0:=h! (h.below f0)
 have X0:=h! (Blk.new w 40 #[.I (m:Int),.I N,.string nm,.slice A len cap])
 have FX:=h! (Far.new h (.cells #[.I (m:Int),.I N,.string nm,.slice A len cap] 40))
 have T0:=h! (Turns.of_below (g:=g) (ob:=ob) f0)
 have TB:=h! (hT.below f0 (Nat.le_of_lt (Nat.lt_of_le_of_lt h.1 h.lt)))
 have HH:=h! h
 have hr1:=h.2.2.1
 have hr2:=h.2.2.2.1
 have hgl:=h.lt
 clear f0 hT h
 go_enter Tryz.func38,Tryz.ntmps38
 go_upto_region 1 with fail
 generalize w.alloc (.cells #[.I (m:Int),.I N,.string nm,.slice A len cap] 40)=W0 at*
 obtain⟨s0,s1,s2,s3⟩:=X0.out.A4
 obtain⟨q2,q3,q4⟩:=H0.out.cells_
 have p2:=P2.out W0 TB.out
 go_quiet (fail)
 go_wp2_with fail
 go_end0
 obtain⟨wb,kb⟩:=(H0.out.below (a5! (Below.refl _ W0) nq)).set_bad true
 refine⟨rfl,ob,l,true,T0.out.trans ⟨((Kept.of_below (a5! (Below.refl _ W0) nq)).then_ kb (λ_ _ e=>e)).mono (λ_ _ e=>.inl e),.inl rfl⟩,wb,?_⟩
 exact WOut.fail hr1
theorem b04!(base n:Nat)(HE:∀q,n=q+1->j9! base q)(HO:∀q,n=q+1->q4! base q):j9! base n:=by
 intro g room ob l bad op N nm A len cap x w hT h hG hF
 cases bad with
 |true=>exact d48! op (rawE x) base g room ob l true N nm A len cap w hT h rfl
 |false=>
  by_cases h0:op<0
  ·rw[show rawE x=none by
    obtain⟨op0,N0,nm0,gs⟩:=x;obtain⟨rfl,_⟩:=hG.parts_;exact k0! (by omega)]
   exact d49! op base g room ob l false N nm A len cap w hT h rfl h0
  ·by_cases h18:18<=op
   ·rw[show rawE x=none by
     obtain⟨op0,N0,nm0,gs⟩:=x;obtain⟨rfl,_⟩:=hG.parts_;exact k0! (by omega)]
    exact d50! op base g room ob l false N nm A len cap w hT h rfl h18
   ·obtain⟨op0,N0,nm0,gs⟩:=x
    obtain⟨rfl,rfl,rfl,rfl,q,rfl,hel⟩:=hG.parts_;obtain⟨hN,hnm,hfs⟩:=hF;have HQ:=HE q rfl;have HP:=HO q rfl;obtain⟨m,rfl⟩:∃m:Nat,op=(m:Int):=⟨op.toNat,by omega⟩
    by_cases hl:gs.length=partsN (m:Int)
    ·rcases Nat.lt_or_ge m 2 with h2|h2
     ·have hp:partsN (m:Int)=0:=by unfold partsN;rw[if_pos (by omega)]
      rw[hp]at hl;obtain rfl:=List.eq_nil_of_length_eq_zero hl;rcases Nat.lt_or_ge m 1 with h1|h1
      ·obtain rfl:m=0:=by omega
       rw[show ((0:Nat):Int)=0 from rfl,b02!];exact d42! base g room ob l false N nm A _ cap w hT h hN rfl rfl
      ·obtain rfl:m=1:=by omega
       rw[show ((1:Nat):Int)=1 from rfl,rawE_nam];exact d43! base g room ob l false N nm A _ cap w hT h hnm rfl rfl
     ·rcases Nat.lt_or_ge m 5 with h5|h5
      ·have hp:partsN (m:Int)=1:=by unfold partsN;rw[if_neg (by omega),if_pos (by omega)]
       rw[hp]at hl;obtain⟨a,rfl⟩:=List.length_eq_one_iff.1 hl;obtain⟨kb,ko,kop,kN,knm,kA,kl,kc,hk⟩:=Kid.of hel (i:=0) (by simp) h.low;have hfa:=hfs a (List.mem_singleton.2 rfl)
       by_cases e2:m=2
       ·subst e2
        rw[show ((2:Nat):Int)=2 from rfl,z3!];exact d44! base g room ob l false N nm A _ cap w hT h hnm q HQ a kb ko kop kN knm kA kl kc hk hfa rfl rfl
       ·by_cases e3:m=3
        ·subst e3
         rw[show ((3:Nat):Int)=3 from rfl,v0! (.inl rfl)];exact d45! base g room ob l false N nm A _ cap w hT h q HP a kb ko kop kN knm kA kl kc hk hfa rfl rfl
        ·obtain rfl:m=4:=by omega
         rw[show ((4:Nat):Int)=4 from rfl,v0! (.inr rfl)];exact d46! base g room ob l false N nm A _ cap w hT h q HP a kb ko kop kN knm kA kl kc hk hfa rfl rfl
      ·have hp:partsN (m:Int)=2:=by unfold partsN;rw[if_neg (by omega),if_neg (by omega)]
       rw[hp]at hl;obtain⟨a,b,rfl⟩:∃a b,gs=[a,b]:=by
        match gs,hl with
        |[a,b],_=>exact⟨a,b,rfl⟩
       obtain⟨kb,ko,kop,kN,knm,kA,kl,kc,hk⟩:=Kid.of hel (i:=0) (by simp) h.low;obtain⟨jb,jo,jop,jN,jnm,jA,jl,jc,hj⟩:=Kid.of hel (i:=1) (by simp) h.low;have hfa:=hfs a (by simp);have hfb:=hfs b (by simp);rw[b03! (by omega)];have hM:(str (markN (m:Int))).size<=3:=by
        rw[str_size];have:∀i:Fin 18,(markN (i.val:Int)).length<=3:=by decide
        exact this ⟨m,by omega⟩
       have hTt:1<=b0! (m:Int)∧b0! (m:Int)<=5:=by
        have:∀i:Fin 18,5<=i.val->1<=b0! (i.val:Int)∧b0! (i.val:Int)<=5:=by decide
        exact this ⟨m,by omega⟩ h5
       have:=d47! base m g room ob l false N nm A _ cap w hT h q HP a b kb ko kop kN knm kA kl kc hk hfa jb jo jop jN jnm jA jl jc hj hfb (str (markN (m:Int))) (b0! (m:Int)) (leftN (m:Int)) hTt rfl hM h5 (by omega) rfl rfl hp rfl rfl;rw[str_list]at this;exact this
    ·rw[k0! (λh=>hl h.2.2)]
     exact d51! m base g room ob l false N nm A _ cap w hT h rfl (by omega) hl
theorem d52!(op t:Int)(base g room:Nat)(ob:Option Nat)(l:List UInt8)(bad:Bool)(N:Int)(nm:ByteArray)(A:Option Addr)(len cap:Nat)(w:World)(hT:Tabs base w)(h:Wr base w g ob room l bad)(n:Nat)(HE:j9! base n)(x:Gx)(hG:GC (λk=>k<base) w 1000000 n [.I op,.I N,.string nm,.slice A len cap] x)(hF:FitG n x)(ho:op<0):
 Calls Tryz.prog 76 #[.pointer (some ⟨g,0,none⟩),.agg #[.I op,.I N,.string nm,.slice A len cap],.I t] w (b5! base w g ob room l bad (rawE x)):=by
 have HEx:=h! HE
 have HG:=h! hG
 have HF:=h! hF
 clear HE hG hF
 have f0:=a! w (.cells #[.I op,.I N,.string nm,.slice A len cap] 40)
 have H0:=h! (h.below f0)
 have X0:=h! (Blk.new w 40 #[.I op,.I N,.string nm,.slice A len cap])
 have FX:=h! (Far.new h (.cells #[.I op,.I N,.string nm,.slice A len cap] 40))
 have T0:=h! (Turns.of_below (g:=g) (ob:=ob) f0)
 have TB:=h! (hT.below f0 (Nat.le_of_lt (Nat.lt_of_le_of_lt h.1 h.lt)))
 have HH:=h! h
 have hr1:=h.2.2.1
 have hr2:=h.2.2.2.1
 have hgl:=h.lt
 clear f0 hT h
 go_enter Tryz.func76,Tryz.ntmps76
 go_upto_region 1 with fail
 generalize w.alloc (.cells #[.I op,.I N,.string nm,.slice A len cap] 40)=W0 at*
 obtain⟨s0,s1,s2,s3⟩:=X0.out.A4
 obtain⟨q2,q3,q4⟩:=H0.out.cells_
 have GW:Hid (∀W,Below base w W->GC (λk=>k<base) W 1000000 n [.I op,.I N,.string nm,.slice A len cap] x):=λW hW=>GC.kept (S:=λk=>¬k<base) ⟨hW.os,hW.tape,hW.output,hW.size,λk _ hn=>hW.block k (Classical.not_not.1 hn)⟩ (λ_ _ hk hn=>hn hk) (λ_ _ hk=>hk) _ _ _ HG.out
 have EX:=h! (HEx.out g room ob l bad op N nm A len cap x W0 TB.out H0.out (GW.out W0 (T0.out.low HH.out)) HF.out)
 go_wp2_with fail
 refine EX.out.mono ?_
 rintro e w5⟨rfl,ob5,l5,b5,t5,r5,o5⟩
 go_wp2_with fail
 go_end0
 exact⟨rfl,ob5,l5,b5,T0.out.trans t5,r5,o5⟩
theorem d53!(op t:Int)(base g room:Nat)(ob:Option Nat)(l:List UInt8)(bad:Bool)(N:Int)(nm:ByteArray)(A:Option Addr)(len cap:Nat)(w:World)(hT:Tabs base w)(h:Wr base w g ob room l bad)(n:Nat)(HE:j9! base n)(x:Gx)(hG:GC (λk=>k<base) w 1000000 n [.I op,.I N,.string nm,.slice A len cap] x)(hF:FitG n x)(ho:18<=op):
 Calls Tryz.prog 76 #[.pointer (some ⟨g,0,none⟩),.agg #[.I op,.I N,.string nm,.slice A len cap],.I t] w (b5! base w g ob room l bad (rawE x)):=by
 have HEx:=h! HE
 have HG:=h! hG
 have HF:=h! hF
 clear HE hG hF
 have zn:¬op<0:=by omega
 have f0:=a! w (.cells #[.I op,.I N,.string nm,.slice A len cap] 40)
 have H0:=h! (h.below f0)
 have X0:=h! (Blk.new w 40 #[.I op,.I N,.string nm,.slice A len cap])
 have FX:=h! (Far.new h (.cells #[.I op,.I N,.string nm,.slice A len cap] 40))
 have T0:=h! (Turns.of_below (g:=g) (ob:=ob) f0)
 have TB:=h! (hT.below f0 (Nat.le_of_lt (Nat.lt_of_le_of_lt h.1 h.lt)))
 have HH:=h! h
 have hr1:=h.2.2.1
 have hr2:=h.2.2.2.1
 have hgl:=h.lt
 clear f0 hT h
 go_enter Tryz.func76,Tryz.ntmps76
 go_upto_region 1 with fail
 generalize w.alloc (.cells #[.I op,.I N,.string nm,.slice A len cap] 40)=W0 at*
 obtain⟨s0,s1,s2,s3⟩:=X0.out.A4
 obtain⟨q2,q3,q4⟩:=H0.out.cells_
 have GW:Hid (∀W,Below base w W->GC (λk=>k<base) W 1000000 n [.I op,.I N,.string nm,.slice A len cap] x):=λW hW=>GC.kept (S:=λk=>¬k<base) ⟨hW.os,hW.tape,hW.output,hW.size,λk _ hn=>hW.block k (Classical.not_not.1 hn)⟩ (λ_ _ hk hn=>hn hk) (λ_ _ hk=>hk) _ _ _ HG.out
 have EX:=h! (HEx.out g room ob l bad op N nm A len cap x W0 TB.out H0.out (GW.out W0 (T0.out.low HH.out)) HF.out)
 go_wp2_with fail
 refine EX.out.mono ?_
 rintro e w5⟨rfl,ob5,l5,b5,t5,r5,o5⟩
 go_wp2_with fail
 go_end0
 exact⟨rfl,ob5,l5,b5,T0.out.trans t5,r5,o5⟩
theorem d54!(m:Nat)(t:Int)(base g room:Nat)(ob:Option Nat)(l:List UInt8)(bad:Bool)(N:Int)(nm:ByteArray)(A:Option Addr)(len cap:Nat)(w:World)(hT:Tabs base w)(h:Wr base w g ob room l bad)(n:Nat)(HE:j9! base n)(x:Gx)(hG:GC (λk=>k<base) w 1000000 n [.I (m:Int),.I N,.string nm,.slice A len cap] x)(hF:FitG n x)(h18:m<18)(ht:¬b0! (m:Int)<t):
 Calls Tryz.prog 76 #[.pointer (some ⟨g,0,none⟩),.agg #[.I (m:Int),.I N,.string nm,.slice A len cap],.I t] w (b5! base w g ob room l bad (rawE x)):=by
 have HEx:=h! HE
 have HG:=h! hG
 have HF:=h! hF
 clear HE hG hF
 have zn:¬(m:Int)<0:=by omega
 have zh:¬(18:Int)<=(m:Int):=by omega
 have P1:Hid (∀W,Tabs base W->W.cell? ⟨0,m*3+1,none⟩=some (.I (b0! (m:Int)))):=λW hW=>hW.op1 m h18
 generalize b0! (m:Int)=TM at*
 have ht2:t<=TM:=by omega
 clear ht
 have f0:=a! w (.cells #[.I (m:Int),.I N,.string nm,.slice A len cap] 40)
 have H0:=h! (h.below f0)
 have X0:=h! (Blk.new w 40 #[.I (m:Int),.I N,.string nm,.slice A len cap])
 have FX:=h! (Far.new h (.cells #[.I (m:Int),.I N,.string nm,.slice A len cap] 40))
 have T0:=h! (Turns.of_below (g:=g) (ob:=ob) f0)
 have TB:=h! (hT.below f0 (Nat.le_of_lt (Nat.lt_of_le_of_lt h.1 h.lt)))
 have HH:=h! h
 have hr1:=h.2.2.1
 have hr2:=h.2.2.2.1
 have hgl:=h.lt
 clear f0 hT h
 go_enter Tryz.func76,Tryz.ntmps76
 go_upto_region 1 with fail
 generalize w.alloc (.cells #[.I (m:Int),.I N,.string nm,.slice A len cap] 40)=W0 at*
 obtain⟨s0,s1,s2,s3⟩:=X0.out.A4
 obtain⟨q2,q3,q4⟩:=H0.out.cells_
 have GW:Hid (∀W,Below base w W->GC (λk=>k<base) W 1000000 n [.I (m:Int),.I N,.string nm,.slice A len cap] x):=λW hW=>GC.kept (S:=λk=>¬k<base) ⟨hW.os,hW.tape,hW.output,hW.size,λk _ hn=>hW.block k (Classical.not_not.1 hn)⟩ (λ_ _ hk hn=>hn hk) (λ_ _ hk=>hk) _ _ _ HG.out
 have p1:=P1.out W0 TB.out
 have EX:=h! (HEx.out g room ob l bad (m:Int) N nm A len cap x W0 TB.out H0.out (GW.out W0 (T0.out.low HH.out)) HF.out)
 go_wp2_with fail
 refine EX.out.mono ?_
 rintro e w5⟨rfl,ob5,l5,b5,t5,r5,o5⟩
 go_wp2_with fail
 go_end0
 exact⟨rfl,ob5,l5,b5,T0.out.trans t5,r5,o5⟩
theorem d55!(m:Nat)(t:Int)(base g room:Nat)(ob:Option Nat)(l:List UInt8)(bad:Bool)(N:Int)(nm:ByteArray)(A:Option Addr)(len cap:Nat)(w:World)(hT:Tabs base w)(h:Wr base w g ob room l bad)(n:Nat)(HE:j9! base n)(x:Gx)(hG:GC (λk=>k<base) w 1000000 n [.I (m:Int),.I N,.string nm,.slice A len cap] x)(hF:FitG n x)(h18:m<18)(ht:b0! (m:Int)<t):
 Calls Tryz.prog 76 #[.pointer (some ⟨g,0,none⟩),.agg #[.I (m:Int),.I N,.string nm,.slice A len cap],.I t] w (b5! base w g ob room l bad (ocat (some [40,32]) (ocat (rawE x) (some [32,41])))):=by
 have HEx:=h! HE
 have HG:=h! hG
 have HF:=h! hF
 clear HE hG hF
 have zn:¬(m:Int)<0:=by omega
 have zh:¬(18:Int)<=(m:Int):=by omega
 have P1:Hid (∀W,Tabs base W->W.cell? ⟨0,m*3+1,none⟩=some (.I (b0! (m:Int)))):=λW hW=>hW.op1 m h18
 generalize b0! (m:Int)=TM at*
 have ht2:¬t<=TM:=by omega
 clear ht
 have f0:=a! w (.cells #[.I (m:Int),.I N,.string nm,.slice A len cap] 40)
 have H0:=h! (h.below f0)
 have X0:=h! (Blk.new w 40 #[.I (m:Int),.I N,.string nm,.slice A len cap])
 have FX:=h! (Far.new h (.cells #[.I (m:Int),.I N,.string nm,.slice A len cap] 40))
 have T0:=h! (Turns.of_below (g:=g) (ob:=ob) f0)
 have TB:=h! (hT.below f0 (Nat.le_of_lt (Nat.lt_of_le_of_lt h.1 h.lt)))
 have HH:=h! h
 have hr1:=h.2.2.1
 have hr2:=h.2.2.2.1
 have hgl:=h.lt
 clear f0 hT h
 go_enter Tryz.func76,Tryz.ntmps76
 go_upto_region 1 with fail
 generalize w.alloc (.cells #[.I (m:Int),.I N,.string nm,.slice A len cap] 40)=W0 at*
 obtain⟨s0,s1,s2,s3⟩:=X0.out.A4
 obtain⟨q2,q3,q4⟩:=H0.out.cells_
 have GW:Hid (∀W,Below base w W->GC (λk=>k<base) W 1000000 n [.I (m:Int),.I N,.string nm,.slice A len cap] x):=λW hW=>GC.kept (S:=λk=>¬k<base) ⟨hW.os,hW.tape,hW.output,hW.size,λk _ hn=>hW.block k (Classical.not_not.1 hn)⟩ (λ_ _ hk hn=>hn hk) (λ_ _ hk=>hk) _ _ _ HG.out
 have p1:=P1.out W0 TB.out
 have F4:=h! (Far.new H0.out (.cells #[.string ⟨#[40,32]⟩] 9))
 have R4:=h! (f4! W0 ⟨#[40,32]⟩)
 have H4:=h! (H0.out.al (.cells #[.string ⟨#[40,32]⟩] 9))
 go_wp2_with fail
 refine(i7! base g room ob l bad _ 1 1 [⟨#[40,32]⟩] _ H4.out R4.out (λa e=>by injection e with e;subst e;exact F4.out) (by omega) (λs hs=>by obtain rfl:=List.mem_singleton.1 hs;decide)).mono ?_
 rintro e w4⟨rfl,ob4,l4,b4,t4,r4,o4⟩
 have A4:Turns W0 g ob (W0.alloc (.cells #[.string ⟨#[40,32]⟩] 9)) ob:=Turns.of_below ((Below.refl _ W0).al _)
 have T4:=h! (T0.out.trans (A4.trans t4))
 have R4':=h! r4
 have O4:=h! o4
 have TB4:=h! (TB.out.below ((A4.trans t4).low H0.out) (Nat.le_refl _))
 have X4:=h! (FX.out.blk (A4.trans t4) X0.out)
 clear t4 r4 o4 A4 s0 s1 s2 s3 q2 q3 q4 p1
 obtain⟨s0,s1,s2,s3⟩:=X4.out.A4
 have EX:=h! (HEx.out g room ob4 l4 b4 (m:Int) N nm A len cap x w4 TB4.out R4'.out (GW.out w4 (T4.out.low HH.out)) HF.out)
 go_wp2_with fail
 refine EX.out.mono ?_
 rintro e w5⟨rfl,ob5,l5,b5,t5,r5,o5⟩
 have T5:=h! (T4.out.trans t5)
 have R5':=h! r5
 have O5:=h! (O4.out.then_ o5)
 clear t5 r5 o5 T4 R4' O4 EX
 have F6:=h! (Far.new R5'.out (.cells #[.string ⟨#[32,41]⟩] 9))
 have R6:=h! (f4! w5 ⟨#[32,41]⟩)
 have H6:=h! (R5'.out.al (.cells #[.string ⟨#[32,41]⟩] 9))
 go_wp2_with fail
 refine(i7! base g room ob5 l5 b5 _ 1 1 [⟨#[32,41]⟩] _ H6.out R6.out (λa e=>by injection e with e;subst e;exact F6.out) (by omega) (λs hs=>by obtain rfl:=List.mem_singleton.1 hs;decide)).mono ?_
 rintro e w6⟨rfl,ob6,l6,b6,t6,r6,o6⟩
 go_wp2_with fail
 go_end0
 refine⟨rfl,ob6,l6,b6,(T5.out.below ((Below.refl _ w5).al _)).trans t6,r6,?_⟩
 have:=O5.out.then_ o6
 rw[q5!,q5!,i5!]at this
 exact this
theorem d56!{s:Option (List UInt8)}(h:b0! op<t):operO op t s=ocat (some [40,32]) (ocat s (some [32,41])):=by
 unfold operO
 rw[if_pos h]
 cases s<;>simp[ocat]
theorem b05!:operO op t none=none:=by
 unfold operO
 split<;>rfl
theorem d57!(base n:Nat)(HE:j9! base n):q4! base n:=by
 intro g room ob l bad op N nm A len cap x t w hT h hG hF
 by_cases h0:op<0
 ·have hx:rawE x=none:=by
   obtain⟨op0,N0,nm0,gs⟩:=x;obtain⟨rfl,_⟩:=hG.parts_;exact k0! (by omega)
  have:=d52! op t base g room ob l bad N nm A len cap w hT h n HE x hG hF h0;rw[hx]at this ⊢;rw[b05!];exact this
 ·by_cases h18:18<=op
  ·have hx:rawE x=none:=by
    obtain⟨op0,N0,nm0,gs⟩:=x;obtain⟨rfl,_⟩:=hG.parts_;exact k0! (by omega)
   have:=d53! op t base g room ob l bad N nm A len cap w hT h n HE x hG hF h18;rw[hx]at this ⊢;rw[b05!];exact this
  ·obtain⟨m,rfl⟩:∃m:Nat,op=(m:Int):=⟨op.toNat,by omega⟩
   by_cases ht:b0! (m:Int)<t
   ·rw[d56! ht]
    exact d55! m t base g room ob l bad N nm A len cap w hT h n HE x hG hF (by omega) ht
   ·unfold operO
    rw[if_neg ht];exact d54! m t base g room ob l bad N nm A len cap w hT h n HE x hG hF (by omega) ht
theorem z5!(base:Nat):∀n,j9! base n
 |0=>b04! base 0 (λ_ h=>by omega) (λ_ h=>by omega)
 |n+1=>b04! base (n+1) (λ_ h=>Nat.succ.inj h▸z5! base n) (λ_ h=>Nat.succ.inj h▸d57! base n (z5! base n))
def d58!(base:Nat)(w:World)(g:Nat)(ob:Option Nat)(room:Nat)(l:List UInt8)(bad:Bool)(o:Option (List UInt8))(e:Ending)(w':World):Prop:=
 ∃(s:List UInt8) (bad':Bool),e=.returned (.string (str s))∧Turns w g ob w' ob∧Wr base w' g ob room l bad'∧WOut room [] bad o s bad'
theorem Wr.new(base:Nat)(W:World)(room:Nat)(bad:Bool)(hb:base<=W.heap.size)(hr:room<=1073741824):Wr base (W.alloc (.cells #[.pointer none,.N,.I (room:Int),.bool bad] 68)) W.heap.size none room [] bad:=
 ⟨hb,λ_ e=>(by cases e),Nat.zero_le _,hr,_,_,Blk.new _ _ _,.inl rfl,World.ownsRow_nil _ _ _ _,rfl⟩
theorem GC.more{base':Nat}(h:GC (λk=>k<base) w 1000000 n cs x)(hb:base<=base'):GC (λk=>k<base') w 1000000 n cs x:=
 GC.kept (Kept.refl (λ_=>False) w) (λ_ _ _ h=>h) (λ_ _ hk=>Nat.lt_of_lt_of_le hk hb) _ _ _ h
theorem GC.low{w':World}(h:GC (λk=>k<base) w 1000000 n cs x)(hb:Below base w w'):GC (λk=>k<base) w' 1000000 n cs x:=
 GC.kept (S:=λk=>¬k<base) ⟨hb.os,hb.tape,hb.output,hb.size,λk _ hn=>hb.block k (Classical.not_not.1 hn)⟩ (λ_ _ hk hn=>hn hk) (λ_ _ hk=>hk) _ _ _ h
theorem b06!(base n g room:Nat)(ob:Option Nat)(l:List UInt8)(bad:Bool)(op N:Int)(nm:ByteArray)(A:Option Addr)(len cap:Nat)(x:Gx)(w:World)(hT:Tabs base w)(h:Wr base w g ob room l bad)
 (hG:GC (λk=>k<base) w 1000000 n [.I op,.I N,.string nm,.slice A len cap] x) (hF:FitG n x):
 Calls Tryz.prog 20 #[.pointer (some ⟨g,0,none⟩),.agg #[.I op,.I N,.string nm,.slice A len cap]] w (d58! base w g ob room l bad (rawE x)):=by
 have f0:=a! w (.cells #[.I op,.I N,.string nm,.slice A len cap] 40)
 have H:=h! h
 have F0:=h! f0
 have H0:=h! (h.below f0)
 have X0:=h! (Blk.new w 40 #[.I op,.I N,.string nm,.slice A len cap])
 have TB:=h! hT
 have HG:=h! hG
 have HF:=h! hF
 have z0:Hid ((w.alloc (.cells #[.I op,.I N,.string nm,.slice A len cap] 40)).heap.size=w.heap.size+1):=by simp[Hid]
 have hr2:=h.2.2.2.1
 clear f0 hT h hG hF
 go_enter Tryz.func20,Tryz.ntmps20
 go_upto_region 1 with fail
 generalize w.alloc (.cells #[.I op,.I N,.string nm,.slice A len cap] 40)=W0 at*
 obtain⟨q2,q3,q4⟩:=H0.out.cells_
 have qq:W0.drew.cell? ⟨g,2,none⟩=some (.I (room:Int))∧W0.drew.cell? ⟨g,3,none⟩=some (.bool bad):=⟨q2,q3⟩
 have q5:∀o:Obj,(W0.drew.alloc o).cell? ⟨g,2,none⟩=some (.I (room:Int))∧(W0.drew.alloc o).cell? ⟨g,3,none⟩=some (.bool bad):=λo=>by
  obtain⟨a,b,_⟩:=((H0.out.below (Below.refl _ W0).drew).al o).cells_;exact⟨a,b⟩
 go_region_held3 (λW=>W.cell? ⟨g,2,none⟩=some (.I (room:Int))∧W.cell? ⟨g,3,none⟩=some (.bool bad))
  (first|exact qq|exact q5 _)
  (fail)
 have f1:Below W0.heap.size W0 (W0.alloc (.cells #[.pointer none,.N,.I (room:Int),.bool bad] 68)).drew:=((Below.refl _ W0).al _).drew
 have N1:=h! ((Wr.new W0.heap.size W0 room bad (Nat.le_refl _) hr2).below (Below.refl _ _).drew)
 have X1:=b! X0 f1
 have TB1:=h! (((TB.out.below F0.out (H.out.low)).below f1 (H0.out.low)).more H0.out.low)
 have F1:=h! f1
 have hz0:=z0.out
 have G1:=h! ((GC.low (GC.low HG.out (F0.out.mono H.out.low)) (f1.mono H0.out.low)).more H0.out.low)
 clear f1 q2 q3 q4 q5 qq TB HG X0
 generalize (W0.alloc (.cells #[.pointer none,.N,.I (room:Int),.bool bad] 68)).drew=W1 at*
 obtain⟨s0,s1,s2,s3⟩:=X1.out.A4
 have EX:=h! (z5! W0.heap.size n W0.heap.size room none [] bad op N nm A len cap x W1 TB1.out N1.out G1.out HF.out)
 have HZ:=h! hz0
 clear hz0 z0
 go_wp2_with fail
 refine EX.out.mono ?_
 rintro e w2⟨rfl,ob2,l2,b2,t2,r2,o2⟩
 have B2:=h! (F1.out.trans (t2.low N1.out))
 have H2:=h! (H0.out.below B2.out)
 have R2:=h! r2
 have O2:=h! o2
 clear t2 r2 o2 s0 s1 s2 s3 EX N1 X1 TB1 G1 F1
 obtain⟨-,q3,-⟩:=R2.out.cells_
 obtain⟨-,p3,p4⟩:=H2.out.cells_
 obtain⟨wb,kb⟩:=H2.out.set_bad b2
 have hgo:W0.heap.size≠g:=λe=>by have:=H0.out.lt;omega
 have hoo:∀z,ob2=some z->W0.heap.size<=z:=λz e=>(R2.out.2.1 z e).1
 have hgl:=H0.out.lt
 have R3:=h! (R2.out.kept kb hgo (λz e e'=>by have:=hoo z e;omega))
 have H3:=h! wb
 have K3:=h! kb
 have HGO:=h! hgo
 have HOO:=h! hoo
 clear wb kb hgo hoo
 go_upto_region 4 with fail
 generalize w2.setCell ⟨g,3,none⟩ (.bool b2)=W3 at*
 have ST:=h! (a99! W0.heap.size W0.heap.size room ob2 l2 b2 W3 R3.out)
 go_wp2_with fail
 refine ST.out.mono ?_
 rintro e w4⟨rfl,k4⟩
 go_wp2_with fail
 go_ret
 have hw0:=HZ.out
 refine⟨l2,b2,rfl,⟨?_,.inl rfl⟩,H3.out.kept k4 (λe=>by have:=HOO.out _ e;omega) (λz e e'=>by have:=HOO.out _ e';have:=H0.out.own_lt_ z e;omega),O2.out⟩
 refine(((Kept.of_below (S:=λz=>z=g∨ob=some z) F0.out).then_ (Kept.of_below (S:=λz=>z=g∨ob=some z) B2.out) (λ_ _ e=>e)).then_ K3.out (λ_ _ e=>.inl e)).then_ k4 (λz hz e=>?_)
 have:=HOO.out _ e
 omega
end Go.Proofs.YtdgekckedchjbaaGreatDoor
