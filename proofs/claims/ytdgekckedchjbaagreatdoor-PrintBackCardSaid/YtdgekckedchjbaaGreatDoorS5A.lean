
/-
 The parser's plain: where none begins, or it is too deep. (Printed by wip/tools/gens5.py.)
-/
import Derived.Test.YtdgekckedchjbaaGreatDoorM1
import Derived.Deep.RegionHeld3
import Derived.Deep.DeepCutAuto
set_option maxHeartbeats 4000000
set_option maxRecDepth 100000
namespace Go.Proofs.YtdgekckedchjbaaGreatDoor
open Go.RowKit
variable {t:Tk} {r:List Tk} {S:Nat->Prop} {w w':World} {cs:List Value}
theorem n3!(h:openT (t::r)=true):t.kind≠0:=λe=>by simp[openT,hasT,e]at h
theorem c41!(h:openT (t::r)=true)(h2:t.kind≠2)(h1:t.kind≠1):t.text=[40]∨t.text=[45]∨t.text=[110,111,116]:=by
 simp only[openT,hasT,Bool.or_eq_true,Bool.and_eq_true,decide_eq_true_eq]at h
 rcases h with ((h|h)|h)|h
 ·rcases h with h|h
  ·exact absurd h h2
  ·exact absurd h h1
 ·exact .inl h.2
 ·exact .inr (.inl h.2)
 ·exact .inr (.inr h.2)
theorem TE.kept_lt{D:Nat->Prop}{e:Ex}(h:TE D w e cs)(hk:Kept S w w')(hs:∀k,k<w.heap.size->D k->¬S k):TE D w' e cs:=
 (TE.kept (D:=λk=>D k∧k<w.heap.size) hk (λk hd=>hs k hd.2 hd.1) e cs (h.mono (λ_ hk hd=>⟨hd,hk⟩))).mono (λ_ _ hd=>hd.1)
theorem ExAt.kept_lt{base g c:Nat}{A:Option Addr}{m:Nat->Nat}{ts:List Tk}{dp:Int}{p:PR}(h:ExAt base g c A m ts dp cs w p)(hk:Kept S w w')(hg:¬S g)(hs:∀k,k<w.heap.size->base<=k->¬S k):ExAt base g c A m ts dp cs w' p:=by
 obtain⟨i,er,hi,hb,hp⟩:=h
 refine⟨i,er,hi,hb.kept hk hg,?_⟩
 cases p with
 |ok x r=>exact⟨hp.1,hp.2.1,hp.2.2.kept_lt hk hs⟩
 |bad r e=>exact hp
theorem c42!(g c:Nat)(A:Option Addr)(m:Nat->Nat)(ts:List Tk)(dp:Int)(d:Nat)(deep:Int)(i:Nat)(w:World)(hd:deep+(d:Int)=16)(h0:0<=deep)(h:Par w g A c m ts i dp 0)(t:Tk)(ht:ts[i]?=some t)(hb:openB t 0=false):Calls Tryz.prog 112 #[.pointer (some ⟨g,0,none⟩),.I deep] w (ExTo w g c A m ts dp (a0! d (ts.drop i))):=by
 have hdh:=And.intro hd h0
 clear hdh
 obtain⟨W0,eW,f0,x0,-⟩:=n! w 40 #[.I 0,.I 0,.E,.N]
 have H0:=h.below f0
 have OP:=h! (j6! g c A m ts i dp 0 _ H0 t ht)
 have WR:=h! (λw' (h':Par w' g A c m ts i dp 0)=>f9! g c A m ts i dp 0 w' h' t ht)
 have hgl:=h.blk.lt
 have HT:=h! (a1! ht)
 obtain⟨p,hp⟩:∃p,a0! d (ts.drop i)=p:=⟨_,rfl⟩
 rw[hp]
 rw[HT.out]at hp
 have HP:=h! hp
 have HB:Hid (openB t 0=openT (t::ts.drop (i+1))):=j5!
 rw[hb]at OP HB
 have hi:=h.at_
 have lim:=h.st.lim
 have HH:=h! h
 have HH0:=h! H0
 have F0:=h! f0
 have X0:=h! x0
 have HTT:=h! ht
 have z0:=f0.size
 clear h H0 f0 x0 hp hb ht
 go_enter Tryz.func112,Tryz.ntmps112
 go_wp2_with fail
 rw[eW.out]
 clear eW
 refine OP.out.mono ?_
 rintro e w1⟨rfl,q,rfl⟩
 clear OP
 have HR:Hid (p=.bad (t::ts.drop (i+1)) (d7! (t::ts.drop (i+1)))):=HP.out.symm.trans (c39! HB.out.symm)
 go_wp2_with fail
 refine(WR.out _ (HH0.out.drewN q)).mono ?_
 rintro e w2⟨rfl,p2,k2⟩
 have x2:=(X0.out.drewN q).kept k2 (by omega)
 have P2:=h! p2
 have K2:=h! k2
 have s0:=x2.c0
 have t0:=x2.frozen 0
 have s1:=x2.c1
 have t1:=x2.frozen 1
 have s2:=x2.c2
 have t2:=x2.frozen 2
 have s3:=x2.c3
 have t3:=x2.frozen 3
 clear p2 k2 WR HH0
 go_wp2_with fail
 clear s0 s1 s2 s3
 obtain⟨W9,e9,X9,K9⟩:=(x2).e4 (.I 0) (.I 0) (.E) (.N)
 rw[e9]
 clear e9
 obtain⟨s0,s1,s2,s3⟩:=X9.A4
 have KK:Kept (λz=>z=g) w W9:=(((Kept.of_below (S:=λz=>z=g) F0.out).then_ ((Kept.refl (λz=>z=g) W0).drewN q) (λ_ _ e=>e)).then_ K2.out (λ_ _ e=>e)).then_ K9 (λz hz e=>by omega)
 refine bodyPost_ret (v:=.agg #[.I 0,.I 0,.E,.N]) (by simp[results,Tryz.results112,go_sem,s0,s1,s2,s3]) rfl ⟨_,_,_,_,_,_,rfl,KK,?_⟩
 rw[HR.out]
 exact⟨i,d7! (t::ts.drop (i+1)),hi,P2.out.blk.kept K9 (by omega),HT.out.symm,rfl,u2! _⟩
theorem c43!(g c:Nat)(A:Option Addr)(m:Nat->Nat)(ts:List Tk)(dp:Int)(deep:Int)(i:Nat)(w:World)(hd:deep+((0:Nat):Int)=16)(h0:0<=deep)(h:Par w g A c m ts i dp 0)(t:Tk)(ht:ts[i]?=some t)(hb:openB t 0=true):Calls Tryz.prog 112 #[.pointer (some ⟨g,0,none⟩),.I deep] w (ExTo w g c A m ts dp (a0! 0 (ts.drop i))):=by
 have hdh:=And.intro hd h0
 clear hdh
 obtain⟨W0,eW,f0,x0,-⟩:=n! w 40 #[.I 0,.I 0,.E,.N]
 have H0:=h.below f0
 have OP:=h! (j6! g c A m ts i dp 0 _ H0 t ht)
 have WR:=h! (λw' (h':Par w' g A c m ts i dp 0)=>f9! g c A m ts i dp 0 w' h' t ht)
 have hgl:=h.blk.lt
 have HT:=h! (a1! ht)
 obtain⟨p,hp⟩:∃p,a0! 0 (ts.drop i)=p:=⟨_,rfl⟩
 rw[hp]
 rw[HT.out]at hp
 have HP:=h! hp
 have HB:Hid (openB t 0=openT (t::ts.drop (i+1))):=j5!
 rw[hb]at OP HB
 have hi:=h.at_
 have lim:=h.st.lim
 have HH:=h! h
 have HH0:=h! H0
 have F0:=h! f0
 have X0:=h! x0
 have HTT:=h! ht
 have z0:=f0.size
 clear h H0 f0 x0 hp hb ht
 go_enter Tryz.func112,Tryz.ntmps112
 go_wp2_with fail
 rw[eW.out]
 clear eW
 refine OP.out.mono ?_
 rintro e w1⟨rfl,q,rfl⟩
 clear OP
 have HR:Hid (p=.bad (t::ts.drop (i+1)) 25):=HP.out.symm.trans (y2! HB.out.symm)
 have hdd:(16:Int)<=deep:=by omega
 have B:=(HH0.out.drewN q).blk
 have c8:(W0.drewN q).frozen? ⟨g,8,none⟩=false:=B.frozen 8
 have c9:(W0.drewN q).cell? ⟨g,8,none⟩=some (.I 0):=B.cell 8
 go_upto_region 6 with fail
 have K1:=((Kept.refl (λz=>z=g) W0).drewN q).setCell (p:=⟨g,8,none⟩) (λ_=>rfl) (.I 25)
 have B1:Blk ((W0.drewN q).setCell ⟨g,8,none⟩ (.I 25)) g 119 (a2! A ts.length c m i dp 25):=B.set_ 8 _
 generalize (W0.drewN q).setCell ⟨g,8,none⟩ (.I 25)=w2 at*
 have x2:=X0.out.kept K1 (by omega)
 clear c8 c9
 have s0:=x2.c0
 have t0:=x2.frozen 0
 have s1:=x2.c1
 have t1:=x2.frozen 1
 have s2:=x2.c2
 have t2:=x2.frozen 2
 have s3:=x2.c3
 have t3:=x2.frozen 3
 clear WR HH0
 go_wp2_with fail
 clear s0 s1 s2 s3
 obtain⟨W9,e9,X9,K9⟩:=(x2).e4 (.I 0) (.I 0) (.E) (.N)
 rw[e9]
 clear e9
 obtain⟨s0,s1,s2,s3⟩:=X9.A4
 have KK:Kept (λz=>z=g) w W9:=((Kept.of_below (S:=λz=>z=g) F0.out).then_ K1 (λ_ _ e=>e)).then_ K9 (λz hz e=>by omega)
 refine bodyPost_ret (v:=.agg #[.I 0,.I 0,.E,.N]) (by simp[results,Tryz.results112,go_sem,s0,s1,s2,s3]) rfl ⟨_,_,_,_,_,_,rfl,KK,?_⟩
 rw[HR.out]
 exact⟨i,25,hi,B1.kept K9 (by omega),HT.out.symm,rfl,by decide⟩
end Go.Proofs.YtdgekckedchjbaaGreatDoor
