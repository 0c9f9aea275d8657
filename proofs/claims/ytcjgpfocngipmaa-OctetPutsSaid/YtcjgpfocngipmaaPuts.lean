/-
  OctetPuts: the walk.
-/
import Derived.Test.YtcjgpfocngipmaaKnown
import Derived.Deep.RegionWith
import Derived.Deep.DeepCutAuto
import Derived.WalkSpells
namespace Go.Proofs.Ytcjgpfocngipmaa
open Go.RowKit

set_option maxHeartbeats 2000000 in
set_option maxRecDepth 100000 in
theorem octetPuts_any (A0 A3 : Option Addr) (m0 c0 m3 c3 n : Nat) (k : Int) (l0 l3 : List UInt8) (w : World)
    (hc0 : m0 ≤ c0) (r0 : RB w A0 m0 l0) (hn : U64 n) (h1 : -9223372036854775808 ≤ k) (h2 : k ≤ 9223372036854775807) (hc3 : m3 ≤ c3) (r3 : RB w A3 m3 l3) :
    Calls Try.prog 4 #[.slice A0 m0 c0, .int .u64 n, .int .i64 k, .slice A3 m3 c3] w (Tells w true) := by
  go_enter Try.func4, Try.ntmps4
  go_upto_region 1 with fail
  go_cut [0, 3] (fun s0 s3 wx => ∃ p0 p3 q : Nat, p0 ≤ m0 ∧ p0 ≤ 200 ∧ s0 = .slice A0 p0 c0 ∧ p3 ≤ m3 ∧ p3 ≤ 200 ∧ s3 = .slice A3 p3 c3 ∧ wx = w.drewN q)
  case first =>
    go_quiet (fail)
    go_wp2_with fail
    all_goals
      go_meet
      first
        | exact ⟨200, 200, _, by omega, by omega, rfl, by omega, by omega, rfl, rfl⟩
        | exact ⟨200, m3, _, by omega, by omega, rfl, by omega, by omega, rfl, rfl⟩
        | exact ⟨m0, 200, _, by omega, by omega, rfl, by omega, by omega, rfl, rfl⟩
        | exact ⟨m0, m3, _, by omega, by omega, rfl, by omega, by omega, rfl, rfl⟩
  case rest =>
    obtain ⟨p0, p3, q, hp0, hq0, rfl, hp3, hq3, rfl, rfl⟩ := hcut
    have r0' := (r0.upto hp0).drewN q
    have r3' := (r3.upto hp3).drewN q
    have hbw : Below w.heap.size w (w.drewN q) := below_drewN (Below.refl _ _) q
    generalize w.drewN q = w0 at r0' r3' hbw ⊢
    generalize l0.take p0 = b at r0'
    generalize l3.take p3 = x at r3'
    clear r0 r3 hc0 hc3
    go_upto_region 3 with (at_builtin; refine wpList_app8 _ rfl _ _ rfl w0.heap.size _ [] rfl (OB.made _ _ (Nat.le_refl _)) A0 p0 c0 b rfl (r0'.alloc _) (by simp; omega) (by simp) ?_; intro v9 w1 ho1 hb1)
    have hb01 := hbw.then_ (((Below.refl _ w0).al _).trans hb1)
    have r0 := r0'.below (((Below.refl _ w0).al _).trans hb1)
    have r3 := r3'.below (((Below.refl _ w0).al _).trans hb1)
    obtain ⟨A9, m9, c9, rfl, -, -, r9⟩ := ho1.got
    have r9 : RB w1 A9 m9 b := r9
    clear r0' r3' hbw ho1 hb1
    have r0d : RB w1.drew A0 p0 b := r0
    have r3d : RB w1.drew A3 p3 x := r3
    have r9d : RB w1.drew A9 m9 b := r9
    have hb0 : Below w.heap.size w w1.drew := below_drewN hb01 1
    clear r0 r3 r9 hb01
    have hcv : ∀ W, RB W A3 p3 x → (convert 23 9 (.slice A3 p3 c3)).run Try.prog W = .ok (.string ⟨x.toArray⟩) W := fun W h => run_text c3 h
    have hxs : (ByteArray.mk x.toArray).size ≤ 200 := by have := r3d.len; show x.toArray.size ≤ 200; simp; omega
    go_cut [10, 11, 12, 13] (fun s10 s11 s12 s13 wx => ∃ Aa ma ca Ab mb cb Ac mc cc Ad md cd, s10 = .slice Aa ma ca ∧ s11 = .slice Ab mb cb ∧ s12 = .slice Ac mc cc ∧ s13 = .slice Ad md cd ∧
      RB wx Aa ma (b ++ num n) ∧ RB wx Ab mb (b ++ num (fold k)) ∧ RB wx Ac mc (b ++ num x.length ++ x) ∧ RB wx Ad md (b ++ num x.length ++ x) ∧ RB wx A0 p0 b ∧ RB wx A3 p3 x ∧ RB wx A9 m9 b ∧ Below w.heap.size w wx)
    case first =>
      go_region_with (first
        | (go_at_call 12; refine (putNum_any A0 p0 c0 n b _ r0d hn (by omega)).mono ?_; rintro e wa ⟨va, rfl, hoa, hba⟩; obtain ⟨Aa, ma, ca, rfl, -, -, ra⟩ := hoa.got; have r0a := r0d.below hba; have r3a := r3d.below hba)
        | (go_at_call 14; refine (putInt_any A0 p0 c0 k b _ r0a h1 h2 (by omega)).mono ?_; rintro e wb ⟨vb, rfl, hob, hbb⟩; obtain ⟨Ab, mb, cb, rfl, -, -, rb⟩ := hob.got; have r0b := r0a.below hbb; have r3b := r3a.below hbb)
        | (go_at_call 15; refine (putBytes_any A0 A3 p0 c0 p3 c3 b x _ r0b r3b (by omega)).mono ?_; rintro e wc' ⟨vc, rfl, hoc, hbc⟩; obtain ⟨Ac, mc, cc, rfl, -, -, rc⟩ := hoc.got; have r0c := r0b.below hbc; have r3c := r3b.below hbc)
        | (go_at_call 16; refine (putText_any A0 p0 c0 _ b _ r0c (by omega)).mono ?_; rintro e wd ⟨vd, rfl, hod, hbd⟩; obtain ⟨Ad, md, cd, rfl, -, -, rd⟩ := hod.got))
      all_goals
        go_wp2_with fail
        go_meet
        exact ⟨Aa, ma, ca, Ab, mb, cb, Ac, mc, cc, Ad, md, cd, rfl, rfl, rfl, rfl, ((ra.below hbb).below hbc).below hbd, (rb.below hbc).below hbd, rc.below hbd, rd, r0c.below hbd, r3c.below hbd, (((r9d.below hba).below hbb).below hbc).below hbd, (((hb0.then_ hba).then_ hbb).then_ hbc).then_ hbd⟩
    case rest =>
      obtain ⟨Aa, ma, ca, Ab, mb, cb, Ac, mc, cc, Ad, md, cd, rfl, rfl, rfl, rfl, ra, rb, rc, rd, r0, r3, r9, hb⟩ := hcut
      clear hcv hxs r0d r3d r9d hb0
      have hla := Lib.hid ra.len
      have hlb := Lib.hid rb.len
      have hlc := Lib.hid rc.len
      have hld := Lib.hid rd.len
      have hl9 := Lib.hid r9.len
      have hl0 := Lib.hid r0.len
      have hl3 := Lib.hid r3.len
      have hn1 := num_le10 hn
      have HF : U64 (fold k) := fold_lt h1 h2
      have hn2 := num_le10 HF
      have hn3 : (num x.length).length ≤ 10 := num_le10 (by have := hl3.out; omega)
      have g9 : m9 ≤ 200 := by have := hl9.out; have := hl0.out; omega
      have ga : ma ≤ 1000 := by have := hla.out; have := hl0.out; simp only [List.length_append] at *; omega
      have gb : mb ≤ 1000 := by have := hlb.out; have := hl0.out; simp only [List.length_append] at *; omega
      have gc : mc ≤ 1000 := by have := hlc.out; have := hl0.out; have := hl3.out; simp only [List.length_append] at *; omega
      have gd : md ≤ 1000 := by have := hld.out; have := hl0.out; have := hl3.out; simp only [List.length_append] at *; omega
      go_wp2_with fail
      refine (known_any _).mono ?_
      rintro e w2 ⟨rfl, f2⟩
      go_wp2_with fail
      refine (same_true _ _ _ _ _ _ b b _ (r0.below f2) (r9.below f2) (by omega) rfl).mono ?_
      rintro e w3 ⟨rfl, hb3⟩
      have f3 := f2.then_ hb3
      clear f2 hb3
      have sa := f3.size
      go_wp2_with (at_builtin; refine wpList_app8 _ rfl (.tmp 48) (.tmp 49) rfl w3.heap.size _ [] rfl (OB.made _ _ (Nat.le_refl _)) _ _ _ b rfl ((r9.below f3).alloc _) (by simp; omega) (by simp) ?_; intro va1 wa1 hoa1 hba1)
      have qa1 := ((Below.refl _ w3).al _).trans hba1
      have fa1 := f3.then_ qa1
      refine (refNum_any n _ hn).mono ?_
      rintro e wa2 ⟨va2, rfl, hoa2, hba2⟩
      have qa2 := qa1.then_ hba2
      have fa2 := fa1.then_ hba2
      obtain ⟨Aa2, ma2, ca2, rfl, -, -, ra2⟩ := hoa2.got
      have ga2 : ma2 ≤ 300 := by have := ra2.len; have := hl3.out; simp only [List.length_append] at *; omega
      go_wp2_with (at_builtin; refine wpList_app8 _ rfl (.tmp 50) (.tmp 52) rfl w3.heap.size _ b rfl (hoa1.below hba2 (Nat.le_refl _)) _ _ _ (num n) rfl ra2 (by have := hl9.out; omega) qa2.size ?_; intro va3 wa3 hoa3 hba3)
      have fa3 := fa2.trans (hba3.mono sa)
      obtain ⟨Aa3, ma3, ca3, rfl, -, -, ra3⟩ := hoa3.got
      refine (same_true _ _ _ _ _ _ (b ++ num n) (b ++ num n) _ (ra.below fa3) ra3 (by omega) rfl).mono ?_
      rintro e wb0 ⟨rfl, hba4⟩
      have fb0 := fa3.then_ hba4
      clear sa fa1 fa2 fa3 hba1 hba2 hba3 hba4 qa1 qa2 hoa1 hoa2 hoa3 ra2 ra3 f3
      have sb := fb0.size
      go_wp2_with (at_builtin; refine wpList_app8 _ rfl (.tmp 58) (.tmp 59) rfl wb0.heap.size _ [] rfl (OB.made _ _ (Nat.le_refl _)) _ _ _ b rfl ((r9.below fb0).alloc _) (by simp; omega) (by simp) ?_; intro vb1 wb1 hob1 hbb1)
      have qb1 := ((Below.refl _ wb0).al _).trans hbb1
      have fb1 := fb0.then_ qb1
      refine (refFold_any k _ h1 h2).mono ?_
      rintro e wbx ⟨rfl, rfl⟩
      go_wp2_with fail
      refine (refNum_any (fold k) _ HF).mono ?_
      rintro e wb2 ⟨vb2, rfl, hob2, hbb2⟩
      have qb2 := qb1.then_ hbb2
      have fb2 := fb1.then_ hbb2
      obtain ⟨Ab2, mb2, cb2, rfl, -, -, rb2⟩ := hob2.got
      have gb2 : mb2 ≤ 300 := by have := rb2.len; have := hl3.out; simp only [List.length_append] at *; omega
      go_wp2_with (at_builtin; refine wpList_app8 _ rfl (.tmp 60) (.tmp 63) rfl wb0.heap.size _ b rfl (hob1.below hbb2 (Nat.le_refl _)) _ _ _ (num (fold k)) rfl rb2 (by have := hl9.out; omega) qb2.size ?_; intro vb3 wb3 hob3 hbb3)
      have fb3 := fb2.trans (hbb3.mono sb)
      obtain ⟨Ab3, mb3, cb3, rfl, -, -, rb3⟩ := hob3.got
      refine (same_true _ _ _ _ _ _ (b ++ num (fold k)) (b ++ num (fold k)) _ (rb.below fb3) rb3 (by omega) rfl).mono ?_
      rintro e wc0 ⟨rfl, hbb4⟩
      have fc0 := fb3.then_ hbb4
      clear sb fb1 fb2 fb3 hbb1 hbb2 hbb3 hbb4 qb1 qb2 hob1 hob2 hob3 rb2 rb3 fb0
      have sc := fc0.size
      go_wp2_with (at_builtin; refine wpList_app8 _ rfl (.tmp 69) (.tmp 70) rfl wc0.heap.size _ [] rfl (OB.made _ _ (Nat.le_refl _)) _ _ _ b rfl ((r9.below fc0).alloc _) (by simp; omega) (by simp) ?_; intro vc1 wc1 hoc1 hbc1)
      have qc1 := ((Below.refl _ wc0).al _).trans hbc1
      have fc1 := fc0.then_ qc1
      refine (refBytes_any _ _ _ x _ (r3.below fc1) (by omega)).mono ?_
      rintro e wc2 ⟨vc2, rfl, hoc2, hbc2⟩
      have qc2 := qc1.then_ hbc2
      have fc2 := fc1.then_ hbc2
      obtain ⟨Ac2, mc2, cc2, rfl, -, -, rc2⟩ := hoc2.got
      have gc2 : mc2 ≤ 300 := by have := rc2.len; have := hl3.out; simp only [List.length_append] at *; omega
      go_wp2_with (at_builtin; refine wpList_app8 _ rfl (.tmp 71) (.tmp 73) rfl wc0.heap.size _ b rfl (hoc1.below hbc2 (Nat.le_refl _)) _ _ _ (num x.length ++ x) rfl rc2 (by have := hl9.out; omega) qc2.size ?_; intro vc3 wc3 hoc3 hbc3)
      have fc3 := fc2.trans (hbc3.mono sc)
      obtain ⟨Ac3, mc3, cc3, rfl, -, -, rc3⟩ := hoc3.got
      refine (same_true _ _ _ _ _ _ (b ++ num x.length ++ x) (b ++ (num x.length ++ x)) _ (rc.below fc3) rc3 (by omega) (List.append_assoc _ _ _)).mono ?_
      rintro e wd0 ⟨rfl, hbc4⟩
      have fd0 := fc3.then_ hbc4
      clear sc fc1 fc2 fc3 hbc1 hbc2 hbc3 hbc4 qc1 qc2 hoc1 hoc2 hoc3 rc2 rc3 fc0
      go_wp2_with fail
      refine (same_true _ _ _ _ _ _ (b ++ num x.length ++ x) (b ++ num x.length ++ x) _ (rd.below fd0) (rc.below fd0) (by omega) rfl).mono ?_
      rintro e w9 ⟨rfl, hb9⟩
      go_wp2_with fail
      go_ret
      exact ⟨rfl, hb.then_ (fd0.then_ hb9)⟩
end Go.Proofs.Ytcjgpfocngipmaa
