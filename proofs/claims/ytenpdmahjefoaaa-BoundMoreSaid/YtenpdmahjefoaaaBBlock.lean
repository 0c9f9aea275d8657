/-
  package bound: block, of what stmt does.
-/
import Derived.Test.YtenpdmahjefoaaaBExpr2
namespace Go.Proofs.Ytenpdmahjefoaaa
open Go.RowKit

/-- What is asked of stmt and block, at a depth. -/
def StmtOk (n : Nat) : Prop := ∀ (cs : List Value) (k r1 r2 : Nat) (w : World), SC w w.heap.size n cs k → MapIs w r1 tabE 3 → MapIs w r2 tabS 10 →
  Calls Try.prog 26 #[ctr r1 r2, .agg cs.toArray] w fun e w' => e = .returned (.int .i64 k) ∧ Below w.heap.size w w'
def BlockOk (n : Nat) : Prop := ∀ (A : Option Addr) (len cap : Nat) (ks : List Nat) (r1 r2 : Nat) (w : World), Els w w.heap.size 7 (SC w w.heap.size n) A len ks → MapIs w r1 tabE 3 → MapIs w r2 tabS 10 →
  Calls Try.prog 20 #[ctr r1 r2, .slice A len cap] w fun e w' => e = .returned (.int .i64 (capT ks.sum : Nat)) ∧ Below w.heap.size w w'

set_option maxHeartbeats 2000000 in
set_option maxRecDepth 100000 in
theorem block_step (n : Nat) (HE : StmtOk n) : BlockOk n := by
  intro A len cap ks r1 r2 w hr hm hm2
  obtain ⟨xs, hrd, hl, hk, hc⟩ := hr
  have HK := Lib.hid hk
  have HC := Lib.hid hc
  have HHE := Lib.hid HE
  have HRD := Lib.hid hrd
  clear hk hc HE hrd
  unfold ctr
  go_enter Try.func20, Try.ntmps20
  go_wp2_with fail
  go_step3
  go_wp2_with fail
  refine (sum_any _ _).mono ?_
  rintro e w0 ⟨b, rfl, hb, hlb, hbel0⟩
  have hbw : Below w.heap.size w w0 := ((Below.refl _ w).al _).then_ hbel0
  have hx0 : Blk w0 w.heap.size 46 #[.map (some r1), .map (some r2)] := (Blk.new _ _ _).below hbel0 (by simp)
  simp at hlb
  have hm0 := hm.below hbw
  have hm20 := hm2.below hbw
  clear hbel0
  go_wp2_with fail
  go_step3
  go_wp2_with fail
  go_loopw [11] (fun i wr => ∃ k : Nat, k ≤ len ∧ i = .int .i64 k ∧ Blk wr b 3 #[.int .i64 (capT ((ks.take k).sum) : Int)] ∧ Blk wr w.heap.size 46 #[.map (some r1), .map (some r2)] ∧ Kept (fun k => k = b) w0 wr) (fun i _ => len - (intOf i).toNat)
  case atStart => exact ⟨0, by omega, rfl, hb, hx0, Kept.refl _ w0⟩
  case round =>
    obtain ⟨k, hkl, rfl, hb1, hx, hkp⟩ := hrel
    by_cases hlt : k < len
    · have ec := HC.out k (by rw [HK.out]; exact hlt)
      have hv := SC_le ec
      generalize hkv : ks[k]'(by rw [HK.out]; exact hlt) = kv at ec hv
      have HKV := Lib.hid hkv
      clear hkv
      have hbel : Below w.heap.size w wr := hbw.trans (hkp.to_below hbw.size (fun k hk => by omega))
      obtain ⟨kind, lo, hi, nm, A0, A1, A2, l0, l1, l2, c0, c1, c2, hcs⟩ := SC_form ec
      rw [hcs] at ec
      obtain ⟨bb, oo, rfl, hbb, hcells⟩ := HRD.out.chunk (by omega) hlt hcs
      have HCE := Lib.hid hcs
      clear hcs
      have q0 := (hbel.cell (p := ⟨bb, oo + k * 7, none⟩) hbb).trans (hcells 0 _ rfl)
      have q1 := (hbel.cell (p := ⟨bb, oo + k * 7 + 1, none⟩) hbb).trans (hcells 1 _ rfl)
      have q2 := (hbel.cell (p := ⟨bb, oo + k * 7 + 2, none⟩) hbb).trans (hcells 2 _ rfl)
      have q3 := (hbel.cell (p := ⟨bb, oo + k * 7 + 3, none⟩) hbb).trans (hcells 3 _ rfl)
      have q4 := (hbel.cell (p := ⟨bb, oo + k * 7 + 4, none⟩) hbb).trans (hcells 4 _ rfl)
      have q5 := (hbel.cell (p := ⟨bb, oo + k * 7 + 5, none⟩) hbb).trans (hcells 5 _ rfl)
      have q6 := (hbel.cell (p := ⟨bb, oo + k * 7 + 6, none⟩) hbb).trans (hcells 6 _ rfl)
      have x0 := hx.cell 0
      have x1 := hx.cell 1
      simp at x0 x1
      have hxl := hx.lt
      clear hcells
      go_wp2_with fail
      have hwb : w.heap.size ≤ wr.heap.size := hbel.size
      have hbl := hb1.lt
      refine (HHE.out _ kv r1 r2 _ (SC.keep (hbel.alloc (by omega) _) (by simp; omega) _ _ _ ec) (((hm0.kept hkp (hm0.ne_blk hb)).below ((Below.refl _ _).al _))) (((hm20.kept hkp (hm20.ne_blk hb)).below ((Below.refl _ _).al _)))).mono ?_
      rintro e w1 ⟨rfl, hb1w⟩
      have hb2 : Blk w1 b 3 #[.int .i64 (capT ((ks.take k).sum) : Int)] := (hb1.alloc _).below hb1w (by simp; omega)
      have hx2 : Blk w1 w.heap.size 46 #[.map (some r1), .map (some r2)] := (hx.alloc _).below hb1w (by simp; omega)
      have hkp2 : Kept (fun k => k = b) w0 w1 := (hkp.alloc _).below_ hb1w
      go_wp2_with fail
      refine (sum1_any _ _ b _ hb2 (capT_le _) (by omega)).mono ?_
      rintro e w2 ⟨rfl, hb3, hkp3⟩
      have HT : Hid (capT (capT ((ks.take k).sum) + kv) = capT ((ks.take (k + 1)).sum)) := by
        rw [Hid, capT_add, sum_take_succ ks k (by rw [HK.out]; exact hlt), HKV.out]
      have hx3 : Blk w2 w.heap.size 46 #[.map (some r1), .map (some r2)] := (hkp3.block _ hx2.lt (by omega)).trans hx2
      have hkp4 := hkp2.trans hkp3
      have HS := Lib.hid (@capT_stop ks 0 (k + 1))
      simp only [Nat.zero_add] at HS
      rw [← HT.out] at HS
      by_cases hbig : 65536 < capT (capT ((ks.take k).sum) + kv)
      · have HS' := Lib.hid (HS.out hbig)
        generalize hcq : capT (capT ((ks.take k).sum) + kv) = c at *
        have hc5 : c ≤ 65537 := by rw [← hcq]; exact capT_le _
        clear hcq
        go_wp2_with fail
        refine (sum1_any c 0 b _ hb3 hc5 (by omega)).mono ?_
        rintro e w3 ⟨rfl, hb4, hk4⟩
        go_wp2_with fail
        rw [Exit.noGoto_ret]
        go_ret
        have E : capT (c + 0) = capT ks.sum := by rw [Nat.add_zero, ← HS'.out, capT_small hc5]
        exact ⟨by rw [← E]; rfl, hbw.trans ((hkp4.trans hk4).to_below hbw.size (fun k hk => by omega))⟩
      · generalize capT (capT ((ks.take k).sum) + kv) = c at *
        go_wp2_with fail
        go_roundw
        case rel => exact ⟨k + 1, by omega, by go_num, by rw [← HT.out]; exact hb3, hx3, hkp4⟩
        case measure => simp [intOf]; omega
    · have hkk : k = len := by omega
      have HS' : Hid (ks.take k = ks) := by rw [Hid, List.take_of_length_le (by rw [HK.out]; omega)]
      clear hkk
      go_wp2_with fail
      refine (sum1_any _ 0 b _ hb1 (capT_le _) (by omega)).mono ?_
      rintro e w3 ⟨rfl, hb4, hk4⟩
      go_wp2_with fail
      rw [Exit.noGoto_ret]
      go_ret
      have E : capT (capT ((ks.take k).sum) + 0) = capT ks.sum := by rw [HS'.out, Nat.add_zero, capT_cap]
      exact ⟨by rw [← E]; rfl, hbw.trans ((hkp.trans hk4).to_below hbw.size (fun k hk => by omega))⟩
end Go.Proofs.Ytenpdmahjefoaaa
