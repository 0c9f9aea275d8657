/-
  package bound: all, expr.
-/
import Derived.Test.YtenpdmahjefoaaaBSum
import Derived.WalkMore
import Derived.Deep.DeepCutAuto
namespace Go.Proofs.Ytenpdmahjefoaaa
open Go.RowKit

/-- The counter's value. -/
def ctr (r1 r2 : Nat) : Value := .agg #[.map (some r1), .map (some r2)]
/-- What is asked of expr, at a depth. -/
def ExprOk (n : Nat) : Prop := ∀ (cs : List Value) (k r1 r2 : Nat) (w : World), EC w w.heap.size n cs k → MapIs w r1 tabE 3 →
  Calls Try.prog 22 #[ctr r1 r2, .agg cs.toArray] w fun e w' => e = .returned (.int .i64 k) ∧ Below w.heap.size w w'

set_option maxHeartbeats 2000000 in
set_option maxRecDepth 100000 in
theorem all_any (n : Nat) (HE : ExprOk n) (r1 r2 b n0 B : Nat) (A : Option Addr) (len cap : Nat) (ks : List Nat) (w : World)
    (hm : MapIs w r1 tabE 3) (hb : Blk w b 3 #[.int .i64 (capT n0 : Int)]) (hB : B ≤ b) (hr : Els w B 4 (EC w B n) A len ks) :
    Calls Try.prog 27 #[ctr r1 r2, .func (.func 28) #[] #[.pointer (some ⟨b, 0, none⟩)], .slice A len cap] w
      fun e w' => e = .returned (.tuple #[]) ∧ Blk w' b 3 #[.int .i64 (capT (n0 + ks.sum) : Int)] ∧ Kept (fun k => k = b) w w' := by
  obtain ⟨xs, hrd, hl, hk, hc⟩ := hr
  have HK := Lib.hid hk
  have HC := Lib.hid hc
  have HHE := Lib.hid HE
  have HRD := Lib.hid hrd
  clear hk hc HE hrd
  unfold ctr
  go_enter Try.func27, Try.ntmps27
  go_wp2
  go_step3
  go_wp2
  go_step3
  go_wp2
  go_loopw [10] (fun i wr => ∃ k : Nat, k ≤ len ∧ i = .int .i64 k ∧ Blk wr b 3 #[.int .i64 (capT (n0 + (ks.take k).sum) : Int)] ∧ Blk wr w.heap.size 46 #[.map (some r1), .map (some r2)] ∧ Kept (fun k => k = b) w wr) (fun i _ => len - (intOf i).toNat)
  case atStart => exact ⟨0, by omega, rfl, by simpa using hb.alloc _, Blk.new _ _ _, (Kept.refl _ w).alloc _⟩
  case round =>
    obtain ⟨k, hkl, rfl, hb1, hx, hkp⟩ := hrel
    by_cases hlt : k < len
    · have ec := HC.out k (by rw [HK.out]; exact hlt)
      have hv := EC_le ec
      generalize hkv : ks[k]'(by rw [HK.out]; exact hlt) = kv at ec hv
      have HKV := Lib.hid hkv
      clear hkv
      have hbel : Below B w wr := hkp.to_below (by have := hb.lt; omega) (fun k hk => by omega)
      obtain ⟨op, N, nm, A', len', cap', hcs⟩ := EC_form ec
      rw [hcs] at ec
      obtain ⟨bb, oo, rfl, hbb, hcells⟩ := HRD.out.chunk (by omega) hlt hcs
      have HCE := Lib.hid hcs
      clear hcs
      have q0 := (hbel.cell (p := ⟨bb, oo + k * 4, none⟩) hbb).trans (hcells 0 _ rfl)
      have q1 := (hbel.cell (p := ⟨bb, oo + k * 4 + 1, none⟩) hbb).trans (hcells 1 _ rfl)
      have q2 := (hbel.cell (p := ⟨bb, oo + k * 4 + 2, none⟩) hbb).trans (hcells 2 _ rfl)
      have q3 := (hbel.cell (p := ⟨bb, oo + k * 4 + 3, none⟩) hbb).trans (hcells 3 _ rfl)
      have x0 := hx.cell 0
      have x1 := hx.cell 1
      simp at x0 x1
      have hxl := hx.lt
      clear hcells
      go_wp2_with fail
      have hwb : w.heap.size ≤ wr.heap.size := hkp.size
      have hbl := hb.lt
      refine (HHE.out _ kv r1 r2 _ (EC.keep (hbel.alloc (by omega) _) (by simp; omega) _ _ _ ec) (((hm.kept hkp (hm.ne_blk hb)).below ((Below.refl _ _).al _)))).mono ?_
      rintro e w1 ⟨rfl, hb1w⟩
      have hb2 : Blk w1 b 3 #[.int .i64 (capT (n0 + (ks.take k).sum) : Int)] := (hb1.alloc _).below hb1w (by simp; omega)
      have hx2 : Blk w1 w.heap.size 46 #[.map (some r1), .map (some r2)] := (hx.alloc _).below hb1w (by simp; omega)
      have hkp2 : Kept (fun k => k = b) w w1 := (hkp.alloc _).below_ hb1w
      go_wp2_with fail
      refine (sum1_any _ _ b _ hb2 (capT_le _) (by omega)).mono ?_
      rintro e w2 ⟨rfl, hb3, hkp3⟩
      have HT : Hid (capT (capT (n0 + (ks.take k).sum) + kv) = capT (n0 + (ks.take (k + 1)).sum)) := by
        rw [Hid, capT_add, sum_take_succ ks k (by rw [HK.out]; exact hlt), HKV.out, Nat.add_assoc]
      have hx3 : Blk w2 w.heap.size 46 #[.map (some r1), .map (some r2)] := (hkp3.block _ hx2.lt (by omega)).trans hx2
      have hkp4 := hkp2.trans hkp3
      have HS := Lib.hid (@capT_stop ks n0 (k + 1))
      rw [← HT.out] at HS
      by_cases hbig : 65536 < capT (capT (n0 + (ks.take k).sum) + kv)
      · have HS' := Lib.hid (HS.out hbig)
        generalize capT (capT (n0 + (ks.take k).sum) + kv) = c at *
        go_wp2_with fail
        rw [Exit.noGoto_normal]
        go_end0
        exact ⟨rfl, by rw [← HS'.out]; exact hb3, hkp4⟩
      · generalize capT (capT (n0 + (ks.take k).sum) + kv) = c at *
        go_wp2_with fail
        go_roundw
        case rel => exact ⟨k + 1, by omega, by go_num, by rw [← HT.out]; exact hb3, hx3, hkp4⟩
        case measure => simp [intOf]; omega
    · have hkk : k = len := by omega
      have HS' : Hid (ks.take k = ks) := by rw [Hid, List.take_of_length_le (by rw [HK.out]; omega)]
      clear hkk
      go_wp2
      rw [Exit.noGoto_normal]
      go_end0
      exact ⟨rfl, by rw [HS'.out] at hb1; exact hb1, hkp⟩
end Go.Proofs.Ytenpdmahjefoaaa
