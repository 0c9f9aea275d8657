/-
  BoundParts: a block's steps are its halves', together: the walk.
-/
import Derived.Test.YtenpdmahjefoaaaBRow
namespace Go.Proofs.Ytenpdmahjefoaaa
open Go.RowKit

theorem info_stmt : (Try.prog.info? 28).map (fun i => (i.zero, i.size, i.bytes)) = some (some (.agg #[.int .i64 0, .string ⟨#[]⟩, .slice none 0 0, .int .i64 0, .int .i64 0, .slice none 0 0, .slice none 0 0]), 7, 112) := by kernel_rfl

theorem cut_at (len : Nat) (cut : Int) (hz : len * 112 ≤ 140737488351232) : ∃ k : Nat, wrap64 ((IntKind.u64.wrap cut).tmod ((len : Int) + 1)) = (k : Int) ∧ k ≤ len := by
  have h0 : 0 ≤ IntKind.u64.wrap cut := wrap_u64_nonneg cut
  rw [Int.tmod_eq_emod_of_nonneg h0]
  have h1 := Int.emod_nonneg (IntKind.u64.wrap cut) (show ((len : Int) + 1) ≠ 0 by omega)
  have h2 := Int.emod_lt_of_pos (IntKind.u64.wrap cut) (show 0 < ((len : Int) + 1) by omega)
  generalize IntKind.u64.wrap cut % ((len : Int) + 1) = q at *
  refine ⟨q.toNat, ?_, by omega⟩
  rw [IntWalk.wrap64_in q (by omega)]
  omega

set_option maxHeartbeats 400000 in
set_option maxRecDepth 100000 in
theorem boundParts_any (n : Nat) (A : Option Addr) (len cap : Nat) (ks : List Nat) (cut : Int) (w : World) (h : Els w w.heap.size 7 (SC w w.heap.size n) A len ks) (hc : len ≤ cap) (hm : cap ≤ maxLen) (hz : len * 112 ≤ 140737488351232) :
    Calls Try.prog 5 #[.slice A len cap, .int .i64 cut] w (Tells w true) := by
  unfold maxLen at hm
  obtain ⟨i0, hi0, hz0, hz1, hz2⟩ := info_parts info_stmt
  go_enter Try.func5, Try.ntmps5
  go_wp2_with fail
  refine (few_any n A len cap ks _ h).mono ?_
  rintro e w1 ⟨v1, rfl, b1⟩
  cases v1
  · go_wp2_with fail
    refine (known_any _).mono ?_
    rintro e w2 ⟨rfl, b2⟩
    go_wp2_with fail
    go_ret
    exact ⟨rfl, b1.then_ b2⟩
  go_wp2_with fail
  obtain ⟨k, hk, hkl⟩ := cut_at len cut hz
  rw [hk]
  clear hk
  have hk0 : (0 : Int) ≤ (k : Int) := by omega
  have hk1 : (k : Int) ≤ (len : Int) := by omega
  have hk2 : (k : Int) ≤ (cap : Int) := by omega
  have hk3 : (len : Int) ≤ (cap : Int) := by omega
  have h1 := h.keep b1 b1.size (SC.keep b1 b1.size n)
  have hU := h1.upto hkl
  have hC := h1.cut hkl hc
  by_cases hcap : cap = k
  · obtain rfl : len = k := by omega
    obtain rfl := hcap.symm
    have hN : Els w1 w1.heap.size 7 (SC w1 w1.heap.size n) A 0 [] := Els.none_ _ _ _ _ _
    go_region_held3 (fun _ => True) (trivial) (first
      | (go_at_call_of 12 (Value.slice A len len); refine (Block_any n _ _ _ _ _ (hU.keep (Below.refl _ _).drew (Nat.le_refl _) (SC.keep (Below.refl _ _).drew (Nat.le_refl _) n))).mono ?_; rintro e w2 ⟨rfl, b2⟩; have r2 := ((Below.refl w1.heap.size w1).drew).then_ b2)
      | (go_at_call_of 12 (Value.slice A 0 0); refine (Block_any n _ _ _ _ _ (hN.keep r2 r2.size (SC.keep r2 r2.size n))).mono ?_; rintro e w3 ⟨rfl, b3⟩))
    go_wp2_with fail
    have hcl1 := capT_le (ks.take len).sum
    have hcl2 := capT_le 0
    have f3 : Below w1.heap.size w1 w3 := r2.then_ b3
    obtain ⟨xsC, rC, _, lC, cC⟩ := hN
    obtain ⟨xsU, rU, _, lU, cU⟩ := hU
    have oC := SC_ones rC.1 lC cC
    have oU := SC_ones rU.1 lU cU
    have CC := Lib.hid cC
    have CU := Lib.hid cU
    have OC := Lib.hid oC
    have OU := Lib.hid oU
    have LC := Lib.hid lC
    have LU := Lib.hid lU
    have RC := Lib.hid rC
    have RU := Lib.hid rU
    clear cC cU oC oU lC lU rC rU
    go_region_held3 (fun _ => True) (trivial) (first
      | (refine step_append_any _ (by rfl) (.tmp 30) (.tmp 33) _ (by rfl) w3.heap.size 28 i0 _ 7 112 Try.underlying25 hi0 hz0 hz1 hz2 rfl (by omega) (.slice (some ⟨w3.heap.size, 0, none⟩) 0 0) 0 [] (by rfl) (own_empty (by first | exact Blk.new _ _ _ | exact (Blk.new _ _ _).drew) (Nat.le_refl _)) w1.heap.size A 0 0 xsC (by rfl) (RC.out.below (by first | exact f3.drew.alloc f3.size _ | exact (f3.alloc f3.size _).drew)) OC.out (by unfold maxLen; omega) (by omega) (by simp) ?_; intro v4 w4 own4 g4 at4; have f4 : Below w3.heap.size w3 w4 := (((Below.refl _ w3).alloc (Nat.le_refl _) _).drew).grown g4 (by simp) (by simp [Value.ownBlock]))
      | (refine step_append_any _ (by rfl) (.tmp 34) (.tmp 37) _ (by rfl) w3.heap.size 28 i0 _ 7 112 Try.underlying25 hi0 hz0 hz1 hz2 rfl (by omega) v4 _ _ (by rfl) own4 w1.heap.size A len len xsU (by rfl) (RU.out.below (f3.trans (f4.mono f3.size))) OU.out (by unfold maxLen; omega) (by omega) f4.size ?_; intro v5 w5 own5 g5 at5))
    go_wp2_with fail
    have own5' : w5.ownsRow w3.heap.size 28 7 v5 len (xsC ++ xsU) := by
      rw [show 0 + 0 + len = len from by omega] at own5
      simpa only [List.nil_append] using own5
    have f5 : Below w3.heap.size w3 w5 := f4.grown g5 f4.size (fun q hq => by
      rcases at4 with e | e <;> rw [e] at hq <;> simp [Value.ownBlock] at hq <;> omega)
    clear own5 own4 g4 g5 at4 at5 f4
    obtain ⟨A5, c5, rfl⟩ := own_slice own5'
    have f15 := f3.trans (f5.mono f3.size)
    have e5 : Els w5 w5.heap.size 7 (SC w5 w5.heap.size n) A5 len (([] : List Nat) ++ (ks.take len)) := by
      have r5 := Reads.of_own own5'
      have hmk : 0 + len = len := by omega
      rw [← hmk] at r5
      have r6 := Els.join r5 (by omega) RC.out.1 LC.out LU.out (fun i hi => SC.keep f15 f15.size n _ _ (CC.out i hi)) (fun i hi => SC.keep f15 f15.size n _ _ (CU.out i hi))
      rw [hmk] at r6
      exact r6
    have HSUM : Hid ((([] : List Nat) ++ (ks.take len)).sum = ks.sum) := by
      have hh := congrArg List.sum (List.take_append_drop len ks)
      rw [List.sum_append] at hh
      rw [Hid, List.sum_append]
      have h9 : ks.drop len = [] := List.drop_of_length_le (by have := LU.out; obtain ⟨xs, _, _, h9, _⟩ := h; omega)
      rw [h9] at hh
      simp at hh ⊢
      omega
    have HW : Hid (min (((capT (ks.take len).sum : Nat) : Int) + ((capT 0 : Nat) : Int)) 65537 = ((capT ks.sum : Nat) : Int)) := by
      have hh := congrArg List.sum (List.take_append_drop len ks)
      rw [List.sum_append] at hh
      rw [Hid]
      unfold capT
      have h9 : ks.drop len = [] := List.drop_of_length_le (by obtain ⟨xs, _, _, h9, _⟩ := h; omega)
      rw [h9] at hh
      simp only [List.sum_nil, Nat.add_zero] at hh
      omega
    rw [HW.out]
    refine (known_any _).mono ?_
    rintro e w6 ⟨rfl, b6⟩
    have f6 := b1.trans ((f15.then_ b6).mono b1.size)
    go_wp2_with fail
    refine (Block_any n A len _ ks _ (h.keep f6 f6.size (SC.keep f6 f6.size n))).mono ?_
    rintro e w7 ⟨rfl, b7⟩
    have r7 := b6.then_ b7
    go_wp2_with fail
    refine (Block_any n A5 len c5 _ _ (e5.keep r7 r7.size (SC.keep r7 r7.size n))).mono ?_
    rintro e w8 ⟨rfl, b8⟩
    rw [HSUM.out]
    go_wp2_with fail
    go_ret
    exact ⟨rfl, (f6.then_ b7).then_ b8⟩
  · rw [if_neg hcap] at hC
    have hlt : k < cap := by omega
    go_region_held3 (fun _ => True) (trivial) (first
      | (go_at_call_of 12 (Value.slice A k cap); refine (Block_any n _ _ _ _ _ (hU.keep (Below.refl _ _).drew (Nat.le_refl _) (SC.keep (Below.refl _ _).drew (Nat.le_refl _) n))).mono ?_; rintro e w2 ⟨rfl, b2⟩; have r2 := ((Below.refl w1.heap.size w1).drew).then_ b2)
      | (go_at_call 12; refine (Block_any n _ _ _ _ _ (hC.keep r2 r2.size (SC.keep r2 r2.size n))).mono ?_; rintro e w3 ⟨rfl, b3⟩))
    go_wp2_with fail
    have hcl1 := capT_le (ks.take k).sum
    have hcl2 := capT_le (ks.drop k).sum
    have f3 : Below w1.heap.size w1 w3 := r2.then_ b3
    obtain ⟨xsC, rC, _, lC, cC⟩ := hC
    obtain ⟨xsU, rU, _, lU, cU⟩ := hU
    have oC := SC_ones rC.1 lC cC
    have oU := SC_ones rU.1 lU cU
    have CC := Lib.hid cC
    have CU := Lib.hid cU
    have OC := Lib.hid oC
    have OU := Lib.hid oU
    have LC := Lib.hid lC
    have LU := Lib.hid lU
    have RC := Lib.hid rC
    have RU := Lib.hid rU
    clear cC cU oC oU lC lU rC rU
    go_region_held3 (fun _ => True) (trivial) (first
      | (refine step_append_any _ (by rfl) (.tmp 30) (.tmp 33) _ (by rfl) w3.heap.size 28 i0 _ 7 112 Try.underlying25 hi0 hz0 hz1 hz2 rfl (by omega) (.slice (some ⟨w3.heap.size, 0, none⟩) 0 0) 0 [] (by rfl) (own_empty (by first | exact Blk.new _ _ _ | exact (Blk.new _ _ _).drew) (Nat.le_refl _)) w1.heap.size (A.map (fun x => x.add (k * 7))) (len - k) (cap - k) xsC (by rfl) (RC.out.below (by first | exact f3.drew.alloc f3.size _ | exact (f3.alloc f3.size _).drew)) OC.out (by unfold maxLen; omega) (by omega) (by simp) ?_; intro v4 w4 own4 g4 at4; have f4 : Below w3.heap.size w3 w4 := (((Below.refl _ w3).alloc (Nat.le_refl _) _).drew).grown g4 (by simp) (by simp [Value.ownBlock]))
      | (refine step_append_any _ (by rfl) (.tmp 34) (.tmp 37) _ (by rfl) w3.heap.size 28 i0 _ 7 112 Try.underlying25 hi0 hz0 hz1 hz2 rfl (by omega) v4 _ _ (by rfl) own4 w1.heap.size A k cap xsU (by rfl) (RU.out.below (f3.trans (f4.mono f3.size))) OU.out (by unfold maxLen; omega) (by omega) f4.size ?_; intro v5 w5 own5 g5 at5))
    go_wp2_with fail
    have own5' : w5.ownsRow w3.heap.size 28 7 v5 len (xsC ++ xsU) := by
      rw [show 0 + (len - k) + k = len from by omega] at own5
      simpa only [List.nil_append] using own5
    have f5 : Below w3.heap.size w3 w5 := f4.grown g5 f4.size (fun q hq => by
      rcases at4 with e | e <;> rw [e] at hq <;> simp [Value.ownBlock] at hq <;> omega)
    clear own5 own4 g4 g5 at4 at5 f4
    obtain ⟨A5, c5, rfl⟩ := own_slice own5'
    have f15 := f3.trans (f5.mono f3.size)
    have e5 : Els w5 w5.heap.size 7 (SC w5 w5.heap.size n) A5 len ((ks.drop k) ++ (ks.take k)) := by
      have r5 := Reads.of_own own5'
      have hmk : (len - k) + k = len := by omega
      rw [← hmk] at r5
      have r6 := Els.join r5 (by omega) RC.out.1 LC.out LU.out (fun i hi => SC.keep f15 f15.size n _ _ (CC.out i hi)) (fun i hi => SC.keep f15 f15.size n _ _ (CU.out i hi))
      rw [hmk] at r6
      exact r6
    have HSUM : Hid (((ks.drop k) ++ (ks.take k)).sum = ks.sum) := by
      have hh := congrArg List.sum (List.take_append_drop k ks)
      rw [List.sum_append] at hh
      rw [Hid, List.sum_append]
      omega
    have HW : Hid (min (((capT (ks.take k).sum : Nat) : Int) + ((capT (ks.drop k).sum : Nat) : Int)) 65537 = ((capT ks.sum : Nat) : Int)) := by
      have hh := congrArg List.sum (List.take_append_drop k ks)
      rw [List.sum_append] at hh
      rw [Hid]
      unfold capT
      omega
    rw [HW.out]
    refine (known_any _).mono ?_
    rintro e w6 ⟨rfl, b6⟩
    have f6 := b1.trans ((f15.then_ b6).mono b1.size)
    go_wp2_with fail
    refine (Block_any n A len _ ks _ (h.keep f6 f6.size (SC.keep f6 f6.size n))).mono ?_
    rintro e w7 ⟨rfl, b7⟩
    have r7 := b6.then_ b7
    go_wp2_with fail
    refine (Block_any n A5 len c5 _ _ (e5.keep r7 r7.size (SC.keep r7 r7.size n))).mono ?_
    rintro e w8 ⟨rfl, b8⟩
    rw [HSUM.out]
    go_wp2_with fail
    go_ret
    exact ⟨rfl, (f6.then_ b7).then_ b8⟩
end Go.Proofs.Ytenpdmahjefoaaa
