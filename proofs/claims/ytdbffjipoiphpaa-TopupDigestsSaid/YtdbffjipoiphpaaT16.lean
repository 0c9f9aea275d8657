/-
  The chapter's example.
-/
import Derived.Test.YtdbffjipoiphpaaT15
namespace Go.Proofs.Ytdbffjipoiphpaa
open Go.RowKit

def kb0 : Bk := ⟨[5, 5], -1, none⟩
def kb1 : Bk := askB kb0 [0, 0, 0, 0, 0, 0, 0, 0] 1 [3, 2] 9
def kb2 : Bk := putB kb1 0
theorem kE1 : askE kb0 7 1 [3, 2] 9 = 0 := by decide
theorem kE2 : putE kb1 8 0 3 = 0 := by decide
theorem kE3 : putE kb2 9 1 2 = 0 := by decide
theorem kE4 : backE kb2 10 0 = 0 := by decide
theorem kP2 : kb2.stakes.sum = 10 := by decide
theorem kH2 : heldB kb2 = 13 := by decide
theorem kG2 : gives (kb2.wt.getD noW) (0 : Int).toNat = 3 := by decide
theorem kS3 : (putB kb2 1).stakes = [8, 7] := by decide
theorem kH4 : heldB (backB kb2 0) = 10 := by decide
theorem kNew : newOk [5, 5] := by
  refine ⟨by decide, by decide, fun x hx => ?_, by decide⟩
  simp at hx
  subst hx
  decide

set_option maxHeartbeats 2000000 in
set_option maxRecDepth 100000 in
theorem known_any (w : World) : Calls Try.prog 10 #[] w (Tells w true) := by
  go_enter Try.func10, Try.ntmps10
  go_wp2_with fail
  have fa : Below w.heap.size w (w.alloc (.cells #[.int .i64 5, .int .i64 5] 3)) := (Below.refl _ w).al _
  refine (new_yes _ _ _ [5, 5] _ (ri_blk (xs := [5, 5]) (Blk.new w 3 #[.int .i64 5, .int .i64 5])) kNew).mono ?_
  rintro e w1 ⟨S, g, gs, cs, rfl, B1, hS, b1⟩
  have f1 := fa.then_ b1
  have hS1 : ∀ k, S k → w.heap.size ≤ k := fun k hk => by have := hS k hk; simp at this; omega
  clear hS b1 fa
  have HS1 := Lib.hid hS1
  clear hS1
  go_wp2_with fail
  have fb : Below w1.heap.size w1 (w1.alloc (.cells #[.int .i64 3, .int .i64 2] 3)) := (Below.refl _ w1).al _
  refine (ask_yes S g gs cs none kb0 7 0 0 0 0 0 0 0 0 1 9 _ _ _ [3, 2] _ (B1.below fb) (ri_blk (xs := [3, 2]) (Blk.new w1 3 #[.int .i64 3, .int .i64 2])) (by simp) kE1).mono ?_
  rintro e w2 ⟨rfl, S2, wp2, B2, k2, hS2⟩
  have HS2 : Hid (∀ k, S2 k → w.heap.size ≤ k) := fun k hk => by
    rcases hS2 k hk with h | h
    · exact HS1.out k h
    · have := f1.size; simp at h; omega
  have f2 : Below w.heap.size w w2 := f1.trans ((fb.then_ (Below.refl _ _)).mono f1.size |>.trans (k2.to_below (by have := f1.size; simp; omega) (fun k hk h => by have := HS1.out k h; omega)))
  clear hS2 k2 fb B1 f1 HS1
  go_wp2_with fail
  refine (put_yes S2 g gs cs wp2 kb1 8 0 3 _ B2 kE2).mono ?_
  rintro e w3 ⟨rfl, wp3, B3, k3⟩
  have f3 : Below w.heap.size w w3 := f2.trans (k3.to_below f2.size (fun k hk h => by have := HS2.out k h; omega))
  clear f2 k3 B2
  have B3' : BAt w3 S2 g gs cs wp3 kb2 := B3
  clear B3
  go_wp2_with fail
  refine (bclone_any S2 g gs cs wp3 kb2 _ B3').mono ?_
  rintro e w4 ⟨T, c, gt, ct, tp, rfl, C4, hT, b4⟩
  have B4 := B3'.below b4
  have f4 := f3.then_ b4
  have HT : Hid (∀ k, T k → w3.heap.size ≤ k) := hT
  clear hT b4 f3
  go_wp2_with fail
  refine (pot_any S2 g gs cs wp3 kb2 _ B4).mono ?_
  rintro e w5 ⟨rfl, rfl⟩
  rw [kP2]
  go_wp2_with fail
  refine (held_any S2 g gs cs wp3 kb2 _ B4).mono ?_
  rintro e w5 ⟨rfl, b5⟩
  rw [kH2]
  have B5 := B4.below b5
  have C5 := C4.below b5
  have f5 := f4.then_ b5
  clear B4 C4 f4 b5
  go_wp2_with fail
  refine (put_yes S2 g gs cs wp3 kb2 9 1 2 _ B5 kE3).mono ?_
  rintro e w6 ⟨rfl, wp6, B6, k6⟩
  have f6 : Below w.heap.size w w6 := f5.trans (k6.to_below f5.size (fun k hk h => by have := HS2.out k h; omega))
  have C6 := C5.kept k6 (fun k hk h => by have h1 := HT.out k hk; have h2 := B3'.lt k h; omega)
  clear C5 B5 k6 f5
  go_wp2_with fail
  refine (back_yes T c gt ct tp kb2 10 0 _ C6 kE4).mono ?_
  rintro e w7 ⟨rfl, tp7, C7, k7⟩
  rw [kG2]
  have B7 := B6.kept k7 (fun k hk h => by have h1 := HT.out k h; have h2 := B3'.lt k hk; omega)
  have z3 : w.heap.size ≤ w3.heap.size := by have := HS2.out g B3'.inG; have h2 := B3'.lt g B3'.inG; omega
  have f7 : Below w.heap.size w w7 := f6.trans (k7.to_below f6.size (fun k hk h => by have := HT.out k h; omega))
  clear C6 B6 k7 f6
  go_wp2_with fail
  refine (stakes_any S2 g gs cs wp6 _ _ B7).mono ?_
  rintro e w8 ⟨gl, cl, rfl, hgl, il, b8⟩
  have kS : (putB kb2 (1 : Int).toNat).stakes = [8, 7] := kS3
  rw [kS] at il ⊢
  have q0 : w8.cell? ⟨gl, 0, none⟩ = some (.int .i64 8) := il.cell (i := 0) (by simp)
  have q1 : w8.cell? ⟨gl, 1, none⟩ = some (.int .i64 7) := il.cell (i := 1) (by simp)
  have C8 := C7.below b8
  have f8 := f7.then_ b8
  clear C7 B7 b8 f7 il
  go_wp2_with fail
  refine (held_any T c gt ct tp7 _ _ C8).mono ?_
  rintro e w9 ⟨rfl, b9⟩
  have kH : heldB (backB kb2 (0 : Int).toNat) = 10 := kH4
  rw [kH]
  go_wp2_with fail
  go_ret
  exact ⟨rfl, f8.then_ b9⟩
end Go.Proofs.Ytdbffjipoiphpaa
