/-
  The example of chapter 1, as the laws of layer 1 ask it.
-/
import Derived.Test.YtcjgpfocngipmaaRef
namespace Go.Proofs.Ytcjgpfocngipmaa
open Go.RowKit

theorem RB.lit (w : World) (l : List UInt8) (cs : Array Value) (h : cs.toList = B8 l) (t : TypeId) (n : Nat) (hn : n = l.length) : RB (w.alloc (.cells cs t)) (some ⟨w.heap.size, 0, none⟩) n l := by
  subst hn
  refine ⟨by rw [B8_length]; simp, fun _ => ⟨_, rfl, by simp, fun j u hu => ?_⟩⟩
  rw [Addr.add_lit, Nat.zero_add]
  have : (w.alloc (.cells cs t)).cell? ⟨w.heap.size, j, none⟩ = cs[j]? := cell_of_row _ _ _ cs t (0, 0) (heap_alloc_new w _)
  rw [this, ← hu, ← h]
  simp

theorem B8_172_2 : (#[Value.int .u8 172, .int .u8 2] : Array Value).toList = B8 [172, 2] := rfl
theorem B8_7 : (#[Value.int .u8 7] : Array Value).toList = B8 [7] := rfl
theorem B8_7_5 : (#[Value.int .u8 7, .int .u8 5] : Array Value).toList = B8 [7, 5] := rfl
theorem B8_2_97_98 : (#[Value.int .u8 2, .int .u8 97, .int .u8 98] : Array Value).toList = B8 [2, 97, 98] := rfl

set_option maxHeartbeats 1000000 in
set_option maxRecDepth 100000 in
theorem known_any (w : World) : Calls Try.prog 13 #[] w (Tells w true) := by
  go_enter Try.func13, Try.ntmps13
  go_wp2_with fail
  refine (putNum_any none 0 0 300 [] w RB.none_ (by unfold U64; omega) (by omega)).mono ?_
  rintro e w1 ⟨v1, rfl, ho1, hb1⟩
  obtain ⟨A1, c1, rfl, -, -, r1⟩ := ho1.form
  go_wp2_with fail
  refine (same_true A1 _ _ _ _ _ _ [172, 2] _ (r1.alloc _) (RB.lit w1 [172, 2] _ B8_172_2 _ _ rfl) (by decide) (by decide)).mono ?_
  rintro e w2 ⟨rfl, hb2⟩
  have hb3 := (hb1.al _).then_ hb2
  clear r1 ho1 hb1 hb2
  go_wp2_with fail
  refine (putInt_any _ 1 1 (-3) [7] _ (RB.lit w2 [7] _ B8_7 _ _ rfl) (by omega) (by omega) (by omega)).mono ?_
  rintro e w4 ⟨v4, rfl, ho4, hb4⟩
  obtain ⟨A4, c4, rfl, -, -, r4⟩ := ho4.form
  go_wp2_with fail
  refine (same_true A4 _ _ _ _ _ _ [7, 5] _ (r4.alloc _) (RB.lit w4 [7, 5] _ B8_7_5 _ _ rfl) (by decide) (by decide)).mono ?_
  rintro e w5 ⟨rfl, hb5⟩
  have hb6 := (((hb3.al _).then_ hb4).al _).then_ hb5
  clear r4 ho4 hb4 hb5 hb3
  go_wp2_with fail
  refine (putText_any none 0 0 _ [] w5 RB.none_ (by decide)).mono ?_
  rintro e w7 ⟨v7, rfl, ho7, hb7⟩
  obtain ⟨A7, c7, rfl, -, -, r7⟩ := ho7.form
  go_wp2_with fail
  refine (same_true A7 _ _ _ _ _ _ [2, 97, 98] _ (r7.alloc _) (RB.lit w7 [2, 97, 98] _ B8_2_97_98 _ _ rfl) (by decide) (by decide)).mono ?_
  rintro e w8 ⟨rfl, hb8⟩
  have hb9 := ((hb6.then_ hb7).al _).then_ hb8
  go_wp2_with fail
  go_ret
  exact ⟨rfl, hb9⟩
end Go.Proofs.Ytcjgpfocngipmaa
