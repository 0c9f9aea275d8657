/-
  package bound: sum, start.
-/
import Derived.Test.YtenpdmahjefoaaaBMaps
import Derived.Test.YtenpdmahjefoaaaBTree
namespace Go.Proofs.Ytenpdmahjefoaaa
open Go.RowKit

set_option maxHeartbeats 400000 in
set_option maxRecDepth 100000 in
theorem sum1_any (n m b : Nat) (w : World) (hb : Blk w b 3 #[.int .i64 (n : Int)]) (hn : n ≤ 65537) (hm : m ≤ 1000000000000) :
    Calls Try.prog 28 #[.int .i64 m, .pointer (some ⟨b, 0, none⟩)] w
      fun e w' => e = .returned (.int .i64 (capT (n + m))) ∧ Blk w' b 3 #[.int .i64 (capT (n + m) : Int)] ∧ Kept (fun k => k = b) w w' := by
  have hc : w.cell? ⟨b, 0, none⟩ = some (.int .i64 (n : Int)) := hb.cell 0
  have hf := hb.frozen 0
  by_cases h : n + m ≤ 65537
  · have HC : Hid (capT (n + m) = n + m) := by rw [Hid, capT]; omega
    generalize capT (n + m) = v at HC
    go_enter Try.func28, Try.ntmps28
    go_wp2
    go_ret
    rw [HC.out, Int.natCast_add]
    exact ⟨by first | rfl | exact ret_int (by omega), by first | exact hb.set_ 0 _ | (have := hb.set_ 0 (.int .i64 ((n : Int) + (m : Int))); simpa using this), (Kept.refl (fun k => k = b) w).setCell (fun _ => rfl) _⟩
  · have HC : Hid (capT (n + m) = 65537) := by rw [Hid, capT]; omega
    generalize capT (n + m) = v at HC
    go_enter Try.func28, Try.ntmps28
    go_wp2
    go_ret
    rw [HC.out]
    exact ⟨by first | rfl | exact ret_int (by omega), by first | exact hb.set_ 0 _, (Kept.refl (fun k => k = b) w).setCell (fun _ => rfl) _⟩

set_option maxHeartbeats 400000 in
set_option maxRecDepth 100000 in
theorem sum_any (n : Int) (w : World) :
    Calls Try.prog 25 #[.int .i64 n] w fun e w' => ∃ b, e = .returned (.func (.func 28) #[] #[.pointer (some ⟨b, 0, none⟩)]) ∧ Blk w' b 3 #[.int .i64 n] ∧ w.heap.size ≤ b ∧ Below w.heap.size w w' := by
  refine Calls.mono (R := fun e w' => e = .returned (.func (.func 28) #[] #[.pointer (some ⟨w.heap.size, 0, none⟩)]) ∧ Blk w' w.heap.size 3 #[.int .i64 n] ∧ Below w.heap.size w w') ?_ (fun e w' h => ⟨w.heap.size, h.1, h.2.1, Nat.le_refl _, h.2.2⟩)
  go_enter Try.func25, Try.ntmps25
  go_wp2
  go_ret
  exact ⟨rfl, Blk.new _ _ _, (Below.refl _ w).al _⟩

theorem blks3 {w w1 : World} {t0 t1 t2 : TypeId} {c0 c1 c2 : Array Value} (hb : Below (((w.alloc (.cells c0 t0)).alloc (.cells c1 t1)).alloc (.cells c2 t2)).heap.size (((w.alloc (.cells c0 t0)).alloc (.cells c1 t1)).alloc (.cells c2 t2)) w1) :
    Blk w1 w.heap.size t0 c0 ∧ Blk w1 (w.heap.size + 1) t1 c1 ∧ Blk w1 (w.heap.size + 1 + 1) t2 c2 ∧ Below w.heap.size w w1 := by
  refine ⟨Blk.below (((Blk.new w t0 c0).alloc _).alloc _) hb (by simp; omega), ?_, ?_, ((((Below.refl _ w).al _).al _).al _).then_ hb⟩
  · have := Blk.below ((Blk.new (w.alloc (.cells c0 t0)) t1 c1).alloc (.cells c2 t2)) hb (by simp)
    simpa using this
  · have := Blk.below (Blk.new ((w.alloc (.cells c0 t0)).alloc (.cells c1 t1)) t2 c2) hb (by simp)
    simpa using this
theorem blks2 {w w1 : World} {t0 t1 : TypeId} {c0 c1 : Array Value} (hb : Below ((w.alloc (.cells c0 t0)).alloc (.cells c1 t1)).heap.size ((w.alloc (.cells c0 t0)).alloc (.cells c1 t1)) w1) :
    Blk w1 w.heap.size t0 c0 ∧ Blk w1 (w.heap.size + 1) t1 c1 ∧ Below w.heap.size w w1 := by
  refine ⟨Blk.below ((Blk.new w t0 c0).alloc _) hb (by simp; omega), ?_, (((Below.refl _ w).al _).al _).then_ hb⟩
  have := Blk.below (Blk.new (w.alloc (.cells c0 t0)) t1 c1) hb (by simp)
  simpa using this
end Go.Proofs.Ytenpdmahjefoaaa
