/-
  TopupNil: the walk, of an act as it comes in.
-/
import Derived.Test.YtdbffjipoiphpaaT22
namespace Go.Proofs.Ytdbffjipoiphpaa
open Go.RowKit
theorem nil_walk_act (w : World) (cs : Array Value) (h : ActC w w.heap.size cs.toList) : Calls Try.prog 7 #[.agg cs] w (Tells w true) := by
  obtain ⟨kind, h, seat, N, t0, t1, t2, t3, t4, t5, t6, t7, num, till, A, n, c, adds, hcs, hnc, hrd⟩ := h
  obtain rfl : cs = #[.int .i64 kind, .int .i64 h, .int .i64 seat, .int .i64 N, .int .u8 t0, .int .u8 t1, .int .u8 t2, .int .u8 t3, .int .u8 t4, .int .u8 t5, .int .u8 t6, .int .u8 t7, .int .i64 num, .slice A n c, .int .i64 till] := by
    rw [← Array.toList_inj]; exact hcs
  exact nil_walk w kind h seat N t0 t1 t2 t3 t4 t5 t6 t7 num till A n c adds hnc hrd
end Go.Proofs.Ytdbffjipoiphpaa
