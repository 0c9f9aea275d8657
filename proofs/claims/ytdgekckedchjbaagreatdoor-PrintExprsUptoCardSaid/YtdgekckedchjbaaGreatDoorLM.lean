
/-
  The document's Marks.
-/
import Derived.Test.YtdgekckedchjbaaGreatDoorQK
namespace Go.Proofs.YtdgekckedchjbaaGreatDoor
open Go.RowKit

set_option maxHeartbeats 1000000 in
set_option maxRecDepth 100000 in
theorem refMarks_any (w : World) : Calls Tryz.prog 116 #[] w fun e w' => e = .returned (.slice (some ⟨w.heap.size, 0, none⟩) 16 16) ∧ w' = w.alloc (textsO marksB) := by
  go_enter Tryz.func116, Tryz.ntmps116
  go_wp2_with fail
  go_ret
  exact ⟨rfl, rfl⟩
end Go.Proofs.YtdgekckedchjbaaGreatDoor
