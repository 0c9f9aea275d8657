
/-
  The writer's program. (Printed by wip/tools/genv16.py.)
-/
import Derived.Test.YtdgekckedchjbaaGreatDoorQO
import Derived.Deep.DeepCutAuto
namespace Go.Proofs.YtdgekckedchjbaaGreatDoor
open Go.RowKit

/-- A row of texts grows, and nothing that was there turns. -/
def GrowI (W : World) (v : Value) (ps : List ByteArray) (wr : World) : Prop := Below W.heap.size W wr ∧ OS wr W.heap.size v ps
theorem GrowI.push {W wr wi w2 : World} {v v2 : Value} {ps qs : List ByteArray} (h : GrowI W v ps wr) (hb : Below wr.heap.size wr wi) (ho : w2.ownsRow W.heap.size 9 1 v2 (ps.length + qs.length) (ps.map Value.string ++ qs.map Value.string)) (hg : wi.grownBy w2 v.ownBlock) : GrowI W v2 (ps ++ qs) w2 := by
  refine ⟨?_, OS.more ho⟩
  have h1 := h.1.trans (hb.mono h.1.size)
  exact h1.grown hg h1.size (fun k hk => (h.2.lt k hk).1)
/-- The texts of numbers. -/
def itoasS (l : List Int) : List ByteArray := l.map fun n => str (Lib.itoa n)
end Go.Proofs.YtdgekckedchjbaaGreatDoor
