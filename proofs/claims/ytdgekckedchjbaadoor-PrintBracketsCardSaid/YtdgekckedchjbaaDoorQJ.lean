
/-
  The parser of programs: a statement. (Printed by wip/tools/gens27.py.)
-/
import Derived.Test.YtdgekckedchjbaaDoorQI
import Derived.Deep.RegionHeld3
namespace Go.Proofs.YtdgekckedchjbaaDoor
open Go.RowKit

theorem elsg_blk2 {base : Nat} {w : World} {t : TypeId} {b : Nat} {cs ds : List Value} {x y : Ex} (hb : Blk w b t (List.toArray (cs ++ ds))) (hl : cs.length = 4) (hl2 : ds.length = 4) (hB : base ≤ b) (h : QE (fun k => base ≤ k) w cs x) (h2 : QE (fun k => base ≤ k) w ds y) : ElsG (fun k => base ≤ k) w 4 2513169434843 (QE (fun k => base ≤ k) w) (some ⟨b, 0, none⟩) 2 [x, y] := by
  have ho : w.ownsRow base t 4 (.slice (some ⟨b, 0, none⟩) 2 2) 2 (cs ++ ds) := ⟨by simp [hl, hl2], .inr ⟨b, 2, List.toArray (cs ++ ds), rfl, hB, hb, Nat.le_refl _, by unfold maxLen; omega, by simp [hl, hl2], by rw [List.take_of_length_le (by simp [hl, hl2])]⟩⟩
  refine elsg_own (Q := QE) ho (by omega) rfl fun i hi => ?_
  match i, hi with
  | 0, _ =>
    rw [Nat.zero_mul, List.drop_zero, List.take_append_of_le_length (by omega), List.take_of_length_le (by omega)]
    exact h
  | 1, _ =>
    rw [Nat.one_mul, List.drop_append_of_le_length (by omega), List.drop_of_length_le (by omega), List.nil_append, List.take_of_length_le (by omega)]
    exact h2
  | i + 2, hi => simp at hi; omega
end Go.Proofs.YtdgekckedchjbaaDoor
