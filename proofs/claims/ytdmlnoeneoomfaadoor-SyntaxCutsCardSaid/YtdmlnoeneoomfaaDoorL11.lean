
/-
  What the lexer makes of marks.
-/
import Derived.Test.YtdmlnoeneoomfaaDoorL8
namespace Go.Proofs.YtdmlnoeneoomfaaDoor
open Go.RowKit

instance tkDec : DecidableEq Tk := fun a b => decidable_of_iff (a.kind = b.kind ∧ a.text = b.text ∧ a.n = b.n ∧ a.line = b.line ∧ a.col = b.col) (by cases a; cases b; simp)
instance resDec : DecidableEq Res
  | .ok a, .ok b => decidable_of_iff (a = b) (by simp)
  | .err a b c, .err d e f => decidable_of_iff (a = d ∧ b = e ∧ c = f) (by simp)
  | .ok _, .err .. => isFalse (by simp)
  | .err .., .ok _ => isFalse (by simp)

theorem lex_mark : ∀ X ∈ marksL, lexS X = .ok [⟨4, X, 0, 1, 1⟩, ⟨0, [], 0, 1, 1 + X.length⟩] := by decide +kernel
/-- Two marks, one behind the other. -/
def glued (X Y : List UInt8) : Bool := Y == [61] && (X == [60] || X == [62])
theorem lex_two : ∀ X ∈ marksL, ∀ Y ∈ marksL, lexS (X ++ Y) = if glued X Y then .ok [⟨4, X ++ Y, 0, 1, 1⟩, ⟨0, [], 0, 1, 3⟩] else .ok [⟨4, X, 0, 1, 1⟩, ⟨4, Y, 0, 1, 1 + X.length⟩, ⟨0, [], 0, 1, 1 + X.length + Y.length⟩] := by decide +kernel
theorem mark_len : ∀ X ∈ marksL, X.length ≤ 2 := by decide +kernel
theorem marks_count : marksL.length = 16 := by decide +kernel

/-- The marks in memory. -/
def MarksAt (w : World) (g : Nat) : Prop := ∀ j X, marksL[j]? = some X → w.cell? ⟨g, j, none⟩ = some (.string (str X))
theorem MarksAt.new (w : World) : MarksAt (w.alloc (textsO marksB)) w.heap.size := by
  intro j X hX
  have h := (Blk.new w 9 (marksB.map Value.string).toArray).cell j
  refine h.trans ?_
  simp [marksB, hX]
theorem MarksAt.below {w w' : World} {g B : Nat} (h : MarksAt w g) (hb : Below B w w') (hg : g < B) : MarksAt w' g := fun j X hX => (hb.cell (p := ⟨g, j, none⟩) hg).trans (h j X hX)

end Go.Proofs.YtdmlnoeneoomfaaDoor
