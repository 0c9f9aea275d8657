
/-
  The document's levels and ops (out of G4).
-/
import Derived.Test.YtdgekckedchjbaaGreatDoorD5
namespace Go.Proofs.YtdgekckedchjbaaGreatDoor
open Go.RowKit

def lvN : Nat → Nat
  | 0 => 1
  | 1 => 1
  | 2 => 6
  | 3 => 2
  | _ => 3
def opsRow (k : Nat) : List Value := (lvlT k).map fun p => .int .i64 p.2
def marksRow (k : Nat) : List Value := (lvlT k).map fun p => .string (str p.1)
/-- What ops, and levels, give: five rows. -/
def FiveTo (row : Nat → List Value) (t t2 : TypeId) (w : World) (e : Ending) (w' : World) : Prop := ∃ g : Nat, e = .returned (.slice (some ⟨g, 0, none⟩) 5 5) ∧ Below w.heap.size w w' ∧ ∃ r : Nat → Nat, Blk w' g t2 #[.slice (some ⟨r 0, 0, none⟩) (lvN 0) (lvN 0), .slice (some ⟨r 1, 0, none⟩) (lvN 1) (lvN 1), .slice (some ⟨r 2, 0, none⟩) (lvN 2) (lvN 2), .slice (some ⟨r 3, 0, none⟩) (lvN 3) (lvN 3), .slice (some ⟨r 4, 0, none⟩) (lvN 4) (lvN 4)] ∧ ∀ k, k < 5 → Blk w' (r k) t (row k).toArray
theorem six_new (w : World) (t t2 : TypeId) (a0 a1 a2 a3 a4 b : Array Value) :
    Below w.heap.size w ((((((w.alloc (.cells a0 t)).alloc (.cells a1 t)).alloc (.cells a2 t)).alloc (.cells a3 t)).alloc (.cells a4 t)).alloc (.cells b t2)) ∧
    Blk ((((((w.alloc (.cells a0 t)).alloc (.cells a1 t)).alloc (.cells a2 t)).alloc (.cells a3 t)).alloc (.cells a4 t)).alloc (.cells b t2)) (w.heap.size + 5) t2 b ∧
    Blk ((((((w.alloc (.cells a0 t)).alloc (.cells a1 t)).alloc (.cells a2 t)).alloc (.cells a3 t)).alloc (.cells a4 t)).alloc (.cells b t2)) w.heap.size t a0 ∧
    Blk ((((((w.alloc (.cells a0 t)).alloc (.cells a1 t)).alloc (.cells a2 t)).alloc (.cells a3 t)).alloc (.cells a4 t)).alloc (.cells b t2)) (w.heap.size + 1) t a1 ∧
    Blk ((((((w.alloc (.cells a0 t)).alloc (.cells a1 t)).alloc (.cells a2 t)).alloc (.cells a3 t)).alloc (.cells a4 t)).alloc (.cells b t2)) (w.heap.size + 2) t a2 ∧
    Blk ((((((w.alloc (.cells a0 t)).alloc (.cells a1 t)).alloc (.cells a2 t)).alloc (.cells a3 t)).alloc (.cells a4 t)).alloc (.cells b t2)) (w.heap.size + 3) t a3 ∧
    Blk ((((((w.alloc (.cells a0 t)).alloc (.cells a1 t)).alloc (.cells a2 t)).alloc (.cells a3 t)).alloc (.cells a4 t)).alloc (.cells b t2)) (w.heap.size + 4) t a4 := by
  have b1 : Below w.heap.size w (w.alloc (.cells a0 t)) := (Below.refl _ w).al _
  have b2 := b1.alloc (o := .cells a1 t) b1.size
  have b3 := b2.alloc (o := .cells a2 t) b2.size
  have b4 := b3.alloc (o := .cells a3 t) b3.size
  have b5 := b4.alloc (o := .cells a4 t) b4.size
  have b6 := b5.alloc (o := .cells b t2) b5.size
  obtain ⟨x0, x1, x2⟩ := three_new w t t t a0 a1 a2
  have z3 : (((w.alloc (.cells a0 t)).alloc (.cells a1 t)).alloc (.cells a2 t)).heap.size = w.heap.size + 3 := by simp
  obtain ⟨y0, y1, y2⟩ := three_new (((w.alloc (.cells a0 t)).alloc (.cells a1 t)).alloc (.cells a2 t)) t t t2 a3 a4 b
  rw [z3] at y0 y1 y2
  exact ⟨b6, y2, ((x0.alloc _).alloc _).alloc _, ((x1.alloc _).alloc _).alloc _, ((x2.alloc _).alloc _).alloc _, y0, y1⟩
set_option maxHeartbeats 2000000 in
set_option maxRecDepth 100000 in
theorem ops_any (w : World) : Calls Tryz.prog 121 #[] w (FiveTo opsRow 3 30 w) := by
  go_enter Tryz.func121, Tryz.ntmps121
  go_wp2_with fail
  go_ret
  obtain ⟨h0, h1, h2, h3, h4, h5, h6⟩ := six_new w 3 30 #[.int .i64 17] #[.int .i64 16] #[.int .i64 10, .int .i64 11, .int .i64 12, .int .i64 13, .int .i64 14, .int .i64 15] #[.int .i64 8, .int .i64 9] #[.int .i64 5, .int .i64 6, .int .i64 7] #[.slice (some ⟨w.heap.size, 0, none⟩) 1 1, .slice (some ⟨w.heap.size + 1, 0, none⟩) 1 1, .slice (some ⟨w.heap.size + 2, 0, none⟩) 6 6, .slice (some ⟨w.heap.size + 3, 0, none⟩) 2 2, .slice (some ⟨w.heap.size + 4, 0, none⟩) 3 3]
  refine ⟨w.heap.size + 5, rfl, h0, fun k => w.heap.size + k, h1, fun k hk => ?_⟩
  match k, hk with
  | 0, _ => exact h2
  | 1, _ => exact h3
  | 2, _ => exact h4
  | 3, _ => exact h5
  | 4, _ => exact h6
  | k + 5, h => exact absurd h (by omega)
set_option maxHeartbeats 2000000 in
set_option maxRecDepth 100000 in
theorem levels_any (w : World) : Calls Tryz.prog 120 #[] w (FiveTo marksRow 9 59 w) := by
  go_enter Tryz.func120, Tryz.ntmps120
  go_wp2_with fail
  go_ret
  obtain ⟨h0, h1, h2, h3, h4, h5, h6⟩ := six_new w 9 59 #[.string ⟨#[111, 114]⟩] #[.string ⟨#[97, 110, 100]⟩] #[.string ⟨#[61]⟩, .string ⟨#[33, 61]⟩, .string ⟨#[60]⟩, .string ⟨#[60, 61]⟩, .string ⟨#[62]⟩, .string ⟨#[62, 61]⟩] #[.string ⟨#[43]⟩, .string ⟨#[45]⟩] #[.string ⟨#[42]⟩, .string ⟨#[47]⟩, .string ⟨#[37]⟩] #[.slice (some ⟨w.heap.size, 0, none⟩) 1 1, .slice (some ⟨w.heap.size + 1, 0, none⟩) 1 1, .slice (some ⟨w.heap.size + 2, 0, none⟩) 6 6, .slice (some ⟨w.heap.size + 3, 0, none⟩) 2 2, .slice (some ⟨w.heap.size + 4, 0, none⟩) 3 3]
  refine ⟨w.heap.size + 5, rfl, h0, fun k => w.heap.size + k, h1, fun k hk => ?_⟩
  match k, hk with
  | 0, _ => exact h2
  | 1, _ => exact h3
  | 2, _ => exact h4
  | 3, _ => exact h5
  | 4, _ => exact h6
  | k + 5, h => exact absurd h (by omega)
end Go.Proofs.YtdgekckedchjbaaGreatDoor
