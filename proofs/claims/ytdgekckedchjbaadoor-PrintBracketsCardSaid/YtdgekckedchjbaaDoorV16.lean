
/-
  The writer's program. (Printed by wip/tools/genv16.py.)
-/
import Derived.Test.YtdgekckedchjbaaDoorQO
import Derived.Deep.DeepCutAuto
namespace Go.Proofs.YtdgekckedchjbaaDoor
open Go.RowKit

/-- A row of texts grows, and nothing that was there turns. -/
def GrowI (W : World) (v : Value) (ps : List ByteArray) (wr : World) : Prop := Below W.heap.size W wr ∧ OS wr W.heap.size v ps
theorem GrowI.push {W wr wi w2 : World} {v v2 : Value} {ps qs : List ByteArray} (h : GrowI W v ps wr) (hb : Below wr.heap.size wr wi) (ho : w2.ownsRow W.heap.size 9 1 v2 (ps.length + qs.length) (ps.map Value.string ++ qs.map Value.string)) (hg : wi.grownBy w2 v.ownBlock) : GrowI W v2 (ps ++ qs) w2 := by
  refine ⟨?_, OS.more ho⟩
  have h1 := h.1.trans (hb.mono h.1.size)
  exact h1.grown hg h1.size (fun k hk => (h.2.lt k hk).1)
theorem str_eq {s : ByteArray} {l : List UInt8} (h : s.data.toList = l) : s = str l := by
  subst h
  simp [str]
/-- An element of a row. -/
theorem ElsG.int_at {D : Nat → Prop} {w : World} {A : Option Addr} {len : Nat} {l : List Int} (h : ElsG D w 1 2513169434843 (QI D w) A len l) {i : Nat} (hi : i < l.length) : ∃ b o, A = some ⟨b, o, none⟩ ∧ D b ∧ b < w.heap.size ∧ w.cell? ⟨b, o + i, none⟩ = some (.int .i64 l[i]) := by
  obtain ⟨xs, h1, h0, -, h4, h5⟩ := h
  have hc := h5 i hi
  obtain ⟨b, o, hA, hb, hq⟩ := h1.chunk (by omega) (show i < len by omega) hc
  refine ⟨b, o, hA, h0 (by omega) _ hA, hb, ?_⟩
  have := hq 0 _ rfl
  simpa using this
theorem ElsG.va_at {D : Nat → Prop} {w : World} {A : Option Addr} {len : Nat} {l : List Va} (h : ElsG D w 4 2513169434843 (QV D w) A len l) {i : Nat} (hi : i < l.length) : ∃ b o, A = some ⟨b, o, none⟩ ∧ D b ∧ b < w.heap.size ∧ w.cell? ⟨b, o + i * 4, none⟩ = some (.string (str l[i].nm)) ∧ w.cell? ⟨b, o + i * 4 + 1, none⟩ = some (.int .i64 l[i].size) ∧
    w.cell? ⟨b, o + i * 4 + 2, none⟩ = some (.int .i64 l[i].lo) ∧ w.cell? ⟨b, o + i * 4 + 3, none⟩ = some (.int .i64 l[i].hi) := by
  obtain ⟨xs, h1, h0, -, h4, h5⟩ := h
  have hc := h5 i hi
  obtain ⟨b, o, hA, hb, hq⟩ := h1.chunk (by omega) (show i < len by omega) hc
  exact ⟨b, o, hA, h0 (by omega) _ hA, hb, hq 0 _ rfl, hq 1 _ rfl, hq 2 _ rfl, hq 3 _ rfl⟩
/-- The texts of numbers. -/
def itoasS (l : List Int) : List ByteArray := l.map fun n => str (Lib.itoa n)
end Go.Proofs.YtdgekckedchjbaaDoor
