
/-
  The chapter's examples: known.
-/
import Derived.Test.YtdmlnoeneoomfaaDoorL7
import Derived.Laws.StructEq
namespace Go.Proofs.YtdmlnoeneoomfaaDoor
open Go.RowKit

theorem lex_k1 : lexS [120, 49, 60, 61, 51] = .ok [⟨1, [120, 49], 0, 1, 1⟩, ⟨4, [60, 61], 0, 1, 3⟩, ⟨2, [51], 3, 1, 5⟩, ⟨0, [], 0, 1, 6⟩] := by kernel_rfl
theorem lex_k2 : lexS [105, 102, 32, 48, 55] = .err 1 4 3 := by kernel_rfl

theorem tok_ok {l : List UInt8} {ts : List Tk} (h : lexS l = .ok ts) {w w' : World} {e : Ending} (hp : TokPost l w e w') : ∃ A c, e = .returned (.tuple #[.slice A ts.length c, .agg #[.int .i64 0, .int .i64 0], .int .i64 0]) ∧ OT w' w.heap.size (.slice A ts.length c) ts ∧ Below w.heap.size w w' := by
  unfold TokPost at hp
  rw [h] at hp
  exact hp
theorem tok_err {l : List UInt8} {line col er : Int} (h : lexS l = .err line col er) {w w' : World} {e : Ending} (hp : TokPost l w e w') : e = .returned (.tuple #[.slice none 0 0, .agg #[.int .i64 line, .int .i64 col], .int .i64 er]) ∧ Below w.heap.size w w' := by
  unfold TokPost at hp
  rw [h] at hp
  exact hp

/-- The tokens in memory. -/
theorem OT.addr {w : World} {base n c : Nat} {A : Option Addr} {ts : List Tk} (h : OT w base (.slice A n c) ts) (hn : 0 < n) : ∃ g, A = some ⟨g, 0, none⟩ ∧ base ≤ g ∧ g < w.heap.size ∧ n = ts.length ∧ n ≤ c ∧ c ≤ 9223372036854775807 ∧ ∀ j u, (tksCells ts)[j]? = some u → w.cell? ⟨g, j, none⟩ = some u := by
  have h' := h
  rcases h.2 with ⟨h0, _⟩ | ⟨g, cap, cur, hv, hg, hh, hnc, hcm, hcz, htk⟩
  · simp at h0
    omega
  · simp only [Value.slice.injEq] at hv
    obtain ⟨rfl, rfl, rfl⟩ := hv
    have hlt : g < w.heap.size := Blk.lt (t := 87) (cs := cur) hh
    refine ⟨g, rfl, hg, hlt, rfl, hnc, by unfold maxLen at hcm; omega, fun j u hu => ?_⟩
    have := World.ownsRow.cells h' (g := g) rfl j u hu
    rw [Addr.add_lit, Nat.zero_add] at this
    exact this

end Go.Proofs.YtdmlnoeneoomfaaDoor
