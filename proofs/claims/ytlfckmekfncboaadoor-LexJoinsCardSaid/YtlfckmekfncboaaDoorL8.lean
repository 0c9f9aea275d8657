/-
  The chapter's examples: known.
-/
import Derived.Test.YtlfckmekfncboaaDoorL7
import Derived.Laws.StructEq
namespace Go.Proofs.YtlfckmekfncboaaDoor
open Go.RowKit

theorem lex_k1 : lexS [120, 49, 60, 61, 51] = .ok [⟨1, [120, 49], 0, 1, 1⟩, ⟨4, [60, 61], 0, 1, 3⟩, ⟨2, [51], 3, 1, 5⟩, ⟨0, [], 0, 1, 6⟩] := by kernel_rfl
theorem lex_k2 : lexS [105, 102, 32, 48, 55] = .err 1 4 3 := by kernel_rfl

theorem tok_ok {l : List UInt8} {ts : List Tk} (h : lexS l = .ok ts) {w w' : World} {e : Ending} (hp : TokPost l w e w') : ∃ A c, e = .returned (.tuple #[.slice A ts.length c, .agg #[.int .i64 0, .int .i64 0], .int .i64 0]) ∧ OT w' w.heap.size (.slice A ts.length c) ts ∧ Below w.heap.size w w' := by
  unfold TokPost at hp
  rw [h] at hp
  exact hp
theorem tok_err {l : List UInt8} {line col er : Int} (h : lexS l = .err line col er) {w w' : World} {e : Ending} (hp : TokPost l w e w') : e = .returned (.tuple #[.slice none 0 0, .agg #[.int .i64 line, .int .i64 col], .int .i64 er]) ∧ Below w.heap.size w w' := by
  unfold TokPost at hp
  rw [h] at hp
  exact hp

/-- The tokens in memory. -/
theorem OT.addr {w : World} {base n c : Nat} {A : Option Addr} {ts : List Tk} (h : OT w base (.slice A n c) ts) (hn : 0 < n) : ∃ g, A = some ⟨g, 0, none⟩ ∧ base ≤ g ∧ g < w.heap.size ∧ n = ts.length ∧ n ≤ c ∧ c ≤ 9223372036854775807 ∧ ∀ j u, (tksCells ts)[j]? = some u → w.cell? ⟨g, j, none⟩ = some u := by
  have h' := h
  rcases h.2 with ⟨h0, _⟩ | ⟨g, cap, cur, hv, hg, hh, hnc, hcm, hcz, htk⟩
  · simp at h0
    omega
  · simp only [Value.slice.injEq] at hv
    obtain ⟨rfl, rfl, rfl⟩ := hv
    have hlt : g < w.heap.size := Blk.lt (t := 31) (cs := cur) hh
    refine ⟨g, rfl, hg, hlt, rfl, hnc, by unfold maxLen at hcm; omega, fun j u hu => ?_⟩
    have := World.ownsRow.cells h' (g := g) rfl j u hu
    rw [Addr.add_lit, Nat.zero_add] at this
    exact this

set_option maxHeartbeats 2000000 in
set_option maxRecDepth 100000 in
theorem known_any (w : World) (hT : Spaces w) : Calls Tryd.prog 11 #[] w (Tells w true) := by
  go_enter Tryd.func11, Tryd.ntmps11
  go_wp2_with fail
  refine (tokens_any (str [120, 49, 60, 61, 51]) w hT (by decide)).mono ?_
  intro e w1 hp
  obtain ⟨A, c, rfl, o1, b1⟩ := tok_ok (by rw [str_list]; exact lex_k1) hp
  have T1 := Lib.hid (hT.below b1)
  have O1 := Lib.hid o1
  clear hp o1
  go_wp2_with fail
  have f2 : Below w.heap.size w (w1.alloc (.cells #[.int .i64 0, .int .i64 0] 24)) := b1.al _
  refine (tokens_any (str [105, 102, 32, 48, 55]) _ (hT.below f2) (by decide)).mono ?_
  intro e w3 hp
  obtain ⟨rfl, b3⟩ := tok_err (by rw [str_list]; exact lex_k2) hp
  have O3 := Lib.hid ((O1.out.below_ ((Below.refl _ w1).al _)).below_ b3)
  have f3 := f2.then_ b3
  clear hp
  obtain ⟨g, rfl, _, hgl, _, hc1, hc2, cells⟩ := O3.out.addr (by simp)
  have HC := Lib.hid cells
  clear cells O1 O3 T1 b1 f2 b3
  have m0 : w3.cell? ⟨g, 0, none⟩ = some (.int .i64 1) := HC.out 0 _ rfl
  have m1 : w3.cell? ⟨g, 1, none⟩ = some (.string ⟨#[120, 49]⟩) := HC.out 1 _ rfl
  have m2 : w3.cell? ⟨g, 2, none⟩ = some (.int .i64 0) := HC.out 2 _ rfl
  have m3 : w3.cell? ⟨g, 3, none⟩ = some (.int .i64 1) := HC.out 3 _ rfl
  have m4 : w3.cell? ⟨g, 4, none⟩ = some (.int .i64 1) := HC.out 4 _ rfl
  have m5 : w3.cell? ⟨g, 5, none⟩ = some (.int .i64 4) := HC.out 5 _ rfl
  have m6 : w3.cell? ⟨g, 6, none⟩ = some (.string ⟨#[60, 61]⟩) := HC.out 6 _ rfl
  have m7 : w3.cell? ⟨g, 7, none⟩ = some (.int .i64 0) := HC.out 7 _ rfl
  have m8 : w3.cell? ⟨g, 8, none⟩ = some (.int .i64 1) := HC.out 8 _ rfl
  have m9 : w3.cell? ⟨g, 9, none⟩ = some (.int .i64 3) := HC.out 9 _ rfl
  have m10 : w3.cell? ⟨g, 10, none⟩ = some (.int .i64 2) := HC.out 10 _ rfl
  have m11 : w3.cell? ⟨g, 11, none⟩ = some (.string ⟨#[51]⟩) := HC.out 11 _ rfl
  have m12 : w3.cell? ⟨g, 12, none⟩ = some (.int .i64 3) := HC.out 12 _ rfl
  have m13 : w3.cell? ⟨g, 13, none⟩ = some (.int .i64 1) := HC.out 13 _ rfl
  have m14 : w3.cell? ⟨g, 14, none⟩ = some (.int .i64 5) := HC.out 14 _ rfl
  have m15 : w3.cell? ⟨g, 15, none⟩ = some (.int .i64 0) := HC.out 15 _ rfl
  have m16 : w3.cell? ⟨g, 16, none⟩ = some (.string ⟨#[]⟩) := HC.out 16 _ rfl
  have m17 : w3.cell? ⟨g, 17, none⟩ = some (.int .i64 0) := HC.out 17 _ rfl
  have m18 : w3.cell? ⟨g, 18, none⟩ = some (.int .i64 1) := HC.out 18 _ rfl
  have m19 : w3.cell? ⟨g, 19, none⟩ = some (.int .i64 6) := HC.out 19 _ rfl
  go_wp2_with fail
  go_ret
  exact ⟨rfl, f3.al _⟩
end Go.Proofs.YtlfckmekfncboaaDoor
