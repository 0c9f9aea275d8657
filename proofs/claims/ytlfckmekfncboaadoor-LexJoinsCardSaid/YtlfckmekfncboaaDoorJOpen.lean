/-
  A slice of tokens that comes in, opened to what the walk asks.
-/
import Derived.Test.YtlfckmekfncboaaDoorTrod
import Derived.Test.YtlfckmekfncboaaDoorL14
namespace Go.Proofs.YtlfckmekfncboaaDoor
open Go.ChangeShapes Go.WideShapes Go.ChangeAt Go.RowKit Go.Deep

section
variable {H : Type} {enc : TypeId × Value → H} {P : Program} {W : World} {base b0 : Nat} {spare : Nat → Bool} {held : Bool} {r : Reach}
theorem open_fields {e : TypeId} {fs : Array Field} {fuel : Nat} {cs : List Value} {x : DataW H × List MemPlace} (he : P.underlying e = some (.struct fs)) (h : DataW.trod enc P W base spare held fuel e cs = some x) :
    ∃ n, fuel = n + 1 ∧ cs.length = P.cellsOf e ∧ ∀ (j : Nat) (f : Field), fs[j]? = some f → ∃ y : DataW H × List MemPlace, DataW.trod enc P W base spare held n f.type ((cs.drop f.offset).take (P.cellsOf f.type)) = some y := by
  obtain ⟨ys, n', hn', hy, hlen, hyl, hf⟩ := DataW.trod_struct he h
  refine ⟨n', hn', hlen, fun j f hj => ?_⟩
  have hjl : j < fs.size := (Array.getElem?_eq_some_iff.1 hj).1
  exact ⟨_, (hf j f hj).trans (List.getElem?_eq_getElem (by omega))⟩
end
theorem list5 {α : Type} {l : List α} (h : l.length = 5) : ∃ a0 a1 a2 a3 a4, l = [a0, a1, a2, a3, a4] := by
  match l, h with
  | [a0, a1, a2, a3, a4], _ => exact ⟨_, _, _, _, _, rfl⟩
theorem rows_toks : ∀ (n : Nat) (xs : List Value), xs.length = n * 5 → (∀ i, i < n → ∃ t : Tk, (xs.drop (i * 5)).take 5 = tkCells t ∧ t.text.length ≤ 9223372036854775807) → ∃ tt : List Tk, tt.length = n ∧ xs = tksCells tt ∧ ∀ t ∈ tt, t.text.length ≤ 9223372036854775807
  | 0, xs, hl, _ => ⟨[], rfl, by simpa [tksCells] using hl, by simp⟩
  | n + 1, xs, hl, h => by
    obtain ⟨t, ht, hb⟩ := h 0 (by omega)
    obtain ⟨tt, h1, h2, h3⟩ := rows_toks n (xs.drop 5) (by rw [List.length_drop]; omega) (fun i hi => by
      have := h (i + 1) (by omega)
      rw [show (i + 1) * 5 = 5 + i * 5 by omega, ← List.drop_drop] at this
      exact this)
    refine ⟨t :: tt, by rw [List.length_cons, h1], ?_, ?_⟩
    · have e : xs = xs.take 5 ++ xs.drop 5 := (List.take_append_drop 5 xs).symm
      rw [Nat.zero_mul, List.drop_zero] at ht
      rw [e, ht, h2]
      rfl
    · intro u hu
      rcases List.mem_cons.1 hu with rfl | hu
      · exact hb
      · exact h3 u hu

section
variable {H : Type} {enc : TypeId × Value → H} {W : World} {base b0 : Nat} {spare : Nat → Bool} {held : Bool} {r : Reach}
set_option maxRecDepth 100000 in
theorem trod_tok {fuel : Nat} {cs : List Value} {x : DataW H × List MemPlace} (h : DataW.trod enc Tryd.prog W base spare held fuel 31 cs = some x) : ∃ t : Tk, cs = tkCells t ∧ t.text.length ≤ 9223372036854775807 := by
  obtain ⟨n, _, hl, hf⟩ := open_fields Tryd.underlying31 h
  have hl' : cs.length = 5 := hl.trans (by kernel_rfl)
  obtain ⟨y0, f0⟩ := hf 0 _ rfl
  obtain ⟨y1, f1⟩ := hf 1 _ rfl
  obtain ⟨y2, f2⟩ := hf 2 _ rfl
  obtain ⟨y3, f3⟩ := hf 3 _ rfl
  obtain ⟨a0, e0, _, w0⟩ := DataW.trod_int Tryd.underlying3 f0
  obtain ⟨s1, e1, _, w1⟩ := DataW.trod_string Tryd.underlying9 f1
  obtain ⟨a2, e2, _, w2⟩ := DataW.trod_int Tryd.underlying3 f2
  obtain ⟨n2, _, hl2, hf2⟩ := open_fields Tryd.underlying24 f3
  obtain ⟨z0, g0⟩ := hf2 0 _ rfl
  obtain ⟨z1, g1⟩ := hf2 1 _ rfl
  obtain ⟨a3, e3, _, w3⟩ := DataW.trod_int Tryd.underlying3 g0
  obtain ⟨a4, e4, _, w4⟩ := DataW.trod_int Tryd.underlying3 g1
  clear f0 f1 f2 f3 g0 g1 hf hf2 hl2
  have d1 : Tryd.prog.cellsOf 3 = 1 := by kernel_rfl
  have d2 : Tryd.prog.cellsOf 9 = 1 := by kernel_rfl
  have d3 : Tryd.prog.cellsOf 24 = 2 := by kernel_rfl
  obtain ⟨c0, c1, c2, c3, c4, rfl⟩ := list5 hl'
  clear h hl hl'
  simp [d1, d2, d3] at e0 e1 e2 e3 e4
  subst e0 e1 e2 e3 e4
  refine ⟨⟨a0, s1.data.toList, a2, a3, a4⟩, ?_, ?_⟩
  · unfold tkCells str
    rfl
  · simp only
    rw [size_list]
    unfold maxLen at w1
    exact w1
set_option maxRecDepth 100000 in
theorem open_toks {v : Value} {d : DataW H} {p : List MemPlace} (hv : Value.okWide Tryd.prog W r b0 22 v) (h : DataW.Trod enc Tryd.prog W base spare held 22 v d p) :
    ∃ (A : Option Addr) (n c : Nat) (tt : List Tk), v = .slice A n c ∧ n ≤ c ∧ c ≤ maxLen ∧ Reads W W.heap.size 5 A n (tksCells tt) ∧ n = tt.length ∧ ∀ t ∈ tt, t.text.length ≤ 9223372036854775807 := by
  obtain ⟨a0, len0, cap0, rfl⟩ := okWide_slice Tryd.underlying22 hv
  obtain ⟨fuel, hf⟩ := h
  obtain ⟨A, n, c, xs, hcs, h1, h2, h3, _, h5⟩ := open_rows Tryd.underlying22 (show Tryd.prog.cellsOf 31 = 5 by kernel_rfl) (by omega) hf
  simp [Value.cells] at hcs
  obtain ⟨rfl, rfl, rfl⟩ := hcs
  obtain ⟨tt, ht, rfl, hb⟩ := rows_toks _ xs h3.1 (fun i hi => by
    obtain ⟨m, y, _, hy⟩ := h5 i hi
    exact trod_tok hy)
  exact ⟨_, _, _, tt, rfl, h1, h2, h3, ht.symm, hb⟩
end
end Go.Proofs.YtlfckmekfncboaaDoor
