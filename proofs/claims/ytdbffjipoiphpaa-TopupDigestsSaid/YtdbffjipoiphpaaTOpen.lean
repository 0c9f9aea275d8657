/-
  Arguments of the laws of raises, opened to what the walks ask.
-/
import Derived.Test.YtdbffjipoiphpaaT19
namespace Go.Proofs.Ytdbffjipoiphpaa
open Go.ChangeShapes Go.WideShapes Go.ChangeAt Go.RowKit Go.Deep

section
variable {H : Type} {enc : TypeId × Value → H} {P : Program} {W : World} {base b0 : Nat} {spare : Nat → Bool} {held : Bool} {r : Reach}
theorem open_fields {e : TypeId} {fs : Array Field} {fuel : Nat} {cs : List Value} {x : DataW H × List MemPlace} (he : P.underlying e = some (.struct fs)) (h : DataW.trod enc P W base spare held fuel e cs = some x) :
    ∃ n, fuel = n + 1 ∧ cs.length = P.cellsOf e ∧ ∀ (j : Nat) (f : Field), fs[j]? = some f → ∃ y : DataW H × List MemPlace, DataW.trod enc P W base spare held n f.type ((cs.drop f.offset).take (P.cellsOf f.type)) = some y := by
  obtain ⟨ys, n', hn', hy, hlen, hyl, hf⟩ := DataW.trod_struct he h
  refine ⟨n', hn', hlen, fun j f hj => ?_⟩
  have hjl : j < fs.size := (Array.getElem?_eq_some_iff.1 hj).1
  exact ⟨_, (hf j f hj).trans (List.getElem?_eq_getElem (by omega))⟩
theorem trod_nums {t e : TypeId} {k : IntKind} {fuel : Nat} {cs : List Value} {x : DataW H × List MemPlace} (ht : P.underlying t = some (.slice e)) (he : P.underlying e = some (.int k)) (hc : P.cellsOf e = 1)
    (h : DataW.trod enc P W base spare held fuel t cs = some x) :
    ∃ (A : Option Addr) (n c : Nat) (zs : List Int), cs = [.slice A n c] ∧ n ≤ c ∧ c ≤ maxLen ∧ Reads W W.heap.size 1 A n (zs.map (Value.int k)) ∧ ∀ z ∈ zs, (Lit.int k z).wf = true := by
  rcases open_ints ht he hc h with ⟨hcs, _⟩ | ⟨x, l, c, zs, hcs, _, hl, hm, hz, _, hcell, hwz⟩
  · exact ⟨none, 0, 0, [], hcs, by omega, by unfold maxLen; omega, Reads.none_, fun z hz => by simp at hz⟩
  · have hzl : l ≤ zs.length := by rw [hz]; split <;> omega
    refine ⟨some x, l, c, zs.take l, hcs, hl, hm, ?_, fun z hz => hwz z (List.mem_of_mem_take hz)⟩
    refine ⟨by simp; omega, fun hn => ⟨x, rfl, ?_, fun j u hu => ?_⟩⟩
    · have := lt_of_cell (hcell 0 (by omega))
      rwa [block_of_add] at this
    · rw [List.getElem?_map] at hu
      obtain ⟨z, hz', rfl⟩ := Option.map_eq_some_iff.1 hu
      rw [List.getElem?_take] at hz'
      split at hz'
      · rename_i hj
        rw [hcell j (by omega)]
        simp [List.getD, hz']
      · cases hz'
theorem open_nums {t e : TypeId} {k : IntKind} {v : Value} {d : DataW H} {p : List MemPlace} (ht : P.underlying t = some (.slice e)) (he : P.underlying e = some (.int k)) (hc : P.cellsOf e = 1)
    (hv : Value.okWide P W r b0 t v) (h : DataW.Trod enc P W base spare held t v d p) :
    ∃ (A : Option Addr) (n c : Nat) (zs : List Int), v = .slice A n c ∧ n ≤ c ∧ c ≤ maxLen ∧ RV W A n (zs.map (Value.int k)) ∧ ∀ z ∈ zs, (Lit.int k z).wf = true := by
  obtain ⟨a0, len0, cap0, rfl⟩ := okWide_slice ht hv
  obtain ⟨fuel, hf⟩ := h
  obtain ⟨A, n, c, zs, hcs, h1⟩ := trod_nums ht he hc hf
  simp [Value.cells] at hcs
  obtain ⟨rfl, rfl, rfl⟩ := hcs
  exact ⟨_, _, _, zs, rfl, h1⟩
theorem trod_eight {t e : TypeId} {k : IntKind} {fuel : Nat} {cs : List Value} {x : DataW H × List MemPlace} (ht : P.underlying t = some (.array 8 e)) (he : P.underlying e = some (.int k)) (hc : P.cellsOf e = 1) (hct : P.cellsOf t = 8)
    (h : DataW.trod enc P W base spare held fuel t cs = some x) :
    ∃ t0 t1 t2 t3 t4 t5 t6 t7 : Int, cs = [.int k t0, .int k t1, .int k t2, .int k t3, .int k t4, .int k t5, .int k t6, .int k t7] ∧ ∀ z ∈ [t0, t1, t2, t3, t4, t5, t6, t7], (Lit.int k z).wf = true := by
  obtain ⟨xs, m, _, _, hl, hxl, hf⟩ := DataW.trod_array ht h
  rw [hct] at hl
  rw [hc] at hf
  match cs, hl with
  | [c0, c1, c2, c3, c4, c5, c6, c7], _ =>
    have g : ∀ (i : Nat) (c : Value), i < 8 → ([c0, c1, c2, c3, c4, c5, c6, c7].drop (i * 1)).take 1 = [c] → ∃ a, c = .int k a ∧ (Lit.int k a).wf = true := by
      intro i c hi hcc
      have h1 := hf i hi
      rw [hcc, List.getElem?_eq_getElem (by omega)] at h1
      obtain ⟨a, q, _, wa⟩ := DataW.trod_int he h1
      injection q with q
      exact ⟨a, q, wa⟩
    obtain ⟨a0, rfl, w0⟩ := g 0 _ (by omega) rfl
    obtain ⟨a1, rfl, w1⟩ := g 1 _ (by omega) rfl
    obtain ⟨a2, rfl, w2⟩ := g 2 _ (by omega) rfl
    obtain ⟨a3, rfl, w3⟩ := g 3 _ (by omega) rfl
    obtain ⟨a4, rfl, w4⟩ := g 4 _ (by omega) rfl
    obtain ⟨a5, rfl, w5⟩ := g 5 _ (by omega) rfl
    obtain ⟨a6, rfl, w6⟩ := g 6 _ (by omega) rfl
    obtain ⟨a7, rfl, w7⟩ := g 7 _ (by omega) rfl
    exact ⟨a0, a1, a2, a3, a4, a5, a6, a7, rfl, by simp [*]⟩
end

theorem list11 {α : Type} {l : List α} (h : l.length = 11) : ∃ a0 a1 a2 a3 a4 a5 a6 a7 a8 a9 a10, l = [a0, a1, a2, a3, a4, a5, a6, a7, a8, a9, a10] := by
  match l, h with
  | [a0, a1, a2, a3, a4, a5, a6, a7, a8, a9, a10], _ => exact ⟨_, _, _, _, _, _, _, _, _, _, _, rfl⟩
theorem list15 {α : Type} {l : List α} (h : l.length = 15) : ∃ a0 a1 a2 a3 a4 a5 a6 a7 a8 a9 a10 a11 a12 a13 a14, l = [a0, a1, a2, a3, a4, a5, a6, a7, a8, a9, a10, a11, a12, a13, a14] := by
  match l, h with
  | [a0, a1, a2, a3, a4, a5, a6, a7, a8, a9, a10, a11, a12, a13, a14], _ => exact ⟨_, _, _, _, _, _, _, _, _, _, _, _, _, _, _, rfl⟩

/-- The cells of a raise. -/
def RaiseC (w : World) (B : Nat) (cs : List Value) : Prop := ∃ (t0 t1 t2 t3 t4 t5 t6 t7 num till : Int) (A : Option Addr) (n c : Nat) (adds : List Int),
  cs = [.int .u8 t0, .int .u8 t1, .int .u8 t2, .int .u8 t3, .int .u8 t4, .int .u8 t5, .int .u8 t6, .int .u8 t7, .int .i64 num, .slice A n c, .int .i64 till] ∧ n ≤ c ∧ c ≤ maxLen ∧ Reads w B 1 A n (adds.map (Value.int .i64)) ∧
  (∀ z ∈ [t0, t1, t2, t3, t4, t5, t6, t7], (Lit.int .u8 z).wf = true) ∧ (Lit.int .i64 num).wf = true ∧ (Lit.int .i64 till).wf = true ∧ ∀ z ∈ adds, (Lit.int .i64 z).wf = true

section
variable {H : Type} {enc : TypeId × Value → H} {W : World} {base b0 : Nat} {spare : Nat → Bool} {held : Bool} {r : Reach}
set_option maxRecDepth 100000 in
theorem trod_raise {fuel : Nat} {cs : List Value} {x : DataW H × List MemPlace} (h : DataW.trod enc Try.prog W base spare held fuel 33 cs = some x) : RaiseC W W.heap.size cs := by
  obtain ⟨n, _, hl, hf⟩ := open_fields Try.underlying33 h
  have hl' : cs.length = 11 := hl.trans (by kernel_rfl)
  obtain ⟨y0, f0⟩ := hf 0 _ rfl
  obtain ⟨y1, f1⟩ := hf 1 _ rfl
  obtain ⟨y2, f2⟩ := hf 2 _ rfl
  obtain ⟨y3, f3⟩ := hf 3 _ rfl
  obtain ⟨t0, t1, t2, t3, t4, t5, t6, t7, e0, w0⟩ := trod_eight Try.underlying31 Try.underlying5 (by kernel_rfl) (by kernel_rfl) f0
  obtain ⟨num, e1, _, w1⟩ := DataW.trod_int Try.underlying3 f1
  obtain ⟨A, m, c, adds, e2, hc, hm, hr, w2⟩ := trod_nums Try.underlying22 Try.underlying3 (by kernel_rfl) f2
  obtain ⟨till, e3, _, w3⟩ := DataW.trod_int Try.underlying3 f3
  clear f0 f1 f2 f3 hf
  have d0 : Try.prog.cellsOf 31 = 8 := by kernel_rfl
  have d1 : Try.prog.cellsOf 3 = 1 := by kernel_rfl
  have d2 : Try.prog.cellsOf 22 = 1 := by kernel_rfl
  obtain ⟨c0, c1, c2, c3, c4, c5, c6, c7, c8, c9, c10, rfl⟩ := list11 hl'
  clear h hl hl'
  simp [d0, d1, d2] at e0 e1 e2 e3
  obtain ⟨rfl, rfl, rfl, rfl, rfl, rfl, rfl, rfl⟩ := e0
  subst e1 e2 e3
  exact ⟨t0, t1, t2, t3, t4, t5, t6, t7, num, till, A, m, c, adds, rfl, hc, hm, hr, w0, w1, w3, w2⟩
set_option maxRecDepth 100000 in
theorem trod_act {fuel : Nat} {cs : List Value} {x : DataW H × List MemPlace} (h : DataW.trod enc Try.prog W base spare held fuel 35 cs = some x) : ActC W W.heap.size cs := by
  obtain ⟨n, _, hl, hf⟩ := open_fields Try.underlying35 h
  have hl' : cs.length = 15 := hl.trans (by kernel_rfl)
  obtain ⟨y0, f0⟩ := hf 0 _ rfl
  obtain ⟨y1, f1⟩ := hf 1 _ rfl
  obtain ⟨y2, f2⟩ := hf 2 _ rfl
  obtain ⟨y3, f3⟩ := hf 3 _ rfl
  obtain ⟨y4, f4⟩ := hf 4 _ rfl
  obtain ⟨a0, e0, _, w0⟩ := DataW.trod_int Try.underlying3 f0
  obtain ⟨a1, e1, _, w1⟩ := DataW.trod_int Try.underlying3 f1
  obtain ⟨a2, e2, _, w2⟩ := DataW.trod_int Try.underlying3 f2
  obtain ⟨a3, e3, _, w3⟩ := DataW.trod_int Try.underlying3 f3
  obtain ⟨t0, t1, t2, t3, t4, t5, t6, t7, num, till, A, m, c, adds, e4, hc, hm, hr, _⟩ := trod_raise f4
  clear f0 f1 f2 f3 f4 hf
  have d1 : Try.prog.cellsOf 3 = 1 := by kernel_rfl
  have d4 : Try.prog.cellsOf 33 = 11 := by kernel_rfl
  obtain ⟨c0, c1, c2, c3, c4, c5, c6, c7, c8, c9, c10, c11, c12, c13, c14, rfl⟩ := list15 hl'
  clear h hl hl'
  simp [d1, d4] at e0 e1 e2 e3 e4
  obtain ⟨rfl, rfl, rfl, rfl, rfl, rfl, rfl, rfl, rfl, rfl, rfl⟩ := e4
  subst e0 e1 e2 e3
  exact ⟨a0, a1, a2, a3, t0, t1, t2, t3, t4, t5, t6, t7, num, till, A, m, c, adds, rfl, hc, hr⟩
set_option maxRecDepth 100000 in
theorem open_acts {v : Value} {d : DataW H} {p : List MemPlace} (hv : Value.okWide Try.prog W r b0 23 v) (h : DataW.Trod enc Try.prog W base spare held 23 v d p) :
    ∃ (A : Option Addr) (n c : Nat) (ys : List Value), v = .slice A n c ∧ n ≤ c ∧ c ≤ maxLen ∧ Reads W W.heap.size 15 A n ys ∧ ∀ i, i < n → ActC W W.heap.size ((ys.drop (i * 15)).take 15) := by
  obtain ⟨a0, len0, cap0, rfl⟩ := okWide_slice Try.underlying23 hv
  obtain ⟨fuel, hf⟩ := h
  obtain ⟨A, len, cap, xs, q, hl, hm, hr, _, hx⟩ := open_rows (s := 15) Try.underlying23 (by kernel_rfl) (by omega) hf
  simp [Value.cells] at q
  obtain ⟨rfl, rfl, rfl⟩ := q
  exact ⟨_, _, _, xs, rfl, hl, hm, hr, fun i hi => by
    obtain ⟨n', y, _, hy⟩ := hx i hi
    exact trod_act hy⟩
set_option maxRecDepth 100000 in
theorem open_act {v : Value} {d : DataW H} {p : List MemPlace} (hv : Value.okWide Try.prog W r b0 35 v) (h : DataW.Trod enc Try.prog W base spare held 35 v d p) :
    ∃ cs, v = .agg cs ∧ ActC W W.heap.size cs.toList := by
  obtain ⟨cs, rfl, hsz⟩ := okWide_struct Try.underlying35 hv
  obtain ⟨fuel, hf⟩ := h
  exact ⟨cs, rfl, trod_act hf⟩
set_option maxRecDepth 100000 in
theorem open_raise {v : Value} {d : DataW H} {p : List MemPlace} (hv : Value.okWide Try.prog W r b0 33 v) (h : DataW.Trod enc Try.prog W base spare held 33 v d p) :
    ∃ cs, v = .agg cs ∧ RaiseC W W.heap.size cs.toList := by
  obtain ⟨cs, rfl, hsz⟩ := okWide_struct Try.underlying33 hv
  obtain ⟨fuel, hf⟩ := h
  exact ⟨cs, rfl, trod_raise hf⟩
end
end Go.Proofs.Ytdbffjipoiphpaa
