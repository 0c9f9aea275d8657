
/-
  Entries that come in, opened to what the walks ask.
-/
import Derived.Test.YtidppcaohkfnfaaTrod
import Derived.Test.YtidppcaohkfnfaaK16
namespace Go.Proofs.Ytidppcaohkfnfaa
open Go.ChangeShapes Go.WideShapes Go.ChangeAt Go.RowKit Go.Deep

/-- The bytes that numbers of kind u8 are. -/
def bytesOf (zs : List Int) : List UInt8 := zs.map fun z => UInt8.ofNat z.toNat
theorem B8_bytesOf {zs : List Int} (h : ∀ n ∈ zs, (Lit.int .u8 n).wf = true) : B8 (bytesOf zs) = zs.map (Value.int .u8) := by
  unfold B8 bytesOf
  rw [List.map_map]
  refine List.map_congr_left fun z hz => ?_
  have := bounds_u8 (h z hz)
  simp only [Function.comp]
  rw [UInt8.toNat_ofNat']
  congr 1
  omega

section
variable {H : Type} {enc : TypeId × Value → H} {P : Program} {W : World} {base b0 : Nat} {spare : Nat → Bool} {held : Bool} {r : Reach}
theorem open_bytes {t e : TypeId} {v : Value} {d : DataW H} {p : List MemPlace} (ht : P.underlying t = some (.slice e)) (he : P.underlying e = some (.int .u8)) (hc : P.cellsOf e = 1)
    (hv : Value.okWide P W r b0 t v) (h : DataW.Trod enc P W base spare held t v d p) :
    ∃ (A : Option Addr) (n c : Nat) (l : List UInt8), v = .slice A n c ∧ n ≤ c ∧ c ≤ maxLen ∧ RB W A n l := by
  obtain ⟨a0, len0, cap0, rfl⟩ := okWide_slice ht hv
  obtain ⟨fuel, hf⟩ := h
  rcases open_ints ht he hc hf with ⟨hcs, _⟩ | ⟨x, l, c, zs, hcs, _, hl, hm, hz, _, hcell, hwz⟩
  · simp [Value.cells] at hcs
    obtain ⟨rfl, rfl, rfl⟩ := hcs
    exact ⟨none, 0, 0, [], rfl, by omega, by unfold maxLen; omega, RB.none_⟩
  · simp [Value.cells] at hcs
    obtain ⟨rfl, rfl, rfl⟩ := hcs
    have hzl : len0 ≤ zs.length := by rw [hz]; split <;> omega
    have hwt : ∀ n ∈ zs.take len0, (Lit.int .u8 n).wf = true := fun n hn => hwz n (List.mem_of_mem_take hn)
    refine ⟨some x, len0, cap0, bytesOf (zs.take len0), rfl, hl, hm, ?_⟩
    unfold RB
    rw [B8_bytesOf hwt]
    refine ⟨by simp; omega, fun hn => ⟨x, rfl, ?_, fun j u hu => ?_⟩⟩
    · have := lt_of_cell (hcell 0 (by omega))
      rwa [block_of_add] at this
    · rw [List.getElem?_map] at hu
      obtain ⟨z, hz', rfl⟩ := Option.map_eq_some_iff.1 hu
      rw [List.getElem?_take] at hz'
      split at hz'
      · rename_i hj
        rw [hcell j (by omega)]
        simp [List.getD, hz']
      · cases hz'
end

section
variable {H : Type} {enc : TypeId × Value → H} {P : Program} {W : World} {base b0 : Nat} {spare : Nat → Bool} {held : Bool} {r : Reach}
theorem open_fields {e : TypeId} {fs : Array Field} {fuel : Nat} {cs : List Value} {x : DataW H × List MemPlace} (he : P.underlying e = some (.struct fs)) (h : DataW.trod enc P W base spare held fuel e cs = some x) :
    ∃ n, fuel = n + 1 ∧ cs.length = P.cellsOf e ∧ ∀ (j : Nat) (f : Field), fs[j]? = some f → ∃ y : DataW H × List MemPlace, DataW.trod enc P W base spare held n f.type ((cs.drop f.offset).take (P.cellsOf f.type)) = some y := by
  obtain ⟨ys, n', hn', hy, hlen, hyl, hf⟩ := DataW.trod_struct he h
  refine ⟨n', hn', hlen, fun j f hj => ?_⟩
  have hjl : j < fs.size := (Array.getElem?_eq_some_iff.1 hj).1
  exact ⟨_, (hf j f hj).trans (List.getElem?_eq_getElem (by omega))⟩
theorem trod_bytes {t e : TypeId} {fuel : Nat} {cs : List Value} {x : DataW H × List MemPlace} (ht : P.underlying t = some (.slice e)) (he : P.underlying e = some (.int .u8)) (hc : P.cellsOf e = 1)
    (h : DataW.trod enc P W base spare held fuel t cs = some x) :
    ∃ (A : Option Addr) (n c : Nat) (l : List UInt8), cs = [.slice A n c] ∧ n ≤ c ∧ c ≤ maxLen ∧ RB W A n l := by
  rcases open_ints ht he hc h with ⟨hcs, _⟩ | ⟨x, l, c, zs, hcs, _, hl, hm, hz, _, hcell, hwz⟩
  · exact ⟨none, 0, 0, [], hcs, by omega, by unfold maxLen; omega, RB.none_⟩
  · have hzl : l ≤ zs.length := by rw [hz]; split <;> omega
    have hwt : ∀ n ∈ zs.take l, (Lit.int .u8 n).wf = true := fun n hn => hwz n (List.mem_of_mem_take hn)
    refine ⟨some x, l, c, bytesOf (zs.take l), hcs, hl, hm, ?_⟩
    unfold RB
    rw [B8_bytesOf hwt]
    refine ⟨by simp; omega, fun hn => ⟨x, rfl, ?_, fun j u hu => ?_⟩⟩
    · have := lt_of_cell (hcell 0 (by omega))
      rwa [block_of_add] at this
    · rw [List.getElem?_map] at hu
      obtain ⟨z, hz', rfl⟩ := Option.map_eq_some_iff.1 hu
      rw [List.getElem?_take] at hz'
      split at hz'
      · rename_i hj
        rw [hcell j (by omega)]
        simp [List.getD, hz']
      · cases hz'
end
theorem list3 {α : Type} {l : List α} (h : l.length = 3) : ∃ a0 a1 a2, l = [a0, a1, a2] := by
  match l, h with
  | [a0, a1, a2], _ => exact ⟨_, _, _, rfl⟩
theorem rows_ents {W : World} : ∀ (n : Nat) (xs : List Value), xs.length = n * 3 → (∀ i, i < n → ∃ m : Me, (xs.drop (i * 3)).take 3 = m.cells ∧ m.Ok (fun k => k < W.heap.size) W) → ∃ ms : List Me, ms.length = n ∧ xs = meCells ms ∧ ∀ m ∈ ms, m.Ok (fun k => k < W.heap.size) W
  | 0, xs, hl, _ => ⟨[], rfl, by simpa [meCells] using hl, by simp⟩
  | n + 1, xs, hl, h => by
    obtain ⟨t, ht, hb⟩ := h 0 (by omega)
    obtain ⟨tt, h1, h2, h3⟩ := rows_ents n (xs.drop 3) (by rw [List.length_drop]; omega) (fun i hi => by
      have := h (i + 1) (by omega)
      rw [show (i + 1) * 3 = 3 + i * 3 by omega, ← List.drop_drop] at this
      exact this)
    refine ⟨t :: tt, by rw [List.length_cons, h1], ?_, ?_⟩
    · have e : xs = xs.take 3 ++ xs.drop 3 := (List.take_append_drop 3 xs).symm
      rw [Nat.zero_mul, List.drop_zero] at ht
      rw [e, ht, h2]
      rfl
    · intro u hu
      rcases List.mem_cons.1 hu with rfl | hu
      · exact hb
      · exact h3 u hu

section
variable {H : Type} {enc : TypeId × Value → H} {W : World} {base b0 : Nat} {spare : Nat → Bool} {held : Bool} {r : Reach}
set_option maxRecDepth 100000 in
theorem trod_ent {fuel : Nat} {cs : List Value} {x : DataW H × List MemPlace} (h : DataW.trod enc Try.prog W base spare held fuel 45 cs = some x) : ∃ m : Me, cs = m.cells ∧ m.Ok (fun k => k < W.heap.size) W := by
  obtain ⟨n, _, hl, hf⟩ := open_fields Try.underlying45 h
  have hl' : cs.length = 3 := hl.trans (by kernel_rfl)
  obtain ⟨y0, f0⟩ := hf 0 _ rfl
  obtain ⟨y1, f1⟩ := hf 1 _ rfl
  obtain ⟨y2, f2⟩ := hf 2 _ rfl
  obtain ⟨a0, e0, _, w0⟩ := DataW.trod_int Try.underlying3 f0
  obtain ⟨s1, e1, _, w1⟩ := DataW.trod_string Try.underlying9 f1
  obtain ⟨A, m, c, l, e2, hc, hm, hr⟩ := trod_bytes Try.underlying29 Try.underlying5 (by kernel_rfl) f2
  clear f0 f1 f2 hf
  have d1 : Try.prog.cellsOf 3 = 1 := by kernel_rfl
  have d2 : Try.prog.cellsOf 9 = 1 := by kernel_rfl
  have d3 : Try.prog.cellsOf 29 = 1 := by kernel_rfl
  obtain ⟨c0, c1, c2, rfl⟩ := list3 hl'
  clear h hl hl'
  simp [d1, d2, d3] at e0 e1 e2
  subst e0 e1 e2
  have hb := range_i64 w0
  unfold maxLen at w1 hm
  exact ⟨⟨a0, s1, A, m, c, l⟩, rfl, ⟨hb.1, hb.2, w1, hc, hm, (RIn.of_rb hr).mono (fun k hk _ => hk)⟩⟩
set_option maxRecDepth 100000 in
theorem open_ents {v : Value} {d : DataW H} {p : List MemPlace} (hv : Value.okWide Try.prog W r b0 22 v) (h : DataW.Trod enc Try.prog W base spare held 22 v d p) :
    ∃ (A : Option Addr) (n c : Nat) (ms : List Me), v = .slice A n c ∧ Ins W A n c ms := by
  obtain ⟨a0, len0, cap0, rfl⟩ := okWide_slice Try.underlying22 hv
  obtain ⟨fuel, hf⟩ := h
  obtain ⟨A, n, c, xs, hcs, h1, h2, h3, _, h5⟩ := open_rows Try.underlying22 (show Try.prog.cellsOf 45 = 3 by kernel_rfl) (by omega) hf
  simp [Value.cells] at hcs
  obtain ⟨rfl, rfl, rfl⟩ := hcs
  obtain ⟨ms, ht, rfl, hb⟩ := rows_ents (W := W) _ xs h3.1 (fun i hi => by
    obtain ⟨m, y, _, hy⟩ := h5 i hi
    exact trod_ent hy)
  unfold maxLen at h2
  exact ⟨_, _, _, ms, rfl, ⟨h3, ht.symm, h1, h2, hb⟩⟩
set_option maxRecDepth 100000 in
theorem open_ent {v : Value} {d : DataW H} {p : List MemPlace} (hv : Value.okWide Try.prog W r b0 45 v) (h : DataW.Trod enc Try.prog W base spare held 45 v d p) :
    ∃ m : Me, v = m.val ∧ m.Ok (fun k => k < W.heap.size) W := by
  obtain ⟨cs, rfl, hsz⟩ := okWide_struct Try.underlying45 hv
  obtain ⟨fuel, hf⟩ := h
  obtain ⟨m, h1, h2⟩ := trod_ent hf
  refine ⟨m, ?_, h2⟩
  have h3 : cs.toList = m.cells := h1
  have h4 : cs = m.cells.toArray := by rw [← h3]
  rw [h4]
  rfl
end
end Go.Proofs.Ytidppcaohkfnfaa
