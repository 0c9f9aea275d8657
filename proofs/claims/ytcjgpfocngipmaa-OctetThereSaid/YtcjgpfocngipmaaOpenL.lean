/-
  Arguments that are slices of numbers and of texts, opened to what the walks ask.
-/
import Derived.Test.YtcjgpfocngipmaaOpen
import Derived.Test.YtcjgpfocngipmaaKept
import Derived.SliceStrings
namespace Go.Proofs.Ytcjgpfocngipmaa
open Go.ChangeShapes Go.WideShapes Go.ChangeAt Go.RowKit
open Go.ChangeMaps (open_string shut_string)

section
variable {H : Type} {enc : TypeId × Value → H} {P : Program} {W : World} {base b0 : Nat} {spare : Nat → Bool} {held : Bool} {r : Reach}
theorem open_nums {t e : TypeId} {k : IntKind} {v : Value} {d : DataW H} {p : List MemPlace} (ht : P.underlying t = some (.slice e)) (he : P.underlying e = some (.int k)) (hc : P.cellsOf e = 1)
    (hv : Value.okWide P W r b0 t v) (h : DataW.Trod enc P W base spare held t v d p) :
    ∃ (A : Option Addr) (n c : Nat) (zs : List Int), v = .slice A n c ∧ n ≤ c ∧ c ≤ maxLen ∧ RV W A n (zs.map (Value.int k)) ∧ ∀ z ∈ zs, (Lit.int k z).wf = true := by
  obtain ⟨a0, len0, cap0, rfl⟩ := okWide_slice ht hv
  obtain ⟨fuel, hf⟩ := h
  rcases open_ints ht he hc hf with ⟨hcs, _⟩ | ⟨x, l, c, zs, hcs, _, hl, hm, hz, _, hcell, hwz⟩
  · simp [Value.cells] at hcs
    obtain ⟨rfl, rfl, rfl⟩ := hcs
    exact ⟨none, 0, 0, [], rfl, by omega, by unfold maxLen; omega, Reads.none_, fun z hz => by simp at hz⟩
  · simp [Value.cells] at hcs
    obtain ⟨rfl, rfl, rfl⟩ := hcs
    have hzl : len0 ≤ zs.length := by rw [hz]; split <;> omega
    refine ⟨some x, len0, cap0, zs.take len0, rfl, hl, hm, ?_, fun z hz => hwz z (List.mem_of_mem_take hz)⟩
    refine ⟨by simp; omega, fun hn => ⟨x, rfl, ?_, fun j u hu => ?_⟩⟩
    · have := lt_of_cell (hcell 0 (by omega))
      rwa [block_of_add] at this
    · rw [List.getElem?_map] at hu
      obtain ⟨z, hz', rfl⟩ := Option.map_eq_some_iff.1 hu
      rw [List.getElem?_take] at hz'
      split at hz'
      · rename_i hj
        rw [hcell j (by omega)]
        simp [List.getD, hz']
      · cases hz'
theorem open_u64s {t e : TypeId} {v : Value} {d : DataW H} {p : List MemPlace} (ht : P.underlying t = some (.slice e)) (he : P.underlying e = some (.int .u64)) (hc : P.cellsOf e = 1)
    (hv : Value.okWide P W r b0 t v) (h : DataW.Trod enc P W base spare held t v d p) :
    ∃ (A : Option Addr) (n c : Nat) (ns : List Nat), v = .slice A n c ∧ n ≤ c ∧ c ≤ maxLen ∧ RV W A n (ns.map fun n : Nat => Value.int .u64 (n : Int)) ∧ ∀ n ∈ ns, U64 n := by
  obtain ⟨A, n, c, zs, h1, h2, h3, h4, h5⟩ := open_nums ht he hc hv h
  refine ⟨A, n, c, zs.map Int.toNat, h1, h2, h3, ?_, ?_⟩
  · rw [List.map_map]
    have e : zs.map (Value.int .u64) = zs.map ((fun n : Nat => Value.int .u64 (n : Int)) ∘ Int.toNat) := by
      refine List.map_congr_left fun z hz => ?_
      have := bounds_u64 (h5 z hz)
      simp only [Function.comp]
      congr 1
      omega
    rw [← e]
    exact h4
  · intro n hn
    obtain ⟨z, hz, rfl⟩ := List.mem_map.1 hn
    have := bounds_u64 (h5 z hz)
    unfold U64
    omega
theorem open_texts {t e : TypeId} {v : Value} {d : DataW H} {p : List MemPlace} (ht : P.underlying t = some (.slice e)) (he : P.underlying e = some .string) (hc : P.cellsOf e = 1)
    (hv : Value.okWide P W r b0 t v) (h : DataW.Trod enc P W base spare held t v d p) :
    ∃ (A : Option Addr) (n c : Nat) (ss : List ByteArray), v = .slice A n c ∧ n ≤ c ∧ c ≤ maxLen ∧ RV W A n (ss.map Value.string) ∧ ∀ s ∈ ss, s.size ≤ maxLen := by
  obtain ⟨a0, len0, cap0, rfl⟩ := okWide_slice ht hv
  obtain ⟨fuel, hf⟩ := h
  rcases open_strings ht he hc hf with ⟨hcs, _⟩ | ⟨x, l, c, zs, hcs, _, hl, hm, hz, _, hcell, hwz⟩
  · simp [Value.cells] at hcs
    obtain ⟨rfl, rfl, rfl⟩ := hcs
    exact ⟨none, 0, 0, [], rfl, by omega, by unfold maxLen; omega, Reads.none_, fun z hz => by simp at hz⟩
  · simp [Value.cells] at hcs
    obtain ⟨rfl, rfl, rfl⟩ := hcs
    have hzl : len0 ≤ zs.length := by rw [hz]; split <;> omega
    refine ⟨some x, len0, cap0, zs.take len0, rfl, hl, hm, ?_, fun z hz => hwz z (List.mem_of_mem_take hz)⟩
    refine ⟨by simp; omega, fun hn => ⟨x, rfl, ?_, fun j u hu => ?_⟩⟩
    · have := lt_of_cell (hcell 0 (by omega))
      rwa [block_of_add] at this
    · rw [List.getElem?_map] at hu
      obtain ⟨z, hz', rfl⟩ := Option.map_eq_some_iff.1 hu
      rw [List.getElem?_take] at hz'
      split at hz'
      · rename_i hj
        rw [hcell j (by omega)]
        simp [List.getD, hz']
      · cases hz'
end
end Go.Proofs.Ytcjgpfocngipmaa
