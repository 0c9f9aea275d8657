/-
  The arguments of a law opened to what the walks ask: numbers, bytes, texts.
-/
import Derived.Test.YtcjgpfocngipmaaOctet
import Derived.ProofKit
import Derived.OpenShut
import Derived.ShutString
import Derived.ChangeOld
namespace Go.Proofs.Ytcjgpfocngipmaa
open Go.ChangeShapes Go.WideShapes Go.ChangeAt Go.RowKit
open Go.ChangeMaps (open_string shut_string)

theorem nat_of_u64 {a : Int} (h : (Lit.int .u64 a).wf = true) : ∃ n : Nat, a = (n : Int) ∧ U64 n := by
  have := bounds_u64 h
  exact ⟨a.toNat, by omega, by unfold U64; omega⟩
theorem range_i64 {a : Int} (h : (Lit.int .i64 a).wf = true) : -9223372036854775808 ≤ a ∧ a ≤ 9223372036854775807 := by
  have := bounds_i64 h
  omega

theorem lt_of_cell {W : World} {ad : Addr} {v : Value} (h : W.cell? ad = some v) : ad.block < W.heap.size := by
  rcases Nat.lt_or_ge ad.block W.heap.size with h1 | h1
  · exact h1
  · simp [World.cell?, Array.getElem?_eq_none h1] at h

/-- The bytes that numbers of kind u8 are. -/
def bytesOf (zs : List Int) : List UInt8 := zs.map fun z => UInt8.ofNat z.toNat
theorem B8_bytesOf {zs : List Int} (h : ∀ n ∈ zs, (Lit.int .u8 n).wf = true) : B8 (bytesOf zs) = zs.map (Value.int .u8) := by
  unfold B8 bytesOf
  rw [List.map_map]
  refine List.map_congr_left fun z hz => ?_
  have := bounds_u8 (h z hz)
  simp only [Function.comp]
  rw [UInt8.toNat_ofNat']
  congr 1
  omega

section
variable {H : Type} {enc : TypeId × Value → H} {P : Program} {W : World} {base b0 : Nat} {spare : Nat → Bool} {held : Bool} {r : Reach}
theorem open_bytes {t e : TypeId} {v : Value} {d : DataW H} {p : List MemPlace} (ht : P.underlying t = some (.slice e)) (he : P.underlying e = some (.int .u8)) (hc : P.cellsOf e = 1)
    (hv : Value.okWide P W r b0 t v) (h : DataW.Trod enc P W base spare held t v d p) :
    ∃ (A : Option Addr) (n c : Nat) (l : List UInt8), v = .slice A n c ∧ n ≤ c ∧ c ≤ maxLen ∧ RB W A n l := by
  obtain ⟨a0, len0, cap0, rfl⟩ := okWide_slice ht hv
  obtain ⟨fuel, hf⟩ := h
  rcases open_ints ht he hc hf with ⟨hcs, _⟩ | ⟨x, l, c, zs, hcs, _, hl, hm, hz, _, hcell, hwz⟩
  · simp [Value.cells] at hcs
    obtain ⟨rfl, rfl, rfl⟩ := hcs
    exact ⟨none, 0, 0, [], rfl, by omega, by unfold maxLen; omega, RB.none_⟩
  · simp [Value.cells] at hcs
    obtain ⟨rfl, rfl, rfl⟩ := hcs
    have hzl : len0 ≤ zs.length := by rw [hz]; split <;> omega
    have hwt : ∀ n ∈ zs.take len0, (Lit.int .u8 n).wf = true := fun n hn => hwz n (List.mem_of_mem_take hn)
    refine ⟨some x, len0, cap0, bytesOf (zs.take len0), rfl, hl, hm, ?_⟩
    unfold RB
    rw [B8_bytesOf hwt]
    refine ⟨by simp; omega, fun hn => ⟨x, rfl, ?_, fun j u hu => ?_⟩⟩
    · have := lt_of_cell (hcell 0 (by omega))
      rwa [block_of_add] at this
    · rw [List.getElem?_map] at hu
      obtain ⟨z, hz', rfl⟩ := Option.map_eq_some_iff.1 hu
      rw [List.getElem?_take] at hz'
      split at hz'
      · rename_i hj
        rw [hcell j (by omega)]
        simp [List.getD, hz']
      · cases hz'
end
end Go.Proofs.Ytcjgpfocngipmaa
