/-
  Slices of statements, cut and joined.
-/
import Derived.Test.YtenpdmahjefoaaaBIf
import Derived.Test.YtenpdmahjefoaaaStep
namespace Go.Proofs.Ytenpdmahjefoaaa
open Go.RowKit

section
variable {w w' : World} {B s len len' : Nat} {Q : List Value → Nat → Prop} {A A' : Option Addr} {ks ls : List Nat}
theorem Els.upto (h : Els w B s Q A len ks) {k : Nat} (hk : k ≤ len) : Els w B s Q A k (ks.take k) := by
  obtain ⟨xs, h1, h2, h3, h4⟩ := h
  refine ⟨_, h1.upto hk, by omega, by simp; omega, fun i hi => ?_⟩
  have hi' : i < k := by have : i < (ks.take k).length := hi
                         simp at this; omega
  have e : ((xs.take (k * s)).drop (i * s)).take s = (xs.drop (i * s)).take s := by
    rw [List.drop_take, List.take_take]
    congr 1
    have h5 : (i + 1) * s ≤ k * s := Nat.mul_le_mul_right _ hi'
    rw [Nat.add_mul, Nat.one_mul] at h5
    omega
  rw [e]
  have := h4 i (by omega)
  simpa using this
theorem Els.cut (h : Els w B s Q A len ks) {k cap : Nat} (hk : k ≤ len) (hc : len ≤ cap) : Els w B s Q (if cap = k then A else A.map (·.add (k * s))) (len - k) (ks.drop k) := by
  obtain ⟨xs, h1, h2, h3, h4⟩ := h
  refine ⟨_, h1.cut hk hc, by omega, by simp; omega, fun i hi => ?_⟩
  have hi' : i < (ks.drop k).length := hi
  simp at hi'
  rw [List.drop_drop, ← Nat.add_mul]
  have := h4 (k + i) (by omega)
  simpa using this
/-- Two lists of cells, one behind the other. -/
theorem Els.join {xs ys : List Value} (hr : Reads w B s A' (len + len') (xs ++ ys)) (hl : len + len' ≤ 9223372036854775807) (hx : xs.length = len * s) (h3 : ks.length = len) (h4 : ls.length = len')
    (h5 : ∀ i (h : i < ks.length), Q ((xs.drop (i * s)).take s) (ks[i]'h)) (h6 : ∀ i (h : i < ls.length), Q ((ys.drop (i * s)).take s) (ls[i]'h)) : Els w B s Q A' (len + len') (ks ++ ls) := by
  refine ⟨_, hr, hl, by simp; omega, fun i hi => ?_⟩
  by_cases hik : i < ks.length
  · have e : ((xs ++ ys).drop (i * s)).take s = (xs.drop (i * s)).take s := by
      have h7 : (i + 1) * s ≤ len * s := Nat.mul_le_mul_right _ (by omega)
      rw [Nat.add_mul, Nat.one_mul] at h7
      rw [List.drop_append_of_le_length (by omega), List.take_append_of_le_length (by simp; omega)]
    rw [e, List.getElem_append_left hik]
    exact h5 i hik
  · have hi' : i < ks.length + ls.length := by simpa using hi
    have e : ((xs ++ ys).drop (i * s)).take s = (ys.drop ((i - ks.length) * s)).take s := by
      have h7 : i * s = len * s + (i - ks.length) * s := by rw [← Nat.add_mul]; congr 1; omega
      rw [h7, ← List.drop_drop, List.drop_left' hx]
    rw [e, List.getElem_append_right (by omega)]
    exact h6 _ (by omega)
end
theorem SC_one {w : World} {B n k : Nat} {cs : List Value} (h : SC w B n cs k) : ∀ u ∈ cs, u.oneCell' = true := by
  obtain ⟨kind, lo, hi, nm, A0, A1, A2, l0, l1, l2, c0, c1, c2, rfl⟩ := SC_form h
  intro u hu
  simp at hu
  rcases hu with rfl | rfl | rfl | rfl | rfl | rfl | rfl <;> rfl
theorem SC_ones {w : World} {B n len : Nat} {xs : List Value} {ks : List Nat} (hx : xs.length = len * 7) (hk : ks.length = len) (h : ∀ i (h : i < ks.length), SC w B n ((xs.drop (i * 7)).take 7) (ks[i]'h)) : ∀ u ∈ xs, u.oneCell' = true := by
  intro u hu
  obtain ⟨j, hj, rfl⟩ := List.getElem_of_mem hu
  have hi : j / 7 < ks.length := by omega
  refine SC_one (h (j / 7) hi) _ ?_
  have e : ((xs.drop (j / 7 * 7)).take 7)[j % 7]? = some xs[j] := by
    rw [List.getElem?_take, if_pos (by omega), List.getElem?_drop, show j / 7 * 7 + j % 7 = j from by omega]
    exact List.getElem?_eq_getElem hj
  exact List.mem_of_getElem? e
end Go.Proofs.Ytenpdmahjefoaaa
