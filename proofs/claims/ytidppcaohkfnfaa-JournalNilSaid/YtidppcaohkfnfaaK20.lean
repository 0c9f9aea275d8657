
/-
  JournalCrash: the plain law of what is left.
-/
import Derived.Test.YtidppcaohkfnfaaK18
namespace Go.Proofs.Ytidppcaohkfnfaa
open Go.RowKit

/-- Where each entry ends. -/
def endsOf (es : List En) : List Nat := (List.range es.length).map fun i => (allB D8 (es.take (i + 1))).length
theorem endsOf_len (es : List En) : (endsOf es).length = es.length := by simp [endsOf]
theorem endsOf_at (es : List En) {i : Nat} (h : i < es.length) : (endsOf es)[i]'(by rw [endsOf_len]; exact h) = (allB D8 (es.take (i + 1))).length := by simp [endsOf]
theorem endsOf_snoc (es : List En) (x : En) : endsOf (es ++ [x]) = endsOf es ++ [(allB D8 (es ++ [x])).length] := by
  unfold endsOf
  rw [List.length_append, List.length_singleton, List.range_succ, List.map_append, List.map_singleton]
  congr 1
  · refine List.map_congr_left fun i hi => ?_
    have := List.mem_range.1 hi
    rw [List.take_append_of_le_length (by omega)]
  · rw [List.take_of_length_le (by rw [List.length_append, List.length_singleton]; exact Nat.le_refl _)]
/-- Of bytes that are cut off these many entries are whole. -/
structure Left (es : List En) (cut k h : Nat) : Prop where
  le : h ≤ k
  fits : (allB D8 (es.take h)).length ≤ cut
  over : ∀ i, h ≤ i → i < k → cut < (allB D8 (es.take (i + 1))).length
theorem Left.zero (es : List En) (cut : Nat) : Left es cut 0 0 := ⟨Nat.le_refl _, by simp [allB], fun i _ h => by omega⟩
theorem Left.yes {es : List En} {cut k h : Nat} (hc : (allB D8 (es.take (k + 1))).length ≤ cut) : Left es cut k h → Left es cut (k + 1) (k + 1) :=
  fun _ => ⟨Nat.le_refl _, hc, fun i h1 h2 => by omega⟩
theorem Left.no {es : List En} {cut k h : Nat} (hl : Left es cut k h) (hc : ¬ (allB D8 (es.take (k + 1))).length ≤ cut) : Left es cut (k + 1) h :=
  ⟨Nat.le_succ_of_le hl.le, hl.fits, fun i h1 h2 => by
    rcases Nat.lt_or_ge i k with h3 | h3
    · exact hl.over i h1 h3
    · obtain rfl : i = k := by omega
      omega⟩
theorem Left.opens {es : List En} {cut h : Nat} (hr : ∀ e ∈ es, e.Right) (hl : Left es cut es.length h) (hc : cut ≤ (allB D8 es).length) :
    Opens ((allB D8 es).take cut) (es.take h) (((allB D8 es).take cut).drop (allB D8 (es.take h)).length) ∧ (((allB D8 es).take cut).drop (allB D8 (es.take h)).length).length = cut - (allB D8 (es.take h)).length := by
  have hsplit : allB D8 es = allB D8 (es.take h) ++ allB D8 (es.drop h) := by rw [← allB_append, List.take_append_drop]
  have hf := hl.fits
  have hpre : ((allB D8 es).take cut).take (allB D8 (es.take h)).length = allB D8 (es.take h) := by
    rw [List.take_take, Nat.min_eq_left hf, hsplit, List.take_left]
  refine ⟨⟨?_, fun e he => hr e (List.mem_of_mem_take he), fun e he => ?_⟩, ?_⟩
  · conv => lhs; rw [← List.take_append_drop (allB D8 (es.take h)).length ((allB D8 es).take cut), hpre]
  · have hlen : (((allB D8 es).take cut).drop (allB D8 (es.take h)).length).length = cut - (allB D8 (es.take h)).length := by
      rw [List.length_drop, List.length_take, Nat.min_eq_left hc]
    have hlong := entryB_long e
    obtain ⟨he1, s, hs⟩ := he
    rw [hs, List.length_append] at hlen
    rcases Nat.lt_or_ge h es.length with hh | hh
    · have hov := hl.over h (Nat.le_refl _) hh
      have hd : es.drop h = es[h] :: es.drop (h + 1) := List.drop_eq_getElem_cons hh
      have h1 : allB D8 es = allB D8 (es.take h) ++ (entryB D8 es[h] ++ allB D8 (es.drop (h + 1))) := by
        rw [hsplit, hd]
        rfl
      have h2 : (allB D8 es).drop (allB D8 (es.take h)).length = entryB D8 es[h] ++ allB D8 (es.drop (h + 1)) := by rw [h1, List.drop_left]
      have h3 : (allB D8 (es.take (h + 1))).length = (allB D8 (es.take h)).length + (entryB D8 es[h]).length := by
        rw [List.take_succ_eq_append_getElem hh, allB_append, allB_one, List.length_append]
      rw [List.drop_take, h2] at hs
      have h4 : entryB D8 es[h] ++ allB D8 (es.drop (h + 1)) = entryB D8 e ++ (s ++ (entryB D8 es[h] ++ allB D8 (es.drop (h + 1))).drop (cut - (allB D8 (es.take h)).length)) := by
        rw [← List.append_assoc, ← hs, List.take_append_drop]
      obtain ⟨h5, h6⟩ := entryB_inj D8_length (hr _ (List.getElem_mem hh)).1 he1.1 h4
      rw [h5] at h3
      omega
    · have h1 : es.take h = es := List.take_of_length_le hh
      rw [h1] at hlen hf
      omega
  · rw [List.length_drop, List.length_take, Nat.min_eq_left hc]
end Go.Proofs.Ytidppcaohkfnfaa
