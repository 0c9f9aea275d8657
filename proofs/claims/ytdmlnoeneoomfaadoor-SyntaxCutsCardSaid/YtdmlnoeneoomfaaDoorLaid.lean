
/-
  The listed tables of blanks: what the condition gives the walks.
-/
import Derived.Test.YtdmlnoeneoomfaaDoorTie
import Derived.Test.YtdmlnoeneoomfaaDoorCards
import Derived.Test.YtdmlnoeneoomfaaDoorL5
import Derived.ProofKit
import Derived.LaidMore
import Derived.OpenShut
import Derived.Lay
import Derived.Stop.Joined
namespace Go.Proofs.YtdmlnoeneoomfaaDoor
open Go.ChangeShapes Go.WideShapes Go.ChangeAt Go.RowKit

/-- The lists of the rows. -/
def laidB : List (String × DataW Unit) := [("unicode.White_Space", Rows.laid_unicode_White_Space), ("strings.asciiSpace", Rows.laid_strings_asciiSpace)]
def spZ : List Int := (List.range 256).map fun c => if Lib.isSp (UInt8.ofNat c) then 1 else 0
theorem spZ_len : spZ.length = 256 := by simp [spZ]
theorem spZ_at (c : Nat) (h : c < 256) : spZ[c]'(by rw [spZ_len]; exact h) = if Lib.isSp (UInt8.ofNat c) then 1 else 0 := by simp [spZ]
theorem laid_spZ : Rows.laid_strings_asciiSpace (H := Unit) = .agg (spZ.map fun n => .lit (.int .u8 n)) := by kernel_rfl

theorem spaces_of_laid {W : World} (h : laidMetH Tryd.prog laidB W) : Spaces W := by
  rw [MakeChecks.laidMetH_plain _ _ _ (by kernel_rfl)] at h
  obtain ⟨ps, ⟨g0, t0, cs0, f0, p0, q0, hg0, ht0, hv0, hd0, ⟨g, t, cs, fuel, p, q, hg, ht, hv, hd, _, _⟩, _⟩, _, _⟩ := h
  obtain rfl := Option.some.inj ((show Tryd.prog.globalNamed "strings.asciiSpace" = some (Tryd.lays157_ren.g 0) by kernel_rfl).symm.trans hg)
  obtain rfl := Option.some.inj ((show (Tryd.prog.globals[Tryd.lays157_ren.g 0]?).map (·.type) = some 138 by kernel_rfl).symm.trans ht)
  obtain ⟨xs, m, _, ex, _, hl, hel⟩ := DataW.trod_array Tryd.underlying138 hd
  have c5 : Tryd.prog.cellsOf 5 = 1 := by kernel_rfl
  intro r hr
  have hE := hel r hr
  rw [c5, Nat.mul_one, List.getElem?_eq_getElem (by omega)] at hE
  obtain ⟨z, e1, e2, _⟩ := DataW.trod_int Tryd.underlying5 hE
  have e3 : (xs.map (·.1)) = spZ.map fun n => .lit (.int .u8 n) := (DataW.agg.inj (laid_spZ.symm.trans (Prod.mk.inj ex).1)).symm
  have e4 : (xs.map (·.1))[r]? = (spZ.map fun n => (DataW.lit (.int .u8 n) : DataW Unit))[r]? := by rw [e3]
  rw [List.getElem?_map, List.getElem?_map, List.getElem?_eq_getElem (by omega : r < xs.length), List.getElem?_eq_getElem (by rw [spZ_len]; exact hr : r < spZ.length), e2, spZ_at r hr] at e4
  have hz : z = if Lib.isSp (UInt8.ofNat r) then 1 else 0 := by
    simpa only [Option.map_some, Option.some.injEq, DataW.lit.injEq, Lit.int.injEq, true_and] using e4
  rw [World.var?_cell hg hv r, ← hz]
  have : cs.toList[r]? = some (.int .u8 z) := by
    have h0 : ((cs.toList.drop r).take 1)[0]? = some (.int .u8 z) := by rw [e1]; rfl
    simpa using h0
  simpa using this
end Go.Proofs.YtdmlnoeneoomfaaDoor
