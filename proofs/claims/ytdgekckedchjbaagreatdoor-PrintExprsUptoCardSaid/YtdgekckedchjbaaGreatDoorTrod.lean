
/-
  Arguments that are slices of structs, opened to what the walks ask. No program is named here.
-/
import Derived.Test.YtdgekckedchjbaaGreatDoorQA
import Derived.ProofKit
import Derived.OpenShut
import Derived.ShutString
import Derived.ChangeOld
import Derived.Deep.Slices
import Derived.Deep.Fields
import Derived.ChangeSame
import Derived.SizedLaws
namespace Go.Proofs.YtdgekckedchjbaaGreatDoor
open Go.ChangeShapes Go.WideShapes Go.ChangeAt Go.RowKit Go.Deep

theorem range_i64 {a : Int} (h : (Lit.int .i64 a).wf = true) : -9223372036854775808 ≤ a ∧ a ≤ 9223372036854775807 := by
  have := bounds_i64 h
  omega
theorem lt_of_cell {W : World} {ad : Addr} {v : Value} (h : W.cell? ad = some v) : ad.block < W.heap.size := by
  rcases Nat.lt_or_ge ad.block W.heap.size with h1 | h1
  · exact h1
  · simp [World.cell?, Array.getElem?_eq_none h1] at h

section
variable {H : Type} {enc : TypeId × Value → H} {P : Program} {W : World} {base : Nat} {spare : Nat → Bool} {held : Bool}
/-- A slice opened: its cells, and that each element can be read. -/
theorem open_rows {t e : TypeId} {fuel s : Nat} {cs : List Value} {x : DataW H × List MemPlace} (ht : P.underlying t = some (.slice e)) (hC : P.cellsOf e = s) (hs : 0 < s) (h : DataW.trod enc P W base spare held fuel t cs = some x) :
    ∃ (A : Option Addr) (len cap : Nat) (xs : List Value), cs = [.slice A len cap] ∧ len ≤ cap ∧ cap ≤ maxLen ∧ Reads W W.heap.size s A len xs ∧ ((x.1 = .nil ∧ len = 0) ∨ ∃ el sp, x.1 = .slice el sp ∧ el.length = len) ∧
      ∀ i, i < len → ∃ n y, fuel = n + 1 ∧ DataW.trod enc P W base spare held n e ((xs.drop (i * s)).take s) = some y := by
  rcases DataW.trod_slice ht h with ⟨h0, hx0⟩ | ⟨a, len, cap, elems, rest, n, hf, hcs, hx0, _, hl, hm, hlen, hel, _, _⟩
  · exact ⟨none, 0, 0, [], h0, Nat.le_refl _, by unfold maxLen; omega, Reads.none_, .inl ⟨by rw [hx0], rfl⟩, fun i hi => absurd hi (by omega)⟩
  · rw [hC] at hel
    have hex : ∀ i, i < len → ∃ c y, W.cells? base (a.add (i * s)) s = some c ∧ DataW.trod enc P W base spare held n e c = some y := by
      intro i hi
      have h1 := hel i hi
      rw [List.getElem?_eq_getElem (by omega)] at h1
      obtain ⟨c, h2, h3⟩ := Option.bind_eq_some_iff.1 h1
      exact ⟨c, _, h2, h3⟩
    have hcell : ∀ j, j < len * s → ∃ v, W.cell? (a.add j) = some v := by
      intro j hj
      have hi : j / s < len := Nat.div_lt_of_lt_mul (by rw [Nat.mul_comm]; exact hj)
      obtain ⟨c, _, hc, _⟩ := hex (j / s) hi
      obtain ⟨_, hcl, hat⟩ := World.cells?_some hc
      have hm' : j % s < s := Nat.mod_lt _ hs
      have := hat (j % s) hm'
      rw [add_of_add, Nat.mul_comm, Nat.div_add_mod, List.getElem?_eq_getElem (by omega)] at this
      exact ⟨_, this⟩
    have hxs : ∀ j, j < len * s → ((List.range (len * s)).map fun j => (W.cell? (a.add j)).getD undef)[j]? = W.cell? (a.add j) := by
      intro j hj
      obtain ⟨v, hv⟩ := hcell j hj
      simp [hj, hv]
    refine ⟨some a, len, cap, (List.range (len * s)).map fun j => (W.cell? (a.add j)).getD undef, hcs, hl, hm, ⟨by simp, fun hn => ⟨a, rfl, ?_, fun j u hu => ?_⟩⟩, .inr ⟨_, _, by rw [hx0], by simpa using hlen⟩, fun i hi => ?_⟩
    · obtain ⟨v, hv⟩ := hcell 0 (Nat.mul_pos hn hs)
      have := lt_of_cell hv
      rwa [block_of_add] at this
    · have hj : j < len * s := by
        rcases Nat.lt_or_ge j (len * s) with h1 | h1
        · exact h1
        · rw [List.getElem?_eq_none (by simpa using h1)] at hu
          cases hu
      rw [hxs j hj] at hu
      exact hu
    · obtain ⟨c, y, hc, hy⟩ := hex i hi
      obtain ⟨_, hcl, hat⟩ := World.cells?_some hc
      refine ⟨n, y, hf, ?_⟩
      have e : ((((List.range (len * s)).map fun j => (W.cell? (a.add j)).getD undef).drop (i * s)).take s) = c := by
        refine List.ext_getElem? fun j => ?_
        rw [List.getElem?_take]
        split
        · rename_i hj
          rw [List.getElem?_drop, hxs _ (by
            have h1 : i * s + s = (i + 1) * s := by rw [Nat.add_mul, Nat.one_mul]
            have h2 : (i + 1) * s ≤ len * s := Nat.mul_le_mul_right _ hi
            omega), ← add_of_add]
          exact hat j hj
        · rw [List.getElem?_eq_none (by omega)]
      rw [e]
      exact hy
theorem sz_rows {ts : List TypeId} {ds : List (DataW H)} (hsz : (DataW.weightsEach P ts ds).all (· ≤ reachBytes) = true) (j : Nat) {t e : TypeId} {d : DataW H} {len b : Nat} (ht : ts[j]? = some t) (hd : ds[j]? = some d) (hu : P.underlying t = some (.slice e))
    (hD : (d = .nil ∧ len = 0) ∨ ∃ el sp, d = .slice el sp ∧ el.length = len) (hb : P.bytesOf e = b) : len * b ≤ 140737488351232 := by
  rcases hD with ⟨_, rfl⟩ | ⟨el, sp, rfl, rfl⟩
  · omega
  · have := sized_slice hsz ht hd hu
    rw [hb] at this
    have h2 : el.length * b ≤ (el.length + sp.length) * b := Nat.mul_le_mul_right _ (by omega)
    simp only [reachBytes] at this
    omega
/-- A struct of one-cell fields opened. -/
theorem open_struct {e : TypeId} {fs : Array Field} {fuel : Nat} {cs : List Value} {x : DataW H × List MemPlace} (he : P.underlying e = some (.struct fs)) (hone : oneCellFields P fs = true) (hC : P.cellsOf e = fs.size)
    (h : DataW.trod enc P W base spare held fuel e cs = some x) :
    ∃ n, fuel = n + 1 ∧ cs.length = fs.size ∧ ∀ (j : Nat) (f : Field), fs[j]? = some f → ∃ (v : Value) (y : DataW H × List MemPlace), cs[j]? = some v ∧ DataW.trod enc P W base spare held n f.type [v] = some y := by
  obtain ⟨ys, n', hn', hy, hlen, hyl, hf⟩ := DataW.trod_struct he h
  rw [hC] at hlen
  refine ⟨n', hn', hlen, fun j f hj => ?_⟩
  obtain ⟨ho, hk⟩ := hone_of hone j f hj
  have hjl : j < fs.size := (Array.getElem?_eq_some_iff.1 hj).1
  have h1 := hf j f hj
  rw [ho, hk] at h1
  have hone' : (cs.drop j).take 1 = [cs[j]'(by omega)] := by
    rw [List.drop_eq_getElem_cons (by omega)]
    rfl
  rw [hone'] at h1
  exact ⟨_, _, List.getElem?_eq_getElem (by omega), h1.trans (List.getElem?_eq_getElem (by omega))⟩
end
end Go.Proofs.YtdgekckedchjbaaGreatDoor
