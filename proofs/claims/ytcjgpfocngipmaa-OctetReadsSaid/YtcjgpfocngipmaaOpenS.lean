/-
  An argument that is a slice of structs, opened: the reads that the law OctetReads is told.
-/
import Derived.Test.YtcjgpfocngipmaaOpen
import Derived.Test.YtcjgpfocngipmaaReads
import Derived.Deep.Slices
import Derived.Deep.Fields
namespace Go.Proofs.Ytcjgpfocngipmaa
open Go.ChangeShapes Go.WideShapes Go.ChangeAt Go.RowKit Go.Deep

section
variable {H : Type} {enc : TypeId × Value → H} {P : Program} {w : World} {base b0 : Nat} {spare : Nat → Bool} {held : Bool} {r : Reach}
theorem open_slice_fields {t e : TypeId} {fs : Array Field} {fuel : Nat} {cs : List Value} {x : DataW H × List MemPlace} (ht : P.underlying t = some (.slice e)) (he : P.underlying e = some (.struct fs))
    (hone : oneCellFields P fs = true) (hC : P.cellsOf e = fs.size) (h : DataW.trod enc P w base spare held fuel t cs = some x) :
    (cs = [.slice none 0 0] ∧ x = (.nil, [])) ∨
    ∃ (a : Addr) (len cap m : Nat), cs = [.slice (some a) len cap] ∧ len ≤ cap ∧ cap ≤ maxLen ∧ m = (if spare a.block then cap else len) ∧
      ∀ i, i < m → ∃ (ys : List (DataW H × List MemPlace)) (n : Nat),
        ∀ (j : Nat) (f : Field), fs[j]? = some f → ∃ (v : Value) (y : DataW H × List MemPlace), w.cell? (a.add (i * fs.size + j)) = some v ∧ ys[j]? = some y ∧ DataW.trod enc P w base spare held n f.type [v] = some y := by
  rcases open_slice ht h with h0 | ⟨a, len, cap, m, n, D, Pl, hcs, hb, hl, hm, hmm, hx, hi⟩
  · exact .inl h0
  · refine .inr ⟨a, len, cap, m, hcs, hl, hm, hmm, fun i him => ?_⟩
    obtain ⟨cs', hc, ht'⟩ := hi i him
    rw [hC] at hc
    obtain ⟨ys, n', hn', hy, hlen, hyl, hf⟩ := DataW.trod_struct he ht'
    obtain ⟨_, hcl, hat⟩ := World.cells?_some hc
    refine ⟨ys, n', fun j f hj => ?_⟩
    obtain ⟨ho, hk⟩ := hone_of hone j f hj
    have hjl : j < fs.size := (Array.getElem?_eq_some_iff.1 hj).1
    have hcell := hat j hjl
    have hv : cs'[j]? = some (cs'[j]'(by omega)) := List.getElem?_eq_getElem (by omega)
    have h1 := hf j f hj
    rw [ho, hk] at h1
    have hone' : (cs'.drop j).take 1 = [cs'[j]'(by omega)] := by
      rw [List.drop_eq_getElem_cons (by omega)]
      rfl
    rw [hone'] at h1
    have hys : ys[j]? = some (ys[j]'(by omega)) := List.getElem?_eq_getElem (by omega)
    refine ⟨_, _, ?_, hys, h1.trans hys⟩
    rw [← Go.Deep.add_add, hcell, hv]
end

theorem skolem {α : Type} [Inhabited α] {n : Nat} {P : Nat → α → Prop} (h : ∀ i, i < n → ∃ a, P i a) : ∃ l : List α, l.length = n ∧ ∀ i (hi : i < l.length), P i (l[i]'hi) := by
  induction n with
  | zero => exact ⟨[], rfl, fun i hi => by simp at hi⟩
  | succ n ih =>
    obtain ⟨l, hl, hp⟩ := ih (fun i hi => h i (by omega))
    obtain ⟨a, ha⟩ := h n (by omega)
    refine ⟨l ++ [a], by simp [hl], fun i hi => ?_⟩
    by_cases hin : i < l.length
    · rw [List.getElem_append_left hin]; exact hp i hin
    · have : i = l.length := by simp at hi; omega
      subst this
      simp only [List.getElem_concat_length]
      rw [hl]
      exact ha

theorem open_acts {H : Type} {enc : TypeId × Value → H} {W : World} {base b0 : Nat} {spare : Nat → Bool} {held : Bool} {r : Reach} {v : Value} {d : DataW H} {p : List MemPlace}
    (hv : Value.okWide Try.prog W r b0 49 v) (h : DataW.Trod enc Try.prog W base spare held 49 v d p) :
    ∃ (A : Option Addr) (n c : Nat) (acts : List (Int × Int × Nat)), v = .slice A n c ∧ RA W A n acts ∧ ∀ a ∈ acts, a.2.1 ≤ 9223372036854775807 := by
  obtain ⟨a0, len0, cap0, rfl⟩ := okWide_slice Try.underlying49 hv
  obtain ⟨fuel, hf⟩ := h
  rcases open_slice_fields Try.underlying49 Try.underlying53 (by kernel_rfl) (by kernel_rfl) hf with ⟨hcs, _⟩ | ⟨x, l, c, m, hcs, hl, hm, hmm, hi⟩
  · simp [Value.cells] at hcs
    obtain ⟨rfl, rfl, rfl⟩ := hcs
    exact ⟨none, 0, 0, [], rfl, ⟨rfl, fun k hk => by simp at hk⟩, fun a ha => by simp at ha⟩
  · simp [Value.cells] at hcs
    obtain ⟨rfl, rfl, rfl⟩ := hcs
    have hlm : len0 ≤ m := by rw [hmm]; split <;> omega
    have hone : ∀ i, i < len0 → ∃ t : Int × Int × Nat, (W.cell? (x.add (i * 3)) = some (.int .i64 t.1) ∧ W.cell? (x.add (i * 3 + 1)) = some (.int .i64 t.2.1) ∧ W.cell? (x.add (i * 3 + 2)) = some (.int .u64 (t.2.2 : Int))) ∧ t.2.1 ≤ 9223372036854775807 := by
      intro i hil
      obtain ⟨ys, n, hfld⟩ := hi i (by omega)
      obtain ⟨v0, y0, hc0, _, ht0⟩ := hfld 0 _ rfl
      obtain ⟨v1, y1, hc1, _, ht1⟩ := hfld 1 _ rfl
      obtain ⟨v2, y2, hc2, _, ht2⟩ := hfld 2 _ rfl
      obtain ⟨z0, e0, _, w0⟩ := DataW.trod_int Try.underlying3 ht0
      obtain ⟨z1, e1, _, w1⟩ := DataW.trod_int Try.underlying3 ht1
      obtain ⟨z2, e2, _, w2⟩ := DataW.trod_int Try.underlying22 ht2
      simp at e0 e1 e2
      subst e0 e1 e2
      obtain ⟨n2, rfl, _⟩ := nat_of_u64 w2
      exact ⟨(z0, z1, n2), ⟨hc0, hc1, hc2⟩, (range_i64 w1).2⟩
    obtain ⟨acts, hal, hap⟩ := skolem hone
    refine ⟨some x, len0, cap0, acts, rfl, ⟨hal.symm, fun k hk => ?_⟩, fun a ha => ?_⟩
    · have h0 := (hap k hk).1
      have hspot := World.cell?_spot (hap 0 (by omega)).1.1
      obtain ⟨b, o, spot⟩ := x
      have hs : spot = none := by simpa [Addr.add] using hspot
      subst hs
      simp only [Addr.add_lit] at h0
      refine ⟨b, o, rfl, lt_of_cell h0.1, h0.1, ?_, ?_⟩
      · rw [Nat.add_assoc]; exact h0.2.1
      · rw [Nat.add_assoc]; exact h0.2.2
    · obtain ⟨i, hi', rfl⟩ := List.getElem_of_mem ha
      exact (hap i hi').2
end Go.Proofs.Ytcjgpfocngipmaa
