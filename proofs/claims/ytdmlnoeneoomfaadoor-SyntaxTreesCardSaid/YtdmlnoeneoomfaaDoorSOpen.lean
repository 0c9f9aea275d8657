
/-
  Arguments that are trees of the document, opened to what the walks ask.
-/
import Derived.Test.YtdmlnoeneoomfaaDoorTrod
import Derived.Test.YtdmlnoeneoomfaaDoorRows
import Derived.Test.YtdmlnoeneoomfaaDoorS14
namespace Go.Proofs.YtdmlnoeneoomfaaDoor
open Go.ChangeShapes Go.WideShapes Go.ChangeAt Go.RowKit Go.Deep

section
variable {H : Type} {enc : TypeId × Value → H} {W : World} {base : Nat} {spare : Nat → Bool} {held : Bool}
theorem elsG_of {n len M : Nat} {A : Option Addr} {xs : List Value} (hr : Reads W W.heap.size 4 A len xs) (hl : len ≤ M) (h : ∀ i, i < len → ∃ g, GC (fun _ => True) W M n ((xs.drop (i * 4)).take 4) g ∧ ∀ m, NamesOk m g) :
    ∃ gs, ElsG (fun _ => True) W 4 M (GC (fun _ => True) W M n) A len gs ∧ ∀ x ∈ gs, ∀ m, NamesOk m x := by
  have h' : ∀ i : Nat, ∃ g : Gx, i < len → GC (fun _ => True) W M n ((xs.drop (i * 4)).take 4) g ∧ ∀ m, NamesOk m g := fun i => by
    by_cases hi : i < len
    · obtain ⟨g, hg⟩ := h i hi
      exact ⟨g, fun _ => hg⟩
    · exact ⟨.mk 0 0 ⟨#[]⟩ [], fun h => absurd h hi⟩
  obtain ⟨f, hf⟩ := Classical.axiomOfChoice h'
  refine ⟨(List.range len).map f, ⟨xs, hr, fun _ _ _ => trivial, hl, by simp, fun i hi => ?_⟩, fun x hx => ?_⟩
  · have hi' : i < len := by simpa using hi
    simpa using (hf i hi').1
  · obtain ⟨i, hi, rfl⟩ := List.mem_map.1 hx
    exact (hf i (List.mem_range.1 hi)).2
set_option maxRecDepth 100000 in
theorem trod_rexpr : ∀ (fuel : Nat) (cs : List Value) (x : DataW H × List MemPlace), DataW.trod enc Tryd.prog W base spare held fuel 34 cs = some x → ∃ g, GC (fun _ => True) W maxM fuel cs g ∧ ∀ m, NamesOk m g := by
  intro fuel
  induction fuel using Nat.strongRecOn with
  | ind fuel ih =>
    intro cs x h
    obtain ⟨n, rfl, hlen, hf⟩ := open_struct Tryd.underlying34 (by kernel_rfl) (by kernel_rfl) h
    obtain ⟨v0, y0, e0, t0⟩ := hf 0 _ rfl
    obtain ⟨v1, y1, e1, t1⟩ := hf 1 _ rfl
    obtain ⟨v2, y2, e2, t2⟩ := hf 2 _ rfl
    obtain ⟨v3, y3, e3, t3⟩ := hf 3 _ rfl
    obtain ⟨op, q0, _, _⟩ := DataW.trod_int Tryd.underlying3 t0
    obtain ⟨N, q1, _, _⟩ := DataW.trod_int Tryd.underlying3 t1
    obtain ⟨nm, q2, _, hsz⟩ := DataW.trod_string Tryd.underlying9 t2
    obtain ⟨A, len, cap, xs, q3, hl, hm, hr, _, hx⟩ := open_rows (s := 4) Tryd.underlying32 (by kernel_rfl) (by omega) t3
    obtain ⟨gs, hgs, hnm⟩ := elsG_of (n := n) (M := maxM) hr (by have := Nat.le_trans hl hm; unfold maxLen at this; unfold maxM; omega) (fun i hi => by
      obtain ⟨n', y, hn', hy⟩ := hx i hi
      obtain ⟨g, hg, hg2⟩ := ih n' (by omega) _ _ hy
      exact ⟨g, hg.deeper (by omega), hg2⟩)
    injection q0 with q0
    injection q1 with q1
    injection q2 with q2
    injection q3 with q3
    subst q0 q1 q2 q3
    refine ⟨.mk op N nm gs, ⟨A, len, cap, ?_, hgs⟩, fun m => ?_⟩
    · have hl4 : cs.length = 4 := hlen
      match cs, hl4 with
      | [a, b, c, d], _ =>
        simp at e0 e1 e2 e3
        rw [e0, e1, e2, e3]
    · cases m with
      | zero => trivial
      | succ m => exact ⟨by unfold maxLen at hsz; omega, fun x hx => hnm x hx m⟩
set_option maxRecDepth 100000 in
/-- An argument that is an expression of the document. -/
theorem open_rexpr {r : Reach} {b0 : Nat} {v : Value} {d : DataW H} {p : List MemPlace} (hv : Value.okWide Tryd.prog W r b0 34 v) (h : DataW.Trod enc Tryd.prog W base spare held 34 v d p) :
    ∃ (op N : Int) (nm : ByteArray) (A : Option Addr) (len cap n : Nat) (g : Gx), v = .agg #[.int .i64 op, .int .i64 N, .string nm, .slice A len cap] ∧ NamesOk n g ∧ GC (fun _ => True) W maxM n [.int .i64 op, .int .i64 N, .string nm, .slice A len cap] g := by
  obtain ⟨cs, rfl, hsz⟩ := okWide_struct Tryd.underlying34 hv
  obtain ⟨fuel, hf⟩ := h
  obtain ⟨g, hg, hn⟩ := trod_rexpr fuel _ _ hf
  obtain ⟨op, N, nm, A, len, cap, e⟩ := hg.form
  have e' : cs.toList = [.int .i64 op, .int .i64 N, .string nm, .slice A len cap] := e
  obtain ⟨l⟩ := cs
  simp at e'
  subst e'
  exact ⟨op, N, nm, A, len, cap, fuel, g, rfl, hn fuel, hg⟩
end
end Go.Proofs.YtdmlnoeneoomfaaDoor
