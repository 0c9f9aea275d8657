/-
  Arguments that are statements and expressions, opened to what the walks ask.
-/
import Derived.Test.YtenpdmahjefoaaaTrod
import Derived.Test.YtenpdmahjefoaaaBTop
namespace Go.Proofs.Ytenpdmahjefoaaa
open Go.ChangeShapes Go.WideShapes Go.ChangeAt Go.RowKit Go.Deep

section
variable {H : Type} {enc : TypeId × Value → H} {W : World} {base : Nat} {spare : Nat → Bool} {held : Bool}
theorem els_of {s len : Nat} {A : Option Addr} {xs : List Value} {Q : List Value → Nat → Prop} (hr : Reads W W.heap.size s A len xs) (hl : len ≤ maxLen) (h : ∀ i, i < len → ∃ k, Q ((xs.drop (i * s)).take s) k) : ∃ ks, Els W W.heap.size s Q A len ks := by
  obtain ⟨f, hf⟩ := choose_lt h
  refine ⟨(List.range len).map f, xs, hr, by unfold maxLen at hl; omega, by simp, fun i hi => ?_⟩
  have hi' : i < len := by simpa using hi
  simpa using hf i hi'

theorem trod_expr : ∀ (fuel : Nat) (cs : List Value) (x : DataW H × List MemPlace), DataW.trod enc Try.prog W base spare held fuel 35 cs = some x → ∃ k, EC W W.heap.size fuel cs k := by
  intro fuel
  induction fuel using Nat.strongRecOn with
  | ind fuel ih =>
    intro cs x h
    obtain ⟨n, rfl, hlen, hf⟩ := open_struct Try.underlying35 (by kernel_rfl) (by kernel_rfl) h
    obtain ⟨v0, y0, e0, t0⟩ := hf 0 _ rfl
    obtain ⟨v1, y1, e1, t1⟩ := hf 1 _ rfl
    obtain ⟨v2, y2, e2, t2⟩ := hf 2 _ rfl
    obtain ⟨v3, y3, e3, t3⟩ := hf 3 _ rfl
    obtain ⟨op, q0, _, _⟩ := DataW.trod_int Try.underlying3 t0
    obtain ⟨N, q1, _, _⟩ := DataW.trod_int Try.underlying3 t1
    obtain ⟨nm, q2, _, _⟩ := DataW.trod_string Try.underlying9 t2
    obtain ⟨A, len, cap, xs, q3, hl, hm, hr, _, hx⟩ := open_rows (s := 4) Try.underlying26 (by kernel_rfl) (by omega) t3
    obtain ⟨ks, hks⟩ := els_of (Q := EC W W.heap.size n) hr (Nat.le_trans hl hm) (fun i hi => by
      obtain ⟨n', y, hn', hy⟩ := hx i hi
      obtain ⟨k, hk⟩ := ih n' (by omega) _ _ hy
      exact ⟨k, hk.deeper (by omega)⟩)
    injection q0 with q0
    injection q1 with q1
    injection q2 with q2
    injection q3 with q3
    subst q0 q1 q2 q3
    refine ⟨costE op ks, op, N, nm, A, len, cap, ks, ?_, hks, rfl⟩
    have hl4 : cs.length = 4 := hlen
    match cs, hl4 with
    | [a, b, c, d], _ =>
      simp at e0 e1 e2 e3
      rw [e0, e1, e2, e3]

theorem trod_stmt : ∀ (fuel : Nat) (cs : List Value) (x : DataW H × List MemPlace), DataW.trod enc Try.prog W base spare held fuel 28 cs = some x → ∃ k, SC W W.heap.size fuel cs k := by
  intro fuel
  induction fuel using Nat.strongRecOn with
  | ind fuel ih =>
    intro cs x h
    obtain ⟨n, rfl, hlen, hf⟩ := open_struct Try.underlying28 (by kernel_rfl) (by kernel_rfl) h
    obtain ⟨v0, y0, e0, t0⟩ := hf 0 _ rfl
    obtain ⟨v1, y1, e1, t1⟩ := hf 1 _ rfl
    obtain ⟨v2, y2, e2, t2⟩ := hf 2 _ rfl
    obtain ⟨v3, y3, e3, t3⟩ := hf 3 _ rfl
    obtain ⟨v4, y4, e4, t4⟩ := hf 4 _ rfl
    obtain ⟨v5, y5, e5, t5⟩ := hf 5 _ rfl
    obtain ⟨v6, y6, e6, t6⟩ := hf 6 _ rfl
    obtain ⟨kind, q0, _, _⟩ := DataW.trod_int Try.underlying3 t0
    obtain ⟨nm, q1, _, _⟩ := DataW.trod_string Try.underlying9 t1
    obtain ⟨A0, l0, c0, xs0, q2, hl0, hm0, hr0, _, hx0⟩ := open_rows (s := 4) Try.underlying26 (by kernel_rfl) (by omega) t2
    obtain ⟨lo, q3, _, wlo⟩ := DataW.trod_int Try.underlying3 t3
    obtain ⟨hi, q4, _, whi⟩ := DataW.trod_int Try.underlying3 t4
    obtain ⟨A1, l1, c1, xs1, q5, hl1, hm1, hr1, _, hx1⟩ := open_rows (s := 7) Try.underlying25 (by kernel_rfl) (by omega) t5
    obtain ⟨A2, l2, c2, xs2, q6, hl2, hm2, hr2, _, hx2⟩ := open_rows (s := 7) Try.underlying25 (by kernel_rfl) (by omega) t6
    obtain ⟨es, hes⟩ := els_of (Q := EC W W.heap.size n) hr0 (Nat.le_trans hl0 hm0) (fun i hi => by
      obtain ⟨n', y, hn', hy⟩ := hx0 i hi
      obtain ⟨k, hk⟩ := trod_expr n' _ _ hy
      exact ⟨k, hk.deeper (by omega)⟩)
    obtain ⟨ls, hls⟩ := els_of (Q := SC W W.heap.size n) hr1 (Nat.le_trans hl1 hm1) (fun i hi => by
      obtain ⟨n', y, hn', hy⟩ := hx1 i hi
      obtain ⟨k, hk⟩ := ih n' (by omega) _ _ hy
      exact ⟨k, hk.deeper (by omega)⟩)
    obtain ⟨fs, hfs⟩ := els_of (Q := SC W W.heap.size n) hr2 (Nat.le_trans hl2 hm2) (fun i hi => by
      obtain ⟨n', y, hn', hy⟩ := hx2 i hi
      obtain ⟨k, hk⟩ := ih n' (by omega) _ _ hy
      exact ⟨k, hk.deeper (by omega)⟩)
    injection q0 with q0
    injection q1 with q1
    injection q2 with q2
    injection q3 with q3
    injection q4 with q4
    injection q5 with q5
    injection q6 with q6
    subst q0 q1 q2 q3 q4 q5 q6
    have rlo := range_i64 wlo
    have rhi := range_i64 whi
    refine ⟨costS kind lo hi es ls fs, kind, lo, hi, nm, A0, A1, A2, l0, l1, l2, c0, c1, c2, es, ls, fs, ?_, ⟨rlo.1, rlo.2, rhi.1, rhi.2⟩, hes, hls, hfs, rfl⟩
    have hl7 : cs.length = 7 := hlen
    match cs, hl7 with
    | [a, b, c, d, e, f, g], _ =>
      simp at e0 e1 e2 e3 e4 e5 e6
      rw [e0, e1, e2, e3, e4, e5, e6]

/-- An argument that is a list of statements. -/
theorem open_stmts {r : Reach} {b0 : Nat} {v : Value} {d : DataW H} {p : List MemPlace} (hv : Value.okWide Try.prog W r b0 25 v) (h : DataW.Trod enc Try.prog W base spare held 25 v d p) :
    ∃ (A : Option Addr) (len cap n : Nat) (ks : List Nat), v = .slice A len cap ∧ len ≤ cap ∧ cap ≤ maxLen ∧ Els W W.heap.size 7 (SC W W.heap.size n) A len ks ∧ ((d = .nil ∧ len = 0) ∨ ∃ el sp, d = .slice el sp ∧ el.length = len) := by
  obtain ⟨a0, len0, cap0, rfl⟩ := okWide_slice Try.underlying25 hv
  obtain ⟨fuel, hf⟩ := h
  obtain ⟨A, len, cap, xs, q, hl, hm, hr, hD, hx⟩ := open_rows (s := 7) Try.underlying25 (by kernel_rfl) (by omega) hf
  simp [Value.cells] at q
  obtain ⟨rfl, rfl, rfl⟩ := q
  obtain ⟨ks, hks⟩ := els_of (Q := SC W W.heap.size fuel) hr (Nat.le_trans hl hm) (fun i hi => by
    obtain ⟨n', y, hn', hy⟩ := hx i hi
    obtain ⟨k, hk⟩ := trod_stmt n' _ _ hy
    exact ⟨k, hk.deeper (by omega)⟩)
  exact ⟨a0, len0, cap0, fuel, ks, rfl, hl, hm, hks, hD⟩
/-- An argument that is an expression. -/
theorem open_expr {r : Reach} {b0 : Nat} {v : Value} {d : DataW H} {p : List MemPlace} (hv : Value.okWide Try.prog W r b0 35 v) (h : DataW.Trod enc Try.prog W base spare held 35 v d p) :
    ∃ (op N : Int) (nm : ByteArray) (A : Option Addr) (len cap n k : Nat), v = .agg #[.int .i64 op, .int .i64 N, .string nm, .slice A len cap] ∧ EC W W.heap.size n [.int .i64 op, .int .i64 N, .string nm, .slice A len cap] k := by
  obtain ⟨cs, rfl, hsz⟩ := okWide_struct Try.underlying35 hv
  obtain ⟨fuel, hf⟩ := h
  obtain ⟨k, hk⟩ := trod_expr fuel _ _ hf
  obtain ⟨op, N, nm, A, len, cap, e⟩ := EC_form hk
  have e' : cs.toList = [.int .i64 op, .int .i64 N, .string nm, .slice A len cap] := e
  obtain ⟨l⟩ := cs
  simp at e'
  subst e'
  exact ⟨op, N, nm, A, len, cap, fuel, k, rfl, hk⟩
/-- An argument that is a statement. -/
theorem open_stmt {r : Reach} {b0 : Nat} {v : Value} {d : DataW H} {p : List MemPlace} (hv : Value.okWide Try.prog W r b0 28 v) (h : DataW.Trod enc Try.prog W base spare held 28 v d p) :
    ∃ (kind lo hi : Int) (nm : ByteArray) (A0 A1 A2 : Option Addr) (l0 l1 l2 c0 c1 c2 n k : Nat), v = .agg #[.int .i64 kind, .string nm, .slice A0 l0 c0, .int .i64 lo, .int .i64 hi, .slice A1 l1 c1, .slice A2 l2 c2] ∧
      SC W W.heap.size n [.int .i64 kind, .string nm, .slice A0 l0 c0, .int .i64 lo, .int .i64 hi, .slice A1 l1 c1, .slice A2 l2 c2] k := by
  obtain ⟨cs, rfl, hsz⟩ := okWide_struct Try.underlying28 hv
  obtain ⟨fuel, hf⟩ := h
  obtain ⟨k, hk⟩ := trod_stmt fuel _ _ hf
  obtain ⟨kind, lo, hi, nm, A0, A1, A2, l0, l1, l2, c0, c1, c2, e⟩ := SC_form hk
  have e' : cs.toList = [.int .i64 kind, .string nm, .slice A0 l0 c0, .int .i64 lo, .int .i64 hi, .slice A1 l1 c1, .slice A2 l2 c2] := e
  obtain ⟨l⟩ := cs
  simp at e'
  subst e'
  exact ⟨kind, lo, hi, nm, A0, A1, A2, l0, l1, l2, c0, c1, c2, fuel, k, rfl, hk⟩
end
end Go.Proofs.Ytenpdmahjefoaaa
