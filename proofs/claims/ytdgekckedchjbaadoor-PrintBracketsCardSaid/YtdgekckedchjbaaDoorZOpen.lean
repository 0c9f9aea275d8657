
/-
  Arguments that are trees of the document, opened with what the condition says of their reach.
-/
import Derived.Test.YtdgekckedchjbaaDoorTrod
import Derived.Test.YtdgekckedchjbaaDoorRows
import Derived.Test.YtdgekckedchjbaaDoorQL
namespace Go.Proofs.YtdgekckedchjbaaDoor
open Go.ChangeShapes Go.WideShapes Go.ChangeAt Go.RowKit Go.Deep

section
variable {H : Type} {enc : TypeId × Value → H} {P : Program} {W : World} {base : Nat} {spare : Nat → Bool} {held : Bool}
theorem weightsAll_mem {e : TypeId} : ∀ {l : List (DataW H)} {d : DataW H}, d ∈ l → ∀ m ∈ d.weights P e, m ∈ DataW.weightsAll P e l
  | a :: l, d, hd, m, hm => by
    rw [DataW.weightsAll, List.mem_append]
    rcases List.mem_cons.1 hd with rfl | hd
    · exact .inl hm
    · exact .inr (weightsAll_mem hd m hm)
/-- A slice opened: its cells, that each element can be read, and how far it reaches. -/
theorem open_rowsS {t e : TypeId} {fuel s : Nat} {cs : List Value} {x : DataW H × List MemPlace} (ht : P.underlying t = some (.slice e)) (hC : P.cellsOf e = s) (hs : 0 < s) (h : DataW.trod enc P W base spare held fuel t cs = some x)
    (hw : ∀ m ∈ x.1.weights P t, m ≤ reachBytes) :
    ∃ (A : Option Addr) (len cap : Nat) (xs : List Value), cs = [.slice A len cap] ∧ Reads W W.heap.size s A len xs ∧ len * P.bytesOf e ≤ reachBytes ∧
      ∀ i, i < len → ∃ n y, fuel = n + 1 ∧ DataW.trod enc P W base spare held n e ((xs.drop (i * s)).take s) = some y ∧ ∀ m ∈ y.1.weights P e, m ≤ reachBytes := by
  rcases DataW.trod_slice ht h with ⟨h0, hx0⟩ | ⟨a, len, cap, elems, rest, n, hf, hcs, hx0, _, hl, hm, hlen, hel, _, _⟩
  · exact ⟨none, 0, 0, [], h0, Reads.none_, by omega, fun i hi => absurd hi (by omega)⟩
  · rw [hC] at hel
    have hex : ∀ i (hi : i < len), ∃ c, W.cells? base (a.add (i * s)) s = some c ∧ DataW.trod enc P W base spare held n e c = some (elems[i]'(by omega)) := by
      intro i hi
      have h1 := hel i hi
      rw [List.getElem?_eq_getElem (by omega)] at h1
      obtain ⟨c, h2, h3⟩ := Option.bind_eq_some_iff.1 h1
      exact ⟨c, h2, h3⟩
    have hcell : ∀ j, j < len * s → ∃ v, W.cell? (a.add j) = some v := by
      intro j hj
      have hi : j / s < len := Nat.div_lt_of_lt_mul (by rw [Nat.mul_comm]; exact hj)
      obtain ⟨c, hc, _⟩ := hex (j / s) hi
      obtain ⟨_, hcl, hat⟩ := World.cells?_some hc
      have hm' : j % s < s := Nat.mod_lt _ hs
      have := hat (j % s) hm'
      rw [add_of_add, Nat.mul_comm, Nat.div_add_mod, List.getElem?_eq_getElem (by omega)] at this
      exact ⟨_, this⟩
    have hxs : ∀ j, j < len * s → ((List.range (len * s)).map fun j => (W.cell? (a.add j)).getD undef)[j]? = W.cell? (a.add j) := by
      intro j hj
      obtain ⟨v, hv⟩ := hcell j hj
      simp [hj, hv]
    have hx1 : x.1 = .slice (elems.map (·.1)) (rest.map (·.1)) := by rw [hx0]
    have hwx : x.1.weights P t = (elems.length + rest.length) * P.bytesOf e :: (DataW.weightsAll P e (elems.map (·.1)) ++ DataW.weightsAll P e (rest.map (·.1))) := by
      rw [hx1]
      simp [DataW.weights, ht]
    have hlw := hw ((elems.length + rest.length) * P.bytesOf e) (by rw [hwx]; exact List.mem_cons_self ..)
    refine ⟨some a, len, cap, (List.range (len * s)).map fun j => (W.cell? (a.add j)).getD undef, hcs, ⟨by simp, fun hn => ⟨a, rfl, ?_, fun j u hu => ?_⟩⟩, ?_, fun i hi => ?_⟩
    · obtain ⟨v, hv⟩ := hcell 0 (Nat.mul_pos hn hs)
      have := lt_of_cell hv
      rwa [block_of_add] at this
    · have hj : j < len * s := by
        rcases Nat.lt_or_ge j (len * s) with h1 | h1
        · exact h1
        · rw [List.getElem?_eq_none (by simpa using h1)] at hu
          cases hu
      rw [hxs j hj] at hu
      exact hu
    · refine Nat.le_trans (Nat.mul_le_mul_right _ ?_) hlw
      omega
    · obtain ⟨c, hc, hy⟩ := hex i hi
      obtain ⟨_, hcl, hat⟩ := World.cells?_some hc
      refine ⟨n, elems[i]'(by omega), hf, ?_, fun m hm => hw m ?_⟩
      · have e : ((((List.range (len * s)).map fun j => (W.cell? (a.add j)).getD undef).drop (i * s)).take s) = c := by
          refine List.ext_getElem? fun j => ?_
          rw [List.getElem?_take]
          split
          · rename_i hj
            rw [List.getElem?_drop, hxs _ (by
              have h1 : i * s + s = (i + 1) * s := by rw [Nat.add_mul, Nat.one_mul]
              have h2 : (i + 1) * s ≤ len * s := Nat.mul_le_mul_right _ hi
              omega), ← add_of_add]
            exact hat j hj
          · rw [List.getElem?_eq_none (by omega)]
        rw [e]
        exact hy
      · rw [hwx]
        exact List.mem_cons_of_mem _ (List.mem_append_left _ (weightsAll_mem (List.mem_map.2 ⟨_, List.getElem_mem _, rfl⟩) m hm))
/-- A struct of one-cell fields opened. -/
theorem open_structS {e : TypeId} {fs : Array Field} {fuel : Nat} {cs : List Value} {x : DataW H × List MemPlace} (he : P.underlying e = some (.struct fs)) (hone : oneCellFields P fs = true) (hC : P.cellsOf e = fs.size)
    (h : DataW.trod enc P W base spare held fuel e cs = some x) (hw : ∀ m ∈ x.1.weights P e, m ≤ reachBytes) :
    ∃ n, fuel = n + 1 ∧ cs.length = fs.size ∧ ∀ (j : Nat) (f : Field), fs[j]? = some f → ∃ (v : Value) (y : DataW H × List MemPlace), cs[j]? = some v ∧ DataW.trod enc P W base spare held n f.type [v] = some y ∧ ∀ m ∈ y.1.weights P f.type, m ≤ reachBytes := by
  obtain ⟨ys, n', hn', hy, hlen, hyl, hf⟩ := DataW.trod_struct he h
  rw [hC] at hlen
  refine ⟨n', hn', hlen, fun j f hj => ?_⟩
  obtain ⟨ho, hk⟩ := hone_of hone j f hj
  have hjl : j < fs.size := (Array.getElem?_eq_some_iff.1 hj).1
  have h1 := hf j f hj
  rw [ho, hk] at h1
  have hone' : (cs.drop j).take 1 = [cs[j]'(by omega)] := by
    rw [List.drop_eq_getElem_cons (by omega)]
    rfl
  rw [hone'] at h1
  refine ⟨_, _, List.getElem?_eq_getElem (by omega), h1.trans (List.getElem?_eq_getElem (by omega)), fun m hm => hw m ?_⟩
  have hx1 : x.1 = .agg (ys.map (·.1)) := by rw [hy]
  have hwx : x.1.weights P e = DataW.weightsEach P (fs.toList.map (·.type)) (ys.map (·.1)) := by
    rw [hx1]
    simp [DataW.weights, he]
  rw [hwx]
  refine DataW.weights_mem_each (j := j) (t := f.type) (d := (ys[j]'(by omega)).1) ?_ ?_ m hm
  · rw [List.getElem?_map, Array.getElem?_toList, hj]
    rfl
  · rw [List.getElem?_map, List.getElem?_eq_getElem (by omega)]
    rfl
end
section
variable {H : Type} {enc : TypeId × Value → H} {W : World} {base : Nat} {spare : Nat → Bool} {held : Bool}
theorem elsG_ofS {n len M : Nat} {A : Option Addr} {xs : List Value} (hr : Reads W W.heap.size 4 A len xs) (hl : len ≤ M) (h : ∀ i, i < len → ∃ g, GC (fun _ => True) W M n ((xs.drop (i * 4)).take 4) g ∧ FitG n g) :
    ∃ gs, ElsG (fun _ => True) W 4 M (GC (fun _ => True) W M n) A len gs ∧ ∀ x ∈ gs, FitG n x := by
  have h' : ∀ i : Nat, ∃ g : Gx, i < len → GC (fun _ => True) W M n ((xs.drop (i * 4)).take 4) g ∧ FitG n g := fun i => by
    by_cases hi : i < len
    · obtain ⟨g, hg⟩ := h i hi
      exact ⟨g, fun _ => hg⟩
    · exact ⟨.mk 0 0 ⟨#[]⟩ [], fun h => absurd h hi⟩
  obtain ⟨f, hf⟩ := Classical.axiomOfChoice h'
  refine ⟨(List.range len).map f, ⟨xs, hr, fun _ _ _ => trivial, hl, by simp, fun i hi => ?_⟩, fun x hx => ?_⟩
  · have hi' : i < len := by simpa using hi
    simpa using (hf i hi').1
  · obtain ⟨i, hi, rfl⟩ := List.mem_map.1 hx
    exact (hf i (List.mem_range.1 hi)).2
set_option maxRecDepth 100000 in
theorem trod_rexprS : ∀ (fuel : Nat) (cs : List Value) (x : DataW H × List MemPlace), DataW.trod enc Tryd.prog W base spare held fuel 24 cs = some x → (∀ m ∈ x.1.weights Tryd.prog 24, m ≤ reachBytes) → ∃ g, GC (fun _ => True) W 2513169434843 fuel cs g ∧ FitG fuel g := by
  intro fuel
  induction fuel using Nat.strongRecOn with
  | ind fuel ih =>
    intro cs x h hw
    obtain ⟨n, rfl, hlen, hf⟩ := open_structS Tryd.underlying24 (by kernel_rfl) (by kernel_rfl) h hw
    obtain ⟨v0, y0, e0, t0, w0⟩ := hf 0 _ rfl
    obtain ⟨v1, y1, e1, t1, w1⟩ := hf 1 _ rfl
    obtain ⟨v2, y2, e2, t2, w2⟩ := hf 2 _ rfl
    obtain ⟨v3, y3, e3, t3, w3⟩ := hf 3 _ rfl
    obtain ⟨op, q0, _, _⟩ := DataW.trod_int Tryd.underlying3 t0
    obtain ⟨N, q1, _, hN⟩ := DataW.trod_int Tryd.underlying3 t1
    obtain ⟨nm, q2, hy2, hsz⟩ := DataW.trod_string Tryd.underlying9 t2
    obtain ⟨A, len, cap, xs, q3, hr, hl, hx⟩ := open_rowsS (s := 4) Tryd.underlying22 (by kernel_rfl) (by omega) t3 w3
    rw [show Tryd.prog.bytesOf 24 = 56 from by kernel_rfl] at hl
    have hl' : len ≤ 2513169434843 := by
      simp only [reachBytes] at hl
      omega
    obtain ⟨gs, hgs, hnm⟩ := elsG_ofS (n := n) (M := 2513169434843) hr hl' (fun i hi => by
      obtain ⟨n', y, hn', hy, hwy⟩ := hx i hi
      obtain ⟨g, hg, hg2⟩ := ih n' (by omega) _ _ hy hwy
      exact ⟨g, hg.deeper (by omega), hg2.deeper (by omega)⟩)
    injection q0 with q0
    injection q1 with q1
    injection q2 with q2
    injection q3 with q3
    subst q0 q1 q2 q3
    have hnm2 : nm.size ≤ 140737488355328 := by
      have h2 := w2 nm.data.toList.length (by
        have : y2.1 = .lit (.string nm.data.toList) := by rw [hy2]
        rw [this]
        simp [DataW.weights])
      simp only [reachBytes] at h2
      have h3 : nm.data.toList.length = nm.size := by simp
      omega
    refine ⟨.mk op N nm gs, ⟨A, len, cap, ?_, hgs⟩, ⟨?_, hnm2, hnm⟩⟩
    · have hl4 : cs.length = 4 := hlen
      match cs, hl4 with
      | [a, b, c, d], _ =>
        simp at e0 e1 e2 e3
        rw [e0, e1, e2, e3]
    · exact range_i64 hN
set_option maxRecDepth 100000 in
/-- An argument that is an expression of the document. -/
theorem open_rexprS {r : Reach} {b0 j : Nat} {v : Value} {d : DataW H} {p : List MemPlace} {ts : List TypeId} {ds : List (DataW H)} (hv : Value.okWide Tryd.prog W r b0 24 v) (h : DataW.Trod enc Tryd.prog W base spare held 24 v d p)
    (hsz : (DataW.weightsEach Tryd.prog ts ds).all (· ≤ reachBytes) = true) (ht : ts[j]? = some 24) (hd : ds[j]? = some d) :
    ∃ (op N : Int) (nm : ByteArray) (A : Option Addr) (len cap n : Nat) (g : Gx), v = .agg #[.int .i64 op, .int .i64 N, .string nm, .slice A len cap] ∧ FitG n g ∧ GC (fun _ => True) W 2513169434843 n [.int .i64 op, .int .i64 N, .string nm, .slice A len cap] g := by
  obtain ⟨cs, rfl, hsz0⟩ := okWide_struct Tryd.underlying24 hv
  obtain ⟨fuel, hf⟩ := h
  obtain ⟨g, hg, hn⟩ := trod_rexprS fuel _ _ hf (fun m hm => by
    have := List.all_eq_true.1 hsz m (DataW.weights_mem_each ht hd m hm)
    simpa using this)
  obtain ⟨op, N, nm, A, len, cap, e⟩ := hg.form
  have e' : cs.toList = [.int .i64 op, .int .i64 N, .string nm, .slice A len cap] := e
  obtain ⟨l⟩ := cs
  simp at e'
  subst e'
  exact ⟨op, N, nm, A, len, cap, fuel, g, rfl, hn, hg⟩
end
end Go.Proofs.YtdgekckedchjbaaDoor
