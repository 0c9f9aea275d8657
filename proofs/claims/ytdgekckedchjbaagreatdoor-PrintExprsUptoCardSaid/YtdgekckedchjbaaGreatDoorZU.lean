
/-
  An argument that is a tree of the document, opened with the bound on its bulk.
-/
import Derived.Test.YtdgekckedchjbaaGreatDoorTrod
import Derived.Test.YtdgekckedchjbaaGreatDoorRows
import Derived.Test.YtdgekckedchjbaaGreatDoorD9
namespace Go.Proofs.YtdgekckedchjbaaGreatDoor
open Go.ChangeShapes Go.WideShapes Go.ChangeAt Go.RowKit Go.Deep

section
variable {H : Type} {enc : TypeId × Value → H} {P : Program} {W : World} {base : Nat} {spare : Nat → Bool} {held : Bool}
/-- A slice opened: its cells, and what its elements read as. -/
theorem open_rowsU {t e : TypeId} {fuel s : Nat} {cs : List Value} {x : DataW H × List MemPlace} (ht : P.underlying t = some (.slice e)) (hC : P.cellsOf e = s) (hs : 0 < s) (h : DataW.trod enc P W base spare held fuel t cs = some x) :
    ∃ (A : Option Addr) (len cap : Nat) (xs : List Value) (ys : List (DataW H × List MemPlace)), cs = [.slice A len cap] ∧ Reads W W.heap.size s A len xs ∧ ys.length = len ∧ Rows.uptoBulkAll (ys.map (·.1)) ≤ Rows.uptoBulk x.1 ∧
      ∀ i (hi : i < ys.length), ∃ n, fuel = n + 1 ∧ DataW.trod enc P W base spare held n e ((xs.drop (i * s)).take s) = some (ys[i]'hi) := by
  rcases DataW.trod_slice ht h with ⟨h0, hx0⟩ | ⟨a, len, cap, elems, rest, n, hf, hcs, hx0, _, hl, hm, hlen, hel, _, _⟩
  · exact ⟨none, 0, 0, [], [], h0, Reads.none_, rfl, Nat.zero_le _, fun i hi => absurd hi (by simp)⟩
  · rw [hC] at hel
    have hex : ∀ i (hi : i < len), ∃ c, W.cells? base (a.add (i * s)) s = some c ∧ DataW.trod enc P W base spare held n e c = some (elems[i]'(by omega)) := by
      intro i hi
      have h1 := hel i hi
      rw [List.getElem?_eq_getElem (by omega)] at h1
      obtain ⟨c, h2, h3⟩ := Option.bind_eq_some_iff.1 h1
      exact ⟨c, h2, h3⟩
    have hcell : ∀ j, j < len * s → ∃ v, W.cell? (a.add j) = some v := by
      intro j hj
      have hi : j / s < len := Nat.div_lt_of_lt_mul (by rw [Nat.mul_comm]; exact hj)
      obtain ⟨c, hc, _⟩ := hex (j / s) hi
      obtain ⟨_, hcl, hat⟩ := World.cells?_some hc
      have hm' : j % s < s := Nat.mod_lt _ hs
      have := hat (j % s) hm'
      rw [add_of_add, Nat.mul_comm, Nat.div_add_mod, List.getElem?_eq_getElem (by omega)] at this
      exact ⟨_, this⟩
    have hxs : ∀ j, j < len * s → ((List.range (len * s)).map fun j => (W.cell? (a.add j)).getD undef)[j]? = W.cell? (a.add j) := by
      intro j hj
      obtain ⟨v, hv⟩ := hcell j hj
      simp [hj, hv]
    have hx1 : x.1 = .slice (elems.map (·.1)) (rest.map (·.1)) := by rw [hx0]
    refine ⟨some a, len, cap, (List.range (len * s)).map fun j => (W.cell? (a.add j)).getD undef, elems, hcs, ⟨by simp, fun hn => ⟨a, rfl, ?_, fun j u hu => ?_⟩⟩, by omega, ?_, fun i hi => ?_⟩
    · obtain ⟨v, hv⟩ := hcell 0 (Nat.mul_pos hn hs)
      have := lt_of_cell hv
      rwa [block_of_add] at this
    · have hj : j < len * s := by
        rcases Nat.lt_or_ge j (len * s) with h1 | h1
        · exact h1
        · rw [List.getElem?_eq_none (by simpa using h1)] at hu
          cases hu
      rw [hxs j hj] at hu
      exact hu
    · rw [hx1]
      simp only [Rows.uptoBulk]
      omega
    · have hi' : i < len := by omega
      obtain ⟨c, hc, hy⟩ := hex i hi'
      obtain ⟨_, hcl, hat⟩ := World.cells?_some hc
      refine ⟨n, hf, ?_⟩
      have e : ((((List.range (len * s)).map fun j => (W.cell? (a.add j)).getD undef).drop (i * s)).take s) = c := by
        refine List.ext_getElem? fun j => ?_
        rw [List.getElem?_take]
        split
        · rename_i hj
          rw [List.getElem?_drop, hxs _ (by
            have h1 : i * s + s = (i + 1) * s := by rw [Nat.add_mul, Nat.one_mul]
            have h2 : (i + 1) * s ≤ len * s := Nat.mul_le_mul_right _ hi'
            omega), ← add_of_add]
          exact hat j hj
        · rw [List.getElem?_eq_none (by omega)]
      rw [e]
      exact hy
/-- A struct of one-cell fields opened. -/
theorem open_structU {e : TypeId} {fs : Array Field} {fuel : Nat} {cs : List Value} {x : DataW H × List MemPlace} (he : P.underlying e = some (.struct fs)) (hone : oneCellFields P fs = true) (hC : P.cellsOf e = fs.size)
    (h : DataW.trod enc P W base spare held fuel e cs = some x) :
    ∃ (n : Nat) (ys : List (DataW H × List MemPlace)), fuel = n + 1 ∧ cs.length = fs.size ∧ ys.length = fs.size ∧ Rows.uptoBulk x.1 = Rows.uptoBulkAll (ys.map (·.1)) + 1 ∧ ∀ (j : Nat) (f : Field), fs[j]? = some f → ∃ (v : Value) (y : DataW H × List MemPlace), cs[j]? = some v ∧ ys[j]? = some y ∧ DataW.trod enc P W base spare held n f.type [v] = some y := by
  obtain ⟨ys, n', hn', hy, hlen, hyl, hf⟩ := DataW.trod_struct he h
  rw [hC] at hlen
  have hx1 : x.1 = .agg (ys.map (·.1)) := by rw [hy]
  refine ⟨n', ys, hn', hlen, hyl, by rw [hx1]; simp only [Rows.uptoBulk], fun j f hj => ?_⟩
  obtain ⟨ho, hk⟩ := hone_of hone j f hj
  have hjl : j < fs.size := (Array.getElem?_eq_some_iff.1 hj).1
  have h1 := hf j f hj
  rw [ho, hk] at h1
  have hone' : (cs.drop j).take 1 = [cs[j]'(by omega)] := by
    rw [List.drop_eq_getElem_cons (by omega)]
    rfl
  rw [hone'] at h1
  exact ⟨_, _, List.getElem?_eq_getElem (by omega), List.getElem?_eq_getElem (by omega), h1.trans (List.getElem?_eq_getElem (by omega))⟩
theorem bulk_sum : ∀ (gs : List Gx) (ys : List (DataW H × List MemPlace)), gs.length = ys.length → (∀ i (h : i < gs.length) (k : i < ys.length), (gs[i]'h).wgt ≤ Rows.uptoBulk (ys[i]'k).1) → (gs.map Gx.wgt).sum ≤ Rows.uptoBulkAll (ys.map (·.1))
  | [], [], _, _ => Nat.zero_le _
  | [], _ :: _, h, _ => absurd h (by simp)
  | _ :: _, [], h, _ => absurd h (by simp)
  | g :: gs, y :: ys, h, k => by
    have h0 := k 0 (by simp) (by simp)
    have hr := bulk_sum gs ys (by simpa using h) (fun i h1 h2 => k (i + 1) (by simpa using h1) (by simpa using h2))
    simp only [List.map_cons, List.sum_cons, Rows.uptoBulkAll]
    simp only [List.getElem_cons_zero] at h0
    omega
theorem one_leU (d : DataW H) : 1 ≤ Rows.uptoBulk d := by
  cases d with
  | lit l => cases l <;> simp [Rows.uptoBulk]
  | nil => simp [Rows.uptoBulk]
  | ptr d => simp [Rows.uptoBulk]
  | slice elems spare => simp [Rows.uptoBulk]
  | agg parts => simp [Rows.uptoBulk]
  | iface t d => simp [Rows.uptoBulk]
  | map entries => simp [Rows.uptoBulk]
  | held h => simp [Rows.uptoBulk]
theorem part_leU {d : DataW H} {l : List (DataW H)} (h : d ∈ l) : Rows.uptoBulk d ≤ Rows.uptoBulkAll l := by
  induction l with
  | nil => cases h
  | cons x r ih =>
    simp only [Rows.uptoBulkAll]
    cases List.mem_cons.1 h with
    | inl e => subst e; omega
    | inr e => have := ih e; omega
theorem length_leU (l : List (DataW H)) : l.length ≤ Rows.uptoBulkAll l := by
  induction l with
  | nil => simp [Rows.uptoBulkAll]
  | cons x r ih => have := one_leU x; simp only [Rows.uptoBulkAll, List.length_cons]; omega
end
section
variable {H : Type} {enc : TypeId × Value → H} {W : World} {base : Nat} {spare : Nat → Bool} {held : Bool}
theorem elsG_ofU {n len M : Nat} {A : Option Addr} {xs : List Value} {B : Nat → Nat} (hr : Reads W W.heap.size 4 A len xs) (hl : len ≤ M) (h : ∀ i, i < len → ∃ g, GC (fun _ => True) W M n ((xs.drop (i * 4)).take 4) g ∧ FitG n g ∧ g.wgt ≤ B i) :
    ∃ gs, ElsG (fun _ => True) W 4 M (GC (fun _ => True) W M n) A len gs ∧ (∀ x ∈ gs, FitG n x) ∧ gs.length = len ∧ ∀ i (hi : i < gs.length), (gs[i]'hi).wgt ≤ B i := by
  have h' : ∀ i : Nat, ∃ g : Gx, i < len → GC (fun _ => True) W M n ((xs.drop (i * 4)).take 4) g ∧ FitG n g ∧ g.wgt ≤ B i := fun i => by
    by_cases hi : i < len
    · obtain ⟨g, hg⟩ := h i hi
      exact ⟨g, fun _ => hg⟩
    · exact ⟨.mk 0 0 ⟨#[]⟩ [], fun h => absurd h hi⟩
  obtain ⟨f, hf⟩ := Classical.axiomOfChoice h'
  refine ⟨(List.range len).map f, ⟨xs, hr, fun _ _ _ => trivial, hl, by simp, fun i hi => ?_⟩, fun x hx => ?_, by simp, fun i hi => ?_⟩
  · have hi' : i < len := by simpa using hi
    simpa using (hf i hi').1
  · obtain ⟨i, hi, rfl⟩ := List.mem_map.1 hx
    exact (hf i (List.mem_range.1 hi)).2.1
  · have hi' : i < len := by simpa using hi
    simpa using (hf i hi').2.2
set_option maxRecDepth 100000 in
theorem trod_rexprU : ∀ (fuel : Nat) (cs : List Value) (x : DataW H × List MemPlace), DataW.trod enc Tryz.prog W base spare held fuel 24 cs = some x → Rows.uptoBulk x.1 ≤ 1048576 → ∃ g, GC (fun _ => True) W 2513169434843 fuel cs g ∧ FitG fuel g ∧ g.wgt ≤ Rows.uptoBulk x.1 := by
  intro fuel
  induction fuel using Nat.strongRecOn with
  | ind fuel ih =>
    intro cs x h hw
    obtain ⟨n, fs, rfl, hlen, hfl, hbk, hf⟩ := open_structU Tryz.underlying24 (by kernel_rfl) (by kernel_rfl) h
    obtain ⟨v0, y0, e0, f0, t0⟩ := hf 0 _ rfl
    obtain ⟨v1, y1, e1, f1, t1⟩ := hf 1 _ rfl
    obtain ⟨v2, y2, e2, f2, t2⟩ := hf 2 _ rfl
    obtain ⟨v3, y3, e3, f3, t3⟩ := hf 3 _ rfl
    obtain ⟨op, q0, _, _⟩ := DataW.trod_int Tryz.underlying3 t0
    obtain ⟨N, q1, _, hN⟩ := DataW.trod_int Tryz.underlying3 t1
    obtain ⟨nm, q2, hy2, hsz⟩ := DataW.trod_string Tryz.underlying9 t2
    obtain ⟨A, len, cap, xs, ys, q3, hr, hyl, hyb, hx⟩ := open_rowsU (s := 4) Tryz.underlying22 (by kernel_rfl) (by omega) t3
    have hl4 : fs.length = 4 := hfl
    have hfs : fs = [y0, y1, y2, y3] := by
      match fs, hl4 with
      | [a, b, c, d], _ =>
        simp at f0 f1 f2 f3
        rw [f0, f1, f2, f3]
    have b0 := one_leU y0.1
    have b1 := one_leU y1.1
    have b2 : Rows.uptoBulk y2.1 = nm.data.toList.length + 1 := by
      have : y2.1 = .lit (.string nm.data.toList) := by rw [hy2]
      rw [this]
      simp [Rows.uptoBulk]
    have hnl : nm.data.toList.length = nm.size := by simp
    have hsum : Rows.uptoBulk x.1 = Rows.uptoBulk y0.1 + (Rows.uptoBulk y1.1 + (Rows.uptoBulk y2.1 + (Rows.uptoBulk y3.1 + 0))) + 1 := by
      rw [hbk, hfs]
      simp only [List.map_cons, List.map_nil, Rows.uptoBulkAll]
    have hyl2 := length_leU (ys.map (·.1))
    rw [List.length_map] at hyl2
    obtain ⟨gs, hgs, hnm, hgl, hgw⟩ := elsG_ofU (n := n) (M := 2513169434843) (B := fun i => if h : i < ys.length then Rows.uptoBulk (ys[i]'h).1 else 0) hr (by omega) (fun i hi => by
      have hi' : i < ys.length := by omega
      obtain ⟨n', hn', hy⟩ := hx i hi'
      have hpart : Rows.uptoBulk (ys[i]'hi').1 ≤ Rows.uptoBulkAll (ys.map (·.1)) := part_leU (List.mem_map.2 ⟨_, List.getElem_mem hi', rfl⟩)
      obtain ⟨g, hg, hg2, hg3⟩ := ih n' (by omega) _ _ hy (by omega)
      refine ⟨g, hg.deeper (by omega), hg2.deeper (by omega), ?_⟩
      rw [dif_pos hi']
      exact hg3)
    have hws : (gs.map Gx.wgt).sum ≤ Rows.uptoBulkAll (ys.map (·.1)) := bulk_sum gs ys (by omega) (fun i h1 h2 => by
      have := hgw i h1
      rw [dif_pos h2] at this
      exact this)
    injection q0 with q0
    injection q1 with q1
    injection q2 with q2
    injection q3 with q3
    subst q0 q1 q2 q3
    refine ⟨.mk op N nm gs, ⟨A, len, cap, ?_, hgs⟩, ⟨?_, by omega, hnm⟩, ?_⟩
    · have hl4 : cs.length = 4 := hlen
      match cs, hl4 with
      | [a, b, c, d], _ =>
        simp at e0 e1 e2 e3
        rw [e0, e1, e2, e3]
    · exact range_i64 hN
    · rw [wgt_mk]
      omega
set_option maxRecDepth 100000 in
/-- An argument that is an expression of the document. -/
theorem open_rexprU {r : Reach} {b0 : Nat} {v : Value} {d : DataW H} {p : List MemPlace} (hv : Value.okWide Tryz.prog W r b0 24 v) (h : DataW.Trod enc Tryz.prog W base spare held 24 v d p)
    (hb : Rows.uptoBulk d ≤ 1048576) :
    ∃ (op N : Int) (nm : ByteArray) (A : Option Addr) (len cap n : Nat) (g : Gx), v = .agg #[.int .i64 op, .int .i64 N, .string nm, .slice A len cap] ∧ FitG n g ∧ GC (fun _ => True) W 2513169434843 n [.int .i64 op, .int .i64 N, .string nm, .slice A len cap] g ∧ g.wgt ≤ 1048576 := by
  obtain ⟨cs, rfl, hsz0⟩ := okWide_struct Tryz.underlying24 hv
  obtain ⟨fuel, hf⟩ := h
  obtain ⟨g, hg, hn, hwg⟩ := trod_rexprU fuel _ _ hf hb
  obtain ⟨op, N, nm, A, len, cap, e⟩ := hg.form
  have e' : cs.toList = [.int .i64 op, .int .i64 N, .string nm, .slice A len cap] := e
  obtain ⟨l⟩ := cs
  simp at e'
  subst e'
  exact ⟨op, N, nm, A, len, cap, fuel, g, rfl, hn, hg, Nat.le_trans hwg hb⟩
end
end Go.Proofs.YtdgekckedchjbaaGreatDoor
