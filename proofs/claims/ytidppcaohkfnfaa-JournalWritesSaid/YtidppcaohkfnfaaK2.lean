
/-
  Journals: maps keyed by places.
-/
import Derived.Test.YtidppcaohkfnfaaKept
import Derived.Test.YtidppcaohkfnfaaProg
import Derived.Maps.Keyed
import Derived.DeepKeys4
namespace Go.Proofs.Ytidppcaohkfnfaa
open Go.RowKit Go.Maps

/-- A place as a value. -/
def plV (k : Int) (s : ByteArray) : Value := .agg #[.int .i64 k, .string s]
theorem plV_inj {k k' : Int} {s s' : ByteArray} (h : plV k s = plV k' s') : k = k' ∧ s = s' := by
  unfold plV at h
  simp at h
  exact h
/-- It may be a key. -/
def PlOk (k : Int) (s : ByteArray) : Prop := -9223372036854775808 ≤ k ∧ k ≤ 9223372036854775807 ∧ s.size ≤ 9223372036854775807
theorem place_laid : laidOutB Try.prog = true := by kernel_rfl
theorem place_row : (79 : TypeId) < Try.prog.types.size := of_decide_eq_true (by kernel_rfl)
theorem place_wide : (match Try.prog.underlying 79 with | some (.array _ _) | some (.struct _) => true | _ => false) = true := by kernel_rfl
set_option maxRecDepth 100000 in
theorem place_keyed : Keyed Try.prog 79 := Keyed.of_law (deep_law_laid place_laid (m := 3) (by omega) place_row (by kernel_rfl) place_wide)
theorem place_lits {k : Int} {s : ByteArray} (h : PlOk k s) (d : Nat) : ∃ l, Try.prog.keyLits (d + 2) 79 [.int .i64 k, .string s] = some l := by
  obtain ⟨h1, h2, h3⟩ := h
  have c0 : Try.prog.cellsOf 79 = 2 := by kernel_rfl
  have c1 : Try.prog.cellsOf 3 = 1 := by kernel_rfl
  have c2 : Try.prog.cellsOf 9 = 1 := by kernel_rfl
  have wf : (Lit.int .i64 k).wf = true := by
    have m1 : IntKind.i64.min = -9223372036854775808 := by decide
    have m2 : IntKind.i64.max = 9223372036854775807 := by decide
    simp [Lit.wf, m1, m2]
    omega
  have hm : s.size ≤ maxLen := by unfold maxLen; omega
  have e1 : Try.prog.keyLits (d + 1) 3 [.int .i64 k] = some [.int .i64 k] := by
    unfold Program.keyLits
    simp [Try.underlying3, wf]
  have e2 : Try.prog.keyLits (d + 1) 9 [.string s] = some [.string s.data.toList] := by
    unfold Program.keyLits
    simp [Try.underlying9, hm]
  unfold Program.keyLits
  simp only [Try.underlying79, c0]
  simp [c1, c2, e1, e2]
theorem place_of {k : Int} {s : ByteArray} (h : PlOk k s) : ∃ l, keyOf Try.prog 79 (plV k s) = some l := by
  obtain ⟨n, hn⟩ : ∃ n, Try.prog.types.size + 1 = n + 2 := ⟨Try.prog.types.size - 1, by have h : 0 < Try.prog.types.size := Nat.lt_of_le_of_lt (Nat.zero_le _) place_row; omega⟩
  obtain ⟨l, hl⟩ := place_lits h n
  have k1 : Try.prog.keyType 79 = true := by kernel_rfl
  have c0 : Try.prog.cellsOf 79 = 2 := by kernel_rfl
  have k2 : (plV k s).formed Try.prog 79 = true := by
    simp [plV, Value.formed, Try.underlying79, c0]
  have k3 : (plV k s).cells.toList = [.int .i64 k, .string s] := rfl
  unfold keyOf
  simp only [Try.underlying79, k1, k2, k3, hn, hl]
  exact ⟨_, rfl⟩

/-- Block r is a map that tells f of each place. -/
def PMap (w : World) (r : Nat) (f : Int → ByteArray → Option Nat) : Prop := ∃ (es : Array MapEntry) (c : Nat), w.heap[r]? = some (.map es c) ∧ es.toList.Pairwise (fun x y => x.key ≠ y.key) ∧
  (∀ x ∈ es.toList, ∃ k s i, x.key = plV k s ∧ x.val = .int .i64 ((i : Nat) : Int) ∧ f k s = some i ∧ PlOk k s) ∧ ∀ k s i, f k s = some i → ∃ x ∈ es.toList, x.key = plV k s
def putF (f : Int → ByteArray → Option Nat) (k : Int) (s : ByteArray) (i : Nat) : Int → ByteArray → Option Nat := fun k' s' => if k' = k ∧ s' = s then some i else f k' s'
section
variable {w w' : World} {r : Nat} {f : Int → ByteArray → Option Nat}
theorem PMap.lt (h : PMap w r f) : r < w.heap.size := by
  obtain ⟨es, c, h, _⟩ := h
  exact (Array.getElem?_eq_some_iff.1 h).1
theorem PMap.kept {S : Nat → Prop} (h : PMap w r f) (hk : Kept S w w') (hs : ¬ S r) : PMap w' r f := by
  have hl := h.lt
  obtain ⟨es, c, h, h2⟩ := h
  exact ⟨es, c, (hk.block r hl hs).trans h, h2⟩
theorem PMap.below (h : PMap w r f) (hb : Below w.heap.size w w') : PMap w' r f := h.kept (Kept.of_below (S := fun _ => False) hb) (fun h => h)
theorem PMap.new (w : World) : PMap (w.alloc (.map #[] 0)) w.heap.size (fun _ _ => none) := ⟨#[], 0, heap_alloc_new w _, by simp, by simp, by simp⟩
theorem PMap.congr {g : Int → ByteArray → Option Nat} (h : PMap w r f) (e : ∀ k s, f k s = g k s) : PMap w r g := by
  have : f = g := by funext k s; exact e k s
  exact this ▸ h
theorem PMap.lookup (h : PMap w r f) {k : Int} {s : ByteArray} (hp : PlOk k s) (b : Bool) :
    (Instr.lookup 68 (.map (some r)) (plV k s) b).run Try.prog w = .ok (if b then .tuple #[.int .i64 (((f k s).getD 0 : Nat) : Int), .bool (f k s).isSome] else .int .i64 (((f k s).getD 0 : Nat) : Int)) w := by
  obtain ⟨es, c, hm, hd, hf, hh⟩ := h
  obtain ⟨l, hl⟩ := place_of hp
  have hz : (zeroValue 3).run Try.prog w = .ok (.int .i64 0) w := by kernel_rfl
  unfold Instr.lookup
  simp only [run_underlying Try.underlying68, Sem.run_bind, Result.andThen_ok, Go.MapKept.run_getObj_map hm, Sem.run_pure, place_keyed.check w _ hl]
  rcases place_keyed.find w hl es.toList (fun e he => by
    obtain ⟨k', s', i', e1, _, _, ho⟩ := hf e he
    rw [e1]
    exact place_of ho) with ⟨h1, h2⟩ | ⟨j, e, h1, h2, h3⟩
  · have hn : f k s = none := by
      cases hx : f k s with
      | none => rfl
      | some i =>
        obtain ⟨x, hx1, hx2⟩ := hh k s i hx
        exact absurd hx2 (h2 x hx1)
    simp only [h1, Result.andThen_ok, Sem.run_bind, hz, Sem.run_pure, hn]
    cases b <;> rfl
  · obtain ⟨k', s', i', e1, e2, e3, _⟩ := hf e (List.mem_of_getElem? h2)
    obtain ⟨rfl, rfl⟩ := plV_inj (h3.symm.trans e1)
    simp only [h1, Result.andThen_ok, e3, e2]
    cases b <;> rfl
theorem PMap.update (h : PMap w r f) {k : Int} {s : ByteArray} (hp : PlOk k s) (i : Nat) :
    ∃ w', (Instr.mapUpdate 68 (.map (some r)) (plV k s) (.int .i64 (i : Int))).run Try.prog w = .ok () w' ∧ PMap w' r (putF f k s i) ∧ Kept (fun z => z = r) w w' := by
  obtain ⟨es, c, hm, hd, hf, hh⟩ := h
  obtain ⟨l, hl⟩ := place_of hp
  have kk : ∀ o : Obj, Kept (fun z => z = r) w { w with heap := w.heap.setIfInBounds r o } := fun o => by
    have hb := Go.MapKept.heap_set (o' := o) hm
    exact ⟨rfl, rfl, rfl, by simp, fun z _ hz => hb.2 z hz⟩
  unfold Instr.mapUpdate
  simp only [run_underlying Try.underlying68, Sem.run_bind, Result.andThen_ok, Go.MapKept.run_getObj_map hm, place_keyed.check w _ hl]
  rcases place_keyed.find w hl es.toList (fun e he => by
    obtain ⟨k', s', i', e1, _, _, ho⟩ := hf e he
    rw [e1]
    exact place_of ho) with ⟨h1, h2⟩ | ⟨j, e, h1, h2, h3⟩
  · simp only [h1, Result.andThen_ok, Go.MapKept.run_setObj_map _ hm]
    refine ⟨_, rfl, ⟨_, _, (Go.MapKept.heap_set hm).1, ?_, ?_, ?_⟩, kk _⟩
    · rw [Array.toList_push, List.pairwise_append]
      refine ⟨hd, by simp, fun x hx y hy => ?_⟩
      simp at hy
      subst hy
      exact h2 x hx
    · intro x hx
      rw [Array.toList_push, List.mem_append] at hx
      rcases hx with hx | hx
      · obtain ⟨k', s', i', e1, e2, e3, ho⟩ := hf x hx
        refine ⟨k', s', i', e1, e2, ?_, ho⟩
        unfold putF
        rw [if_neg]
        · exact e3
        · rintro ⟨rfl, rfl⟩
          exact h2 x hx e1
      · simp at hx
        subst hx
        exact ⟨k, s, i, rfl, rfl, by unfold putF; rw [if_pos ⟨rfl, rfl⟩], hp⟩
    · intro k' s' i' hk
      unfold putF at hk
      rw [Array.toList_push]
      split at hk
      · rename_i hks
        obtain ⟨rfl, rfl⟩ := hks
        exact ⟨_, List.mem_append_right _ (List.mem_singleton.2 rfl), rfl⟩
      · obtain ⟨x, hx, he⟩ := hh k' s' i' hk
        exact ⟨x, List.mem_append_left _ hx, he⟩
  · have hj : es[j]? = some e := by simpa using h2
    simp only [h1, Sem.run_bind, Result.andThen_ok, hj, Option.map_some, Option.getD_some, h3, place_keyed.stays w hl, Go.MapKept.run_setObj_map _ hm]
    have hkeys := Go.MapKept.modify_keys (es := es) j (fun e => { e with key := plV k s, val := .int .i64 (i : Int) }) (fun e' he' => by
      rw [hj] at he'
      have he2 := Option.some.inj he'
      show plV k s = e'.key
      rw [← he2, h3])
    have hdk : (es.modify j fun e => { e with key := plV k s, val := .int .i64 (i : Int) }).toList.Pairwise (fun x y => x.key ≠ y.key) := by
      have hk1 : ((es.modify j fun e => { e with key := plV k s, val := .int .i64 (i : Int) }).toList.map (·.key)).Pairwise (fun a b => a ≠ b) := by
        rw [hkeys]
        exact List.pairwise_map.2 hd
      exact List.pairwise_map.1 hk1
    have hjl : j < es.size := (Array.getElem?_eq_some_iff.1 hj).1
    refine ⟨_, rfl, ⟨_, _, (Go.MapKept.heap_set hm).1, hdk, ?_, ?_⟩, kk _⟩
    · intro x hx
      obtain ⟨q, hq, hqx⟩ := List.getElem_of_mem hx
      rw [Array.getElem_toList] at hqx
      rw [Array.length_toList, Array.size_modify] at hq
      rw [Array.getElem_modify] at hqx
      split at hqx
      · subst hqx
        exact ⟨k, s, i, rfl, rfl, by unfold putF; rw [if_pos ⟨rfl, rfl⟩], hp⟩
      · rename_i hne
        have hxm : x ∈ es.toList := by rw [← hqx]; exact Array.getElem_mem_toList hq
        obtain ⟨k', s', i', e1, e2, e3, ho⟩ := hf x hxm
        refine ⟨k', s', i', e1, e2, ?_, ho⟩
        unfold putF
        rw [if_neg]
        · exact e3
        · rintro ⟨rfl, rfl⟩
          have hek : es[q].key = es[j].key := by
            have : es[j] = e := by rw [Array.getElem?_eq_some_iff] at hj; exact hj.2
            rw [hqx, e1, this, h3]
          rcases Nat.lt_or_gt_of_ne hne with h | h
          · have := List.pairwise_iff_getElem.1 hd j q (by simpa using hjl) (by simpa using hq) h
            simp only [Array.getElem_toList] at this
            exact this hek.symm
          · have := List.pairwise_iff_getElem.1 hd q j (by simpa using hq) (by simpa using hjl) h
            simp only [Array.getElem_toList] at this
            exact this hek
    · intro k' s' i' hk
      have : ∃ x ∈ es.toList, x.key = plV k' s' := by
        unfold putF at hk
        split at hk
        · rename_i hks
          obtain ⟨rfl, rfl⟩ := hks
          exact ⟨e, List.mem_of_getElem? h2, h3⟩
        · exact hh k' s' i' hk
      obtain ⟨x, hx, he⟩ := this
      have hm2 : x.key ∈ (es.modify j fun e => { e with key := plV k s, val := .int .i64 (i : Int) }).toList.map (·.key) := by rw [hkeys]; exact List.mem_map.2 ⟨x, hx, rfl⟩
      obtain ⟨y, hy, hye⟩ := List.mem_map.1 hm2
      exact ⟨y, hy, hye.trans he⟩
end
end Go.Proofs.Ytidppcaohkfnfaa
