/-
  TopupApart: the plain law, and the walk.
-/
import Derived.Test.YtdbffjipoiphpaaT29
import Derived.WalkLawsBesides
namespace Go.Proofs.Ytdbffjipoiphpaa
open Go.RowKit

/-- A row that is filled so far. -/
def fillTo (s : List Int) (k : Nat) : List Int := s.take k ++ List.replicate (s.length - k) 0
theorem fillTo_zero (s : List Int) : fillTo s 0 = List.replicate s.length 0 := by simp [fillTo]
theorem fillTo_all (s : List Int) : fillTo s s.length = s := by simp [fillTo]
theorem fillTo_len (s : List Int) (k : Nat) (h : k ≤ s.length) : (fillTo s k).length = s.length := by simp [fillTo]; omega
theorem fillTo_succ (s : List Int) (k : Nat) (h : k < s.length) : (fillTo s k).set k (s.getD k 0) = fillTo s (k + 1) := by
  unfold fillTo
  rw [List.set_append_right _ _ (by simp; omega), List.take_succ_eq_append_getElem h, List.append_assoc]
  congr 1
  rw [List.length_take, Nat.min_eq_left (by omega), Nat.sub_self, show s.length - k = (s.length - (k + 1)) + 1 from by omega, List.replicate_succ, List.set_cons_zero, ← getD_at h]
  rfl
/-- One more each, so far. -/
def incTo (s : List Int) (k : Nat) : List Int := (s.take k).map (· + 1) ++ s.drop k
theorem incTo_zero (s : List Int) : incTo s 0 = s := by simp [incTo]
theorem incTo_all (s : List Int) : incTo s s.length = s.map (· + 1) := by simp [incTo]
theorem incTo_len (s : List Int) (k : Nat) (h : k ≤ s.length) : (incTo s k).length = s.length := by simp [incTo]; omega
theorem incTo_at (s : List Int) (k : Nat) (h : k < s.length) : (incTo s k).getD k 0 = s.getD k 0 := by
  unfold incTo
  rw [List.getD_eq_getElem?_getD, List.getD_eq_getElem?_getD, List.getElem?_append_right (by simp; omega)]
  simp [show min k s.length = k by omega]
theorem incTo_succ (s : List Int) (k : Nat) (h : k < s.length) : (incTo s k).set k (s.getD k 0 + 1) = incTo s (k + 1) := by
  unfold incTo
  rw [List.set_append_right _ _ (by simp; omega), List.take_succ_eq_append_getElem h, List.map_append, List.append_assoc]
  congr 1
  rw [List.length_map, List.length_take, Nat.min_eq_left (by omega), Nat.sub_self, List.drop_eq_getElem_cons h, List.set_cons_zero, ← getD_at h]
  rfl
theorem map_getD (s : List Int) (f : Int → Int) (k : Nat) (h : k < s.length) : (s.map f).getD k 0 = f (s.getD k 0) := by
  rw [← getD_at (by simpa using h), List.getElem_map, getD_at h]

theorem right17 {x : Int} (h : 0 ≤ x ∧ x ≤ 65536) : rightB x = true := rightB_iff.2 ⟨h.1, by omega⟩
theorem sum17 {l : List Int} (h : ∀ x ∈ l, 1 ≤ x ∧ x ≤ 65536) : (l.length : Int) ≤ l.sum ∧ l.sum ≤ l.length * 65536 := by
  induction l with
  | nil => simp
  | cons x xs ih =>
    have h1 := h x (by simp)
    have h2 := ih (fun y hy => h y (by simp [hy]))
    simp only [List.sum_cons, List.length_cons]
    omega
/-- What the bank of this law is asked for is granted. -/
theorem ap_ask {s a : List Int} (h2 : 2 ≤ s.length) (h8 : s.length ≤ 8) (hl : a.length = s.length) (hs : ∀ x ∈ s, 0 ≤ x ∧ x ≤ 65535) (ha : ∀ x ∈ a, 1 ≤ x ∧ x ≤ 65536) : askE ⟨s, -1, none⟩ 5 1 a 9 = 0 := by
  have ht : totR 0 a = (a.sum, true) := by rw [totR_all _ (fun x hx => right17 (by have := ha x hx; omega)), Int.zero_add]
  have h1 := sum16 hs
  have h3 := sum17 ha
  have hr : rightB (s.sum + a.sum) = true := rightB_iff.2 ⟨by omega, by omega⟩
  unfold askE askL
  rw [ht]
  have e1 : hts 5 1 9 = true := by decide
  have e2 : decide (a.length = s.length) = true := by simpa using hl
  have e3 : decide ((-1 : Int) < 1) = true := by decide
  have e4 : decide ((5 : Int) ≤ 9) = true := by decide
  have e5 : freeB ⟨s, -1, none⟩ 5 = true := rfl
  have e6 : decide (0 < a.sum) = true := by simp; omega
  simp only [e1, e2, e3, e4, e5, e6, hr]
  rfl
/-- The bank of this law. -/
def apB (s a : List Int) : Bk := askB ⟨s, -1, none⟩ tab0 1 a 9
def apW (a : List Int) : Wt := askW tab0 1 a 9
theorem ap_laid {a : List Int} (ha : ∀ x ∈ a, 1 ≤ x ∧ x ≤ 65536) (i : Nat) : (apW a).laid.getD i false = false := by
  show (laidTo a a.length).getD i false = false
  by_cases hi : i < a.length
  · rw [laidTo_getD a i hi]
    have := ha _ (List.getElem_mem hi)
    rw [← getD_at hi, beq_eq_false_iff_ne]
    omega
  · unfold laidTo
    rw [List.getD_eq_getElem?_getD, List.getElem?_append_right (by simp; omega)]
    cases h : (List.replicate (8 - a.length) false)[i - (List.map (fun a => a == 0) (List.take a.length a)).length]? with
    | none => rfl
    | some b =>
      have := List.mem_of_getElem? h
      simp at this
      simp [this.2]
theorem ap_put {s a : List Int} {i : Nat} (hi : i < s.length) (ha : ∀ x ∈ a, 1 ≤ x ∧ x ≤ 65536) : putE (apB s a) 6 i (a.getD i 0) = 0 := by
  have e0 : askedE (apB s a) 6 i = 0 := by
    have e1 : (apB s a).wt.isSome = true := rfl
    have e2 : seatE (i : Int) (apB s a).stakes.length = 0 := by
      have : (apB s a).stakes.length = s.length := rfl
      simp [seatE, un, this, hi]
    unfold askedE
    rw [e1, e2]
    decide
  unfold putE putL
  rw [e0]
  have e1 : ((apB s a).wt.getD noW) = apW a := rfl
  rw [e1, Int.toNat_natCast, ap_laid ha]
  have e2 : un (!decide ((apW a).till < 6)) 19 = 0 := rfl
  have e3 : (a.getD i 0 == (apW a).adds.getD i 0) = true := by
    have : (apW a).adds = a := rfl
    rw [this]; simp
  rw [e2, e3]
  decide
theorem ap_full {a : List Int} {i : Nat} (h2 : 2 ≤ a.length) (ha : ∀ x ∈ a, 1 ≤ x ∧ x ≤ 65536) : fullW (layW (apW a) i true) = false := by
  cases hf : fullW (layW (apW a) i true)
  · rfl
  · exfalso
    unfold fullW at hf
    rw [List.all_eq_true] at hf
    obtain ⟨j, hj, hji⟩ : ∃ j, j < a.length ∧ j ≠ i := by
      by_cases h0 : i = 0
      · exact ⟨1, by omega, by omega⟩
      · exact ⟨0, by omega, by omega⟩
    have hlen : (apW a).laid.length = 8 ∨ a.length > 8 := by
      by_cases h8 : a.length ≤ 8
      · exact .inl (laidTo_len a h8 _ (Nat.le_refl _))
      · exact .inr (by omega)
    have hg : ((layW (apW a) i true).laid).getD j false = false := by
      show ((apW a).laid.set i true).getD j false = false
      rw [List.getD_eq_getElem?_getD, List.getElem?_set, if_neg (fun e => hji e.symm), ← List.getD_eq_getElem?_getD]
      exact ap_laid ha j
    have hjl : j < (layW (apW a) i true).laid.length := by
      show j < ((apW a).laid.set i true).length
      rw [List.length_set]
      show j < (laidTo a a.length).length
      simp [laidTo]
      omega
    have hm := hf ((layW (apW a) i true).laid[j]) (by
      rw [List.mem_iff_getElem?]
      refine ⟨j, ?_⟩
      have : (layW (apW a) i true).adds.length = a.length := rfl
      rw [this, List.getElem?_take, if_pos hj, List.getElem?_eq_getElem hjl])
    rw [List.getD_eq_getElem?_getD, List.getElem?_eq_getElem hjl] at hg
    simp at hg hm
    rw [hg] at hm
    cases hm
theorem ap_putB {s a : List Int} {i : Nat} (h2 : 2 ≤ a.length) (ha : ∀ x ∈ a, 1 ≤ x ∧ x ≤ 65536) : putB (apB s a) i = { (apB s a) with wt := some (layW (apW a) i true) } := by
  show (if fullW (layW (apW a) i true) then _ else _) = _
  rw [ap_full h2 ha]
  rfl
theorem ap_differ {a : List Int} {i : Nat} (hi : i < a.length) (h8 : a.length ≤ 8) (ha : ∀ x ∈ a, 1 ≤ x ∧ x ≤ 65536) : (apW a).laid ≠ (layW (apW a) i true).laid := by
  intro e
  have h1 := ap_laid ha i
  rw [e] at h1
  have hl : (apW a).laid.length = 8 := laidTo_len a h8 _ (Nat.le_refl _)
  have : (layW (apW a) i true).laid.getD i false = true := by
    show ((apW a).laid.set i true).getD i false = true
    rw [set_getD _ _ _ (by omega)]; simp
  rw [h1] at this
  cases this
theorem ap_held (s a : List Int) : heldB (apB s a) = s.sum := by
  rw [heldB_some (b := apB s a) (x := apW a) rfl]
  show s.sum + sumTo (askW tab0 1 a 9) a.length = s.sum
  rw [sumTo_asked]; simp
end Go.Proofs.Ytdbffjipoiphpaa
