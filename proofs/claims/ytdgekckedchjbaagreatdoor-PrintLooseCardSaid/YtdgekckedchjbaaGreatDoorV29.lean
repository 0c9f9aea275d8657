
/-
  PrintLoose: blanks and comments ahead of a blank play no part, in plain Lean. No program is named here.
-/
import Derived.Test.YtdgekckedchjbaaGreatDoorV26
import Derived.Test.YtdgekckedchjbaaGreatDoorV28
import Derived.Test.YtdgekckedchjbaaGreatDoorL25
namespace Go.Proofs.YtdgekckedchjbaaGreatDoor

/-- From whatever place, with whatever fuel: the same tokens, but for their places. -/
theorem lexF_mv : ∀ (f : Nat) (l : List UInt8) (line col : Int) (acc ts : List Tk), l.length < f → lexF f l line col acc = .ok ts → ∀ (g : Nat) (line' col' : Int) (acc' : List Tk), l.length < g → acc'.map Tk.z = acc.map Tk.z → ∃ ts', lexF g l line' col' acc' = .ok ts' ∧ ts'.map Tk.z = ts.map Tk.z
  | 0, _, _, _, _, _, h, _, _, _, _, _, _, _ => absurd h (by omega)
  | _ + 1, _, _, _, _, _, _, _, 0, _, _, _, h, _ => absurd h (by omega)
  | f + 1, [], line, col, acc, ts, _, h, g + 1, line', col', acc', _, ha => by
    simp only [lexF, Res.ok.injEq] at h
    subst h
    exact ⟨acc' ++ [⟨0, [], 0, line', col'⟩], by simp only [lexF], by rw [List.map_append, List.map_append, ha]; rfl⟩
  | f + 1, c :: r, line, col, acc, ts, hf, h, g + 1, line', col', acc', hg, ha => by
    have hf' : r.length < f := by simp at hf; omega
    have hg' : r.length < g := by simp at hg; omega
    rw [lexF_cons rfl] at h ⊢
    by_cases h1 : c = 10
    · rw [if_pos h1] at h ⊢
      exact lexF_mv f r _ _ acc ts hf' h g _ _ acc' hg' ha
    · rw [if_neg h1] at h ⊢
      by_cases h2 : c = 32 ∨ c = 9
      · rw [if_pos h2] at h ⊢
        exact lexF_mv f r _ _ acc ts hf' h g _ _ acc' hg' ha
      · rw [if_neg h2] at h ⊢
        by_cases h3 : c = 35
        · rw [if_pos h3] at h ⊢
          have hp : 1 ≤ preN nlB (c :: r) := preN_pos (by subst h3; rfl)
          exact lexF_mv f _ _ _ acc ts (by simp; omega) h g _ _ acc' (by simp; omega) ha
        · rw [if_neg h3] at h ⊢
          by_cases h4 : (pieceS (c :: r)).err ≠ 0
          · rw [if_pos h4] at h
            cases h
          · rw [if_neg h4] at h ⊢
            have hp := (pieceS_len (by simpa using h4) (by simp : c :: r ≠ [])).1
            exact lexF_mv f _ _ _ _ ts (by simp; omega) h g _ _ _ (by simp; omega) (by rw [List.map_append, List.map_append, ha]; rfl)
/-- What stands ahead of a blank, without a comment, ends there. -/
theorem lexF_ins {c : UInt8} {b : List UInt8} (hc : c = 10 ∨ c = 32 ∨ c = 9) {c0 : UInt8} {m : List UInt8} (hc0 : c0 = 10 ∨ c0 = 32 ∨ c0 = 9) (hm : Sep (c0 :: m)) : ∀ (f : Nat) (a : List UInt8) (line col : Int) (acc ts : List Tk), (∀ x ∈ a, x ≠ 35) → (a ++ c :: b).length < f → lexF f (a ++ c :: b) line col acc = .ok ts →
    ∀ (g : Nat) (line' col' : Int) (acc' : List Tk), (a ++ (c0 :: m ++ c :: b)).length < g → acc'.map Tk.z = acc.map Tk.z → ∃ ts', lexF g (a ++ (c0 :: m ++ c :: b)) line' col' acc' = .ok ts' ∧ ts'.map Tk.z = ts.map Tk.z
  | 0, _, _, _, _, _, _, h, _, _, _, _, _, _, _ => absurd h (by omega)
  | _ + 1, _, _, _, _, _, _, _, _, 0, _, _, _, h, _ => absurd h (by omega)
  | f + 1, [], line, col, acc, ts, _, hf, h, g + 1, line', col', acc', hg, ha => by
    rw [List.nil_append] at hf h hg ⊢
    obtain ⟨g', L, C, hgl, hge⟩ := hm.skip (c :: b) (g + 1) line' col' acc' hg
    rw [hge]
    exact lexF_mv (f + 1) _ line col acc ts hf h g' L C acc' hgl ha
  | f + 1, x :: a, line, col, acc, ts, hn, hf, h, g + 1, line', col', acc', hg, ha => by
    have hn' : ∀ y ∈ a, y ≠ 35 := fun y hy => hn y (List.mem_cons_of_mem _ hy)
    rw [List.cons_append] at hf h hg ⊢
    have hf' : (a ++ c :: b).length < f := by rw [List.length_cons] at hf; omega
    have hg' : (a ++ (c0 :: m ++ c :: b)).length < g := by rw [List.length_cons] at hg; omega
    rw [lexF_cons rfl] at h ⊢
    by_cases h1 : x = 10
    · rw [if_pos h1] at h ⊢
      exact lexF_ins hc hc0 hm f a _ _ acc ts hn' hf' h g _ _ acc' hg' ha
    · rw [if_neg h1] at h ⊢
      by_cases h2 : x = 32 ∨ x = 9
      · rw [if_pos h2] at h ⊢
        exact lexF_ins hc hc0 hm f a _ _ acc ts hn' hf' h g _ _ acc' hg' ha
      · rw [if_neg h2] at h ⊢
        have h3 : ¬ x = 35 := hn x (List.mem_cons_self ..)
        rw [if_neg h3] at h ⊢
        have p1 : pieceS (x :: (a ++ c :: b)) = pieceS (x :: a) := pieceS_b hc (x :: a) b (by simp)
        have p2 : pieceS (x :: (a ++ (c0 :: m ++ c :: b))) = pieceS (x :: a) := pieceS_b hc0 (x :: a) (m ++ c :: b) (by simp)
        rw [p1] at h
        rw [p2]
        by_cases h4 : (pieceS (x :: a)).err ≠ 0
        · rw [if_pos h4] at h
          cases h
        · rw [if_neg h4] at h ⊢
          have hp := pieceS_len (by simpa using h4) (by simp : x :: a ≠ [])
          have e1 : ∀ r : List UInt8, (x :: (a ++ r)).drop (pieceS (x :: a)).text.length = (x :: a).drop (pieceS (x :: a)).text.length ++ r := fun r => by
            rw [← List.cons_append, List.drop_append_of_le_length hp.2]
          rw [e1] at h ⊢
          have hl : ((x :: a).drop (pieceS (x :: a)).text.length).length + 1 ≤ (x :: a).length := by
            rw [List.length_drop]
            have := hp.1
            have := hp.2
            omega
          refine lexF_ins hc hc0 hm f _ _ _ _ ts (fun y hy => hn y (List.mem_of_mem_drop hy)) ?_ h g _ _ _ ?_ (by rw [List.map_append, List.map_append, ha]; rfl)
          · rw [List.length_append] at hf' ⊢
            rw [List.length_cons] at hl
            omega
          · rw [List.length_append] at hg' ⊢
            rw [List.length_cons] at hl
            omega
theorem progO_z {l l' : List UInt8} {ts ts' : List Tk} (h : lexS l = .ok ts) (h' : lexS l' = .ok ts') (e : ts'.map Tk.z = ts.map Tk.z) {p : Pg} (hp : progO l = .ok p) : progO l' = .ok p := by
  have key : ∀ (q : PS Pg), endP (q.map Tk.z) = .ok p ↔ endP q = .ok p := by
    intro q
    cases q with
    | ok x r =>
      cases r with
      | nil => exact Iff.rfl
      | cons t r =>
        simp only [PS.map, List.map_cons, endP, Tk.z]
        split <;> simp
    | bad r e => cases r <;> simp [PS.map, endP]
  have o : ∀ {m : List UInt8} {us : List Tk}, lexS m = .ok us → progO m = endP (progP us) := fun h => by
    unfold progO
    rw [h]
  rw [o h] at hp
  rw [o h', ← key, ← progP_z, e, progP_z, key]
  exact hp
/-- The text with more ahead of a blank: the same program. -/
theorem progO_more {a b : List UInt8} {c : UInt8} (hc : c = 10 ∨ c = 32 ∨ c = 9) {c0 : UInt8} {m : List UInt8} (hc0 : c0 = 10 ∨ c0 = 32 ∨ c0 = 9) (hm : Sep (c0 :: m)) (hn : ∀ x ∈ a, x ≠ 35) {p : Pg} (h : progO (a ++ c :: b) = .ok p) : progO (a ++ (c0 :: m ++ c :: b)) = .ok p := by
  obtain ⟨ts, r, h1, -, -⟩ := progO_lex h
  obtain ⟨ts', h2, h3⟩ := lexF_ins hc hc0 hm _ a 1 1 [] ts hn (Nat.lt_succ_self _) h1 _ 1 1 [] (Nat.lt_succ_self _) rfl
  exact progO_z h1 h2 h3 h
/-- What is put in. -/
def moreS (k : Nat) : List UInt8 :=
  if k = 0 then [32, 32] else if k = 1 then [10] else if k = 2 then [32, 35, 32, 115, 111, 32, 40, 32, 105, 116, 32, 91, 32, 105, 115, 10] else if k = 3 then [9] else [10, 10]
theorem moreS_sep (k : Nat) : ∃ c0 m, moreS k = c0 :: m ∧ (c0 = 10 ∨ c0 = 32 ∨ c0 = 9) ∧ Sep (c0 :: m) := by
  unfold moreS
  have n0 : Sep [10] := .blank (.inl rfl) .nil
  split
  · exact ⟨32, [32], rfl, .inr (.inl rfl), .blank (.inr (.inl rfl)) (.blank (.inr (.inl rfl)) .nil)⟩
  split
  · exact ⟨10, [], rfl, .inl rfl, n0⟩
  split
  · exact ⟨32, [35, 32, 115, 111, 32, 40, 32, 105, 116, 32, 91, 32, 105, 115, 10], rfl, .inr (.inl rfl), .blank (.inr (.inl rfl)) (Sep.note (n := [32, 115, 111, 32, 40, 32, 105, 116, 32, 91, 32, 105, 115]) (s := []) (by decide) n0)⟩
  split
  · exact ⟨9, [], rfl, .inr (.inr rfl), .blank (.inr (.inr rfl)) .nil⟩
  · exact ⟨10, [10], rfl, .inl rfl, .blank (.inl rfl) n0⟩
theorem moreS_len (k : Nat) : (moreS k).length ≤ 16 := by
  unfold moreS
  split
  · decide
  split
  · decide
  split
  · decide
  split <;> decide
/-- A printed text, with more put in ahead of one of its blanks, is read as it was. -/
theorem loose_law {p : Px} {t : List UInt8} (h : PrintIs p t) {k : Nat} (hk : t[k]? = some 32 ∨ t[k]? = some 10) (j : Nat) : ∃ q, progO (t.take k ++ moreS j ++ t.drop k) = .ok q ∧ q.px = p := by
  obtain ⟨c, hc, e⟩ : ∃ c : UInt8, (c = 10 ∨ c = 32 ∨ c = 9) ∧ t[k]? = some c := by
    rcases hk with hk | hk
    · exact ⟨32, .inr (.inl rfl), hk⟩
    · exact ⟨10, .inl rfl, hk⟩
  obtain ⟨hl, he⟩ := List.getElem?_eq_some_iff.1 e
  have hd : t.drop k = c :: t.drop (k + 1) := by rw [List.drop_eq_getElem_cons hl, he]
  have ht : t.take k ++ c :: t.drop (k + 1) = t := by rw [← hd, List.take_append_drop]
  obtain ⟨c0, m, hm, hc0, hs⟩ := moreS_sep j
  have h35 := h.form.no35
  obtain ⟨-, -, q, hq, hqp⟩ := h
  refine ⟨q, ?_, hqp⟩
  rw [hm, hd, List.append_assoc]
  refine progO_more hc hc0 hs (fun x hx => h35 x (List.mem_of_mem_take hx)) ?_
  rw [ht]
  exact hq
end Go.Proofs.YtdgekckedchjbaaGreatDoor
