
/-
  More blanks between the pieces: the law.
-/
import Derived.Test.YtdmlnoeneoomfaaDoorL22
import Derived.Test.YtdmlnoeneoomfaaDoorL14
namespace Go.Proofs.YtdmlnoeneoomfaaDoor
open Go.RowKit

theorem two_not_b {c x : UInt8} (h : c = 10 ∨ c = 32 ∨ c = 9) : ¬ [x, c] ∈ marksL := by
  rcases h with rfl | rfl | rfl <;> (unfold marksL; simp)
theorem preN_b {p : UInt8 → Bool} {c : UInt8} (hp : p c = false) (b : List UInt8) : ∀ a : List UInt8, preN p (a ++ c :: b) = preN p a
  | [] => by simp [preN, hp]
  | d :: a => by
    have ih := preN_b hp b a
    unfold preN at ih ⊢
    rw [List.cons_append, List.takeWhile_cons, List.takeWhile_cons]
    split
    · simp [ih]
    · rfl
/-- A blank behind a text changes nothing of its first piece. -/
theorem pieceS_b {c : UInt8} (h : c = 10 ∨ c = 32 ∨ c = 9) (a b : List UInt8) (ha : a ≠ []) : pieceS (a ++ c :: b) = pieceS a := by
  have hi : innB c = false := by rcases h with rfl | rfl | rfl <;> decide
  obtain ⟨d, r, rfl⟩ := List.exists_cons_of_ne_nil ha
  have e1 : (d :: r ++ c :: b).take (preN innB (d :: r)) = (d :: r).take (preN innB (d :: r)) := List.take_append_of_le_length (preN_le _ _)
  unfold pieceS
  rw [preN_b hi, e1]
  cases r with
  | nil =>
    have := two_not_b (x := d) h
    simp [this]
    rfl
  | cons e r =>
    simp
    rfl
theorem preN_take {p : UInt8 → Bool} (l : List UInt8) : preN p (l.take (preN p l)) = preN p l := by
  rw [preN_all (by rw [← take_of_pre]; exact fun c hc => mem_pre hc), List.length_take]
  exact Nat.min_eq_left (preN_le _ _)
/-- A piece's text is that piece. -/
theorem pieceS_self {l : List UInt8} (h : (pieceS l).err = 0) (hl : l ≠ []) : pieceS (pieceS l).text = pieceS l := by
  obtain ⟨c, r, rfl⟩ := List.exists_cons_of_ne_nil hl
  have hhd : ∀ n, 1 ≤ n → ((c :: r).take n).headD 0 = c := by
    intro n hn
    obtain ⟨m, rfl⟩ : ∃ m, n = m + 1 := ⟨n - 1, by omega⟩
    rfl
  have hp1 : letB c = true ∨ digB c = true → 1 ≤ preN innB (c :: r) := fun h => preN_pos (by unfold innB; rcases h with h | h <;> simp [h])
  have ht : (((c :: r).take (preN innB (c :: r))).take (preN innB (c :: r))) = (c :: r).take (preN innB (c :: r)) := by rw [List.take_take, Nat.min_self]
  revert h
  have hd : (c :: r).headD 0 = c := rfl
  by_cases h1 : letB c = true
  · have hn := hp1 (.inl h1)
    unfold pieceS
    rw [hd, if_pos h1]
    by_cases h2 : 30 < preN innB (c :: r)
    · rw [if_pos h2]
      intro h; exact absurd h (by decide)
    · rw [if_neg h2]
      by_cases h3 : (c :: r).take (preN innB (c :: r)) ∈ wordsL
      · rw [if_pos h3]
        intro _
        simp only
        rw [hhd _ hn, if_pos h1, preN_take, if_neg h2, ht, if_pos h3]
      · rw [if_neg h3]
        intro _
        simp only
        rw [hhd _ hn, if_pos h1, preN_take, if_neg h2, ht, if_neg h3]
  · by_cases h2 : digB c = true
    · have hn := hp1 (.inr h2)
      unfold pieceS
      rw [hd, if_neg h1, if_pos h2]
      by_cases h3 : (numS ((c :: r).take (preN innB (c :: r)))).2 ≠ 0
      · rw [if_pos h3]
        intro h; exact absurd h h3
      · rw [if_neg h3]
        intro _
        simp only
        rw [hhd _ hn, if_neg h1, if_pos h2, preN_take, ht, if_neg h3]
    · unfold pieceS
      rw [hd, if_neg h1, if_neg h2]
      by_cases h3 : 2 ≤ (c :: r).length ∧ (c :: r).take 2 ∈ marksL
      · rw [if_pos h3]
        intro _
        simp only
        rw [hhd 2 (by omega), if_neg h1, if_neg h2, List.take_take, Nat.min_self, if_pos ⟨by rw [List.length_take]; omega, h3.2⟩]
      · rw [if_neg h3]
        by_cases h4 : (c :: r).take 1 ∈ marksL
        · rw [if_pos h4]
          intro _
          simp only
          rw [hhd 1 (by omega), if_neg h1, if_neg h2, if_neg (by rw [List.length_take]; simp), List.take_take, Nat.min_self, if_pos h4]
        · rw [if_neg h4]
          intro h; exact absurd h (by decide)

/-- A token that its text is read as. -/
def Good (u : Tk) : Prop := u.text ≠ [] ∧ pieceS u.text = ⟨u.kind, u.text, u.n, 0⟩
def textsLen (us : List Tk) : Nat := (us.map fun u => u.text.length).sum
theorem textsLen_snoc (us : List Tk) (u : Tk) : textsLen (us ++ [u]) = textsLen us + u.text.length := by simp [textsLen]
theorem lexF_good : ∀ (f : Nat) (l : List UInt8) (line col : Int) (acc ts : List Tk), l.length < f → (∀ u ∈ acc, Good u) → lexF f l line col acc = .ok ts → ∃ us L C, ts = us ++ [⟨0, [], 0, L, C⟩] ∧ (∀ u ∈ us, Good u) ∧ textsLen us ≤ textsLen acc + l.length ∧ us.length ≤ acc.length + l.length
  | 0, _, _, _, _, _, h, _, _ => absurd h (by omega)
  | f + 1, [], line, col, acc, ts, _, ha, h => by
    simp only [lexF, Res.ok.injEq] at h
    exact ⟨acc, line, col, h.symm, ha, by omega, by omega⟩
  | f + 1, c :: r, line, col, acc, ts, hf, ha, h => by
    have hf' : r.length < f := by simp at hf; omega
    rw [lexF_cons rfl] at h
    rw [List.length_cons]
    by_cases h1 : c = 10
    · rw [if_pos h1] at h
      obtain ⟨us, L, C, h5, h6, h7, h8⟩ := lexF_good f r _ _ acc ts hf' ha h
      exact ⟨us, L, C, h5, h6, by omega, by omega⟩
    · rw [if_neg h1] at h
      by_cases h2 : c = 32 ∨ c = 9
      · rw [if_pos h2] at h
        obtain ⟨us, L, C, h5, h6, h7, h8⟩ := lexF_good f r _ _ acc ts hf' ha h
        exact ⟨us, L, C, h5, h6, by omega, by omega⟩
      · rw [if_neg h2] at h
        by_cases h3 : c = 35
        · have hp : 1 ≤ preN nlB (c :: r) := preN_pos (by subst h3; rfl)
          rw [if_pos h3] at h
          obtain ⟨us, L, C, h5, h6, h7, h8⟩ := lexF_good f _ _ _ acc ts (by simp; omega) ha h
          simp only [List.length_drop, List.length_cons] at h7 h8
          exact ⟨us, L, C, h5, h6, by omega, by omega⟩
        · rw [if_neg h3] at h
          by_cases h4 : (pieceS (c :: r)).err ≠ 0
          · rw [if_pos h4] at h
            cases h
          · rw [if_neg h4] at h
            have h9 : (pieceS (c :: r)).err = 0 := by simpa using h4
            have hp := pieceS_len h9 (by simp : c :: r ≠ [])
            have hs := pieceS_self h9 (by simp : c :: r ≠ [])
            have hp1 := hp.1
            have hp2 := hp.2
            obtain ⟨us, L, C, h5, h6, h7, h8⟩ := lexF_good f _ _ _ _ ts (by simp; omega) (by
              intro u hu
              rcases List.mem_append.1 hu with hu | hu
              · exact ha u hu
              · simp only [List.mem_singleton] at hu
                subst hu
                refine ⟨fun e => by simp only at e; rw [e] at hp1; simp at hp1, ?_⟩
                simp only
                rw [hs]
                exact (show pieceS (c :: r) = ⟨(pieceS (c :: r)).kind, (pieceS (c :: r)).text, (pieceS (c :: r)).n, (pieceS (c :: r)).err⟩ from rfl).trans (by rw [h9])) h
            simp only [List.length_drop, List.length_cons, textsLen_snoc, List.length_append, List.length_nil] at h7 h8
            simp only [List.length_cons] at hp2
            exact ⟨us, L, C, h5, h6, by omega, by omega⟩
theorem lexS_good {l : List UInt8} {ts : List Tk} (h : lexS l = .ok ts) : ∃ us L C, ts = us ++ [⟨0, [], 0, L, C⟩] ∧ (∀ u ∈ us, Good u) ∧ textsLen us ≤ l.length ∧ us.length ≤ l.length := by
  obtain ⟨us, L, C, h1, h2, h3, h4⟩ := lexF_good _ l 1 1 [] ts (by omega) (by simp) h
  exact ⟨us, L, C, h1, h2, by simpa [textsLen] using h3, by simpa using h4⟩
end Go.Proofs.YtdmlnoeneoomfaaDoor
