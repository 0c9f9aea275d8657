/-
  What the lexer makes of a name.
-/
import Derived.Test.YtlfckmekfncboaaDoorL18
import Derived.Test.YtlfckmekfncboaaDoorL13
namespace Go.Proofs.YtlfckmekfncboaaDoor
open Go.RowKit

/-- One token, and that a name of the whole text. -/
def oneS (X : List UInt8) : Bool := match lexS X with
  | .ok [t, _] => decide (t.kind = 1 ∧ t.text = X)
  | _ => false
theorem nameS_piece {X : List UInt8} (h : nameS X = true) : pieceS X = ⟨1, X, 0, 0⟩ ∧ lexS X = .ok [⟨1, X, 0, 1, 1⟩, ⟨0, [], 0, 1, 1 + X.length⟩] := by
  unfold nameS runS at h
  simp only [Bool.and_eq_true, decide_eq_true_eq, Bool.not_eq_true', decide_eq_false_iff_not] at h
  obtain ⟨⟨⟨h1, h2, h3⟩, h4⟩, h5⟩ := h
  have hp := preN_all h3
  have hps : pieceS X = ⟨1, X, 0, 0⟩ := by
    unfold pieceS
    rw [if_pos h2, hp, if_neg (by omega), List.take_length, if_neg h5]
  refine ⟨hps, ?_⟩
  obtain ⟨c, r, rfl⟩ := List.exists_cons_of_ne_nil h1
  have hc : letB c = true := h2
  have hc' := letB_t.1 hc
  unfold lexS
  rw [lexF_cons rfl, if_neg (by rintro rfl; simp at hc'), if_neg (by rintro (rfl | rfl) <;> simp at hc'), if_neg (by rintro rfl; simp at hc'), hps, if_neg (by simp)]
  simp [lexF]
theorem nameS_of_piece {X : List UInt8} (hk : (pieceS X).kind = 1) (ht : (pieceS X).text = X) (hX : X ≠ []) : nameS X = true := by
  unfold nameS runS
  revert hk ht
  unfold pieceS
  split
  · rename_i hl
    split
    · intro h; simp [noPc] at h
    · rename_i h30
      split
      · intro h; simp at h
      · rename_i hw
        intro _ ht
        have hall : preN innB X = X.length := by
          have h := congrArg List.length ht
          have := preN_le innB X
          rw [List.length_take] at h
          omega
        rw [hall] at h30
        simp only at ht
        rw [ht] at hw
        rw [decide_eq_true ⟨hX, hl, all_pre hall⟩, decide_eq_true (by omega : X.length ≤ 30), decide_eq_false hw]
        rfl
  · split
    · split <;> intro h <;> simp [noPc] at h
    · split
      · intro h; simp at h
      · split <;> intro h <;> simp [noPc] at h
theorem lexF_first : ∀ (f : Nat) (l : List UInt8) (line col : Int) (t : Tk) (ts : List Tk), l.length < f → lexF f l line col [] = .ok (t :: ts) → t.kind ≠ 0 → ∃ k, l.drop k ≠ [] ∧ (pieceS (l.drop k)).err = 0 ∧ t.kind = (pieceS (l.drop k)).kind ∧ t.text = (pieceS (l.drop k)).text
  | 0, _, _, _, _, _, h, _, _ => absurd h (by omega)
  | f + 1, [], line, col, t, ts, _, h, hk => by
    simp only [lexF, List.nil_append, Res.ok.injEq, List.cons.injEq] at h
    exact absurd (by rw [← h.1]) hk
  | f + 1, c :: r, line, col, t, ts, hf, h, hk => by
    have hf' : r.length < f := by simp at hf; omega
    rw [lexF_cons rfl] at h
    by_cases h1 : c = 10
    · rw [if_pos h1] at h
      obtain ⟨k, h5⟩ := lexF_first f r _ _ t ts hf' h hk
      exact ⟨k + 1, h5⟩
    · rw [if_neg h1] at h
      by_cases h2 : c = 32 ∨ c = 9
      · rw [if_pos h2] at h
        obtain ⟨k, h5⟩ := lexF_first f r _ _ t ts hf' h hk
        exact ⟨k + 1, h5⟩
      · rw [if_neg h2] at h
        by_cases h3 : c = 35
        · have hp : 1 ≤ preN nlB (c :: r) := preN_pos (by subst h3; rfl)
          rw [if_pos h3] at h
          obtain ⟨k, h5⟩ := lexF_first f _ _ _ t ts (by simp; omega) h hk
          rw [List.drop_drop] at h5
          exact ⟨_, h5⟩
        · rw [if_neg h3] at h
          by_cases h4 : (pieceS (c :: r)).err ≠ 0
          · rw [if_pos h4] at h
            cases h
          · rw [if_neg h4] at h
            have h6 : (pieceS (c :: r)).err = 0 := by simpa using h4
            have hp := (pieceS_len h6 (by simp : c :: r ≠ [])).1
            obtain ⟨us, L, C, h5, _⟩ := lexF_ok f _ _ _ _ _ (by simp; omega) h
            simp only [List.nil_append, List.cons_append, List.cons.injEq] at h5
            refine ⟨0, by simp, h6, ?_, ?_⟩
            · rw [h5.1]; rfl
            · rw [h5.1]; rfl
theorem oneS_eq (X : List UInt8) : oneS X = nameS X := by
  cases hn : nameS X
  · unfold oneS
    split
    · rename_i t t2 h
      rw [decide_eq_false_iff_not]
      rintro ⟨h1, h2⟩
      have hne : X ≠ [] := by
        rintro rfl
        simp [lexS, lexF] at h
      obtain ⟨k, h3, h4, h5, h6⟩ := lexF_first _ X 1 1 t _ (by omega) h (by rw [h1]; decide)
      have h7 := (pieceS_len h4 h3).2
      rw [← h6, h2, List.length_drop] at h7
      have h8 : 0 < X.length := List.length_pos_iff.2 hne
      obtain rfl : k = 0 := by omega
      rw [List.drop_zero] at h5 h6
      have := nameS_of_piece (by rw [← h5, h1]) (by rw [← h6, h2]) hne
      rw [hn] at this
      cases this
    · rfl
  · unfold oneS
    rw [(nameS_piece hn).2]
    simp
end Go.Proofs.YtlfckmekfncboaaDoor
