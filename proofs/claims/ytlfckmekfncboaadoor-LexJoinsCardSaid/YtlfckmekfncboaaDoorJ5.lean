/-
  The document's Right is the program's: the law.
-/
import Derived.Test.YtlfckmekfncboaaDoorJ4
import Derived.Test.YtlfckmekfncboaaDoorL9
namespace Go.Proofs.YtlfckmekfncboaaDoor
open Go.RowKit

theorem words_ok : ∀ X ∈ wordsL, endS X = X.length ∧ (refPc X).kind = 3 ∧ (refPc X).n = 0 ∧ (refPc X).err = 0 := by decide +kernel
theorem marks_ok : ∀ X ∈ marksL, endS X = X.length ∧ (refPc X).kind = 4 ∧ (refPc X).n = 0 ∧ (refPc X).err = 0 := by decide +kernel
theorem end_all {x : List UInt8} (hin : letB (x.headD 0) = true ∨ digB (x.headD 0) = true) : endS x = x.length ↔ ∀ c ∈ x, innB c = true := by
  unfold endS
  rw [if_pos hin]
  exact ⟨all_pre, preN_all⟩
theorem numS_dig_all {x : List UInt8} (h : (numS x).2 = 0) : x ≠ [] ∧ ∀ c ∈ x, digB c = true := by
  by_cases h1 : x = [] ∨ preN digB x ≠ x.length ∨ (1 < x.length ∧ x.head? = some 48)
  · unfold numS at h
    rw [if_pos h1] at h
    exact absurd h (by decide)
  · refine ⟨fun e => h1 (.inl e), all_pre ?_⟩
    by_cases h2 : preN digB x = x.length
    · exact h2
    · exact absurd (.inr (.inl h2)) h1
theorem head_mem {x : List UInt8} (h : x ≠ []) : x.headD 0 ∈ x := by
  obtain ⟨c, r, rfl⟩ := List.exists_cons_of_ne_nil h
  exact List.mem_cons_self ..
theorem nameS_iff {x : List UInt8} : nameS x = true ↔ (x ≠ [] ∧ letB (x.headD 0) = true ∧ ∀ c ∈ x, innB c = true) ∧ x.length ≤ 30 ∧ ¬ x ∈ wordsL := by
  unfold nameS runS
  simp only [Bool.and_eq_true, decide_eq_true_eq, Bool.not_eq_true', decide_eq_false_iff_not, and_assoc]
/-- What the program's right says, in the document's words. -/
theorem right_law {k : Int} {x : List UInt8} {n : Int} (hk : k ≠ 0) (h0 : x ≠ []) : rightS k x n = true ↔ (endS x = x.length ∧ (refPc x).err = 0 ∧ (refPc x).kind = k ∧ (refPc x).n = n) := by
  have hmem := head_mem h0
  by_cases hd : digB (x.headD 0) = true
  · have hp : refPc x = ⟨2, x, (numS x).1, (numS x).2⟩ := by unfold refPc; rw [if_pos hd]
    have hl : letB (x.headD 0) = false := (dig_not hd).1
    rw [end_all (.inr hd), hp]
    simp only
    unfold rightS
    by_cases k2 : k = 2
    · rw [if_pos k2]
      simp only [decide_eq_true_eq]
      constructor
      · rintro ⟨h1, h2⟩
        exact ⟨fun c hc => inn_dig ((numS_dig_all h1).2 c hc), h1, k2.symm, h2⟩
      · rintro ⟨_, h1, _, h2⟩
        exact ⟨h1, h2⟩
    · rw [if_neg k2]
      refine ⟨fun h => ?_, fun h => absurd h.2.2.1.symm k2⟩
      exfalso
      by_cases hn : n ≠ 0
      · rw [if_pos hn] at h; cases h
      · rw [if_neg hn, if_neg hk] at h
        by_cases k1 : k = 1
        · rw [if_pos k1, nameS_iff, hl] at h
          exact absurd h.1.2.1 (by simp)
        · rw [if_neg k1] at h
          by_cases k3 : k = 3
          · rw [if_pos k3, decide_eq_true_eq] at h
            have := (words_ok x h).2.1
            rw [hp] at this
            exact absurd this (by simp)
          · rw [if_neg k3] at h
            by_cases k4 : k = 4
            · rw [if_pos k4, decide_eq_true_eq] at h
              have := (marks_ok x h).2.1
              rw [hp] at this
              exact absurd this (by simp)
            · rw [if_neg k4] at h; cases h
  · have h2 : ∀ h : (numS x).2 = 0, False := fun h => hd ((numS_dig_all h).2 _ hmem)
    by_cases hl : letB (x.headD 0) = true
    · have hp : refPc x = if 30 < x.length then noPc 2 else if x ∈ wordsL then ⟨3, x, 0, 0⟩ else ⟨1, x, 0, 0⟩ := by unfold refPc; rw [if_neg hd, if_neg (by rw [hl]; simp)]
      rw [end_all (.inl hl)]
      have hkn : (refPc x).n = 0 ∧ (refPc x).kind ≠ 2 ∧ (refPc x).kind ≠ 4 := by
        rw [hp]
        split
        · exact ⟨rfl, by simp [noPc], by simp [noPc]⟩
        · split
          · exact ⟨rfl, by simp, by simp⟩
          · exact ⟨rfl, by simp, by simp⟩
      unfold rightS
      by_cases k2 : k = 2
      · rw [if_pos k2, decide_eq_true_eq]
        exact ⟨fun h => (h2 h.1).elim, fun h => absurd (h.2.2.1.trans k2) hkn.2.1⟩
      · rw [if_neg k2]
        by_cases hn : n ≠ 0
        · rw [if_pos hn]
          exact ⟨fun h => (by cases h), fun h => absurd (h.2.2.2.symm.trans hkn.1) hn⟩
        · have hn0 : n = 0 := by simpa using hn
          rw [if_neg hn, if_neg hk]
          by_cases k1 : k = 1
          · rw [if_pos k1, nameS_iff, hp]
            constructor
            · rintro ⟨⟨_, _, h3⟩, h4, h5⟩
              rw [if_neg (by omega), if_neg h5]
              exact ⟨h3, rfl, k1.symm, hn0.symm⟩
            · rintro ⟨h3, h4, h5, _⟩
              by_cases h6 : 30 < x.length
              · rw [if_pos h6] at h4; exact absurd h4 (by simp [noPc])
              · rw [if_neg h6] at h4 h5
                by_cases h7 : x ∈ wordsL
                · rw [if_pos h7, k1] at h5; exact absurd h5 (by simp)
                · exact ⟨⟨h0, hl, h3⟩, by omega, h7⟩
          · rw [if_neg k1]
            by_cases k3 : k = 3
            · rw [if_pos k3, decide_eq_true_eq]
              constructor
              · intro h
                have hw := words_ok x h
                exact ⟨(end_all (.inl hl)).1 hw.1, hw.2.2.2, hw.2.1.trans k3.symm, hw.2.2.1.trans hn0.symm⟩
              · rintro ⟨_, h4, h5, _⟩
                rw [hp] at h4 h5
                by_cases h6 : 30 < x.length
                · rw [if_pos h6] at h4; exact absurd h4 (by simp [noPc])
                · rw [if_neg h6] at h5
                  by_cases h7 : x ∈ wordsL
                  · exact h7
                  · rw [if_neg h7, k3] at h5; exact absurd h5 (by simp)
            · rw [if_neg k3]
              by_cases k4 : k = 4
              · rw [if_pos k4, decide_eq_true_eq]
                exact ⟨fun h => absurd (marks_ok x h).2.1 hkn.2.2, fun h => absurd (h.2.2.1.trans k4) hkn.2.2⟩
              · rw [if_neg k4]
                refine ⟨fun h => (by cases h), ?_⟩
                rintro ⟨_, h4, h5, _⟩
                exfalso
                rw [hp] at h4 h5
                by_cases h6 : 30 < x.length
                · rw [if_pos h6] at h4; exact absurd h4 (by simp [noPc])
                · rw [if_neg h6] at h5
                  by_cases h7 : x ∈ wordsL
                  · rw [if_pos h7] at h5; exact k3 h5.symm
                  · rw [if_neg h7] at h5; exact k1 h5.symm
    · have hl' : letB (x.headD 0) = false := by simpa using hl
      have hp : refPc x = if x ∈ marksL then ⟨4, x, 0, 0⟩ else noPc 3 := by unfold refPc; rw [if_neg hd, if_pos hl']
      have hkn : (refPc x).n = 0 ∧ ((refPc x).err = 0 → (refPc x).kind = 4 ∧ x ∈ marksL) := by
        rw [hp]
        split
        · exact ⟨rfl, fun _ => ⟨rfl, by assumption⟩⟩
        · exact ⟨rfl, fun h => absurd h (by simp [noPc])⟩
      unfold rightS
      by_cases k2 : k = 2
      · rw [if_pos k2, decide_eq_true_eq]
        refine ⟨fun h => (h2 h.1).elim, fun h => ?_⟩
        have := (hkn.2 h.2.1).1
        rw [h.2.2.1, k2] at this
        exact absurd this (by simp)
      · rw [if_neg k2]
        by_cases hn : n ≠ 0
        · rw [if_pos hn]
          exact ⟨fun h => (by cases h), fun h => absurd (h.2.2.2.symm.trans hkn.1) hn⟩
        · have hn0 : n = 0 := by simpa using hn
          rw [if_neg hn, if_neg hk]
          by_cases k1 : k = 1
          · rw [if_pos k1, nameS_iff]
            refine ⟨fun h => absurd h.1.2.1 hl, fun h => ?_⟩
            have := (hkn.2 h.2.1).1
            rw [h.2.2.1, k1] at this
            exact absurd this (by simp)
          · rw [if_neg k1]
            by_cases k3 : k = 3
            · rw [if_pos k3, decide_eq_true_eq]
              constructor
              · intro h
                have hw := words_ok x h
                have := (hkn.2 hw.2.2.2).1
                rw [hw.2.1] at this
                exact absurd this (by simp)
              · intro h
                have := (hkn.2 h.2.1).1
                rw [h.2.2.1, k3] at this
                exact absurd this (by simp)
            · rw [if_neg k3]
              by_cases k4 : k = 4
              · rw [if_pos k4, decide_eq_true_eq]
                constructor
                · intro h
                  have hw := marks_ok x h
                  exact ⟨hw.1, hw.2.2.2, hw.2.1.trans k4.symm, hw.2.2.1.trans hn0.symm⟩
                · intro h
                  exact (hkn.2 h.2.1).2
              · rw [if_neg k4]
                refine ⟨fun h => (by cases h), fun h => ?_⟩
                have := (hkn.2 h.2.1).1
                rw [h.2.2.1] at this
                exact absurd this k4
/-- The document's Right. -/
theorem right_zero (x : List UInt8) (n : Int) : rightS 0 x n = (decide (x = []) && decide (n = 0)) := by
  unfold rightS
  rw [if_neg (by decide)]
  by_cases hn : n = 0
  · rw [if_neg (by simpa using hn), if_pos rfl]
    simp [hn]
  · rw [if_pos hn]
    simp [hn]
theorem right_nil {k : Int} (hk : k ≠ 0) (n : Int) : rightS k [] n = false := by
  unfold rightS
  by_cases k2 : k = 2
  · rw [if_pos k2, decide_eq_false_iff_not]
    rintro ⟨h, _⟩
    exact absurd h (by decide)
  · rw [if_neg k2]
    by_cases hn : n ≠ 0
    · rw [if_pos hn]
    · rw [if_neg hn, if_neg hk]
      split
      · rfl
      · split
        · decide
        · split
          · decide
          · rfl
end Go.Proofs.YtlfckmekfncboaaDoor
