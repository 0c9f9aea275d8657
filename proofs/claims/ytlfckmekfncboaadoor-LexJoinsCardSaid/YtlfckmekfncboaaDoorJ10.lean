/-
  LexJoins: the law. The document's text is the program's, and its tokens are those that were joined.
-/
import Derived.Test.YtlfckmekfncboaaDoorJ9
import Derived.Test.YtlfckmekfncboaaDoorL25
import Derived.Lib.Join
namespace Go.Proofs.YtlfckmekfncboaaDoor
open Go.RowKit

def texts (ts : List Tk) : List (List UInt8) := (ts.filter fun t => decide (t.kind ≠ 0)).map Tk.text
theorem texts_snoc (ts : List Tk) (t : Tk) : texts (ts ++ [t]) = if t.kind = 0 then texts ts else texts ts ++ [t.text] := by
  unfold texts
  rw [List.filter_append]
  by_cases h : t.kind = 0 <;> simp [h]
theorem join_snoc (x : List UInt8) (r : List (List UInt8)) (y sep : List UInt8) : Lib.join (x :: r ++ [y]) sep = Lib.join (x :: r) sep ++ sep ++ y := by
  rw [List.cons_append, Lib.join_cons, Lib.join_cons]
  unfold Lib.joinTail
  simp [List.append_assoc]
/-- Of tokens that are no ends. -/
theorem J_us : ∀ (k : Nat) (us : List Tk), us.length = k → (∀ u ∈ us, u.kind ≠ 0) → J us = Lib.join (us.map Tk.text) [32]
  | 0, us, hk, _ => by
    obtain rfl := List.eq_nil_of_length_eq_zero hk
    rfl
  | k + 1, us, hk, hu => by
    obtain ⟨l, t, rfl⟩ : ∃ l t, us = l ++ [t] := by
      rcases List.eq_nil_or_concat us with rfl | ⟨l, t, rfl⟩
      · simp at hk
      · exact ⟨l, t, by simp⟩
    have hl : l.length = k := by simpa using hk
    have ih := J_us k l hl (fun u h => hu u (List.mem_append_left _ h))
    have ht := hu t (by simp)
    rw [J_snoc, ih, List.map_append]
    cases l with
    | nil => simp [Lib.join_nil, Lib.join_one]
    | cons a l =>
      rw [if_pos ⟨by simp, ht⟩, List.map_cons, List.map_cons, List.map_nil, join_snoc]
theorem filter_us {us : List Tk} (h : ∀ u ∈ us, u.kind ≠ 0) : us.filter (fun t => decide (t.kind ≠ 0)) = us := List.filter_eq_self.2 (fun u hu => by simpa using h u hu)
/-- What may be joined: tokens that are no ends, and perhaps an end. -/
theorem okJ_parts {ts : List Tk} (h : okJ ts = true) : ∃ us, (∀ u ∈ us, u.kind ≠ 0 ∧ rightS u.kind u.text u.n = true) ∧ (ts = us ∨ ∃ l c, ts = us ++ [⟨0, [], 0, l, c⟩]) := by
  unfold okJ at h
  rw [decide_eq_true_iff] at h
  rcases List.eq_nil_or_concat ts with rfl | ⟨l, t, rfl⟩
  · exact ⟨[], by simp, .inl rfl⟩
  · rw [List.concat_eq_append] at h ⊢
    have hl : ∀ u ∈ l, u.kind ≠ 0 ∧ rightS u.kind u.text u.n = true := by
      intro u hu
      obtain ⟨i, hi, rfl⟩ := List.getElem_of_mem hu
      have := h i (by simp; omega)
      rw [List.getElem_append_left hi] at this
      exact ⟨fun hk => this.2 ⟨hk, by simp; omega⟩, this.1⟩
    have ht := (h l.length (by simp)).1
    rw [List.getElem_append_right (Nat.le_refl _)] at ht
    simp only [Nat.sub_self, List.getElem_cons_zero] at ht
    by_cases hk : t.kind = 0
    · refine ⟨l, hl, .inr ⟨t.line, t.col, ?_⟩⟩
      obtain ⟨k, x, n, ln, co⟩ := t
      simp only at hk ht ⊢
      subst hk
      rw [right_zero, Bool.and_eq_true, decide_eq_true_eq, decide_eq_true_eq] at ht
      rw [ht.1, ht.2]
    · refine ⟨l ++ [t], ?_, .inl rfl⟩
      intro u hu
      rcases List.mem_append.1 hu with hu | hu
      · exact hl u hu
      · simp only [List.mem_singleton] at hu
        subst hu
        exact ⟨hk, ht⟩
theorem J_join {ts : List Tk} (h : okJ ts = true) : J ts = Lib.join (texts ts) [32] := by
  obtain ⟨us, hu, h2⟩ := okJ_parts h
  have hk : ∀ u ∈ us, u.kind ≠ 0 := fun u hm => (hu u hm).1
  rcases h2 with rfl | ⟨l, c, rfl⟩
  · rw [J_us _ ts rfl hk]
    unfold texts
    rw [filter_us hk]
  · rw [J_snoc, texts_snoc, if_neg (by simp), if_pos rfl, List.append_nil, List.append_nil, J_us _ us rfl hk]
    unfold texts
    rw [filter_us hk]
/-- A token of that kind is read out of its text. -/
theorem right_good {u : Tk} (hk : u.kind ≠ 0) (h : rightS u.kind u.text u.n = true) : Good u := by
  have h0 : u.text ≠ [] := by
    intro e
    rw [e, right_nil hk] at h
    cases h
  refine ⟨h0, ?_⟩
  obtain ⟨h1, h2, h3, h4⟩ := (right_law hk h0).1 h
  have hmem := head_mem h0
  have key : pieceS u.text = refPc u.text := by
    by_cases hd : digB (u.text.headD 0) = true
    · have hp : refPc u.text = ⟨2, u.text, (numS u.text).1, (numS u.text).2⟩ := by unfold refPc; rw [if_pos hd]
      have hl := (dig_not hd).1
      have hi := preN_all ((end_all (.inr hd)).1 h1)
      have h2' : (numS u.text).2 = 0 := by rw [hp] at h2; exact h2
      unfold pieceS
      rw [if_neg (by rw [hl]; simp), if_pos hd, hi, List.take_length, if_neg (by rw [h2']; simp), hp, h2']
    · by_cases hl : letB (u.text.headD 0) = true
      · have hp : refPc u.text = if 30 < u.text.length then noPc 2 else if u.text ∈ wordsL then ⟨3, u.text, 0, 0⟩ else ⟨1, u.text, 0, 0⟩ := by unfold refPc; rw [if_neg hd, if_neg (by rw [hl]; simp)]
        have hi := preN_all ((end_all (.inl hl)).1 h1)
        unfold pieceS
        rw [if_pos hl, hi, List.take_length, hp]
      · have hl' : letB (u.text.headD 0) = false := by simpa using hl
        have hp : refPc u.text = if u.text ∈ marksL then ⟨4, u.text, 0, 0⟩ else noPc 3 := by unfold refPc; rw [if_neg hd, if_pos hl']
        rw [hp] at h2 ⊢
        by_cases hm : u.text ∈ marksL
        · rw [if_pos hm]
          have hlen := mark_len u.text hm
          have h1' := h1
          unfold endS at h1'
          rw [if_neg (by rintro (h | h); exact hl h; exact hd h)] at h1'
          unfold pieceS
          rw [if_neg hl, if_neg hd]
          by_cases h2l : 2 ≤ u.text.length
          · have : u.text.take 2 = u.text := List.take_of_length_le hlen
            rw [this, if_pos ⟨h2l, hm⟩]
          · have h1l : u.text.take 1 = u.text := List.take_of_length_le (by omega)
            rw [if_neg (fun h => h2l h.1), h1l, if_pos hm]
        · rw [if_neg hm] at h2
          exact absurd h2 (by simp [noPc])
  rw [key]
  have ht : (refPc u.text).text = u.text := by
    have h5 : (refPc u.text).kind ≠ 0 := by rw [h3]; exact hk
    revert h5
    unfold refPc
    split
    · intro _; rfl
    · split
      · split
        · intro _; rfl
        · intro h; exact absurd rfl h
      · split
        · intro h; exact absurd rfl h
        · split
          · intro _; rfl
          · intro _; rfl
  rw [← h3, ← h4, ← h2]
  exact congrArg (fun x => (⟨(refPc u.text).kind, x, (refPc u.text).n, (refPc u.text).err⟩ : Pc)) ht
/-- The texts, with a blank between two. -/
theorem join_bld {u : Tk} : ∀ (us : List Tk), Lib.join ((us ++ [u]).map Tk.text) [32] = bld (fun _ => [32]) 0 us ++ u.text := by
  have g : ∀ (us : List Tk) (i : Nat), Lib.join ((us ++ [u]).map Tk.text) [32] = bld (fun _ => [32]) i us ++ u.text := by
    intro us
    induction us with
    | nil => intro i; simp [bld, Lib.join_one]
    | cons a us ih =>
      intro i
      have h := ih (i + 1)
      cases us with
      | nil =>
        simp only [List.nil_append, List.cons_append, List.map_cons, List.map_nil, bld, List.append_nil]
        rw [Lib.join_cons]
        simp [Lib.joinTail]
      | cons b us =>
        simp only [List.cons_append, List.map_cons, bld] at h ⊢
        rw [Lib.join_cons] at h ⊢
        rw [List.append_assoc (a.text ++ [32]), ← h]
        simp [Lib.joinTail]
  exact fun us => g us 0
theorem lexS_join {us : List Tk} (hg : ∀ u ∈ us, Good u) : ∃ xs L C, lexS (Lib.join (us.map Tk.text) [32]) = .ok (xs ++ [⟨0, [], 0, L, C⟩]) ∧ xs.map Tk.bare = us.map Tk.bare := by
  rcases List.eq_nil_or_concat us with rfl | ⟨l, t, rfl⟩
  · exact ⟨[], 1, 1, rfl, rfl⟩
  · rw [List.concat_eq_append] at hg ⊢
    have hs : ∀ i : Nat, SepB ((fun _ => [32]) i) := fun _ => ⟨32, [], rfl, .inr (.inl rfl), .blank (.inr (.inl rfl)) .nil⟩
    obtain ⟨xs, L, C, h1, h2⟩ := lexF_bld (fun _ => [32]) hs (Tail.piece (hg t (by simp))) l 0 (fun u hu => hg u (List.mem_append_left _ hu)) _ 1 1 [] (Nat.lt_succ_self _)
    refine ⟨xs, L, C, ?_, h2⟩
    rw [join_bld]
    simpa [lexS] using h1
end Go.Proofs.YtlfckmekfncboaaDoor
