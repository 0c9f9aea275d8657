
/-
  The lexer's law over two texts, one behind the other, with a line feed between.
-/
import Derived.Test.YtdmlnoeneoomfaaDoorL7
namespace Go.Proofs.YtdmlnoeneoomfaaDoor
open Go.RowKit

def Tk.down (k : Int) (t : Tk) : Tk := ⟨t.kind, t.text, t.n, t.line + k, t.col⟩
def Res.from_ (acc : List Tk) (k : Int) : Res → Res
  | .ok ts => .ok (acc ++ ts.map (Tk.down k))
  | .err l c e => .err (l + k) c e

theorem lexF_from (acc : List Tk) (k : Int) : ∀ (f g : Nat) (l : List UInt8) (line col : Int) (bcc : List Tk), l.length < f → l.length < g →
    lexF f l (line + k) col (acc ++ bcc.map (Tk.down k)) = (lexF g l line col bcc).from_ acc k
  | 0, _, _, _, _, _, h, _ => absurd h (by omega)
  | _ + 1, 0, _, _, _, _, _, h => absurd h (by omega)
  | f + 1, g + 1, [], line, col, bcc, _, _ => by simp [lexF, Res.from_, Tk.down]
  | f + 1, g + 1, c :: r, line, col, bcc, hf, hg => by
    have hf' : r.length < f := by simp at hf; omega
    have hg' : r.length < g := by simp at hg; omega
    rw [lexF_cons rfl, lexF_cons rfl]
    by_cases h1 : c = 10
    · rw [if_pos h1, if_pos h1, show line + k + 1 = line + 1 + k by omega]
      exact lexF_from acc k f g r (line + 1) 1 bcc hf' hg'
    · rw [if_neg h1, if_neg h1]
      by_cases h2 : c = 32 ∨ c = 9
      · rw [if_pos h2, if_pos h2]
        exact lexF_from acc k f g r line (col + 1) bcc hf' hg'
      · rw [if_neg h2, if_neg h2]
        by_cases h3 : c = 35
        · rw [if_pos h3, if_pos h3]
          have hp : 1 ≤ preN nlB (c :: r) := preN_pos (by subst h3; rfl)
          exact lexF_from acc k f g _ line _ bcc (by simp <;> omega) (by simp <;> omega)
        · rw [if_neg h3, if_neg h3]
          by_cases h4 : (pieceS (c :: r)).err ≠ 0
          · rw [if_pos h4, if_pos h4]
            rfl
          · rw [if_neg h4, if_neg h4]
            have hp := (pieceS_len (by simpa using h4) (by simp : c :: r ≠ [])).1
            have := lexF_from acc k f g ((c :: r).drop (pieceS (c :: r)).text.length) line (col + (pieceS (c :: r)).text.length) (bcc ++ [⟨(pieceS (c :: r)).kind, (pieceS (c :: r)).text, (pieceS (c :: r)).n, line, col⟩]) (by simp <;> omega) (by simp <;> omega)
            rw [List.map_append, ← List.append_assoc] at this
            exact this
theorem preN_nl {p : UInt8 → Bool} (hp : p 10 = false) (b : List UInt8) : ∀ a : List UInt8, preN p (a ++ 10 :: b) = preN p a
  | [] => by simp [preN, hp]
  | c :: a => by
    have ih := preN_nl hp b a
    unfold preN at ih ⊢
    rw [List.cons_append, List.takeWhile_cons, List.takeWhile_cons]
    split
    · simp [ih]
    · rfl
theorem two_not (c : UInt8) : ¬ [c, 10] ∈ marksL := by
  unfold marksL
  simp
theorem pieceS_nl (a b : List UInt8) (ha : a ≠ []) : pieceS (a ++ 10 :: b) = pieceS a := by
  obtain ⟨c, r, rfl⟩ := List.exists_cons_of_ne_nil ha
  have e1 : (c :: r ++ 10 :: b).take (preN innB (c :: r)) = (c :: r).take (preN innB (c :: r)) := List.take_append_of_le_length (preN_le _ _)
  unfold pieceS
  rw [preN_nl (by decide), e1]
  cases r with
  | nil =>
    have := two_not c
    simp [this]
    rfl
  | cons d r =>
    simp
    rfl
theorem mem_pre {p : UInt8 → Bool} : ∀ {l : List UInt8} {x : UInt8}, x ∈ l.takeWhile p → p x = true
  | [], x, h => absurd h (by simp)
  | c :: l, x, h => by
    by_cases hc : p c = true
    · rw [List.takeWhile_cons_of_pos hc] at h
      rcases List.mem_cons.1 h with rfl | h
      · exact hc
      · exact mem_pre h
    · rw [List.takeWhile_cons_of_neg hc] at h
      exact absurd h (by simp)
theorem head_text {l : List UInt8} (h : (pieceS l).err = 0) : (pieceS l).text = l.take (pieceS l).text.length ∧ (∀ x ∈ (pieceS l).text, x ≠ 10 ∧ x ≠ 32 ∧ x ≠ 9 ∧ x ≠ 35) := by
  have hi : ∀ x ∈ l.take (preN innB l), x ≠ 10 ∧ x ≠ 32 ∧ x ≠ 9 ∧ x ≠ 35 := by
    rw [← take_of_pre]
    intro x hx
    have := mem_pre hx
    refine ⟨?_, ?_, ?_, ?_⟩ <;> (rintro rfl; revert this; decide)
  have hm : ∀ X ∈ marksL, ∀ x ∈ X, x ≠ 10 ∧ x ≠ 32 ∧ x ≠ 9 ∧ x ≠ 35 := by decide +kernel
  have ht : ∀ k, l.take k = l.take (l.take k).length := fun k => by
    rw [List.length_take]
    rcases Nat.le_total k l.length with h | h
    · rw [Nat.min_eq_left h]
    · rw [Nat.min_eq_right h, List.take_of_length_le h, List.take_of_length_le (Nat.le_refl _)]
  revert h
  unfold pieceS
  split
  · split
    · intro h; exact absurd h (by decide)
    · split
      · intro _; exact ⟨ht _, hi⟩
      · intro _; exact ⟨ht _, hi⟩
  · split
    · split
      · rename_i h1
        intro h
        exact absurd h h1
      · intro _; exact ⟨ht _, hi⟩
    · split
      · rename_i h1
        intro _; exact ⟨ht _, hm _ h1.2⟩
      · split
        · rename_i h1
          intro _; exact ⟨ht _, hm _ h1⟩
        · intro h; exact absurd h (by decide)
theorem count_drop {l : List UInt8} {k : Nat} (h : ∀ x ∈ l.take k, x ≠ 10) : (l.drop k).count 10 = l.count 10 := by
  have e : l.count 10 = (l.take k ++ l.drop k).count 10 := by rw [List.take_append_drop]
  rw [e, List.count_append, List.count_eq_zero.2 (fun hm => h 10 hm rfl), Nat.zero_add]
theorem lexF_two (b : List UInt8) : ∀ (f g : Nat) (a : List UInt8) (line col : Int) (acc : List Tk), a.length + b.length + 1 < f → a.length < g →
    lexF f (a ++ 10 :: b) line col acc = match lexF g a line col acc with
      | .err l c e => .err l c e
      | .ok ts => (lexS b).from_ ts.dropLast (line + a.count 10)
  | 0, _, _, _, _, _, h, _ => absurd h (by omega)
  | _ + 1, 0, _, _, _, _, _, h => absurd h (by omega)
  | f + 1, g + 1, [], line, col, acc, hf, _ => by
    have := lexF_from acc line f (b.length + 1) b 1 1 [] (by simp at hf; omega) (by omega)
    rw [List.nil_append, lexF_cons rfl, if_pos rfl]
    simp only [lexF, List.dropLast_concat, List.count_nil]
    rw [show line + ((0 : Nat) : Int) = line by omega, show line + 1 = 1 + line by omega]
    unfold lexS
    simpa using this
  | f + 1, g + 1, c :: r, line, col, acc, hf, hg => by
    have hf' : r.length + b.length + 1 < f := by simp at hf; omega
    have hg' : r.length < g := by simp at hg; omega
    rw [List.cons_append, lexF_cons rfl, lexF_cons rfl]
    by_cases h1 : c = 10
    · rw [if_pos h1, if_pos h1, lexF_two b f g r (line + 1) 1 acc hf' hg']
      have : (line + 1 + ((r.count 10 : Nat) : Int)) = line + (((c :: r).count 10 : Nat) : Int) := by
        subst h1
        rw [List.count_cons_self]
        omega
      rw [this]
    · have hc : (c :: r).count 10 = r.count 10 := List.count_cons_of_ne (by simpa using h1)
      rw [if_neg h1, if_neg h1]
      by_cases h2 : c = 32 ∨ c = 9
      · rw [if_pos h2, if_pos h2, lexF_two b f g r line (col + 1) acc hf' hg', hc]
      · rw [if_neg h2, if_neg h2]
        by_cases h3 : c = 35
        · have hp : 1 ≤ preN nlB (c :: r) := preN_pos (by subst h3; rfl)
          have hl := preN_le nlB (c :: r)
          have hn : preN nlB (c :: (r ++ 10 :: b)) = preN nlB (c :: r) := preN_nl (by decide) b (c :: r)
          have hd : (c :: (r ++ 10 :: b)).drop (preN nlB (c :: r)) = (c :: r).drop (preN nlB (c :: r)) ++ 10 :: b := List.drop_append_of_le_length (l₁ := c :: r) hl
          rw [if_pos h3, if_pos h3, hn, hd, lexF_two b f g _ line _ acc (by simp <;> omega) (by simp <;> omega)]
          rw [count_drop (by
            rw [← take_of_pre]
            intro x hx
            have := mem_pre hx
            rintro rfl; revert this; decide)]
        · have hps : pieceS (c :: (r ++ 10 :: b)) = pieceS (c :: r) := pieceS_nl (c :: r) b (by simp)
          rw [if_neg h3, if_neg h3, hps]
          by_cases h4 : (pieceS (c :: r)).err ≠ 0
          · rw [if_pos h4, if_pos h4]
          · rw [if_neg h4, if_neg h4]
            have h5 : (pieceS (c :: r)).err = 0 := by simpa using h4
            have hp := pieceS_len h5 (by simp : c :: r ≠ [])
            have ht := head_text h5
            have hd : (c :: (r ++ 10 :: b)).drop (pieceS (c :: r)).text.length = (c :: r).drop (pieceS (c :: r)).text.length ++ 10 :: b := List.drop_append_of_le_length (l₁ := c :: r) hp.2
            have hp2 := hp.2
            have hp1 := hp.1
            simp only [List.length_cons] at hp2
            rw [hd, lexF_two b f g _ line _ _ (by simp <;> omega) (by simp <;> omega)]
            rw [count_drop (by rw [← ht.1]; exact fun x hx => (ht.2 x hx).1)]
theorem lexS_two (a b : List UInt8) : lexS (a ++ 10 :: b) = match lexS a with
      | .err l c e => .err l c e
      | .ok ts => (lexS b).from_ ts.dropLast (1 + a.count 10) :=
  lexF_two b _ _ a 1 1 [] (by simp <;> omega) (by omega)
/-- What comes is closed by the end's token, and no other token is an end's. -/
theorem lexF_ok : ∀ (f : Nat) (l : List UInt8) (line col : Int) (acc ts : List Tk), l.length < f → lexF f l line col acc = .ok ts → ∃ us L C, ts = acc ++ us ++ [⟨0, [], 0, L, C⟩] ∧ us.length ≤ l.length
  | 0, _, _, _, _, _, h, _ => absurd h (by omega)
  | f + 1, [], line, col, acc, ts, _, h => by
    simp only [lexF, Res.ok.injEq] at h
    exact ⟨[], line, col, by simp [← h], by simp⟩
  | f + 1, c :: r, line, col, acc, ts, hf, h => by
    have hf' : r.length < f := by simp at hf; omega
    rw [lexF_cons rfl] at h
    by_cases h1 : c = 10
    · rw [if_pos h1] at h
      obtain ⟨us, L, C, h5, h6⟩ := lexF_ok f r _ _ acc ts hf' h
      exact ⟨us, L, C, h5, by simp; omega⟩
    · rw [if_neg h1] at h
      by_cases h2 : c = 32 ∨ c = 9
      · rw [if_pos h2] at h
        obtain ⟨us, L, C, h5, h6⟩ := lexF_ok f r _ _ acc ts hf' h
        exact ⟨us, L, C, h5, by simp; omega⟩
      · rw [if_neg h2] at h
        by_cases h3 : c = 35
        · have hp : 1 ≤ preN nlB (c :: r) := preN_pos (by subst h3; rfl)
          rw [if_pos h3] at h
          obtain ⟨us, L, C, h5, h6⟩ := lexF_ok f _ _ _ acc ts (by simp; omega) h
          exact ⟨us, L, C, h5, by simp at h6; simp; omega⟩
        · rw [if_neg h3] at h
          by_cases h4 : (pieceS (c :: r)).err ≠ 0
          · rw [if_pos h4] at h
            cases h
          · rw [if_neg h4] at h
            have hp := (pieceS_len (by simpa using h4) (by simp : c :: r ≠ [])).1
            obtain ⟨us, L, C, h5, h6⟩ := lexF_ok f _ _ _ _ ts (by simp; omega) h
            refine ⟨⟨(pieceS (c :: r)).kind, (pieceS (c :: r)).text, (pieceS (c :: r)).n, line, col⟩ :: us, L, C, by rw [h5]; simp only [List.append_assoc, List.cons_append, List.nil_append], by simp at h6; simp; omega⟩
theorem lexS_ok {l : List UInt8} {ts : List Tk} (h : lexS l = .ok ts) : ∃ us L C, ts = us ++ [⟨0, [], 0, L, C⟩] ∧ us.length ≤ l.length := by
  obtain ⟨us, L, C, h1, h2⟩ := lexF_ok _ l 1 1 [] ts (by omega) h
  exact ⟨us, L, C, by simpa using h1, h2⟩
end Go.Proofs.YtdmlnoeneoomfaaDoor
