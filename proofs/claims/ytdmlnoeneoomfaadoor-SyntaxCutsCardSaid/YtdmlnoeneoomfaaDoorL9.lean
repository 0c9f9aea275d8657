
/-
  Numbers in decimals, and what their texts are read as.
-/
import Derived.Test.YtdmlnoeneoomfaaDoorL8
namespace Go.Proofs.YtdmlnoeneoomfaaDoor
open Go.RowKit

theorem preN_all {p : UInt8 → Bool} {l : List UInt8} (h : ∀ c ∈ l, p c = true) : preN p l = l.length :=
  preN_eq (Nat.le_refl _) (fun j hj _ => h _ (List.getElem_mem hj)) (fun hj => absurd hj (by omega))
/-- The number of digits. -/
def valD (l : List UInt8) : Nat := l.foldl (fun a c => 10 * a + (c.toNat - 48)) 0
theorem foldD (l : List UInt8) : ∀ a : Nat, l.foldl (fun a c => 10 * a + (c.toNat - 48)) a = a * 10 ^ l.length + valD l := by
  induction l with
  | nil => intro a; simp [valD]
  | cons c l ih =>
    intro a
    unfold valD
    rw [List.foldl_cons, List.foldl_cons, ih, ih (10 * 0 + (c.toNat - 48)), List.length_cons, Nat.pow_succ]
    have e : (10 * a + (c.toNat - 48)) * 10 ^ l.length = a * (10 ^ l.length * 10) + (c.toNat - 48) * 10 ^ l.length := by
      rw [Nat.add_mul, Nat.mul_comm 10 a, Nat.mul_assoc, Nat.mul_comm 10 (10 ^ l.length)]
    rw [e]
    simp only [Nat.mul_zero, Nat.zero_add]
    omega
theorem valD_cons (c : UInt8) (l : List UInt8) : valD (c :: l) = (c.toNat - 48) * 10 ^ l.length + valD l := by
  have := foldD l (10 * 0 + (c.toNat - 48))
  unfold valD
  rw [List.foldl_cons, this]
  simp [valD]
theorem numF_val : ∀ (l : List UInt8) (a : Nat), (∀ c ∈ l, digB c = true) → numF a l = if a * 10 ^ l.length + valD l ≤ 2147483647 ∨ l = [] then (((a * 10 ^ l.length + valD l : Nat) : Int), 0) else (0, 2)
  | [], a, _ => by simp [numF, valD]
  | c :: l, a, h => by
    have hc := digB_t.1 (h c (List.mem_cons_self ..))
    have ih := numF_val l (10 * a + (c.toNat - 48)) (fun x hx => h x (List.mem_cons_of_mem _ hx))
    have hcast : (10 * (a : Int) + ((c.toNat : Int) - 48)) = ((10 * a + (c.toNat - 48) : Nat) : Int) := by omega
    have hval : a * 10 ^ (c :: l).length + valD (c :: l) = (10 * a + (c.toNat - 48)) * 10 ^ l.length + valD l := by
      rw [valD_cons, List.length_cons, Nat.pow_succ, Nat.add_mul, Nat.mul_comm 10 a, Nat.mul_assoc, Nat.mul_comm 10 (10 ^ l.length)]
      omega
    rw [hval]
    unfold numF
    rw [hcast]
    have hge : 10 * a + (c.toNat - 48) ≤ (10 * a + (c.toNat - 48)) * 10 ^ l.length + valD l := by
      have := Nat.le_mul_of_pos_right (10 * a + (c.toNat - 48)) (show 0 < 10 ^ l.length from Nat.pos_of_ne_zero (by simp))
      omega
    by_cases hb : ((10 * a + (c.toNat - 48) : Nat) : Int) > 2147483647
    · rw [if_pos hb, if_neg (by simp; omega)]
    · rw [if_neg hb, ih]
      by_cases hl : l = []
      · subst hl
        simp [valD]
        omega
      · simp [hl]
theorem numS_dig {l : List UInt8} (hd : ∀ c ∈ l, digB c = true) (h0 : l ≠ []) (h1 : 1 < l.length → l.head? ≠ some 48) : numS l = if valD l ≤ 2147483647 then ((valD l : Int), 0) else (0, 2) := by
  have hp : preN digB l = l.length := preN_all hd
  unfold numS
  rw [if_neg (by
    rintro (h | h | ⟨h, h'⟩)
    · exact h0 h
    · exact h hp
    · exact h1 h h')]
  have := numF_val l 0 hd
  simp only [Nat.zero_mul, Nat.zero_add, h0, or_false] at this
  exact this
theorem inn_dig {c : UInt8} (h : digB c = true) : innB c = true := by unfold innB; simp [h]
theorem dig_not {c : UInt8} (h : digB c = true) : letB c = false ∧ c ≠ 10 ∧ c ≠ 32 ∧ c ≠ 9 ∧ c ≠ 35 := by
  rw [digB_t] at h
  refine ⟨letB_f.2 (by omega), ?_, ?_, ?_, ?_⟩ <;> (rintro rfl; simp at h)
/-- A piece that begins with a digit, all of whose bytes are inner ones. -/
theorem piece_dig {c : UInt8} {l : List UInt8} (hc : digB c = true) (hi : ∀ x ∈ c :: l, innB x = true) : pieceS (c :: l) = if (numS (c :: l)).2 ≠ 0 then noPc (numS (c :: l)).2 else ⟨2, c :: l, (numS (c :: l)).1, 0⟩ := by
  have hp : preN innB (c :: l) = (c :: l).length := preN_all hi
  unfold pieceS
  rw [List.headD_cons, if_neg (by rw [(dig_not hc).1]; simp), if_pos hc, hp, List.take_of_length_le (Nat.le_refl _)]
theorem lex_dig (f : Nat) {c : UInt8} {l : List UInt8} (line col : Int) (acc : List Tk) (hc : digB c = true) (hi : ∀ x ∈ c :: l, innB x = true) :
    lexF (f + 2) (c :: l) line col acc = if (numS (c :: l)).2 ≠ 0 then .err line col (numS (c :: l)).2 else .ok (acc ++ [⟨2, c :: l, (numS (c :: l)).1, line, col⟩] ++ [⟨0, [], 0, line, col + (c :: l).length⟩]) := by
  obtain ⟨h1, h2, h3, h4, h5⟩ := dig_not hc
  rw [lexF_cons rfl, if_neg h2, if_neg (by rintro (h | h); exact h3 h; exact h4 h), if_neg h5, piece_dig hc hi]
  by_cases he : (numS (c :: l)).2 ≠ 0
  · rw [if_pos he, if_pos he, if_pos (by simpa [noPc] using he)]
    rfl
  · rw [if_neg he, if_neg he, if_neg (by simp)]
    simp only [List.drop_length]
    rfl
theorem lex_num1 {D : List UInt8} (hd : ∀ c ∈ D, digB c = true) (h0 : D ≠ []) : lexS (120 :: 32 :: D) = if (numS D).2 ≠ 0 then .err 1 3 (numS D).2 else .ok [⟨1, [120], 0, 1, 1⟩, ⟨2, D, (numS D).1, 1, 3⟩, ⟨0, [], 0, 1, 3 + D.length⟩] := by
  obtain ⟨c, l, rfl⟩ := List.exists_cons_of_ne_nil h0
  have hx : pieceS (120 :: 32 :: c :: l) = ⟨1, [120], 0, 0⟩ := by
    have hp : preN innB (120 :: 32 :: c :: l) = 1 := by
      unfold preN
      rw [List.takeWhile_cons_of_pos (by decide), List.takeWhile_cons_of_neg (by decide)]
      rfl
    unfold pieceS
    rw [hp, List.headD_cons, if_pos (by decide), if_neg (by omega), if_neg (by show ¬ ([120] : List UInt8) ∈ wordsL; decide)]
    rfl
  have e1 : lexS (120 :: 32 :: c :: l) = lexF (l.length + 2) (c :: l) 1 3 [⟨1, [120], 0, 1, 1⟩] := by
    unfold lexS
    rw [lexF_cons rfl, if_neg (by decide), if_neg (by decide), if_neg (by decide), hx]
    rw [if_neg (by decide)]
    show lexF (l.length + 3) (32 :: c :: l) 1 _ _ = _
    rw [lexF_cons rfl, if_neg (by decide), if_pos (by decide)]
    rfl
  rw [e1, lex_dig _ _ _ _ (hd c (List.mem_cons_self ..)) (fun x hx => inn_dig (hd x hx))]
  rfl
theorem lex_num2 {D : List UInt8} (hd : ∀ c ∈ D, digB c = true) (h0 : D ≠ []) : lexS (48 :: D) = .err 1 1 3 := by
  have hn : numS (48 :: D) = (0, 3) := by
    unfold numS
    rw [if_pos (.inr (.inr ⟨by have := List.length_pos_iff.2 h0; simp; omega, rfl⟩))]
  unfold lexS
  have hall : ∀ x ∈ (48 :: D : List UInt8), innB x = true := by
    intro x hx
    rcases List.mem_cons.1 hx with rfl | h
    · decide
    · exact inn_dig (hd x h)
  obtain ⟨f, hf⟩ : ∃ f, (48 :: D : List UInt8).length + 1 = f + 2 := ⟨D.length, by simp⟩
  rw [hf, lex_dig f 1 1 [] (by decide) hall, hn]
  rfl
theorem lex_num3 {D : List UInt8} (hd : ∀ c ∈ D, digB c = true) (h0 : D ≠ []) : lexS (D ++ [97]) = .err 1 1 3 := by
  obtain ⟨c, l, rfl⟩ := List.exists_cons_of_ne_nil h0
  have hn : numS (c :: l ++ [97]) = (0, 3) := by
    have hp : preN digB (c :: l ++ [97]) = (c :: l).length := preN_eq (by simp) (fun j hj h => by rw [List.getElem_append_left h]; exact hd _ (List.getElem_mem h)) (fun hj => by rw [List.getElem_append_right (Nat.le_refl _)]; simp; decide)
    unfold numS
    rw [if_pos (.inr (.inl (by rw [hp]; simp)))]
  unfold lexS
  have hall : ∀ x ∈ (c :: (l ++ [97]) : List UInt8), innB x = true := by
    intro x hx
    rw [← List.cons_append] at hx
    rcases List.mem_append.1 hx with h | h
    · exact inn_dig (hd x h)
    · simp at h
      subst h
      decide
  obtain ⟨f, hf⟩ : ∃ f, (c :: l ++ [97]).length + 1 = f + 2 := ⟨l.length + 1, by simp⟩
  rw [hf]
  have := lex_dig f 1 1 [] (hd c (List.mem_cons_self ..)) hall
  rw [List.cons_append] at hn ⊢
  rw [this, hn]
  rfl
end Go.Proofs.YtdmlnoeneoomfaaDoor
