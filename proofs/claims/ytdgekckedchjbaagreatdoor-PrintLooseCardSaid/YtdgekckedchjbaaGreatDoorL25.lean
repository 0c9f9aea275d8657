
/-
  Pieces written one behind the other, with blanks between: what the lexer makes of them.
-/
import Derived.Test.YtdgekckedchjbaaGreatDoorQQ
namespace Go.Proofs.YtdgekckedchjbaaGreatDoor
open Go.RowKit

/-- What is passed over. -/
inductive Sep : List UInt8 → Prop
  | nil : Sep []
  | blank {c : UInt8} {s : List UInt8} (h : c = 10 ∨ c = 32 ∨ c = 9) (hs : Sep s) : Sep (c :: s)
  | note {n s : List UInt8} (h : ∀ x ∈ n, x ≠ 10) (hs : Sep (10 :: s)) : Sep (35 :: n ++ 10 :: s)
def SepB (s : List UInt8) : Prop := ∃ c r, s = c :: r ∧ (c = 10 ∨ c = 32 ∨ c = 9) ∧ Sep s
theorem Sep.skip {s : List UInt8} (h : Sep s) : ∀ (rest : List UInt8) (f : Nat) (line col : Int) (acc : List Tk), (s ++ rest).length < f → ∃ g L C, rest.length < g ∧ lexF f (s ++ rest) line col acc = lexF g rest L C acc := by
  induction h with
  | nil => exact fun rest f line col acc hf => ⟨f, line, col, hf, rfl⟩
  | @blank c s h _ ih =>
    intro rest f line col acc hf
    obtain ⟨f, rfl⟩ : ∃ g, f = g + 1 := ⟨f - 1, by omega⟩
    rw [List.cons_append, List.length_cons] at hf
    rw [List.cons_append, lexF_cons rfl]
    by_cases h1 : c = 10
    · rw [if_pos h1]
      exact ih rest f _ _ acc (by omega)
    · rw [if_neg h1, if_pos (h.resolve_left h1)]
      exact ih rest f _ _ acc (by omega)
  | @note n s h _ ih =>
    intro rest f line col acc hf
    obtain ⟨f, rfl⟩ : ∃ g, f = g + 1 := ⟨f - 1, by omega⟩
    have hp : preN nlB (35 :: (n ++ 10 :: (s ++ rest))) = 1 + n.length := by
      have h1 := preN_b (p := nlB) (c := 10) (by decide) (s ++ rest) (35 :: n)
      have h2 : preN nlB (35 :: n) = (35 :: n).length := preN_all (fun c hc => by
        rcases List.mem_cons.1 hc with rfl | hc
        · decide
        · unfold nlB
          rw [decide_eq_true_iff]
          intro e
          exact h c hc (UInt8.toNat_inj.1 (by rw [e]; rfl)))
      rw [h2] at h1
      rw [← List.cons_append]
      simpa [Nat.add_comm] using h1
    have e : (35 :: n ++ 10 :: s) ++ rest = 35 :: (n ++ 10 :: (s ++ rest)) := by simp
    rw [e] at hf ⊢
    rw [lexF_cons rfl, if_neg (by decide), if_neg (by decide), if_pos rfl, hp]
    have hd : (35 :: (n ++ 10 :: (s ++ rest))).drop (1 + n.length) = 10 :: s ++ rest := by
      rw [Nat.add_comm, List.drop_succ_cons, List.drop_append_of_le_length (Nat.le_refl _), List.drop_length]
      rfl
    rw [hd]
    refine ih rest f _ _ acc ?_
    simp at hf ⊢
    omega
/-- What the end of a text gives. -/
def Tail (tail : List UInt8) (vs : List Tk) : Prop := ∀ (f : Nat) (line col : Int) (acc : List Tk), tail.length < f → ∃ xs L C, lexF f tail line col acc = .ok (acc ++ xs ++ [⟨0, [], 0, L, C⟩]) ∧ xs.map Tk.bare = vs.map Tk.bare
theorem Tail.nil : Tail [] [] := by
  intro f line col acc hf
  obtain ⟨f, rfl⟩ : ∃ g, f = g + 1 := ⟨f - 1, by omega⟩
  exact ⟨[], line, col, by simp [lexF], rfl⟩
theorem Tail.note {n : List UInt8} (h : ∀ x ∈ n, x ≠ 10) : Tail (35 :: n) [] := by
  intro f line col acc hf
  obtain ⟨f, rfl⟩ : ∃ g, f = g + 1 := ⟨f - 1, by omega⟩
  have h2 : preN nlB (35 :: n) = (35 :: n).length := preN_all (fun c hc => by
    rcases List.mem_cons.1 hc with rfl | hc
    · decide
    · unfold nlB
      rw [decide_eq_true_iff]
      intro e
      exact h c hc (UInt8.toNat_inj.1 (by rw [e]; rfl)))
  rw [lexF_cons rfl, if_neg (by decide), if_neg (by decide), if_pos rfl, h2, List.drop_length]
  obtain ⟨f, rfl⟩ : ∃ g, f = g + 1 := ⟨f - 1, by simp at hf; omega⟩
  exact ⟨[], line, col + ((35 :: n).length : Nat), by simp [lexF], rfl⟩
/-- Pieces, each with what is behind it. -/
def bld (sep : Nat → List UInt8) : Nat → List Tk → List UInt8
  | _, [] => []
  | i, u :: us => u.text ++ sep i ++ bld sep (i + 1) us
/-- The blanks of LexBlanks. -/
def sepI (clean : List UInt8) (ev i : Nat) : List UInt8 := if (i + 1) % ev = 0 then 32 :: clean ++ [10] else if (i + 1) % ev = 1 then [9, 32, 32] else [10, 10]
end Go.Proofs.YtdgekckedchjbaaGreatDoor
