
/-
  LexTwo: the walk.
-/
import Derived.Test.YtdmlnoeneoomfaaDoorL11
import Derived.Test.YtdmlnoeneoomfaaDoorL13
import Derived.Test.YtdmlnoeneoomfaaDoorL14
namespace Go.Proofs.YtdmlnoeneoomfaaDoor
open Go.RowKit

theorem lexF_err : ∀ (f : Nat) (l : List UInt8) (line col : Int) (acc : List Tk) (L C E : Int), l.length < f → lexF f l line col acc = .err L C E → E ≠ 0 ∧ line ≤ L ∧ L ≤ line + l.length
  | 0, _, _, _, _, _, _, _, h, _ => absurd h (by omega)
  | f + 1, [], line, col, acc, L, C, E, _, h => by simp [lexF] at h
  | f + 1, c :: r, line, col, acc, L, C, E, hf, h => by
    have hf' : r.length < f := by simp at hf; omega
    rw [lexF_cons rfl] at h
    rw [List.length_cons]
    by_cases h1 : c = 10
    · rw [if_pos h1] at h
      have := lexF_err f r _ _ acc L C E hf' h
      exact ⟨this.1, by omega, by omega⟩
    · rw [if_neg h1] at h
      by_cases h2 : c = 32 ∨ c = 9
      · rw [if_pos h2] at h
        have := lexF_err f r _ _ acc L C E hf' h
        exact ⟨this.1, by omega, by omega⟩
      · rw [if_neg h2] at h
        by_cases h3 : c = 35
        · have hp : 1 ≤ preN nlB (c :: r) := preN_pos (by subst h3; rfl)
          rw [if_pos h3] at h
          have := lexF_err f _ _ _ acc L C E (by simp; omega) h
          simp only [List.length_drop, List.length_cons] at this
          exact ⟨this.1, by omega, by omega⟩
        · rw [if_neg h3] at h
          by_cases h4 : (pieceS (c :: r)).err ≠ 0
          · rw [if_pos h4] at h
            simp only [Res.err.injEq] at h
            obtain ⟨rfl, rfl, rfl⟩ := h
            exact ⟨h4, by omega, by omega⟩
          · rw [if_neg h4] at h
            have hp := (pieceS_len (by simpa using h4) (by simp : c :: r ≠ [])).1
            have := lexF_err f _ _ _ _ L C E (by simp; omega) h
            simp only [List.length_drop, List.length_cons] at this
            exact ⟨this.1, by omega, by omega⟩
theorem lexS_err {l : List UInt8} {L C E : Int} (h : lexS l = .err L C E) : E ≠ 0 ∧ 1 ≤ L ∧ L ≤ 1 + l.length := lexF_err _ l 1 1 [] L C E (by omega) h
/-- What lex.Tokens gives, in one form. -/
theorem tok_gen {l : List UInt8} {w w' : World} {e : Ending} (hp : TokPost l w e w') : ∃ A n c L C E ts, e = .returned (.tuple #[.slice A n c, .agg #[.int .i64 L, .int .i64 C], .int .i64 E]) ∧ n = ts.length ∧ OT w' w.heap.size (.slice A n c) ts ∧ Below w.heap.size w w' ∧ ((lexS l = .ok ts ∧ E = 0) ∨ (lexS l = .err L C E ∧ ts = [])) := by
  cases hlx : lexS l with
  | ok ts =>
    obtain ⟨A, c, he, ho, hb⟩ := tok_ok hlx hp
    exact ⟨A, _, c, 0, 0, 0, ts, he, rfl, ho, hb, .inl ⟨rfl, rfl⟩⟩
  | err L C E =>
    obtain ⟨he, hb⟩ := tok_err hlx hp
    exact ⟨none, 0, 0, L, C, E, [], he, rfl, OT.nil _ _, hb, .inr ⟨rfl, rfl⟩⟩

theorem own_block {w : World} {base size n : Nat} {e : TypeId} {v : Value} {xs : List Value} (h : w.ownsRow base e size v n xs) : ∀ k, v.ownBlock = some k → base ≤ k := by
  intro k hk
  rcases h.2 with ⟨rfl, h0⟩ | ⟨g, cap, cur, rfl, hg, hh, _⟩
  · simp [Value.ownBlock] at hk
  · simp only [Value.ownBlock, Option.some.injEq] at hk
    subst hk
    exact hg
theorem tksCells_append (a b : List Tk) : tksCells (a ++ b) = tksCells a ++ tksCells b := by simp [tksCells]
theorem sameT_down (us vs : List Tk) (k : Int) : sameT (us ++ vs.map (Tk.down k)) (us ++ vs) = true := by
  unfold sameT
  rw [decide_eq_true_iff, List.map_append, List.map_append, List.map_map]
  rfl
theorem OT.reads {w : World} {base n c : Nat} {A : Option Addr} {ts : List Tk} (h : OT w base (.slice A n c) ts) (hn : n = ts.length) : Reads w w.heap.size 5 A n (tksCells ts) := by
  subst hn
  exact Reads.of_own h
theorem Reads.upto_us {w : World} {B k : Nat} {A : Option Addr} {us : List Tk} {x : Tk} (h : Reads w B 5 A (k + 1) (tksCells (us ++ [x]))) (hk : us.length = k) : Reads w B 5 A k (tksCells us) := by
  have := h.upto (k := k) (by omega)
  rw [tksCells_snoc, List.take_left' (by rw [tksCells_length, hk])] at this
  exact this
theorem tksCells_one (ts : List Tk) : ∀ u ∈ tksCells ts, u.oneCell' = true := by
  intro u hu
  simp only [tksCells, List.mem_flatMap] at hu
  obtain ⟨t, _, h⟩ := hu
  exact tkCells_one t u h
theorem Reads.below_ {w w' : World} {size n : Nat} {A : Option Addr} {xs : List Value} {B : Nat} (h : Reads w B size A n xs) (hb : Below w.heap.size w w') (hB : B ≤ w.heap.size) : Reads w' B size A n xs := h.keep fun _ hp => hb.cell (by omega)

end Go.Proofs.YtdmlnoeneoomfaaDoor
