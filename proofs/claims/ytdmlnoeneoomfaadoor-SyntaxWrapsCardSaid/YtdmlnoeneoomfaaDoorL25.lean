
/-
  Pieces written one behind the other, with blanks between: what the lexer makes of them.
-/
import Derived.Test.YtdmlnoeneoomfaaDoorL24
namespace Go.Proofs.YtdmlnoeneoomfaaDoor
open Go.RowKit

/-- What is passed over. -/
inductive Sep : List UInt8 → Prop
  | nil : Sep []
  | blank {c : UInt8} {s : List UInt8} (h : c = 10 ∨ c = 32 ∨ c = 9) (hs : Sep s) : Sep (c :: s)
  | note {n s : List UInt8} (h : ∀ x ∈ n, x ≠ 10) (hs : Sep (10 :: s)) : Sep (35 :: n ++ 10 :: s)
def SepB (s : List UInt8) : Prop := ∃ c r, s = c :: r ∧ (c = 10 ∨ c = 32 ∨ c = 9) ∧ Sep s
theorem Sep.skip {s : List UInt8} (h : Sep s) : ∀ (rest : List UInt8) (f : Nat) (line col : Int) (acc : List Tk), (s ++ rest).length < f → ∃ g L C, rest.length < g ∧ lexF f (s ++ rest) line col acc = lexF g rest L C acc := by
  induction h with
  | nil => exact fun rest f line col acc hf => ⟨f, line, col, hf, rfl⟩
  | @blank c s h _ ih =>
    intro rest f line col acc hf
    obtain ⟨f, rfl⟩ : ∃ g, f = g + 1 := ⟨f - 1, by omega⟩
    rw [List.cons_append, List.length_cons] at hf
    rw [List.cons_append, lexF_cons rfl]
    by_cases h1 : c = 10
    · rw [if_pos h1]
      exact ih rest f _ _ acc (by omega)
    · rw [if_neg h1, if_pos (h.resolve_left h1)]
      exact ih rest f _ _ acc (by omega)
  | @note n s h _ ih =>
    intro rest f line col acc hf
    obtain ⟨f, rfl⟩ : ∃ g, f = g + 1 := ⟨f - 1, by omega⟩
    have hp : preN nlB (35 :: (n ++ 10 :: (s ++ rest))) = 1 + n.length := by
      have h1 := preN_b (p := nlB) (c := 10) (by decide) (s ++ rest) (35 :: n)
      have h2 : preN nlB (35 :: n) = (35 :: n).length := preN_all (fun c hc => by
        rcases List.mem_cons.1 hc with rfl | hc
        · decide
        · unfold nlB
          rw [decide_eq_true_iff]
          intro e
          exact h c hc (UInt8.toNat_inj.1 (by rw [e]; rfl)))
      rw [h2] at h1
      rw [← List.cons_append]
      simpa [Nat.add_comm] using h1
    have e : (35 :: n ++ 10 :: s) ++ rest = 35 :: (n ++ 10 :: (s ++ rest)) := by simp
    rw [e] at hf ⊢
    rw [lexF_cons rfl, if_neg (by decide), if_neg (by decide), if_pos rfl, hp]
    have hd : (35 :: (n ++ 10 :: (s ++ rest))).drop (1 + n.length) = 10 :: s ++ rest := by
      rw [Nat.add_comm, List.drop_succ_cons, List.drop_append_of_le_length (Nat.le_refl _), List.drop_length]
      rfl
    rw [hd]
    refine ih rest f _ _ acc ?_
    simp at hf ⊢
    omega
/-- What the end of a text gives. -/
def Tail (tail : List UInt8) (vs : List Tk) : Prop := ∀ (f : Nat) (line col : Int) (acc : List Tk), tail.length < f → ∃ xs L C, lexF f tail line col acc = .ok (acc ++ xs ++ [⟨0, [], 0, L, C⟩]) ∧ xs.map Tk.bare = vs.map Tk.bare
theorem Tail.nil : Tail [] [] := by
  intro f line col acc hf
  obtain ⟨f, rfl⟩ : ∃ g, f = g + 1 := ⟨f - 1, by omega⟩
  exact ⟨[], line, col, by simp [lexF], rfl⟩
theorem Tail.note {n : List UInt8} (h : ∀ x ∈ n, x ≠ 10) : Tail (35 :: n) [] := by
  intro f line col acc hf
  obtain ⟨f, rfl⟩ : ∃ g, f = g + 1 := ⟨f - 1, by omega⟩
  have h2 : preN nlB (35 :: n) = (35 :: n).length := preN_all (fun c hc => by
    rcases List.mem_cons.1 hc with rfl | hc
    · decide
    · unfold nlB
      rw [decide_eq_true_iff]
      intro e
      exact h c hc (UInt8.toNat_inj.1 (by rw [e]; rfl)))
  rw [lexF_cons rfl, if_neg (by decide), if_neg (by decide), if_pos rfl, h2, List.drop_length]
  obtain ⟨f, rfl⟩ : ∃ g, f = g + 1 := ⟨f - 1, by simp at hf; omega⟩
  exact ⟨[], line, col + ((35 :: n).length : Nat), by simp [lexF], rfl⟩
/-- One piece, and what stands behind it. -/
theorem lexF_piece {u : Tk} (hu : Good u) {b : List UInt8} (hb : b = [] ∨ ∃ c r, b = c :: r ∧ (c = 10 ∨ c = 32 ∨ c = 9)) (f : Nat) (line col : Int) (acc : List Tk) : lexF (f + 1) (u.text ++ b) line col acc = lexF f b line (col + u.text.length) (acc ++ [⟨u.kind, u.text, u.n, line, col⟩]) := by
  obtain ⟨h1, h2⟩ := hu
  have hp : pieceS (u.text ++ b) = ⟨u.kind, u.text, u.n, 0⟩ := by
    rcases hb with rfl | ⟨c, r, rfl, hc⟩
    · rw [List.append_nil]
      exact h2
    · rw [pieceS_b hc _ _ h1]
      exact h2
  have hnb := (head_text (l := u.text) (by rw [h2])).2
  rw [h2] at hnb
  simp only at hnb
  obtain ⟨d, r, e⟩ := List.exists_cons_of_ne_nil h1
  have hd := hnb d (by rw [e]; exact List.mem_cons_self ..)
  have e2 : u.text ++ b = d :: (r ++ b) := by rw [e]; rfl
  rw [lexF_cons e2, if_neg hd.1, if_neg (by rintro (h | h); exact hd.2.1 h; exact hd.2.2.1 h), if_neg hd.2.2.2, hp, if_neg (by simp)]
  simp
theorem Tail.piece {u : Tk} (hu : Good u) : Tail u.text [u] := by
  intro f line col acc hf
  obtain ⟨f, rfl⟩ : ∃ g, f = g + 1 := ⟨f - 1, by omega⟩
  have := lexF_piece hu (.inl rfl) f line col acc
  rw [List.append_nil] at this
  rw [this]
  have h1 := List.length_pos_iff.2 hu.1
  obtain ⟨f, rfl⟩ : ∃ g, f = g + 1 := ⟨f - 1, by omega⟩
  exact ⟨[⟨u.kind, u.text, u.n, line, col⟩], line, col + (u.text.length : Nat), by simp only [lexF], rfl⟩

/-- Pieces, each with what is behind it. -/
def bld (sep : Nat → List UInt8) : Nat → List Tk → List UInt8
  | _, [] => []
  | i, u :: us => u.text ++ sep i ++ bld sep (i + 1) us
theorem bld_snoc (sep : Nat → List UInt8) (u : Tk) : ∀ (us : List Tk) (i : Nat), bld sep i (us ++ [u]) = bld sep i us ++ u.text ++ sep (i + us.length)
  | [], i => by simp [bld]
  | v :: us, i => by
    simp only [List.cons_append, bld]
    rw [bld_snoc sep u us (i + 1), show i + 1 + us.length = i + (v :: us).length by simp; omega]
    simp only [List.append_assoc]
theorem bld_len (sep : Nat → List UInt8) (m : Nat) (hm : ∀ i, (sep i).length ≤ m) : ∀ (us : List Tk) (i : Nat), (bld sep i us).length ≤ textsLen us + us.length * m
  | [], i => by simp [bld]
  | v :: us, i => by
    have h1 := bld_len sep m hm us (i + 1)
    have h2 := hm i
    have e : textsLen (v :: us) = v.text.length + textsLen us := by simp [textsLen]
    have e2 : (v :: us).length * m = us.length * m + m := by rw [List.length_cons, Nat.add_mul, Nat.one_mul]
    simp only [bld, List.length_append]
    omega
theorem lexF_bld (sep : Nat → List UInt8) (hs : ∀ i, SepB (sep i)) {tail : List UInt8} {vs : List Tk} (ht : Tail tail vs) : ∀ (us : List Tk) (i : Nat), (∀ u ∈ us, Good u) → ∀ (f : Nat) (line col : Int) (acc : List Tk), (bld sep i us ++ tail).length < f → ∃ xs L C, lexF f (bld sep i us ++ tail) line col acc = .ok (acc ++ xs ++ [⟨0, [], 0, L, C⟩]) ∧ xs.map Tk.bare = (us ++ vs).map Tk.bare
  | [], i, _, f, line, col, acc, hf => ht f line col acc hf
  | u :: us, i, hg, f, line, col, acc, hf => by
    obtain ⟨c, r, hcr, hc, hsep⟩ := hs i
    have e : bld sep i (u :: us) ++ tail = u.text ++ (sep i ++ (bld sep (i + 1) us ++ tail)) := by simp only [bld, List.append_assoc]
    rw [e] at hf ⊢
    obtain ⟨f, rfl⟩ : ∃ g, f = g + 1 := ⟨f - 1, by omega⟩
    have hu := hg u (List.mem_cons_self ..)
    have h1 := List.length_pos_iff.2 hu.1
    rw [lexF_piece hu (.inr ⟨c, r ++ (bld sep (i + 1) us ++ tail), by rw [hcr]; rfl, hc⟩)]
    obtain ⟨g, L, C, hgl, hge⟩ := hsep.skip (bld sep (i + 1) us ++ tail) f line (col + u.text.length) (acc ++ [⟨u.kind, u.text, u.n, line, col⟩]) (by rw [List.length_append] at hf; omega)
    rw [hge]
    obtain ⟨xs, L2, C2, h3, h4⟩ := lexF_bld sep hs ht us (i + 1) (fun v hv => hg v (List.mem_cons_of_mem _ hv)) g L C (acc ++ [⟨u.kind, u.text, u.n, line, col⟩]) hgl
    refine ⟨⟨u.kind, u.text, u.n, line, col⟩ :: xs, L2, C2, ?_, ?_⟩
    · rw [h3]
      simp
    · simp only [List.map_cons, List.cons_append, h4]
      rfl
/-- The blanks of LexBlanks. -/
def sepI (clean : List UInt8) (ev i : Nat) : List UInt8 := if (i + 1) % ev = 0 then 32 :: clean ++ [10] else if (i + 1) % ev = 1 then [9, 32, 32] else [10, 10]
theorem sepI_ok {n : List UInt8} (h : ∀ x ∈ n, x ≠ 10) (ev i : Nat) : SepB (sepI (35 :: n) ev i) := by
  unfold sepI
  split
  · exact ⟨32, 35 :: n ++ [10], by simp, .inr (.inl rfl), .blank (.inr (.inl rfl)) (.note h (.blank (.inl rfl) .nil))⟩
  · split
    · exact ⟨9, [32, 32], rfl, .inr (.inr rfl), .blank (.inr (.inr rfl)) (.blank (.inr (.inl rfl)) (.blank (.inr (.inl rfl)) .nil))⟩
    · exact ⟨10, [10], rfl, .inl rfl, .blank (.inl rfl) (.blank (.inl rfl) .nil)⟩
theorem sepI_len (clean : List UInt8) (ev i : Nat) (h : clean.length ≤ 21) : (sepI clean ev i).length ≤ 23 := by
  unfold sepI
  split
  · simp; omega
  · split <;> simp
theorem lexS_blanks {n : List UInt8} (h : ∀ x ∈ n, x ≠ 10) (ev : Nat) {us : List Tk} (hg : ∀ u ∈ us, Good u) : ∃ xs L C, lexS (bld (sepI (35 :: n) ev) 0 us ++ 35 :: n) = .ok (xs ++ [⟨0, [], 0, L, C⟩]) ∧ xs.map Tk.bare = us.map Tk.bare := by
  obtain ⟨xs, L, C, h1, h2⟩ := lexF_bld (sepI (35 :: n) ev) (sepI_ok h ev) (Tail.note h) us 0 hg _ 1 1 [] (Nat.lt_succ_self _)
  exact ⟨xs, L, C, by simpa [lexS] using h1, by simpa using h2⟩
end Go.Proofs.YtdmlnoeneoomfaaDoor
