
/-
  Where the tokens stand: the law. More blanks between the pieces: the law. Pieces written one behind the other, with blanks between: what the lexer makes of them.
-/
import Derived.Test.YtdmlnoeneoomfaaDoorL13
import Derived.Test.YtdmlnoeneoomfaaDoorL14
namespace Go.Proofs.YtdmlnoeneoomfaaDoor
open Go.RowKit

/-- The places behind line feeds. -/
def stF : List UInt8 → Nat → List Nat
  | [], _ => []
  | c :: r, i => if c = 10 then (i + 1) :: stF r (i + 1) else stF r (i + 1)
theorem stF_append (b : List UInt8) : ∀ (a : List UInt8) (i : Nat), stF (a ++ b) i = stF a i ++ stF b (i + a.length)
  | [], i => by simp [stF]
  | c :: a, i => by
    have e : i + 1 + a.length = i + (c :: a).length := by simp; omega
    simp only [List.cons_append, stF]
    split
    · rw [stF_append b a (i + 1), e, List.cons_append]
    · rw [stF_append b a (i + 1), e]
theorem stF_none : ∀ (l : List UInt8) (i : Nat), (∀ x ∈ l, x ≠ 10) → stF l i = []
  | [], _, _ => rfl
  | c :: r, i, h => by
    simp only [stF]
    rw [if_neg (h c (List.mem_cons_self ..)), stF_none r (i + 1) (fun x hx => h x (List.mem_cons_of_mem _ hx))]
theorem stF_length : ∀ (l : List UInt8) (i : Nat), (stF l i).length ≤ l.length
  | [], _ => by simp [stF]
  | c :: r, i => by
    have := stF_length r (i + 1)
    simp only [stF]
    split <;> simp <;> omega
theorem stF_le : ∀ (l : List UInt8) (i : Nat), ∀ x ∈ stF l i, x ≤ i + l.length
  | [], _, _, h => absurd h (by simp [stF])
  | c :: r, i, x, h => by
    simp only [stF] at h
    rw [List.length_cons]
    split at h
    · rcases List.mem_cons.1 h with rfl | h
      · omega
      · have := stF_le r (i + 1) x h
        omega
    · have := stF_le r (i + 1) x h
      omega
def starts (X : List UInt8) : List Nat := 0 :: stF X 0

/-- From one place to another there are blanks and comments alone. -/
inductive Gap (X : List UInt8) (e : Nat) : Nat → Prop
  | done : Gap X e e
  | blank {k : Nat} {c : UInt8} (h : k < e) (hc : X[k]? = some c) (hb : c = 10 ∨ c = 32 ∨ c = 9) (hg : Gap X e (k + 1)) : Gap X e k
  | note {k : Nat} (h : k < e) (hc : X[k]? = some 35) (hle : k + preN nlB (X.drop k) ≤ e) (hg : Gap X e (k + preN nlB (X.drop k))) : Gap X e k
theorem Gap.trans {X : List UInt8} {m e k : Nat} (h : Gap X m k) (hme : m ≤ e) (h2 : Gap X e m) : Gap X e k := by
  induction h with
  | done => exact h2
  | blank h hc hb _ ih => exact .blank (by omega) hc hb ih
  | note h hc hle _ ih => exact .note (by omega) hc (by omega) ih

structure Stands (X : List UInt8) (b : Nat) (t : Tk) (p : Nat) : Prop where
  line1 : 1 ≤ t.line
  line2 : t.line ≤ (starts X).length
  col : 1 ≤ t.col
  start : ∃ v, (starts X)[(t.line - 1).toNat]? = some v ∧ (v : Int) + t.col - 1 = p
  ahead : b ≤ p
  fits : p + t.text.length ≤ X.length
  text : (X.drop p).take t.text.length = t.text
  gap : Gap X p b
inductive Placed (X : List UInt8) : Nat → List Tk → Prop
  | last {b : Nat} {t : Tk} : Stands X b t X.length → t.kind = 0 → t.text = [] → Placed X b [t]
  | more {b p : Nat} {t : Tk} {ts : List Tk} : Stands X b t p → t.kind ≠ 0 → ts ≠ [] → Placed X (p + t.text.length) ts → Placed X b (t :: ts)
theorem Placed.ne {X : List UInt8} {b : Nat} {ts : List Tk} (h : Placed X b ts) : ts ≠ [] := by cases h <;> simp
theorem Placed.step {X : List UInt8} {b : Nat} {ts : List Tk} (h : Placed X b ts) : ∃ t p us, ts = t :: us ∧ Stands X b t p ∧ ((t.kind = 0 ∧ us = [] ∧ p + t.text.length = X.length) ∨ (t.kind ≠ 0 ∧ us ≠ [] ∧ Placed X (p + t.text.length) us)) := by
  cases h with
  | last st hk ht => exact ⟨_, _, _, rfl, st, .inl ⟨hk, rfl, by simp [ht]⟩⟩
  | more st hk hu hp => exact ⟨_, _, _, rfl, st, .inr ⟨hk, hu, hp⟩⟩
theorem piece_kind {l : List UInt8} (h : (pieceS l).err = 0) : (pieceS l).kind ≠ 0 := by
  revert h
  unfold pieceS
  split
  · split
    · simp [noPc]
    · split <;> simp
  · split
    · split
      · rename_i h1
        intro h; exact absurd h h1
      · simp
    · split
      · simp
      · split
        · simp
        · simp [noPc]
theorem starts_at {X a l : List UInt8} (hX : X = a ++ l) {v : Nat} (hv : (starts a)[(stF a 0).length]? = some v) : (starts X)[(stF a 0).length]? = some v ∧ (stF a 0).length + 1 ≤ (starts X).length := by
  have e : starts X = starts a ++ stF l a.length := by
    unfold starts
    rw [hX, stF_append, Nat.zero_add, List.cons_append]
  have hl : (starts a).length = (stF a 0).length + 1 := by unfold starts; simp
  rw [e]
  refine ⟨?_, by rw [List.length_append]; omega⟩
  rw [List.getElem?_append_left (by omega)]
  exact hv
theorem lexF_places (X : List UInt8) : ∀ (f : Nat) (l a : List UInt8) (line col : Int) (acc ts : List Tk) (b v : Nat), X = a ++ l → l.length < f → line = 1 + ((stF a 0).length : Int) →
    (starts a)[(stF a 0).length]? = some v → (v : Int) + col - 1 = a.length → 1 ≤ col → b ≤ a.length → Gap X a.length b → lexF f l line col acc = .ok ts → ∃ us, ts = acc ++ us ∧ Placed X b us
  | 0, _, _, _, _, _, _, _, _, _, h, _, _, _, _, _, _, _ => absurd h (by omega)
  | f + 1, [], a, line, col, acc, ts, b, v, hX, _, hl, hv, hc, h1, hb, hg, h => by
    have hs := starts_at hX hv
    rw [List.append_nil] at hX
    subst hX
    simp only [lexF, Res.ok.injEq] at h
    refine ⟨_, h.symm, .last ⟨by simp only; omega, by simp only; omega, h1, ⟨v, ?_, by simp only; omega⟩, hb, by simp, by simp, hg⟩ rfl rfl⟩
    rw [show ((line - 1).toNat) = (stF X 0).length by omega]
    exact hv
  | f + 1, c :: r, a, line, col, acc, ts, b, v, hX, hf, hl, hv, hc, h1, hb, hg, h => by
    have hf' : r.length < f := by simp at hf; omega
    have hs := starts_at hX hv
    have hXc : X[a.length]? = some c := by rw [hX, List.getElem?_append_right (Nat.le_refl _)]; simp
    have hdr : X.drop a.length = c :: r := by rw [hX]; simp
    have hX1 : X = (a ++ [c]) ++ r := by rw [hX]; simp
    have hl1 : (a ++ [c]).length = a.length + 1 := by simp
    rw [lexF_cons rfl] at h
    by_cases e1 : c = 10
    · rw [if_pos e1] at h
      have e2 : stF (a ++ [c]) 0 = stF a 0 ++ [a.length + 1] := by
        rw [stF_append, Nat.zero_add, e1]
        rfl
      refine lexF_places X f r (a ++ [c]) (line + 1) 1 acc ts b (a.length + 1) hX1 hf' (by rw [e2]; simp; omega) ?_ (by rw [hl1]; omega) (by omega) (by omega) ?_ h
      · rw [e2]
        unfold starts
        rw [e2]
        simp
      · rw [hl1]
        exact hg.trans (by omega) (.blank (by omega) hXc (.inl e1) .done)
    · rw [if_neg e1] at h
      by_cases e3 : c = 32 ∨ c = 9
      · rw [if_pos e3] at h
        have e2 : stF (a ++ [c]) 0 = stF a 0 := by
          rw [stF_append, stF_none [c] _ (by simp [e1]), List.append_nil]
        refine lexF_places X f r (a ++ [c]) line (col + 1) acc ts b v hX1 hf' (by rw [e2]; omega) ?_ (by rw [hl1]; omega) (by omega) (by omega) ?_ h
        · unfold starts
          rw [e2]
          exact hv
        · rw [hl1]
          exact hg.trans (by omega) (.blank (by omega) hXc (.inr e3) .done)
      · rw [if_neg e3] at h
        by_cases e4 : c = 35
        · rw [if_pos e4] at h
          have hp : 1 ≤ preN nlB (c :: r) := preN_pos (by subst e4; rfl)
          have hle := preN_le nlB (c :: r)
          have hXu : X = (a ++ (c :: r).take (preN nlB (c :: r))) ++ (c :: r).drop (preN nlB (c :: r)) := by rw [List.append_assoc, List.take_append_drop]; exact hX
          have hlu : (a ++ (c :: r).take (preN nlB (c :: r))).length = a.length + preN nlB (c :: r) := by rw [List.length_append, List.length_take]; omega
          have e2 : stF (a ++ (c :: r).take (preN nlB (c :: r))) 0 = stF a 0 := by
            rw [stF_append, stF_none ((c :: r).take (preN nlB (c :: r))) _ (by
              rw [← take_of_pre]
              intro x hx
              have := mem_pre hx
              rintro rfl; revert this; decide), List.append_nil]
          refine lexF_places X f _ _ line _ acc ts b v hXu (by simp; omega) (by rw [e2]; omega) ?_ (by rw [hlu]; omega) (by omega) (by omega) ?_ h
          · unfold starts
            rw [e2]
            exact hv
          · rw [hlu]
            refine hg.trans (by omega) (.note (by omega) (by rw [hXc, e4]) (by rw [hdr]; omega) ?_)
            rw [hdr]
            exact .done
        · rw [if_neg e4] at h
          by_cases e5 : (pieceS (c :: r)).err ≠ 0
          · rw [if_pos e5] at h
            cases h
          · rw [if_neg e5] at h
            have h6 : (pieceS (c :: r)).err = 0 := by simpa using e5
            have hp := pieceS_len h6 (by simp : c :: r ≠ [])
            have ht := head_text h6
            have hk := piece_kind h6
            generalize pieceS (c :: r) = P at *
            have hp1 := hp.1
            have hp2 := hp.2
            have hXu : X = (a ++ P.text) ++ (c :: r).drop P.text.length := by
              rw [ht.1, List.append_assoc, List.length_take, Nat.min_eq_left hp2, List.take_append_drop]; exact hX
            have hlu : (a ++ P.text).length = a.length + P.text.length := List.length_append
            have e2 : stF (a ++ P.text) 0 = stF a 0 := by
              rw [stF_append, stF_none P.text _ (fun x hx => (ht.2 x hx).1), List.append_nil]
            obtain ⟨us, h7, h8⟩ := lexF_places X f _ (a ++ P.text) line _ _ ts (a.length + P.text.length) v hXu (by simp; omega) (by rw [e2]; omega) (by unfold starts; rw [e2]; exact hv) (by rw [hlu]; omega) (by omega) (by omega) (by rw [hlu]; exact .done) h
            refine ⟨⟨P.kind, P.text, P.n, line, col⟩ :: us, by rw [h7]; simp, .more (p := a.length) ⟨by simp only; omega, by simp only; omega, h1, ⟨v, ?_, by simp only; omega⟩, hb, ?_, ?_, hg⟩ hk h8.ne h8⟩
            · rw [show ((line - 1).toNat) = (stF a 0).length by omega]
              exact hs.1
            · rw [hX, List.length_append]
              exact Nat.add_le_add_left hp2 _
            · rw [hdr]
              exact ht.1.symm
theorem lexS_places {X : List UInt8} {ts : List Tk} (h : lexS X = .ok ts) : Placed X 0 ts := by
  obtain ⟨us, h1, h2⟩ := lexF_places X _ X [] 1 1 [] ts 0 0 rfl (by omega) (by simp [stF]) (by simp [starts, stF]) (by simp) (by omega) (by simp) .done h
  rw [List.nil_append] at h1
  rw [h1]
  exact h2
end Go.Proofs.YtdmlnoeneoomfaaDoor
namespace Go.Proofs.YtdmlnoeneoomfaaDoor
open Go.RowKit

theorem two_not_b {c x : UInt8} (h : c = 10 ∨ c = 32 ∨ c = 9) : ¬ [x, c] ∈ marksL := by
  rcases h with rfl | rfl | rfl <;> (unfold marksL; simp)
theorem preN_b {p : UInt8 → Bool} {c : UInt8} (hp : p c = false) (b : List UInt8) : ∀ a : List UInt8, preN p (a ++ c :: b) = preN p a
  | [] => by simp [preN, hp]
  | d :: a => by
    have ih := preN_b hp b a
    unfold preN at ih ⊢
    rw [List.cons_append, List.takeWhile_cons, List.takeWhile_cons]
    split
    · simp [ih]
    · rfl
/-- A blank behind a text changes nothing of its first piece. -/
theorem pieceS_b {c : UInt8} (h : c = 10 ∨ c = 32 ∨ c = 9) (a b : List UInt8) (ha : a ≠ []) : pieceS (a ++ c :: b) = pieceS a := by
  have hi : innB c = false := by rcases h with rfl | rfl | rfl <;> decide
  obtain ⟨d, r, rfl⟩ := List.exists_cons_of_ne_nil ha
  have e1 : (d :: r ++ c :: b).take (preN innB (d :: r)) = (d :: r).take (preN innB (d :: r)) := List.take_append_of_le_length (preN_le _ _)
  unfold pieceS
  rw [preN_b hi, e1]
  cases r with
  | nil =>
    have := two_not_b (x := d) h
    simp [this]
    rfl
  | cons e r =>
    simp
    rfl
theorem preN_take {p : UInt8 → Bool} (l : List UInt8) : preN p (l.take (preN p l)) = preN p l := by
  rw [preN_all (by rw [← take_of_pre]; exact fun c hc => mem_pre hc), List.length_take]
  exact Nat.min_eq_left (preN_le _ _)
/-- A piece's text is that piece. -/
theorem pieceS_self {l : List UInt8} (h : (pieceS l).err = 0) (hl : l ≠ []) : pieceS (pieceS l).text = pieceS l := by
  obtain ⟨c, r, rfl⟩ := List.exists_cons_of_ne_nil hl
  have hhd : ∀ n, 1 ≤ n → ((c :: r).take n).headD 0 = c := by
    intro n hn
    obtain ⟨m, rfl⟩ : ∃ m, n = m + 1 := ⟨n - 1, by omega⟩
    rfl
  have hp1 : letB c = true ∨ digB c = true → 1 ≤ preN innB (c :: r) := fun h => preN_pos (by unfold innB; rcases h with h | h <;> simp [h])
  have ht : (((c :: r).take (preN innB (c :: r))).take (preN innB (c :: r))) = (c :: r).take (preN innB (c :: r)) := by rw [List.take_take, Nat.min_self]
  revert h
  have hd : (c :: r).headD 0 = c := rfl
  by_cases h1 : letB c = true
  · have hn := hp1 (.inl h1)
    unfold pieceS
    rw [hd, if_pos h1]
    by_cases h2 : 30 < preN innB (c :: r)
    · rw [if_pos h2]
      intro h; exact absurd h (by decide)
    · rw [if_neg h2]
      by_cases h3 : (c :: r).take (preN innB (c :: r)) ∈ wordsL
      · rw [if_pos h3]
        intro _
        simp only
        rw [hhd _ hn, if_pos h1, preN_take, if_neg h2, ht, if_pos h3]
      · rw [if_neg h3]
        intro _
        simp only
        rw [hhd _ hn, if_pos h1, preN_take, if_neg h2, ht, if_neg h3]
  · by_cases h2 : digB c = true
    · have hn := hp1 (.inr h2)
      unfold pieceS
      rw [hd, if_neg h1, if_pos h2]
      by_cases h3 : (numS ((c :: r).take (preN innB (c :: r)))).2 ≠ 0
      · rw [if_pos h3]
        intro h; exact absurd h h3
      · rw [if_neg h3]
        intro _
        simp only
        rw [hhd _ hn, if_neg h1, if_pos h2, preN_take, ht, if_neg h3]
    · unfold pieceS
      rw [hd, if_neg h1, if_neg h2]
      by_cases h3 : 2 ≤ (c :: r).length ∧ (c :: r).take 2 ∈ marksL
      · rw [if_pos h3]
        intro _
        simp only
        rw [hhd 2 (by omega), if_neg h1, if_neg h2, List.take_take, Nat.min_self, if_pos ⟨by rw [List.length_take]; omega, h3.2⟩]
      · rw [if_neg h3]
        by_cases h4 : (c :: r).take 1 ∈ marksL
        · rw [if_pos h4]
          intro _
          simp only
          rw [hhd 1 (by omega), if_neg h1, if_neg h2, if_neg (by rw [List.length_take]; simp), List.take_take, Nat.min_self, if_pos h4]
        · rw [if_neg h4]
          intro h; exact absurd h (by decide)

/-- A token that its text is read as. -/
def Good (u : Tk) : Prop := u.text ≠ [] ∧ pieceS u.text = ⟨u.kind, u.text, u.n, 0⟩
def textsLen (us : List Tk) : Nat := (us.map fun u => u.text.length).sum
theorem textsLen_snoc (us : List Tk) (u : Tk) : textsLen (us ++ [u]) = textsLen us + u.text.length := by simp [textsLen]
theorem lexF_good : ∀ (f : Nat) (l : List UInt8) (line col : Int) (acc ts : List Tk), l.length < f → (∀ u ∈ acc, Good u) → lexF f l line col acc = .ok ts → ∃ us L C, ts = us ++ [⟨0, [], 0, L, C⟩] ∧ (∀ u ∈ us, Good u) ∧ textsLen us ≤ textsLen acc + l.length ∧ us.length ≤ acc.length + l.length
  | 0, _, _, _, _, _, h, _, _ => absurd h (by omega)
  | f + 1, [], line, col, acc, ts, _, ha, h => by
    simp only [lexF, Res.ok.injEq] at h
    exact ⟨acc, line, col, h.symm, ha, by omega, by omega⟩
  | f + 1, c :: r, line, col, acc, ts, hf, ha, h => by
    have hf' : r.length < f := by simp at hf; omega
    rw [lexF_cons rfl] at h
    rw [List.length_cons]
    by_cases h1 : c = 10
    · rw [if_pos h1] at h
      obtain ⟨us, L, C, h5, h6, h7, h8⟩ := lexF_good f r _ _ acc ts hf' ha h
      exact ⟨us, L, C, h5, h6, by omega, by omega⟩
    · rw [if_neg h1] at h
      by_cases h2 : c = 32 ∨ c = 9
      · rw [if_pos h2] at h
        obtain ⟨us, L, C, h5, h6, h7, h8⟩ := lexF_good f r _ _ acc ts hf' ha h
        exact ⟨us, L, C, h5, h6, by omega, by omega⟩
      · rw [if_neg h2] at h
        by_cases h3 : c = 35
        · have hp : 1 ≤ preN nlB (c :: r) := preN_pos (by subst h3; rfl)
          rw [if_pos h3] at h
          obtain ⟨us, L, C, h5, h6, h7, h8⟩ := lexF_good f _ _ _ acc ts (by simp; omega) ha h
          simp only [List.length_drop, List.length_cons] at h7 h8
          exact ⟨us, L, C, h5, h6, by omega, by omega⟩
        · rw [if_neg h3] at h
          by_cases h4 : (pieceS (c :: r)).err ≠ 0
          · rw [if_pos h4] at h
            cases h
          · rw [if_neg h4] at h
            have h9 : (pieceS (c :: r)).err = 0 := by simpa using h4
            have hp := pieceS_len h9 (by simp : c :: r ≠ [])
            have hs := pieceS_self h9 (by simp : c :: r ≠ [])
            have hp1 := hp.1
            have hp2 := hp.2
            obtain ⟨us, L, C, h5, h6, h7, h8⟩ := lexF_good f _ _ _ _ ts (by simp; omega) (by
              intro u hu
              rcases List.mem_append.1 hu with hu | hu
              · exact ha u hu
              · simp only [List.mem_singleton] at hu
                subst hu
                refine ⟨fun e => by simp only at e; rw [e] at hp1; simp at hp1, ?_⟩
                simp only
                rw [hs]
                exact (show pieceS (c :: r) = ⟨(pieceS (c :: r)).kind, (pieceS (c :: r)).text, (pieceS (c :: r)).n, (pieceS (c :: r)).err⟩ from rfl).trans (by rw [h9])) h
            simp only [List.length_drop, List.length_cons, textsLen_snoc, List.length_append, List.length_nil] at h7 h8
            simp only [List.length_cons] at hp2
            exact ⟨us, L, C, h5, h6, by omega, by omega⟩
theorem lexS_good {l : List UInt8} {ts : List Tk} (h : lexS l = .ok ts) : ∃ us L C, ts = us ++ [⟨0, [], 0, L, C⟩] ∧ (∀ u ∈ us, Good u) ∧ textsLen us ≤ l.length ∧ us.length ≤ l.length := by
  obtain ⟨us, L, C, h1, h2, h3, h4⟩ := lexF_good _ l 1 1 [] ts (by omega) (by simp) h
  exact ⟨us, L, C, h1, h2, by simpa [textsLen] using h3, by simpa using h4⟩
end Go.Proofs.YtdmlnoeneoomfaaDoor
namespace Go.Proofs.YtdmlnoeneoomfaaDoor
open Go.RowKit

/-- What is passed over. -/
inductive Sep : List UInt8 → Prop
  | nil : Sep []
  | blank {c : UInt8} {s : List UInt8} (h : c = 10 ∨ c = 32 ∨ c = 9) (hs : Sep s) : Sep (c :: s)
  | note {n s : List UInt8} (h : ∀ x ∈ n, x ≠ 10) (hs : Sep (10 :: s)) : Sep (35 :: n ++ 10 :: s)
def SepB (s : List UInt8) : Prop := ∃ c r, s = c :: r ∧ (c = 10 ∨ c = 32 ∨ c = 9) ∧ Sep s
theorem Sep.skip {s : List UInt8} (h : Sep s) : ∀ (rest : List UInt8) (f : Nat) (line col : Int) (acc : List Tk), (s ++ rest).length < f → ∃ g L C, rest.length < g ∧ lexF f (s ++ rest) line col acc = lexF g rest L C acc := by
  induction h with
  | nil => exact fun rest f line col acc hf => ⟨f, line, col, hf, rfl⟩
  | @blank c s h _ ih =>
    intro rest f line col acc hf
    obtain ⟨f, rfl⟩ : ∃ g, f = g + 1 := ⟨f - 1, by omega⟩
    rw [List.cons_append, List.length_cons] at hf
    rw [List.cons_append, lexF_cons rfl]
    by_cases h1 : c = 10
    · rw [if_pos h1]
      exact ih rest f _ _ acc (by omega)
    · rw [if_neg h1, if_pos (h.resolve_left h1)]
      exact ih rest f _ _ acc (by omega)
  | @note n s h _ ih =>
    intro rest f line col acc hf
    obtain ⟨f, rfl⟩ : ∃ g, f = g + 1 := ⟨f - 1, by omega⟩
    have hp : preN nlB (35 :: (n ++ 10 :: (s ++ rest))) = 1 + n.length := by
      have h1 := preN_b (p := nlB) (c := 10) (by decide) (s ++ rest) (35 :: n)
      have h2 : preN nlB (35 :: n) = (35 :: n).length := preN_all (fun c hc => by
        rcases List.mem_cons.1 hc with rfl | hc
        · decide
        · unfold nlB
          rw [decide_eq_true_iff]
          intro e
          exact h c hc (UInt8.toNat_inj.1 (by rw [e]; rfl)))
      rw [h2] at h1
      rw [← List.cons_append]
      simpa [Nat.add_comm] using h1
    have e : (35 :: n ++ 10 :: s) ++ rest = 35 :: (n ++ 10 :: (s ++ rest)) := by simp
    rw [e] at hf ⊢
    rw [lexF_cons rfl, if_neg (by decide), if_neg (by decide), if_pos rfl, hp]
    have hd : (35 :: (n ++ 10 :: (s ++ rest))).drop (1 + n.length) = 10 :: s ++ rest := by
      rw [Nat.add_comm, List.drop_succ_cons, List.drop_append_of_le_length (Nat.le_refl _), List.drop_length]
      rfl
    rw [hd]
    refine ih rest f _ _ acc ?_
    simp at hf ⊢
    omega
/-- What the end of a text gives. -/
def Tail (tail : List UInt8) (vs : List Tk) : Prop := ∀ (f : Nat) (line col : Int) (acc : List Tk), tail.length < f → ∃ xs L C, lexF f tail line col acc = .ok (acc ++ xs ++ [⟨0, [], 0, L, C⟩]) ∧ xs.map Tk.bare = vs.map Tk.bare
theorem Tail.nil : Tail [] [] := by
  intro f line col acc hf
  obtain ⟨f, rfl⟩ : ∃ g, f = g + 1 := ⟨f - 1, by omega⟩
  exact ⟨[], line, col, by simp [lexF], rfl⟩
theorem Tail.note {n : List UInt8} (h : ∀ x ∈ n, x ≠ 10) : Tail (35 :: n) [] := by
  intro f line col acc hf
  obtain ⟨f, rfl⟩ : ∃ g, f = g + 1 := ⟨f - 1, by omega⟩
  have h2 : preN nlB (35 :: n) = (35 :: n).length := preN_all (fun c hc => by
    rcases List.mem_cons.1 hc with rfl | hc
    · decide
    · unfold nlB
      rw [decide_eq_true_iff]
      intro e
      exact h c hc (UInt8.toNat_inj.1 (by rw [e]; rfl)))
  rw [lexF_cons rfl, if_neg (by decide), if_neg (by decide), if_pos rfl, h2, List.drop_length]
  obtain ⟨f, rfl⟩ : ∃ g, f = g + 1 := ⟨f - 1, by simp at hf; omega⟩
  exact ⟨[], line, col + ((35 :: n).length : Nat), by simp [lexF], rfl⟩
/-- One piece, and what stands behind it. -/
theorem lexF_piece {u : Tk} (hu : Good u) {b : List UInt8} (hb : b = [] ∨ ∃ c r, b = c :: r ∧ (c = 10 ∨ c = 32 ∨ c = 9)) (f : Nat) (line col : Int) (acc : List Tk) : lexF (f + 1) (u.text ++ b) line col acc = lexF f b line (col + u.text.length) (acc ++ [⟨u.kind, u.text, u.n, line, col⟩]) := by
  obtain ⟨h1, h2⟩ := hu
  have hp : pieceS (u.text ++ b) = ⟨u.kind, u.text, u.n, 0⟩ := by
    rcases hb with rfl | ⟨c, r, rfl, hc⟩
    · rw [List.append_nil]
      exact h2
    · rw [pieceS_b hc _ _ h1]
      exact h2
  have hnb := (head_text (l := u.text) (by rw [h2])).2
  rw [h2] at hnb
  simp only at hnb
  obtain ⟨d, r, e⟩ := List.exists_cons_of_ne_nil h1
  have hd := hnb d (by rw [e]; exact List.mem_cons_self ..)
  have e2 : u.text ++ b = d :: (r ++ b) := by rw [e]; rfl
  rw [lexF_cons e2, if_neg hd.1, if_neg (by rintro (h | h); exact hd.2.1 h; exact hd.2.2.1 h), if_neg hd.2.2.2, hp, if_neg (by simp)]
  simp
theorem Tail.piece {u : Tk} (hu : Good u) : Tail u.text [u] := by
  intro f line col acc hf
  obtain ⟨f, rfl⟩ : ∃ g, f = g + 1 := ⟨f - 1, by omega⟩
  have := lexF_piece hu (.inl rfl) f line col acc
  rw [List.append_nil] at this
  rw [this]
  have h1 := List.length_pos_iff.2 hu.1
  obtain ⟨f, rfl⟩ : ∃ g, f = g + 1 := ⟨f - 1, by omega⟩
  exact ⟨[⟨u.kind, u.text, u.n, line, col⟩], line, col + (u.text.length : Nat), by simp only [lexF], rfl⟩

/-- Pieces, each with what is behind it. -/
def bld (sep : Nat → List UInt8) : Nat → List Tk → List UInt8
  | _, [] => []
  | i, u :: us => u.text ++ sep i ++ bld sep (i + 1) us
theorem bld_snoc (sep : Nat → List UInt8) (u : Tk) : ∀ (us : List Tk) (i : Nat), bld sep i (us ++ [u]) = bld sep i us ++ u.text ++ sep (i + us.length)
  | [], i => by simp [bld]
  | v :: us, i => by
    simp only [List.cons_append, bld]
    rw [bld_snoc sep u us (i + 1), show i + 1 + us.length = i + (v :: us).length by simp; omega]
    simp only [List.append_assoc]
theorem bld_len (sep : Nat → List UInt8) (m : Nat) (hm : ∀ i, (sep i).length ≤ m) : ∀ (us : List Tk) (i : Nat), (bld sep i us).length ≤ textsLen us + us.length * m
  | [], i => by simp [bld]
  | v :: us, i => by
    have h1 := bld_len sep m hm us (i + 1)
    have h2 := hm i
    have e : textsLen (v :: us) = v.text.length + textsLen us := by simp [textsLen]
    have e2 : (v :: us).length * m = us.length * m + m := by rw [List.length_cons, Nat.add_mul, Nat.one_mul]
    simp only [bld, List.length_append]
    omega
theorem lexF_bld (sep : Nat → List UInt8) (hs : ∀ i, SepB (sep i)) {tail : List UInt8} {vs : List Tk} (ht : Tail tail vs) : ∀ (us : List Tk) (i : Nat), (∀ u ∈ us, Good u) → ∀ (f : Nat) (line col : Int) (acc : List Tk), (bld sep i us ++ tail).length < f → ∃ xs L C, lexF f (bld sep i us ++ tail) line col acc = .ok (acc ++ xs ++ [⟨0, [], 0, L, C⟩]) ∧ xs.map Tk.bare = (us ++ vs).map Tk.bare
  | [], i, _, f, line, col, acc, hf => ht f line col acc hf
  | u :: us, i, hg, f, line, col, acc, hf => by
    obtain ⟨c, r, hcr, hc, hsep⟩ := hs i
    have e : bld sep i (u :: us) ++ tail = u.text ++ (sep i ++ (bld sep (i + 1) us ++ tail)) := by simp only [bld, List.append_assoc]
    rw [e] at hf ⊢
    obtain ⟨f, rfl⟩ : ∃ g, f = g + 1 := ⟨f - 1, by omega⟩
    have hu := hg u (List.mem_cons_self ..)
    have h1 := List.length_pos_iff.2 hu.1
    rw [lexF_piece hu (.inr ⟨c, r ++ (bld sep (i + 1) us ++ tail), by rw [hcr]; rfl, hc⟩)]
    obtain ⟨g, L, C, hgl, hge⟩ := hsep.skip (bld sep (i + 1) us ++ tail) f line (col + u.text.length) (acc ++ [⟨u.kind, u.text, u.n, line, col⟩]) (by rw [List.length_append] at hf; omega)
    rw [hge]
    obtain ⟨xs, L2, C2, h3, h4⟩ := lexF_bld sep hs ht us (i + 1) (fun v hv => hg v (List.mem_cons_of_mem _ hv)) g L C (acc ++ [⟨u.kind, u.text, u.n, line, col⟩]) hgl
    refine ⟨⟨u.kind, u.text, u.n, line, col⟩ :: xs, L2, C2, ?_, ?_⟩
    · rw [h3]
      simp
    · simp only [List.map_cons, List.cons_append, h4]
      rfl
/-- The blanks of LexBlanks. -/
def sepI (clean : List UInt8) (ev i : Nat) : List UInt8 := if (i + 1) % ev = 0 then 32 :: clean ++ [10] else if (i + 1) % ev = 1 then [9, 32, 32] else [10, 10]
theorem sepI_ok {n : List UInt8} (h : ∀ x ∈ n, x ≠ 10) (ev i : Nat) : SepB (sepI (35 :: n) ev i) := by
  unfold sepI
  split
  · exact ⟨32, 35 :: n ++ [10], by simp, .inr (.inl rfl), .blank (.inr (.inl rfl)) (.note h (.blank (.inl rfl) .nil))⟩
  · split
    · exact ⟨9, [32, 32], rfl, .inr (.inr rfl), .blank (.inr (.inr rfl)) (.blank (.inr (.inl rfl)) (.blank (.inr (.inl rfl)) .nil))⟩
    · exact ⟨10, [10], rfl, .inl rfl, .blank (.inl rfl) (.blank (.inl rfl) .nil)⟩
theorem sepI_len (clean : List UInt8) (ev i : Nat) (h : clean.length ≤ 21) : (sepI clean ev i).length ≤ 23 := by
  unfold sepI
  split
  · simp; omega
  · split <;> simp
theorem lexS_blanks {n : List UInt8} (h : ∀ x ∈ n, x ≠ 10) (ev : Nat) {us : List Tk} (hg : ∀ u ∈ us, Good u) : ∃ xs L C, lexS (bld (sepI (35 :: n) ev) 0 us ++ 35 :: n) = .ok (xs ++ [⟨0, [], 0, L, C⟩]) ∧ xs.map Tk.bare = us.map Tk.bare := by
  obtain ⟨xs, L, C, h1, h2⟩ := lexF_bld (sepI (35 :: n) ev) (sepI_ok h ev) (Tail.note h) us 0 hg _ 1 1 [] (Nat.lt_succ_self _)
  exact ⟨xs, L, C, by simpa [lexS] using h1, by simpa using h2⟩
end Go.Proofs.YtdmlnoeneoomfaaDoor
