
/-
  Where the tokens stand: the law.
-/
import Derived.Test.YtdmlnoeneoomfaaDoorL13
namespace Go.Proofs.YtdmlnoeneoomfaaDoor
open Go.RowKit

/-- The places behind line feeds. -/
def stF : List UInt8 → Nat → List Nat
  | [], _ => []
  | c :: r, i => if c = 10 then (i + 1) :: stF r (i + 1) else stF r (i + 1)
theorem stF_append (b : List UInt8) : ∀ (a : List UInt8) (i : Nat), stF (a ++ b) i = stF a i ++ stF b (i + a.length)
  | [], i => by simp [stF]
  | c :: a, i => by
    have e : i + 1 + a.length = i + (c :: a).length := by simp; omega
    simp only [List.cons_append, stF]
    split
    · rw [stF_append b a (i + 1), e, List.cons_append]
    · rw [stF_append b a (i + 1), e]
theorem stF_none : ∀ (l : List UInt8) (i : Nat), (∀ x ∈ l, x ≠ 10) → stF l i = []
  | [], _, _ => rfl
  | c :: r, i, h => by
    simp only [stF]
    rw [if_neg (h c (List.mem_cons_self ..)), stF_none r (i + 1) (fun x hx => h x (List.mem_cons_of_mem _ hx))]
theorem stF_length : ∀ (l : List UInt8) (i : Nat), (stF l i).length ≤ l.length
  | [], _ => by simp [stF]
  | c :: r, i => by
    have := stF_length r (i + 1)
    simp only [stF]
    split <;> simp <;> omega
theorem stF_le : ∀ (l : List UInt8) (i : Nat), ∀ x ∈ stF l i, x ≤ i + l.length
  | [], _, _, h => absurd h (by simp [stF])
  | c :: r, i, x, h => by
    simp only [stF] at h
    rw [List.length_cons]
    split at h
    · rcases List.mem_cons.1 h with rfl | h
      · omega
      · have := stF_le r (i + 1) x h
        omega
    · have := stF_le r (i + 1) x h
      omega
def starts (X : List UInt8) : List Nat := 0 :: stF X 0

/-- From one place to another there are blanks and comments alone. -/
inductive Gap (X : List UInt8) (e : Nat) : Nat → Prop
  | done : Gap X e e
  | blank {k : Nat} {c : UInt8} (h : k < e) (hc : X[k]? = some c) (hb : c = 10 ∨ c = 32 ∨ c = 9) (hg : Gap X e (k + 1)) : Gap X e k
  | note {k : Nat} (h : k < e) (hc : X[k]? = some 35) (hle : k + preN nlB (X.drop k) ≤ e) (hg : Gap X e (k + preN nlB (X.drop k))) : Gap X e k
theorem Gap.trans {X : List UInt8} {m e k : Nat} (h : Gap X m k) (hme : m ≤ e) (h2 : Gap X e m) : Gap X e k := by
  induction h with
  | done => exact h2
  | blank h hc hb _ ih => exact .blank (by omega) hc hb ih
  | note h hc hle _ ih => exact .note (by omega) hc (by omega) ih

structure Stands (X : List UInt8) (b : Nat) (t : Tk) (p : Nat) : Prop where
  line1 : 1 ≤ t.line
  line2 : t.line ≤ (starts X).length
  col : 1 ≤ t.col
  start : ∃ v, (starts X)[(t.line - 1).toNat]? = some v ∧ (v : Int) + t.col - 1 = p
  ahead : b ≤ p
  fits : p + t.text.length ≤ X.length
  text : (X.drop p).take t.text.length = t.text
  gap : Gap X p b
inductive Placed (X : List UInt8) : Nat → List Tk → Prop
  | last {b : Nat} {t : Tk} : Stands X b t X.length → t.kind = 0 → t.text = [] → Placed X b [t]
  | more {b p : Nat} {t : Tk} {ts : List Tk} : Stands X b t p → t.kind ≠ 0 → ts ≠ [] → Placed X (p + t.text.length) ts → Placed X b (t :: ts)
theorem Placed.ne {X : List UInt8} {b : Nat} {ts : List Tk} (h : Placed X b ts) : ts ≠ [] := by cases h <;> simp
theorem Placed.step {X : List UInt8} {b : Nat} {ts : List Tk} (h : Placed X b ts) : ∃ t p us, ts = t :: us ∧ Stands X b t p ∧ ((t.kind = 0 ∧ us = [] ∧ p + t.text.length = X.length) ∨ (t.kind ≠ 0 ∧ us ≠ [] ∧ Placed X (p + t.text.length) us)) := by
  cases h with
  | last st hk ht => exact ⟨_, _, _, rfl, st, .inl ⟨hk, rfl, by simp [ht]⟩⟩
  | more st hk hu hp => exact ⟨_, _, _, rfl, st, .inr ⟨hk, hu, hp⟩⟩
theorem piece_kind {l : List UInt8} (h : (pieceS l).err = 0) : (pieceS l).kind ≠ 0 := by
  revert h
  unfold pieceS
  split
  · split
    · simp [noPc]
    · split <;> simp
  · split
    · split
      · rename_i h1
        intro h; exact absurd h h1
      · simp
    · split
      · simp
      · split
        · simp
        · simp [noPc]
theorem starts_at {X a l : List UInt8} (hX : X = a ++ l) {v : Nat} (hv : (starts a)[(stF a 0).length]? = some v) : (starts X)[(stF a 0).length]? = some v ∧ (stF a 0).length + 1 ≤ (starts X).length := by
  have e : starts X = starts a ++ stF l a.length := by
    unfold starts
    rw [hX, stF_append, Nat.zero_add, List.cons_append]
  have hl : (starts a).length = (stF a 0).length + 1 := by unfold starts; simp
  rw [e]
  refine ⟨?_, by rw [List.length_append]; omega⟩
  rw [List.getElem?_append_left (by omega)]
  exact hv
theorem lexF_places (X : List UInt8) : ∀ (f : Nat) (l a : List UInt8) (line col : Int) (acc ts : List Tk) (b v : Nat), X = a ++ l → l.length < f → line = 1 + ((stF a 0).length : Int) →
    (starts a)[(stF a 0).length]? = some v → (v : Int) + col - 1 = a.length → 1 ≤ col → b ≤ a.length → Gap X a.length b → lexF f l line col acc = .ok ts → ∃ us, ts = acc ++ us ∧ Placed X b us
  | 0, _, _, _, _, _, _, _, _, _, h, _, _, _, _, _, _, _ => absurd h (by omega)
  | f + 1, [], a, line, col, acc, ts, b, v, hX, _, hl, hv, hc, h1, hb, hg, h => by
    have hs := starts_at hX hv
    rw [List.append_nil] at hX
    subst hX
    simp only [lexF, Res.ok.injEq] at h
    refine ⟨_, h.symm, .last ⟨by simp only; omega, by simp only; omega, h1, ⟨v, ?_, by simp only; omega⟩, hb, by simp, by simp, hg⟩ rfl rfl⟩
    rw [show ((line - 1).toNat) = (stF X 0).length by omega]
    exact hv
  | f + 1, c :: r, a, line, col, acc, ts, b, v, hX, hf, hl, hv, hc, h1, hb, hg, h => by
    have hf' : r.length < f := by simp at hf; omega
    have hs := starts_at hX hv
    have hXc : X[a.length]? = some c := by rw [hX, List.getElem?_append_right (Nat.le_refl _)]; simp
    have hdr : X.drop a.length = c :: r := by rw [hX]; simp
    have hX1 : X = (a ++ [c]) ++ r := by rw [hX]; simp
    have hl1 : (a ++ [c]).length = a.length + 1 := by simp
    rw [lexF_cons rfl] at h
    by_cases e1 : c = 10
    · rw [if_pos e1] at h
      have e2 : stF (a ++ [c]) 0 = stF a 0 ++ [a.length + 1] := by
        rw [stF_append, Nat.zero_add, e1]
        rfl
      refine lexF_places X f r (a ++ [c]) (line + 1) 1 acc ts b (a.length + 1) hX1 hf' (by rw [e2]; simp; omega) ?_ (by rw [hl1]; omega) (by omega) (by omega) ?_ h
      · rw [e2]
        unfold starts
        rw [e2]
        simp
      · rw [hl1]
        exact hg.trans (by omega) (.blank (by omega) hXc (.inl e1) .done)
    · rw [if_neg e1] at h
      by_cases e3 : c = 32 ∨ c = 9
      · rw [if_pos e3] at h
        have e2 : stF (a ++ [c]) 0 = stF a 0 := by
          rw [stF_append, stF_none [c] _ (by simp [e1]), List.append_nil]
        refine lexF_places X f r (a ++ [c]) line (col + 1) acc ts b v hX1 hf' (by rw [e2]; omega) ?_ (by rw [hl1]; omega) (by omega) (by omega) ?_ h
        · unfold starts
          rw [e2]
          exact hv
        · rw [hl1]
          exact hg.trans (by omega) (.blank (by omega) hXc (.inr e3) .done)
      · rw [if_neg e3] at h
        by_cases e4 : c = 35
        · rw [if_pos e4] at h
          have hp : 1 ≤ preN nlB (c :: r) := preN_pos (by subst e4; rfl)
          have hle := preN_le nlB (c :: r)
          have hXu : X = (a ++ (c :: r).take (preN nlB (c :: r))) ++ (c :: r).drop (preN nlB (c :: r)) := by rw [List.append_assoc, List.take_append_drop]; exact hX
          have hlu : (a ++ (c :: r).take (preN nlB (c :: r))).length = a.length + preN nlB (c :: r) := by rw [List.length_append, List.length_take]; omega
          have e2 : stF (a ++ (c :: r).take (preN nlB (c :: r))) 0 = stF a 0 := by
            rw [stF_append, stF_none ((c :: r).take (preN nlB (c :: r))) _ (by
              rw [← take_of_pre]
              intro x hx
              have := mem_pre hx
              rintro rfl; revert this; decide), List.append_nil]
          refine lexF_places X f _ _ line _ acc ts b v hXu (by simp; omega) (by rw [e2]; omega) ?_ (by rw [hlu]; omega) (by omega) (by omega) ?_ h
          · unfold starts
            rw [e2]
            exact hv
          · rw [hlu]
            refine hg.trans (by omega) (.note (by omega) (by rw [hXc, e4]) (by rw [hdr]; omega) ?_)
            rw [hdr]
            exact .done
        · rw [if_neg e4] at h
          by_cases e5 : (pieceS (c :: r)).err ≠ 0
          · rw [if_pos e5] at h
            cases h
          · rw [if_neg e5] at h
            have h6 : (pieceS (c :: r)).err = 0 := by simpa using e5
            have hp := pieceS_len h6 (by simp : c :: r ≠ [])
            have ht := head_text h6
            have hk := piece_kind h6
            generalize pieceS (c :: r) = P at *
            have hp1 := hp.1
            have hp2 := hp.2
            have hXu : X = (a ++ P.text) ++ (c :: r).drop P.text.length := by
              rw [ht.1, List.append_assoc, List.length_take, Nat.min_eq_left hp2, List.take_append_drop]; exact hX
            have hlu : (a ++ P.text).length = a.length + P.text.length := List.length_append
            have e2 : stF (a ++ P.text) 0 = stF a 0 := by
              rw [stF_append, stF_none P.text _ (fun x hx => (ht.2 x hx).1), List.append_nil]
            obtain ⟨us, h7, h8⟩ := lexF_places X f _ (a ++ P.text) line _ _ ts (a.length + P.text.length) v hXu (by simp; omega) (by rw [e2]; omega) (by unfold starts; rw [e2]; exact hv) (by rw [hlu]; omega) (by omega) (by omega) (by rw [hlu]; exact .done) h
            refine ⟨⟨P.kind, P.text, P.n, line, col⟩ :: us, by rw [h7]; simp, .more (p := a.length) ⟨by simp only; omega, by simp only; omega, h1, ⟨v, ?_, by simp only; omega⟩, hb, ?_, ?_, hg⟩ hk h8.ne h8⟩
            · rw [show ((line - 1).toNat) = (stF a 0).length by omega]
              exact hs.1
            · rw [hX, List.length_append]
              exact Nat.add_le_add_left hp2 _
            · rw [hdr]
              exact ht.1.symm
theorem lexS_places {X : List UInt8} {ts : List Tk} (h : lexS X = .ok ts) : Placed X 0 ts := by
  obtain ⟨us, h1, h2⟩ := lexF_places X _ X [] 1 1 [] ts 0 0 rfl (by omega) (by simp [stF]) (by simp [starts, stF]) (by simp) (by omega) (by simp) .done h
  rw [List.nil_append] at h1
  rw [h1]
  exact h2
end Go.Proofs.YtdmlnoeneoomfaaDoor
