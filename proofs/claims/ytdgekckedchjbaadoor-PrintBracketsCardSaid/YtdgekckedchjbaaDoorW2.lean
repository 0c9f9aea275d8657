
/-
  PrintBrackets: parentheses balance; without a pair of them a text says less, in plain Lean. No program is named here.
-/
import Derived.Test.YtdgekckedchjbaaDoorW1
namespace Go.Proofs.YtdgekckedchjbaaDoor

/-- What a byte adds to the depth. -/
def stepD (c : UInt8) : Int := if c = 40 then 1 else if c = 41 then -1 else 0
def bal (l : List UInt8) : Int := (l.map stepD).sum
theorem bal_append (a b : List UInt8) : bal (a ++ b) = bal a + bal b := by simp [bal]
theorem bal_cons (c : UInt8) (l : List UInt8) : bal (c :: l) = stepD c + bal l := by simp [bal]
theorem bal_none {l : List UInt8} (h : ∀ c ∈ l, c ≠ 40 ∧ c ≠ 41) : bal l = 0 := by
  induction l with
  | nil => rfl
  | cons c l ih =>
    have := h c (List.mem_cons_self ..)
    rw [bal_cons, ih fun d hd => h d (List.mem_cons_of_mem _ hd), stepD, if_neg this.1, if_neg this.2]
    rfl
/-- Balanced: as a whole, and no end opens more than it shuts. -/
def Bal (l : List UInt8) : Prop := bal l = 0 ∧ ∀ k, bal (l.drop k) ≤ 0
theorem Bal.cat {a b : List UInt8} (ha : Bal a) (hb : Bal b) : Bal (a ++ b) := by
  refine ⟨by rw [bal_append, ha.1, hb.1]; rfl, fun k => ?_⟩
  rw [List.drop_append, bal_append]
  have h1 := ha.2 k
  have h2 := hb.2 (k - a.length)
  omega
theorem Bal.none_ {l : List UInt8} (h : ∀ c ∈ l, c ≠ 40 ∧ c ≠ 41) : Bal l := ⟨bal_none h, fun k => by rw [bal_none fun c hc => h c (List.mem_of_mem_drop hc)]; exact Int.le_refl 0⟩
theorem Bal.paren {s : List UInt8} (h : Bal s) : Bal ([40, 32] ++ s ++ [32, 41]) := by
  have h32 : Bal [32] := Bal.none_ (by decide)
  have hm : Bal ([32] ++ s ++ [32]) := (h32.cat h).cat h32
  have e : [40, 32] ++ s ++ [32, 41] = 40 :: (([32] ++ s ++ [32]) ++ [41]) := by simp
  rw [e]
  have e41 : bal [41] = -1 := by decide
  refine ⟨by rw [bal_cons, bal_append, hm.1, e41]; decide, fun k => ?_⟩
  cases k with
  | zero =>
    rw [List.drop_zero, bal_cons, bal_append, hm.1, e41]
    decide
  | succ k =>
    rw [List.drop_succ_cons, List.drop_append, bal_append]
    have h1 := hm.2 k
    have h2 : bal (List.drop (k - ([32] ++ s ++ [32]).length) [41]) ≤ 0 := by
      cases (k - ([32] ++ s ++ [32]).length) with
      | zero => decide
      | succ n => simp [bal]
    omega
theorem digit_par : ∀ (u : Nat), ∀ c ∈ Lib.decDigits u, c ≠ 40 ∧ c ≠ 41 := by
  have key : ∀ i, i < 10 → UInt8.ofNat (48 + i) ≠ 40 ∧ UInt8.ofNat (48 + i) ≠ 41 := by decide
  intro u
  induction u using Nat.strongRecOn with
  | ind u ih =>
    by_cases h : u < 10
    · rw [Lib.decDigits_one h]
      intro c hc
      obtain rfl := List.mem_singleton.1 hc
      exact key u h
    · rw [Lib.decDigits, dif_neg h]
      intro c hc
      rcases List.mem_append.1 hc with hc | hc
      · exact ih (u / 10) (by omega) c hc
      · obtain rfl := List.mem_singleton.1 hc
        exact key (u % 10) (by omega)
theorem itoa_bal (n : Int) : Bal (Lib.itoa n) := by
  refine Bal.none_ ?_
  unfold Lib.itoa
  split
  · intro c hc
    rcases List.mem_cons.1 hc with rfl | hc
    · decide
    · exact digit_par _ c hc
  · exact digit_par _
theorem name_bal {s : List UInt8} (h : NameP s) : Bal s := by
  refine Bal.none_ fun c hc => ?_
  have := h.2.2.1 c hc
  refine ⟨fun e => ?_, fun e => ?_⟩ <;> rw [e] at this <;> revert this <;> decide
theorem operO_bal {op t : Int} {o : Option (List UInt8)} {s : List UInt8} (h : ∀ s, o = some s → Bal s) (e : operO op t o = some s) : Bal s := by
  unfold operO at e
  split at e
  · cases o with
    | none => cases e
    | some s' =>
      injection e with e
      subst e
      exact (h _ rfl).paren
  · exact h _ e
theorem mark_bal {op : Int} (h0 : 3 ≤ op) (h : op < 18) : Bal (markN op) := by
  have key : ∀ m, m < 15 → ∀ c ∈ markN ((m : Nat) + 3 : Int), c ≠ 40 ∧ c ≠ 41 := by decide
  have := key (op - 3).toNat (by omega)
  rw [show (((op - 3).toNat : Nat) + 3 : Int) = op by omega] at this
  exact Bal.none_ this
theorem rawE_bal : ∀ (e : Ex) (t : List UInt8), EvE NameP NumP e → rawE e.gx = some t → Bal t
  | .num n, t, _, h => by
    simp [Ex.gx, rawE, partsN] at h
    subst h
    exact itoa_bal n
  | .nam s, t, hp, h => by
    simp [Ex.gx, rawE, partsN] at h
    subst h
    exact name_bal hp
  | .idx s e, t, hp, h => by
    simp [Ex.gx, rawE, partsN] at h
    obtain ⟨u, hu, rfl⟩ := h
    have h1 : Bal [32, 91, 32] := Bal.none_ (by decide)
    have h2 : Bal [32, 93] := Bal.none_ (by decide)
    rw [str_list]
    have := (name_bal hp.1).cat (h1.cat ((rawE_bal e u hp.2 hu).cat h2))
    simpa using this
  | .neg e, t, hp, h => by
    simp [Ex.gx, rawE, partsN] at h
    obtain ⟨u, hu, rfl⟩ := h
    have h32 : Bal [32] := Bal.none_ (by decide)
    have := (mark_bal (op := 3) (by decide) (by decide)).cat (h32.cat (operO_bal (fun s hs => rawE_bal e s hp hs) hu))
    simpa using this
  | .non e, t, hp, h => by
    simp [Ex.gx, rawE, partsN] at h
    obtain ⟨u, hu, rfl⟩ := h
    have h32 : Bal [32] := Bal.none_ (by decide)
    have := (mark_bal (op := 4) (by decide) (by decide)).cat (h32.cat (operO_bal (fun s hs => rawE_bal e s hp hs) hu))
    simpa using this
  | .bin op a b, t, hp, h => by
    rw [Ex.gx, rawE] at h
    split at h
    · rename_i hc
      obtain ⟨u, v, hu, hv, rfl⟩ := ocat_some_iff h
      obtain ⟨m, v2, hm, hv2, rfl⟩ := ocat_some_iff hv
      injection hm with hm
      subst hm
      have h5 : 5 ≤ op := by
        have := hc.2.2
        unfold partsN at this
        split at this
        · simp at this
        · split at this
          · simp at this
          · omega
      have h32 : Bal [32] := Bal.none_ (by decide)
      exact (operO_bal (fun s hs => rawE_bal a s hp.1 hs) hu).cat (((h32.cat (mark_bal (op := op) (by omega) hc.2.1)).cat h32).cat (operO_bal (fun s hs => rawE_bal b s hp.2 hs) hv2))
    · cases h
theorem ExprIs.bal {x : Gx} {t : List UInt8} (h : ExprIs x t) : Bal t := by
  obtain ⟨h1, -, y, h2, rfl⟩ := h
  exact rawE_bal y t (exprO_ev h2) h1
/-- From an opening one on: how deep one is at k, or one is at the shutting one. -/
theorem bal_next {t : List UInt8} {f k : Nat} {c : UInt8} (hf : f ≤ k) (hk : t[k]? = some c) : bal ((t.drop f).take (k + 1 - f)) = bal ((t.drop f).take (k - f)) + stepD c := by
  have h1 : (t.drop f)[k - f]? = some c := by rw [List.getElem?_drop, show f + (k - f) = k by omega]; exact hk
  obtain ⟨hl, e⟩ := List.getElem?_eq_some_iff.1 h1
  rw [show k + 1 - f = (k - f) + 1 by omega, List.take_succ_eq_append_getElem hl, bal_append, e]
  simp [bal]
/-- A text without a pair of bytes that are no blanks has fewer of them. -/
theorem nb_without {t : List UInt8} {f k : Nat} {c d : UInt8} (hfk : f < k) (hf : t[f]? = some c) (hk : t[k]? = some d) (hc : inkB c = true) (hd : inkB d = true) : nb (t.take f ++ (t.drop (f + 1)).take (k - (f + 1)) ++ t.drop (k + 1)) + 2 = nb t := by
  obtain ⟨hfl, ef⟩ := List.getElem?_eq_some_iff.1 hf
  obtain ⟨hkl, ek⟩ := List.getElem?_eq_some_iff.1 hk
  have e1 : t = t.take f ++ c :: t.drop (f + 1) := by
    rw [← ef, ← List.drop_eq_getElem_cons hfl, List.take_append_drop]
  have e2 : t.drop (f + 1) = (t.drop (f + 1)).take (k - (f + 1)) ++ d :: t.drop (k + 1) := by
    have h3 : t.drop k = d :: t.drop (k + 1) := by rw [List.drop_eq_getElem_cons hkl, ek]
    have h4 : (t.drop (f + 1)).drop (k - (f + 1)) = t.drop k := by rw [List.drop_drop, show f + 1 + (k - (f + 1)) = k by omega]
    rw [← h3, ← h4, List.take_append_drop]
  have h5 : nb t = nb (t.take f) + (1 + (nb ((t.drop (f + 1)).take (k - (f + 1))) + (1 + nb (t.drop (k + 1))))) := by
    conv => lhs; rw [e1]
    rw [nb_append, nb_cons, hc, if_pos rfl]
    conv => lhs; rw [e2]
    rw [nb_append, nb_cons, hd, if_pos rfl]
  rw [nb_append, nb_append, h5]
  omega
/-- The law: without the pair the text isn't read as a tree that has this text. -/
theorem brackets_law {t : List UInt8} {f k : Nat} (hfk : f < k) (hf : t[f]? = some 40) (hk : t[k]? = some 41) {y : Ex} (hy : exprO (t.take f ++ (t.drop (f + 1)).take (k - (f + 1)) ++ t.drop (k + 1)) = .ok y) : rawE y.gx ≠ some t := by
  intro h
  have h1 := exprO_nb hy h
  have h2 := nb_without hfk hf hk (by decide) (by decide)
  omega
end Go.Proofs.YtdgekckedchjbaaDoor
