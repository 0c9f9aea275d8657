
/-
  Expressions: what stands behind plays no part; less depth gives the same, or is too deep.
-/
import Derived.Test.YtdmlnoeneoomfaaDoorS1
namespace Go.Proofs.YtdmlnoeneoomfaaDoor

/-- Nothing of an expression begins here, or ends. -/
def Dead (X : List Tk) : Prop := openT X = false ∧ hasT [91] X = false ∧ hasT [93] X = false ∧ hasT [41] X = false ∧ ∀ l, opAt l X = none
/-- Nothing of an expression goes on here. -/
def Calm (Y : List Tk) : Prop := hasT [91] Y = false ∧ ∀ l, opAt l Y = none
theorem Dead.calm {X : List Tk} (h : Dead X) : Calm X := ⟨h.2.1, h.2.2.2.2⟩
def Loc (next : List Tk → PR) : Prop := ∀ (X Y us : List Tk) (e : Ex) (r : List Tk), Dead X → Calm Y → next (us ++ X) = .ok e r → ∃ vs, r = vs ++ X ∧ vs <:+ us ∧ next (us ++ Y) = .ok e (vs ++ Y)
theorem hasT_app {x : List UInt8} {t : Tk} {us X Y : List Tk} : hasT x (t :: us ++ X) = hasT x (t :: us ++ Y) := rfl
theorem hasT_calm {X Y us : List Tk} (hx : hasT [91] X = false) (hy : hasT [91] Y = false) : hasT [91] (us ++ X) = hasT [91] (us ++ Y) := by
  cases us with
  | nil => rw [List.nil_append, List.nil_append, hx, hy]
  | cons t us => rfl
theorem loopJ_loc {lvl : Nat} {next : List Tk → PR} (hl : Loc next) (he : Eats next) {X Y : List Tk} (hx : Dead X) (hy : Calm Y) : ∀ (n : Nat) (us : List Tk), us.length ≤ n → ∀ (f g : Nat) (e e2 : Ex) (r : List Tk), (us ++ X).length ≤ f → (us ++ Y).length ≤ g →
    loopJ lvl next f e (us ++ X) = .ok e2 r → ∃ vs, r = vs ++ X ∧ vs <:+ us ∧ loopJ lvl next g e (us ++ Y) = .ok e2 (vs ++ Y)
  | n, [], _, f, g, e, e2, r, _, _, h => by
    refine ⟨[], ?_, List.suffix_refl _, ?_⟩
    · cases f with
      | zero => simp only [loopJ, List.nil_append, PR.ok.injEq] at h; exact h.2.symm
      | succ f => simp only [loopJ, List.nil_append, hx.2.2.2.2 lvl, PR.ok.injEq] at h; exact h.2.symm
    · have e1 : e = e2 := by
        cases f with
        | zero => simp only [loopJ, List.nil_append, PR.ok.injEq] at h; exact h.1
        | succ f => simp only [loopJ, List.nil_append, hx.2.2.2.2 lvl, PR.ok.injEq] at h; exact h.1
      subst e1
      cases g with
      | zero => rfl
      | succ g => simp only [loopJ, List.nil_append, hy.2 lvl]
  | 0, t :: us, hn, f, g, e, e2, r, hf, hg, h => by simp at hn
  | n + 1, t :: us, hn, f, g, e, e2, r, hf, hg, h => by
    rw [List.length_cons] at hn
    simp only [List.cons_append, List.length_cons] at hf hg
    obtain ⟨f, rfl⟩ : ∃ q, f = q + 1 := ⟨f - 1, by omega⟩
    obtain ⟨g, rfl⟩ : ∃ q, g = q + 1 := ⟨g - 1, by omega⟩
    have ho : ∀ Z : List Tk, opAt lvl (t :: (us ++ Z)) = opAt lvl [t] := fun _ => rfl
    simp only [List.cons_append, loopJ, List.tail_cons] at h ⊢
    rw [ho] at h ⊢
    cases hop : opAt lvl [t] with
    | none =>
      rw [hop] at h
      simp only [PR.ok.injEq] at h ⊢
      exact ⟨t :: us, h.2.symm, List.suffix_refl _, h.1, rfl⟩
    | some op =>
      rw [hop] at h
      simp only at h ⊢
      cases hq : next (us ++ X) with
      | bad r2 er => rw [hq] at h; cases h
      | ok e3 r3 =>
        rw [hq] at h
        obtain ⟨vs, rfl, hvs, h3⟩ := hl X Y us e3 r3 hx hy hq
        have h4 := he _ _ _ hq
        rw [List.length_append, List.length_append] at h4
        rw [h3]
        simp only at h ⊢
        by_cases h2 : lvl = 2
        · rw [if_pos h2] at h ⊢
          simp only [PR.ok.injEq] at h
          exact ⟨vs, h.2.symm, hvs.trans (List.suffix_cons _ _), by rw [h.1]⟩
        · rw [if_neg h2] at h ⊢
          have l1 := hvs.length_le
          obtain ⟨ws, h5, h6, h7⟩ := loopJ_loc hl he hx hy n vs (by omega) f g _ e2 r (by rw [List.length_append] at hf ⊢; omega) (by rw [List.length_append] at hg ⊢; omega) h
          exact ⟨ws, h5, (h6.trans hvs).trans (List.suffix_cons _ _), h7⟩
theorem joinL_loc {plain : List Tk → PR} (hl : Loc plain) (he : Eats plain) : ∀ k, Loc (joinL plain k)
  | 0 => hl
  | k + 1 => fun X Y us e r hx hy h => by
    simp only [joinL] at h ⊢
    cases hq : joinL plain k (us ++ X) with
    | bad r2 er => rw [hq] at h; cases h
    | ok e3 r3 =>
      rw [hq] at h
      obtain ⟨vs, rfl, hvs, h3⟩ := joinL_loc hl he k X Y us e3 r3 hx hy hq
      rw [h3]
      simp only at h ⊢
      obtain ⟨ws, h5, h6, h7⟩ := loopJ_loc (joinL_loc hl he k) (joinL_eats he k) hx hy _ vs (Nat.le_refl _) _ _ _ e r (Nat.le_refl _) (Nat.le_refl _) h
      exact ⟨ws, h5, h6.trans hvs, h7⟩
theorem mustT_loc {x : List UInt8} {X Y vs : List Tk} {e e2 : Ex} {r : List Tk} (hx : hasT x X = false) (h : mustT x e (vs ++ X) = .ok e2 r) : ∃ ws, r = ws ++ X ∧ ws <:+ vs ∧ mustT x e (vs ++ Y) = .ok e2 (ws ++ Y) := by
  cases vs with
  | nil =>
    rw [List.nil_append] at h
    unfold mustT at h
    rw [hx] at h
    cases h
  | cons t vs =>
    unfold mustT at h ⊢
    have e1 : ∀ Z : List Tk, hasT x (t :: vs ++ Z) = hasT x [t] := fun _ => rfl
    rw [e1] at h ⊢
    split at h
    · rename_i hh
      rw [if_pos hh]
      simp only [List.cons_append, List.tail_cons, PR.ok.injEq] at h ⊢
      exact ⟨vs, h.2.symm, List.suffix_cons _ _, h.1, rfl⟩
    · cases h
theorem plainD_loc : ∀ d, Loc (plainD d)
  | 0 => fun X Y us e r hx hy h => by
    exfalso
    cases hc : us ++ X with
    | nil => rw [hc] at h; simp [plainD] at h
    | cons t u => rw [hc] at h; simp only [plainD] at h; split at h <;> cases h
  | d + 1 => fun X Y us e r hx hy h => by
    have ih := plainD_loc d
    have ij := joinL_loc ih (plainD_eats d) 5
    cases us with
    | nil =>
      exfalso
      rw [List.nil_append] at h
      cases X with
      | nil => simp [plainD] at h
      | cons t X => simp only [plainD, hx.1] at h; simp at h
    | cons t us =>
      have ho : ∀ Z : List Tk, openT (t :: (us ++ Z)) = openT [t] := fun _ => rfl
      simp only [List.cons_append, plainD] at h ⊢
      rw [ho] at h ⊢
      by_cases h0 : openT [t] = false
      · rw [if_pos h0] at h; cases h
      · rw [if_neg h0] at h ⊢
        by_cases h2 : t.kind = 2
        · rw [if_pos h2] at h ⊢
          simp only [PR.ok.injEq] at h ⊢
          exact ⟨us, h.2.symm, List.suffix_cons _ _, h.1, rfl⟩
        · rw [if_neg h2] at h ⊢
          by_cases h1 : t.kind = 1
          · rw [if_pos h1] at h ⊢
            rw [hasT_calm (Y := Y) hx.2.1 hy.1] at h
            by_cases hb : hasT [91] (us ++ Y) = true
            · rw [if_pos hb] at h ⊢
              cases us with
              | nil => rw [List.nil_append, hy.1] at hb; cases hb
              | cons u us =>
                simp only [List.cons_append, List.tail_cons] at h ⊢
                cases hq : joinL (plainD d) 5 (us ++ X) with
                | bad r2 er => rw [hq] at h; cases h
                | ok e3 r3 =>
                  rw [hq] at h
                  obtain ⟨vs, rfl, hvs, h3⟩ := ij X Y us e3 r3 hx hy hq
                  rw [h3]
                  obtain ⟨ws, h5, h6, h7⟩ := mustT_loc (Y := Y) hx.2.2.1 h
                  exact ⟨ws, h5, ((h6.trans hvs).trans (List.suffix_cons _ _)).trans (List.suffix_cons _ _), h7⟩
            · rw [if_neg hb] at h ⊢
              simp only [PR.ok.injEq] at h ⊢
              exact ⟨us, h.2.symm, List.suffix_cons _ _, h.1, rfl⟩
          · rw [if_neg h1] at h ⊢
            by_cases hp : t.text = [40]
            · rw [if_pos hp] at h ⊢
              cases hq : joinL (plainD d) 5 (us ++ X) with
              | bad r2 er => rw [hq] at h; cases h
              | ok e3 r3 =>
                rw [hq] at h
                obtain ⟨vs, rfl, hvs, h3⟩ := ij X Y us e3 r3 hx hy hq
                rw [h3]
                obtain ⟨ws, h5, h6, h7⟩ := mustT_loc (Y := Y) hx.2.2.2.1 h
                exact ⟨ws, h5, (h6.trans hvs).trans (List.suffix_cons _ _), h7⟩
            · rw [if_neg hp] at h ⊢
              by_cases hm : t.text = [45]
              · rw [if_pos hm] at h ⊢
                cases hq : plainD d (us ++ X) with
                | bad r2 er => rw [hq] at h; cases h
                | ok e3 r3 =>
                  rw [hq] at h
                  obtain ⟨vs, rfl, hvs, h3⟩ := ih X Y us e3 r3 hx hy hq
                  rw [h3]
                  simp only [PR.ok.injEq] at h ⊢
                  exact ⟨vs, h.2.symm, hvs.trans (List.suffix_cons _ _), h.1, rfl⟩
              · rw [if_neg hm] at h ⊢
                cases hq : plainD d (us ++ X) with
                | bad r2 er => rw [hq] at h; cases h
                | ok e3 r3 =>
                  rw [hq] at h
                  obtain ⟨vs, rfl, hvs, h3⟩ := ih X Y us e3 r3 hx hy hq
                  rw [h3]
                  simp only [PR.ok.injEq] at h ⊢
                  exact ⟨vs, h.2.symm, hvs.trans (List.suffix_cons _ _), h.1, rfl⟩

/-- The same, or too deep. -/
def Less (p q : List Tk → PR) : Prop := ∀ r, p r = q r ∨ ∃ r', p r = .bad r' 25
theorem Less.refl (p : List Tk → PR) : Less p p := fun _ => .inl rfl
theorem Less.trans {p q s : List Tk → PR} (h : Less p q) (h2 : Less q s) : Less p s := fun r => by
  rcases h r with e | e
  · rw [e]; exact h2 r
  · exact .inr e
theorem loopJ_less {lvl : Nat} {p q : List Tk → PR} (h : Less p q) : ∀ (f : Nat) (e : Ex) (r : List Tk), loopJ lvl p f e r = loopJ lvl q f e r ∨ ∃ r', loopJ lvl p f e r = .bad r' 25
  | 0, _, _ => .inl rfl
  | f + 1, e, r => by
    simp only [loopJ]
    cases opAt lvl r with
    | none => exact .inl rfl
    | some op =>
      simp only
      rcases h r.tail with e1 | ⟨r', e1⟩
      · rw [e1]
        cases q r.tail with
        | bad r2 er => exact .inl rfl
        | ok e2 r2 =>
          simp only
          split
          · exact .inl rfl
          · exact loopJ_less h f _ _
      · rw [e1]
        exact .inr ⟨r', rfl⟩
theorem joinL_less {p q : List Tk → PR} (h : Less p q) : ∀ k, Less (joinL p k) (joinL q k)
  | 0 => h
  | k + 1 => fun r => by
    simp only [joinL]
    rcases joinL_less h k r with e1 | ⟨r', e1⟩
    · rw [e1]
      cases joinL q k r with
      | bad r2 er => exact .inl rfl
      | ok e2 r2 => exact loopJ_less (joinL_less h k) _ _ _
    · rw [e1]
      exact .inr ⟨r', rfl⟩
theorem plainD_less : ∀ d, Less (plainD d) (plainD (d + 1))
  | 0 => fun r => by
    cases r with
    | nil => exact .inl rfl
    | cons t r =>
      by_cases h0 : openT (t :: r) = false
      · left
        simp [plainD, h0]
      · right
        refine ⟨t :: r, ?_⟩
        simp only [plainD]
        rw [if_pos (by simpa using h0)]
  | d + 1 => fun r => by
    have ih := plainD_less d
    have ij := joinL_less ih 5
    cases r with
    | nil => exact .inl rfl
    | cons t r =>
      rw [plainD, plainD]
      split
      · exact .inl rfl
      · split
        · exact .inl rfl
        · split
          · split
            · rcases ij r.tail with e1 | ⟨r', e1⟩
              · rw [e1]; exact .inl rfl
              · rw [e1]; exact .inr ⟨r', rfl⟩
            · exact .inl rfl
          · split
            · rcases ij r with e1 | ⟨r', e1⟩
              · rw [e1]; exact .inl rfl
              · rw [e1]; exact .inr ⟨r', rfl⟩
            · split
              · rcases ih r with e1 | ⟨r', e1⟩
                · rw [e1]; exact .inl rfl
                · rw [e1]; exact .inr ⟨r', rfl⟩
              · rcases ih r with e1 | ⟨r', e1⟩
                · rw [e1]; exact .inl rfl
                · rw [e1]; exact .inr ⟨r', rfl⟩
theorem plainD_less_of {d : Nat} : ∀ k, Less (plainD d) (plainD (d + k))
  | 0 => Less.refl _
  | k + 1 => (plainD_less_of k).trans (plainD_less (d + k))

/-- What is tighter stands by itself where nothing goes on. -/
theorem joinL_up {plain : List Tk → PR} {k : Nat} {r r2 : List Tk} {e : Ex} (h : joinL plain k r = .ok e r2) (ho : opAt (4 - k) r2 = none) : joinL plain (k + 1) r = .ok e r2 := by
  simp only [joinL]
  rw [h]
  simp only
  cases hl : r2.length with
  | zero => rfl
  | succ n => simp only [loopJ, ho]
theorem joinL_ups {plain : List Tk → PR} {r r2 : List Tk} {e : Ex} {k : Nat} (h : joinL plain k r = .ok e r2) : ∀ j, (∀ m, k ≤ m → m < k + j → opAt (4 - m) r2 = none) → joinL plain (k + j) r = .ok e r2
  | 0, _ => h
  | j + 1, ho => joinL_up (joinL_ups h j (fun m h1 h2 => ho m h1 (by omega))) (ho (k + j) (by omega) (by omega))
/-- Parentheses around. -/
theorem join_par {d : Nat} {us Y : List Tk} {e : Ex} {o c : Tk} (hok : o.kind = 4) (hot : o.text = [40]) (hck : c.kind = 4) (hct : c.text = [41]) (h : joinL (plainD d) 5 (us ++ c :: Y) = .ok e (c :: Y)) : plainD (d + 1) (o :: us ++ c :: Y) = .ok e Y := by
  have ho : openT (o :: (us ++ c :: Y)) = true := by simp [openT, hasT, hok, hot]
  rw [List.cons_append]
  simp only [plainD]
  rw [ho, if_neg (by decide), if_neg (by rw [hok]; decide), if_neg (by rw [hok]; decide), if_pos hot, h]
  simp only [mustT, hasT, hck, hct]
  rfl
def parenO : Tk := ⟨4, [40], 0, 0, 0⟩
def parenC : Tk := ⟨4, [41], 0, 0, 0⟩
def wrapT : Nat → List Tk → List Tk
  | 0, us => us
  | k + 1, us => parenO :: wrapT k us ++ [parenC]
theorem calm_close (Y : List Tk) : Calm (parenC :: Y) := ⟨rfl, fun l => by
  match l with
  | 0 => rfl
  | 1 => rfl
  | 2 => rfl
  | 3 => rfl
  | 4 => rfl
  | _ + 5 => rfl⟩
theorem wraps_law {us X : List Tk} {e : Ex} (hx : Dead X) (h : joinL (plainD 16) 5 (us ++ X) = .ok e X) : ∀ (k d : Nat) (Y : List Tk), d ≤ 16 → Calm Y → joinL (plainD d) 5 (wrapT k us ++ Y) = .ok e Y ∨ ∃ r, joinL (plainD d) 5 (wrapT k us ++ Y) = .bad r 25
  | 0, d, Y, hd, hy => by
    obtain ⟨vs, h1, -, h3⟩ := joinL_loc (plainD_loc 16) (plainD_eats 16) 5 X Y us e X hx hy h
    have : vs = [] := List.eq_nil_of_length_eq_zero (by have := congrArg List.length h1; rw [List.length_append] at this; omega)
    subst this
    have hl := joinL_less (plainD_less_of (d := d) (16 - d)) 5 (us ++ Y)
    rw [show d + (16 - d) = 16 from by omega] at hl
    rcases hl with e1 | ⟨r, e1⟩
    · exact .inl (e1.trans h3)
    · exact .inr ⟨r, e1⟩
  | k + 1, d, Y, hd, hy => by
    have e0 : wrapT (k + 1) us ++ Y = parenO :: wrapT k us ++ parenC :: Y := by simp [wrapT]
    rw [e0]
    cases d with
    | zero =>
      right
      have : plainD 0 (parenO :: wrapT k us ++ parenC :: Y) = .bad (parenO :: wrapT k us ++ parenC :: Y) 25 := rfl
      exact ⟨parenO :: wrapT k us ++ parenC :: Y, by simp only [joinL, this]⟩
    | succ d =>
      rcases wraps_law hx h k d (parenC :: Y) (by omega) (calm_close Y) with h1 | ⟨r, h1⟩
      · left
        have := join_par (o := parenO) (c := parenC) rfl rfl rfl rfl h1
        have h0 : joinL (plainD (d + 1)) 0 (parenO :: wrapT k us ++ parenC :: Y) = .ok e Y := this
        exact joinL_ups (k := 0) h0 5 (fun m _ _ => hy.2 _)
      · right
        have : plainD (d + 1) (parenO :: wrapT k us ++ parenC :: Y) = .bad r 25 := by
          rw [List.cons_append]
          simp only [plainD]
          rw [show openT (parenO :: (wrapT k us ++ parenC :: Y)) = true from rfl, if_neg (by decide), if_neg (by decide), if_neg (by decide), if_pos (show parenO.text = [40] from rfl), h1]
        exact ⟨r, by simp only [joinL, this]⟩
end Go.Proofs.YtdmlnoeneoomfaaDoor
