
/-
  Expressions: what stands behind plays no part; less depth gives the same, or is too deep. The law SyntaxWraps in plain Lean: a text within parentheses. The law SyntaxTrees in plain Lean: the text of a tree, each operand within parentheses, is parsed to just that tree. The pieces of a tree are parsed to just that tree.
-/
import Derived.Test.YtdmlnoeneoomfaaDoorS1
import Derived.Test.YtdmlnoeneoomfaaDoorLX
import Derived.Test.YtdmlnoeneoomfaaDoorS9
import Derived.Test.YtdmlnoeneoomfaaDoorJW
import Derived.Test.YtdmlnoeneoomfaaDoorS4
namespace Go.Proofs.YtdmlnoeneoomfaaDoor

/-- Nothing of an expression begins here, or ends. -/
def Dead (X : List Tk) : Prop := openT X = false ∧ hasT [91] X = false ∧ hasT [93] X = false ∧ hasT [41] X = false ∧ ∀ l, opAt l X = none
/-- Nothing of an expression goes on here. -/
def Calm (Y : List Tk) : Prop := hasT [91] Y = false ∧ ∀ l, opAt l Y = none
theorem Dead.calm {X : List Tk} (h : Dead X) : Calm X := ⟨h.2.1, h.2.2.2.2⟩
def Loc (next : List Tk → PR) : Prop := ∀ (X Y us : List Tk) (e : Ex) (r : List Tk), Dead X → Calm Y → next (us ++ X) = .ok e r → ∃ vs, r = vs ++ X ∧ vs <:+ us ∧ next (us ++ Y) = .ok e (vs ++ Y)
theorem hasT_app {x : List UInt8} {t : Tk} {us X Y : List Tk} : hasT x (t :: us ++ X) = hasT x (t :: us ++ Y) := rfl
theorem hasT_calm {X Y us : List Tk} (hx : hasT [91] X = false) (hy : hasT [91] Y = false) : hasT [91] (us ++ X) = hasT [91] (us ++ Y) := by
  cases us with
  | nil => rw [List.nil_append, List.nil_append, hx, hy]
  | cons t us => rfl
theorem loopJ_loc {lvl : Nat} {next : List Tk → PR} (hl : Loc next) (he : Eats next) {X Y : List Tk} (hx : Dead X) (hy : Calm Y) : ∀ (n : Nat) (us : List Tk), us.length ≤ n → ∀ (f g : Nat) (e e2 : Ex) (r : List Tk), (us ++ X).length ≤ f → (us ++ Y).length ≤ g →
    loopJ lvl next f e (us ++ X) = .ok e2 r → ∃ vs, r = vs ++ X ∧ vs <:+ us ∧ loopJ lvl next g e (us ++ Y) = .ok e2 (vs ++ Y)
  | n, [], _, f, g, e, e2, r, _, _, h => by
    refine ⟨[], ?_, List.suffix_refl _, ?_⟩
    · cases f with
      | zero => simp only [loopJ, List.nil_append, PR.ok.injEq] at h; exact h.2.symm
      | succ f => simp only [loopJ, List.nil_append, hx.2.2.2.2 lvl, PR.ok.injEq] at h; exact h.2.symm
    · have e1 : e = e2 := by
        cases f with
        | zero => simp only [loopJ, List.nil_append, PR.ok.injEq] at h; exact h.1
        | succ f => simp only [loopJ, List.nil_append, hx.2.2.2.2 lvl, PR.ok.injEq] at h; exact h.1
      subst e1
      cases g with
      | zero => rfl
      | succ g => simp only [loopJ, List.nil_append, hy.2 lvl]
  | 0, t :: us, hn, f, g, e, e2, r, hf, hg, h => by simp at hn
  | n + 1, t :: us, hn, f, g, e, e2, r, hf, hg, h => by
    rw [List.length_cons] at hn
    simp only [List.cons_append, List.length_cons] at hf hg
    obtain ⟨f, rfl⟩ : ∃ q, f = q + 1 := ⟨f - 1, by omega⟩
    obtain ⟨g, rfl⟩ : ∃ q, g = q + 1 := ⟨g - 1, by omega⟩
    have ho : ∀ Z : List Tk, opAt lvl (t :: (us ++ Z)) = opAt lvl [t] := fun _ => rfl
    simp only [List.cons_append, loopJ, List.tail_cons] at h ⊢
    rw [ho] at h ⊢
    cases hop : opAt lvl [t] with
    | none =>
      rw [hop] at h
      simp only [PR.ok.injEq] at h ⊢
      exact ⟨t :: us, h.2.symm, List.suffix_refl _, h.1, rfl⟩
    | some op =>
      rw [hop] at h
      simp only at h ⊢
      cases hq : next (us ++ X) with
      | bad r2 er => rw [hq] at h; cases h
      | ok e3 r3 =>
        rw [hq] at h
        obtain ⟨vs, rfl, hvs, h3⟩ := hl X Y us e3 r3 hx hy hq
        have h4 := he _ _ _ hq
        rw [List.length_append, List.length_append] at h4
        rw [h3]
        simp only at h ⊢
        by_cases h2 : lvl = 2
        · rw [if_pos h2] at h ⊢
          simp only [PR.ok.injEq] at h
          exact ⟨vs, h.2.symm, hvs.trans (List.suffix_cons _ _), by rw [h.1]⟩
        · rw [if_neg h2] at h ⊢
          have l1 := hvs.length_le
          obtain ⟨ws, h5, h6, h7⟩ := loopJ_loc hl he hx hy n vs (by omega) f g _ e2 r (by rw [List.length_append] at hf ⊢; omega) (by rw [List.length_append] at hg ⊢; omega) h
          exact ⟨ws, h5, (h6.trans hvs).trans (List.suffix_cons _ _), h7⟩
theorem joinL_loc {plain : List Tk → PR} (hl : Loc plain) (he : Eats plain) : ∀ k, Loc (joinL plain k)
  | 0 => hl
  | k + 1 => fun X Y us e r hx hy h => by
    simp only [joinL] at h ⊢
    cases hq : joinL plain k (us ++ X) with
    | bad r2 er => rw [hq] at h; cases h
    | ok e3 r3 =>
      rw [hq] at h
      obtain ⟨vs, rfl, hvs, h3⟩ := joinL_loc hl he k X Y us e3 r3 hx hy hq
      rw [h3]
      simp only at h ⊢
      obtain ⟨ws, h5, h6, h7⟩ := loopJ_loc (joinL_loc hl he k) (joinL_eats he k) hx hy _ vs (Nat.le_refl _) _ _ _ e r (Nat.le_refl _) (Nat.le_refl _) h
      exact ⟨ws, h5, h6.trans hvs, h7⟩
theorem mustT_loc {x : List UInt8} {X Y vs : List Tk} {e e2 : Ex} {r : List Tk} (hx : hasT x X = false) (h : mustT x e (vs ++ X) = .ok e2 r) : ∃ ws, r = ws ++ X ∧ ws <:+ vs ∧ mustT x e (vs ++ Y) = .ok e2 (ws ++ Y) := by
  cases vs with
  | nil =>
    rw [List.nil_append] at h
    unfold mustT at h
    rw [hx] at h
    cases h
  | cons t vs =>
    unfold mustT at h ⊢
    have e1 : ∀ Z : List Tk, hasT x (t :: vs ++ Z) = hasT x [t] := fun _ => rfl
    rw [e1] at h ⊢
    split at h
    · rename_i hh
      rw [if_pos hh]
      simp only [List.cons_append, List.tail_cons, PR.ok.injEq] at h ⊢
      exact ⟨vs, h.2.symm, List.suffix_cons _ _, h.1, rfl⟩
    · cases h
theorem plainD_loc : ∀ d, Loc (plainD d)
  | 0 => fun X Y us e r hx hy h => by
    exfalso
    cases hc : us ++ X with
    | nil => rw [hc] at h; simp [plainD] at h
    | cons t u => rw [hc] at h; simp only [plainD] at h; split at h <;> cases h
  | d + 1 => fun X Y us e r hx hy h => by
    have ih := plainD_loc d
    have ij := joinL_loc ih (plainD_eats d) 5
    cases us with
    | nil =>
      exfalso
      rw [List.nil_append] at h
      cases X with
      | nil => simp [plainD] at h
      | cons t X => simp only [plainD, hx.1] at h; simp at h
    | cons t us =>
      have ho : ∀ Z : List Tk, openT (t :: (us ++ Z)) = openT [t] := fun _ => rfl
      simp only [List.cons_append, plainD] at h ⊢
      rw [ho] at h ⊢
      by_cases h0 : openT [t] = false
      · rw [if_pos h0] at h; cases h
      · rw [if_neg h0] at h ⊢
        by_cases h2 : t.kind = 2
        · rw [if_pos h2] at h ⊢
          simp only [PR.ok.injEq] at h ⊢
          exact ⟨us, h.2.symm, List.suffix_cons _ _, h.1, rfl⟩
        · rw [if_neg h2] at h ⊢
          by_cases h1 : t.kind = 1
          · rw [if_pos h1] at h ⊢
            rw [hasT_calm (Y := Y) hx.2.1 hy.1] at h
            by_cases hb : hasT [91] (us ++ Y) = true
            · rw [if_pos hb] at h ⊢
              cases us with
              | nil => rw [List.nil_append, hy.1] at hb; cases hb
              | cons u us =>
                simp only [List.cons_append, List.tail_cons] at h ⊢
                cases hq : joinL (plainD d) 5 (us ++ X) with
                | bad r2 er => rw [hq] at h; cases h
                | ok e3 r3 =>
                  rw [hq] at h
                  obtain ⟨vs, rfl, hvs, h3⟩ := ij X Y us e3 r3 hx hy hq
                  rw [h3]
                  obtain ⟨ws, h5, h6, h7⟩ := mustT_loc (Y := Y) hx.2.2.1 h
                  exact ⟨ws, h5, ((h6.trans hvs).trans (List.suffix_cons _ _)).trans (List.suffix_cons _ _), h7⟩
            · rw [if_neg hb] at h ⊢
              simp only [PR.ok.injEq] at h ⊢
              exact ⟨us, h.2.symm, List.suffix_cons _ _, h.1, rfl⟩
          · rw [if_neg h1] at h ⊢
            by_cases hp : t.text = [40]
            · rw [if_pos hp] at h ⊢
              cases hq : joinL (plainD d) 5 (us ++ X) with
              | bad r2 er => rw [hq] at h; cases h
              | ok e3 r3 =>
                rw [hq] at h
                obtain ⟨vs, rfl, hvs, h3⟩ := ij X Y us e3 r3 hx hy hq
                rw [h3]
                obtain ⟨ws, h5, h6, h7⟩ := mustT_loc (Y := Y) hx.2.2.2.1 h
                exact ⟨ws, h5, (h6.trans hvs).trans (List.suffix_cons _ _), h7⟩
            · rw [if_neg hp] at h ⊢
              by_cases hm : t.text = [45]
              · rw [if_pos hm] at h ⊢
                cases hq : plainD d (us ++ X) with
                | bad r2 er => rw [hq] at h; cases h
                | ok e3 r3 =>
                  rw [hq] at h
                  obtain ⟨vs, rfl, hvs, h3⟩ := ih X Y us e3 r3 hx hy hq
                  rw [h3]
                  simp only [PR.ok.injEq] at h ⊢
                  exact ⟨vs, h.2.symm, hvs.trans (List.suffix_cons _ _), h.1, rfl⟩
              · rw [if_neg hm] at h ⊢
                cases hq : plainD d (us ++ X) with
                | bad r2 er => rw [hq] at h; cases h
                | ok e3 r3 =>
                  rw [hq] at h
                  obtain ⟨vs, rfl, hvs, h3⟩ := ih X Y us e3 r3 hx hy hq
                  rw [h3]
                  simp only [PR.ok.injEq] at h ⊢
                  exact ⟨vs, h.2.symm, hvs.trans (List.suffix_cons _ _), h.1, rfl⟩

/-- The same, or too deep. -/
def Less (p q : List Tk → PR) : Prop := ∀ r, p r = q r ∨ ∃ r', p r = .bad r' 25
theorem Less.refl (p : List Tk → PR) : Less p p := fun _ => .inl rfl
theorem Less.trans {p q s : List Tk → PR} (h : Less p q) (h2 : Less q s) : Less p s := fun r => by
  rcases h r with e | e
  · rw [e]; exact h2 r
  · exact .inr e
theorem loopJ_less {lvl : Nat} {p q : List Tk → PR} (h : Less p q) : ∀ (f : Nat) (e : Ex) (r : List Tk), loopJ lvl p f e r = loopJ lvl q f e r ∨ ∃ r', loopJ lvl p f e r = .bad r' 25
  | 0, _, _ => .inl rfl
  | f + 1, e, r => by
    simp only [loopJ]
    cases opAt lvl r with
    | none => exact .inl rfl
    | some op =>
      simp only
      rcases h r.tail with e1 | ⟨r', e1⟩
      · rw [e1]
        cases q r.tail with
        | bad r2 er => exact .inl rfl
        | ok e2 r2 =>
          simp only
          split
          · exact .inl rfl
          · exact loopJ_less h f _ _
      · rw [e1]
        exact .inr ⟨r', rfl⟩
theorem joinL_less {p q : List Tk → PR} (h : Less p q) : ∀ k, Less (joinL p k) (joinL q k)
  | 0 => h
  | k + 1 => fun r => by
    simp only [joinL]
    rcases joinL_less h k r with e1 | ⟨r', e1⟩
    · rw [e1]
      cases joinL q k r with
      | bad r2 er => exact .inl rfl
      | ok e2 r2 => exact loopJ_less (joinL_less h k) _ _ _
    · rw [e1]
      exact .inr ⟨r', rfl⟩
theorem plainD_less : ∀ d, Less (plainD d) (plainD (d + 1))
  | 0 => fun r => by
    cases r with
    | nil => exact .inl rfl
    | cons t r =>
      by_cases h0 : openT (t :: r) = false
      · left
        simp [plainD, h0]
      · right
        refine ⟨t :: r, ?_⟩
        simp only [plainD]
        rw [if_pos (by simpa using h0)]
  | d + 1 => fun r => by
    have ih := plainD_less d
    have ij := joinL_less ih 5
    cases r with
    | nil => exact .inl rfl
    | cons t r =>
      rw [plainD, plainD]
      split
      · exact .inl rfl
      · split
        · exact .inl rfl
        · split
          · split
            · rcases ij r.tail with e1 | ⟨r', e1⟩
              · rw [e1]; exact .inl rfl
              · rw [e1]; exact .inr ⟨r', rfl⟩
            · exact .inl rfl
          · split
            · rcases ij r with e1 | ⟨r', e1⟩
              · rw [e1]; exact .inl rfl
              · rw [e1]; exact .inr ⟨r', rfl⟩
            · split
              · rcases ih r with e1 | ⟨r', e1⟩
                · rw [e1]; exact .inl rfl
                · rw [e1]; exact .inr ⟨r', rfl⟩
              · rcases ih r with e1 | ⟨r', e1⟩
                · rw [e1]; exact .inl rfl
                · rw [e1]; exact .inr ⟨r', rfl⟩
theorem plainD_less_of {d : Nat} : ∀ k, Less (plainD d) (plainD (d + k))
  | 0 => Less.refl _
  | k + 1 => (plainD_less_of k).trans (plainD_less (d + k))

/-- What is tighter stands by itself where nothing goes on. -/
theorem joinL_up {plain : List Tk → PR} {k : Nat} {r r2 : List Tk} {e : Ex} (h : joinL plain k r = .ok e r2) (ho : opAt (4 - k) r2 = none) : joinL plain (k + 1) r = .ok e r2 := by
  simp only [joinL]
  rw [h]
  simp only
  cases hl : r2.length with
  | zero => rfl
  | succ n => simp only [loopJ, ho]
theorem joinL_ups {plain : List Tk → PR} {r r2 : List Tk} {e : Ex} {k : Nat} (h : joinL plain k r = .ok e r2) : ∀ j, (∀ m, k ≤ m → m < k + j → opAt (4 - m) r2 = none) → joinL plain (k + j) r = .ok e r2
  | 0, _ => h
  | j + 1, ho => joinL_up (joinL_ups h j (fun m h1 h2 => ho m h1 (by omega))) (ho (k + j) (by omega) (by omega))
/-- Parentheses around. -/
theorem join_par {d : Nat} {us Y : List Tk} {e : Ex} {o c : Tk} (hok : o.kind = 4) (hot : o.text = [40]) (hck : c.kind = 4) (hct : c.text = [41]) (h : joinL (plainD d) 5 (us ++ c :: Y) = .ok e (c :: Y)) : plainD (d + 1) (o :: us ++ c :: Y) = .ok e Y := by
  have ho : openT (o :: (us ++ c :: Y)) = true := by simp [openT, hasT, hok, hot]
  rw [List.cons_append]
  simp only [plainD]
  rw [ho, if_neg (by decide), if_neg (by rw [hok]; decide), if_neg (by rw [hok]; decide), if_pos hot, h]
  simp only [mustT, hasT, hck, hct]
  rfl
def parenO : Tk := ⟨4, [40], 0, 0, 0⟩
def parenC : Tk := ⟨4, [41], 0, 0, 0⟩
def wrapT : Nat → List Tk → List Tk
  | 0, us => us
  | k + 1, us => parenO :: wrapT k us ++ [parenC]
theorem calm_close (Y : List Tk) : Calm (parenC :: Y) := ⟨rfl, fun l => by
  match l with
  | 0 => rfl
  | 1 => rfl
  | 2 => rfl
  | 3 => rfl
  | 4 => rfl
  | _ + 5 => rfl⟩
theorem wraps_law {us X : List Tk} {e : Ex} (hx : Dead X) (h : joinL (plainD 16) 5 (us ++ X) = .ok e X) : ∀ (k d : Nat) (Y : List Tk), d ≤ 16 → Calm Y → joinL (plainD d) 5 (wrapT k us ++ Y) = .ok e Y ∨ ∃ r, joinL (plainD d) 5 (wrapT k us ++ Y) = .bad r 25
  | 0, d, Y, hd, hy => by
    obtain ⟨vs, h1, -, h3⟩ := joinL_loc (plainD_loc 16) (plainD_eats 16) 5 X Y us e X hx hy h
    have : vs = [] := List.eq_nil_of_length_eq_zero (by have := congrArg List.length h1; rw [List.length_append] at this; omega)
    subst this
    have hl := joinL_less (plainD_less_of (d := d) (16 - d)) 5 (us ++ Y)
    rw [show d + (16 - d) = 16 from by omega] at hl
    rcases hl with e1 | ⟨r, e1⟩
    · exact .inl (e1.trans h3)
    · exact .inr ⟨r, e1⟩
  | k + 1, d, Y, hd, hy => by
    have e0 : wrapT (k + 1) us ++ Y = parenO :: wrapT k us ++ parenC :: Y := by simp [wrapT]
    rw [e0]
    cases d with
    | zero =>
      right
      have : plainD 0 (parenO :: wrapT k us ++ parenC :: Y) = .bad (parenO :: wrapT k us ++ parenC :: Y) 25 := rfl
      exact ⟨parenO :: wrapT k us ++ parenC :: Y, by simp only [joinL, this]⟩
    | succ d =>
      rcases wraps_law hx h k d (parenC :: Y) (by omega) (calm_close Y) with h1 | ⟨r, h1⟩
      · left
        have := join_par (o := parenO) (c := parenC) rfl rfl rfl rfl h1
        have h0 : joinL (plainD (d + 1)) 0 (parenO :: wrapT k us ++ parenC :: Y) = .ok e Y := this
        exact joinL_ups (k := 0) h0 5 (fun m _ _ => hy.2 _)
      · right
        have : plainD (d + 1) (parenO :: wrapT k us ++ parenC :: Y) = .bad r 25 := by
          rw [List.cons_append]
          simp only [plainD]
          rw [show openT (parenO :: (wrapT k us ++ parenC :: Y)) = true from rfl, if_neg (by decide), if_neg (by decide), if_neg (by decide), if_pos (show parenO.text = [40] from rfl), h1]
        exact ⟨r, by simp only [joinL, this]⟩
end Go.Proofs.YtdmlnoeneoomfaaDoor
namespace Go.Proofs.YtdmlnoeneoomfaaDoor
open Go.RowKit

def Res.zz : Res → Res
  | .ok ts => .ok (ts.map Tk.z)
  | .err _ _ e => .err 0 0 e
theorem lexF_z : ∀ (f g : Nat) (l : List UInt8) (line col line' col' : Int) (acc acc' : List Tk), l.length < f → l.length < g → acc.map Tk.z = acc'.map Tk.z → (lexF f l line col acc).zz = (lexF g l line' col' acc').zz
  | 0, _, _, _, _, _, _, _, _, h, _, _ => absurd h (by omega)
  | _ + 1, 0, _, _, _, _, _, _, _, _, h, _ => absurd h (by omega)
  | f + 1, g + 1, [], line, col, line', col', acc, acc', _, _, ha => by simp [lexF, Res.zz, ha, Tk.z]
  | f + 1, g + 1, c :: r, line, col, line', col', acc, acc', hf, hg, ha => by
    have hf' : r.length < f := by simp at hf; omega
    have hg' : r.length < g := by simp at hg; omega
    rw [lexF_cons rfl, lexF_cons rfl]
    by_cases h1 : c = 10
    · rw [if_pos h1, if_pos h1]
      exact lexF_z f g r _ _ _ _ acc acc' hf' hg' ha
    · rw [if_neg h1, if_neg h1]
      by_cases h2 : c = 32 ∨ c = 9
      · rw [if_pos h2, if_pos h2]
        exact lexF_z f g r _ _ _ _ acc acc' hf' hg' ha
      · rw [if_neg h2, if_neg h2]
        by_cases h3 : c = 35
        · rw [if_pos h3, if_pos h3]
          have hp : 1 ≤ preN nlB (c :: r) := preN_pos (by subst h3; rfl)
          exact lexF_z f g _ _ _ _ _ acc acc' (by simp <;> omega) (by simp <;> omega) ha
        · rw [if_neg h3, if_neg h3]
          by_cases h4 : (pieceS (c :: r)).err ≠ 0
          · rw [if_pos h4, if_pos h4]
            rfl
          · rw [if_neg h4, if_neg h4]
            have hp := (pieceS_len (by simpa using h4) (by simp : c :: r ≠ [])).1
            exact lexF_z f g _ _ _ _ _ _ _ (by simp <;> omega) (by simp <;> omega) (by rw [List.map_append, List.map_append, ha]; rfl)
theorem pieceS_paren (t : List UInt8) : pieceS (40 :: t) = ⟨4, [40], 0, 0⟩ := by
  unfold pieceS
  rw [List.headD_cons, if_neg (by decide), if_neg (by decide), if_neg, if_pos (show List.take 1 (40 :: t) ∈ marksL from (by decide : [40] ∈ marksL))]
  · rfl
  · rintro ⟨_, h⟩
    cases t with
    | nil => exact absurd ‹2 ≤ _› (by simp)
    | cons a t => simp [marksL] at h
theorem lexS_open (t : List UInt8) : lexS (40 :: t) = (lexF (t.length + 1) t 1 2 []).from_ [⟨4, [40], 0, 1, 1⟩] 0 := by
  have h1 : lexS (40 :: t) = lexF (t.length + 1) t 1 2 [⟨4, [40], 0, 1, 1⟩] := by
    unfold lexS
    rw [List.length_cons, lexF_cons rfl, if_neg (by decide), if_neg (by decide), if_neg (by decide), pieceS_paren, if_neg (by simp)]
    rfl
  rw [h1]
  exact lexF_from [⟨4, [40], 0, 1, 1⟩] 0 _ _ t 1 2 [] (Nat.lt_succ_self _) (Nat.lt_succ_self _)
def endZ : Tk := ⟨0, [], 0, 0, 0⟩
theorem z_end {e : Tk} (h : e.z = endZ) : ∃ L C, e = ⟨0, [], 0, L, C⟩ := by
  obtain ⟨k, t, n, L, C⟩ := e
  simp only [Tk.z, endZ, Tk.mk.injEq] at h
  obtain ⟨rfl, rfl, rfl, _⟩ := h
  exact ⟨L, C, rfl⟩
theorem z_down (us : List Tk) (k : Int) : (us.map (Tk.down k)).map Tk.z = us.map Tk.z := by
  rw [List.map_map]
  rfl
theorem z_split {ts us : List Tk} (h : ts.map Tk.z = us ++ [endZ]) : ∃ vs L C, ts = vs ++ [⟨0, [], 0, L, C⟩] ∧ vs.map Tk.z = us := by
  rcases List.eq_nil_or_concat ts with rfl | ⟨l, e, rfl⟩
  · simp at h
  · rw [List.concat_eq_append, List.map_append] at h
    have h2 := List.append_inj' h rfl
    obtain ⟨L, C, rfl⟩ := z_end (e := e) (by simpa using h2.2)
    exact ⟨l, L, C, by rw [List.concat_eq_append], h2.1⟩
theorem lexS_paren {t : List UInt8} {us : List Tk} {L C : Int} (h : lexS t = .ok (us ++ [⟨0, [], 0, L, C⟩])) : ∃ us' L' C', lexS (40 :: t ++ [10, 41]) = .ok (us' ++ [⟨0, [], 0, L', C'⟩]) ∧ us'.map Tk.z = parenO :: us.map Tk.z ++ [parenC] := by
  have h1 := lexF_z (t.length + 1) (t.length + 1) t 1 2 1 1 [] [] (Nat.lt_succ_self _) (Nat.lt_succ_self _) rfl
  rw [show lexF (t.length + 1) t 1 1 [] = .ok (us ++ [⟨0, [], 0, L, C⟩]) from h] at h1
  have e0 : 40 :: t ++ [10, 41] = (40 :: t) ++ 10 :: [41] := rfl
  have h41 : lexS [41] = .ok [⟨4, [41], 0, 1, 1⟩, ⟨0, [], 0, 1, 2⟩] := by kernel_rfl
  rw [e0, lexS_two, lexS_open]
  cases hq : lexF (t.length + 1) t 1 2 [] with
  | err a b c => rw [hq] at h1; cases h1
  | ok ts =>
    rw [hq] at h1
    simp only [Res.zz, Res.ok.injEq, List.map_append] at h1
    obtain ⟨vs, L1, C1, rfl, hv⟩ := z_split (us := us.map Tk.z) h1
    simp only [Res.from_]
    rw [h41]
    simp only
    refine ⟨⟨4, [40], 0, 1, 1⟩ :: vs.map (Tk.down 0) ++ [⟨4, [41], 0, 1 + (1 + ((40 :: t).count 10 : Nat)), 1⟩], 1 + (1 + ((40 :: t).count 10 : Nat)), 2, ?_, ?_⟩
    · have e1 : ([(⟨4, [40], 0, 1, 1⟩ : Tk)] ++ List.map (Tk.down 0) (vs ++ [(⟨0, [], 0, L1, C1⟩ : Tk)])).dropLast = ⟨4, [40], 0, 1, 1⟩ :: vs.map (Tk.down 0) := by
        rw [List.map_append, ← List.append_assoc]
        exact List.dropLast_concat
      rw [e1]
      simp [Tk.down]
    · rw [List.map_append, List.map_cons, z_down, hv]
      rfl
def wrapB : Nat → List UInt8 → List UInt8
  | 0, l => l
  | k + 1, l => 40 :: wrapB k l ++ [10, 41]
theorem wrapB_len (l : List UInt8) : ∀ k, (wrapB k l).length = l.length + 3 * k
  | 0 => rfl
  | k + 1 => by simp [wrapB, wrapB_len l k]; omega
theorem lexS_wrap {t : List UInt8} {us : List Tk} {L C : Int} (h : lexS t = .ok (us ++ [⟨0, [], 0, L, C⟩])) : ∀ k, ∃ us' L' C', lexS (wrapB k t) = .ok (us' ++ [⟨0, [], 0, L', C'⟩]) ∧ us'.map Tk.z = wrapT k (us.map Tk.z)
  | 0 => ⟨us, L, C, h, rfl⟩
  | k + 1 => by
    obtain ⟨us', L', C', h1, h2⟩ := lexS_wrap h k
    obtain ⟨us2, L2, C2, h3, h4⟩ := lexS_paren h1
    exact ⟨us2, L2, C2, h3, by rw [h4, h2]; rfl⟩
theorem dead_end (L C : Int) : Dead [⟨0, [], 0, L, C⟩] := ⟨rfl, rfl, rfl, rfl, fun l => by
  match l with
  | 0 => rfl
  | 1 => rfl
  | 2 => rfl
  | 3 => rfl
  | 4 => rfl
  | _ + 5 => rfl⟩
theorem good_kind {u : Tk} (h : Good u) : u.kind ≠ 0 := by
  have h1 := piece_kind (l := u.text) (by rw [h.2])
  rw [h.2] at h1
  exact h1
/-- What a whole text's tree is made of. -/
theorem exprO_ok {l : List UInt8} {x : Ex} (h : exprO l = .ok x) : ∃ us L C, lexS l = .ok (us ++ [⟨0, [], 0, L, C⟩]) ∧ (∀ u ∈ us, Good u) ∧ joinL (plainD 16) 5 (us ++ [⟨0, [], 0, L, C⟩]) = .ok x [⟨0, [], 0, L, C⟩] := by
  unfold exprO at h
  cases hl : lexS l with
  | err a b c => rw [hl] at h; cases h
  | ok ts =>
    rw [hl] at h
    obtain ⟨us, L, C, rfl, hg, -, -⟩ := lexS_good hl
    refine ⟨us, L, C, rfl, hg, ?_⟩
    simp only at h
    cases hj : joinL (plainD 16) 5 (us ++ [⟨0, [], 0, L, C⟩]) with
    | bad r e => rw [hj] at h; cases r <;> cases h
    | ok y r =>
      rw [hj] at h
      obtain ⟨vs, rfl, hvs, -⟩ := joinL_loc (plainD_loc 16) (plainD_eats 16) 5 _ [⟨0, [], 0, L, C⟩] us y r (dead_end L C) (dead_end L C).calm hj
      cases vs with
      | nil =>
        simp only [List.nil_append, endO, if_pos, Out.ok.injEq] at h
        rw [h]
        rfl
      | cons v vs =>
        simp only [List.cons_append, endO] at h
        rw [if_neg (good_kind (hg v (hvs.subset (List.mem_cons_self ..))))] at h
        cases h
theorem exprO_of {l : List UInt8} {x : Ex} {us : List Tk} {L C : Int} (h : lexS l = .ok (us ++ [⟨0, [], 0, L, C⟩])) (hj : joinL (plainD 16) 5 (us.map Tk.z ++ [endZ]) = .ok x [endZ]) : exprO l = .ok x := by
  have h1 := joinL_z (plainD_z 16) 5 (us ++ [⟨0, [], 0, L, C⟩])
  rw [List.map_append] at h1
  have h2 := h1.symm.trans hj
  unfold exprO
  rw [h]
  simp only
  cases hq : joinL (plainD 16) 5 (us ++ [⟨0, [], 0, L, C⟩]) with
  | bad r e => rw [hq] at h2; cases h2
  | ok y r =>
    rw [hq] at h2
    simp only [PR.map, PR.ok.injEq] at h2
    obtain ⟨rfl, h3⟩ := h2
    obtain ⟨vs, L1, C1, rfl, hv⟩ := z_split (us := []) h3
    obtain rfl : vs = [] := by simpa using hv
    rfl
theorem exprO_bad {l : List UInt8} {us r : List Tk} {e : Int} {L C : Int} (h : lexS l = .ok (us ++ [⟨0, [], 0, L, C⟩])) (hj : joinL (plainD 16) 5 (us.map Tk.z ++ [endZ]) = .bad r e) : ∃ L' C', exprO l = .bad L' C' e := by
  have h1 := joinL_z (plainD_z 16) 5 (us ++ [⟨0, [], 0, L, C⟩])
  rw [List.map_append] at h1
  have h2 := h1.symm.trans hj
  unfold exprO
  rw [h]
  simp only
  cases hq : joinL (plainD 16) 5 (us ++ [⟨0, [], 0, L, C⟩]) with
  | bad r2 e2 =>
    rw [hq] at h2
    simp only [PR.map, PR.bad.injEq] at h2
    obtain ⟨_, rfl⟩ := h2
    cases r2 <;> exact ⟨_, _, rfl⟩
  | ok y r => rw [hq] at h2; cases h2
theorem wraps_text {t : List UInt8} {x : Ex} (h : exprO t = .ok x) (k : Nat) : exprO (wrapB k t) = .ok x ∨ (0 < k ∧ ∃ L C, exprO (wrapB k t) = .bad L C 25) := by
  rcases Nat.eq_zero_or_pos k with rfl | hk
  · exact .inl h
  · obtain ⟨us, L, C, h1, -, h3⟩ := exprO_ok h
    obtain ⟨us', L', C', h4, h5⟩ := lexS_wrap h1 k
    have h6 := joinL_z (plainD_z 16) 5 (us ++ [⟨0, [], 0, L, C⟩])
    rw [h3, List.map_append] at h6
    rcases wraps_law (us := us.map Tk.z) (X := [endZ]) (dead_end 0 0) h6 k 16 [endZ] (Nat.le_refl _) (dead_end 0 0).calm with h7 | ⟨r, h7⟩
    · rw [← h5] at h7
      exact .inl (exprO_of h4 h7)
    · rw [← h5] at h7
      exact .inr ⟨hk, exprO_bad h4 h7⟩
end Go.Proofs.YtdmlnoeneoomfaaDoor
namespace Go.Proofs.YtdmlnoeneoomfaaDoor
open Go.RowKit

def delimB (c : UInt8) : Prop := c = 40 ∨ c = 41 ∨ c = 91 ∨ c = 93
theorem two_not_d {c x : UInt8} (h : delimB c) : ¬ [x, c] ∈ marksL := by
  rcases h with rfl | rfl | rfl | rfl <;> (unfold marksL; simp)
theorem pieceS_d {c : UInt8} (h : delimB c) (a b : List UInt8) (ha : a ≠ []) : pieceS (a ++ c :: b) = pieceS a := by
  have hi : innB c = false := by rcases h with rfl | rfl | rfl | rfl <;> decide
  obtain ⟨d, r, rfl⟩ := List.exists_cons_of_ne_nil ha
  have e1 : (d :: r ++ c :: b).take (preN innB (d :: r)) = (d :: r).take (preN innB (d :: r)) := List.take_append_of_le_length (preN_le _ _)
  unfold pieceS
  rw [preN_b hi, e1]
  cases r with
  | nil =>
    have := two_not_d (x := d) h
    simp [this]
    rfl
  | cons e r =>
    simp
    rfl
def headOK (l : List UInt8) : Prop := l = [] ∨ ∃ c r, l = c :: r ∧ (delimB c ∨ c = 10 ∨ c = 32 ∨ c = 9)
theorem lexF_pieceD {u : Tk} (hu : Good u) {b : List UInt8} (hb : headOK b) (f : Nat) (line col : Int) (acc : List Tk) : lexF (f + 1) (u.text ++ b) line col acc = lexF f b line (col + u.text.length) (acc ++ [⟨u.kind, u.text, u.n, line, col⟩]) := by
  rcases hb with rfl | ⟨c, r, rfl, hc | hc⟩
  · exact lexF_piece hu (.inl rfl) f line col acc
  · obtain ⟨h1, h2⟩ := hu
    have hp : pieceS (u.text ++ c :: r) = ⟨u.kind, u.text, u.n, 0⟩ := by rw [pieceS_d hc _ _ h1]; exact h2
    have hnb := (head_text (l := u.text) (by rw [h2])).2
    rw [h2] at hnb
    simp only at hnb
    obtain ⟨d, q, e⟩ := List.exists_cons_of_ne_nil h1
    have hd := hnb d (by rw [e]; exact List.mem_cons_self ..)
    have e2 : u.text ++ c :: r = d :: (q ++ c :: r) := by rw [e]; rfl
    rw [lexF_cons e2, if_neg hd.1, if_neg (by rintro (h | h); exact hd.2.1 h; exact hd.2.2.1 h), if_neg hd.2.2.2, hp, if_neg (by simp)]
    simp
  · exact lexF_piece hu (.inr ⟨c, r, rfl, hc⟩) f line col acc
/-- Pieces, each with a blank behind it or none. -/
def bldP : List (Tk × Bool) → List UInt8
  | [] => []
  | (u, b) :: ps => u.text ++ ((if b then [32] else []) ++ bldP ps)
def Opn (u : Tk) : Prop := ∃ c, (c = 40 ∨ c = 91) ∧ u.text = [c] ∧ u.kind = 4 ∧ u.n = 0
theorem pieceS_open {c : UInt8} (h : c = 40 ∨ c = 91) (t : List UInt8) : pieceS (c :: t) = ⟨4, [c], 0, 0⟩ := by
  have h1 : letB c = false := by rcases h with rfl | rfl <;> decide
  have h2 : digB c = false := by rcases h with rfl | rfl <;> decide
  have h3 : [c] ∈ marksL := by rcases h with rfl | rfl <;> decide
  unfold pieceS
  rw [List.headD_cons, h1, h2, if_neg (by decide), if_neg (by decide), if_neg, if_pos (show List.take 1 (c :: t) ∈ marksL from h3)]
  · rfl
  · rintro ⟨h4, h5⟩
    cases t with
    | nil => simp at h4
    | cons a t => rcases h with rfl | rfl <;> simp [marksL] at h5
theorem lexF_open {u : Tk} (hu : Opn u) (b : List UInt8) (f : Nat) (line col : Int) (acc : List Tk) : lexF (f + 1) (u.text ++ b) line col acc = lexF f b line (col + u.text.length) (acc ++ [⟨u.kind, u.text, u.n, line, col⟩]) := by
  obtain ⟨c, hc, ht, hk, hn⟩ := hu
  rw [ht, hk, hn]
  have h10 : c ≠ 10 := by rcases hc with rfl | rfl <;> decide
  have h32 : ¬ (c = 32 ∨ c = 9) := by rcases hc with rfl | rfl <;> decide
  have h35 : c ≠ 35 := by rcases hc with rfl | rfl <;> decide
  rw [lexF_cons (show [c] ++ b = c :: b from rfl), if_neg h10, if_neg h32, if_neg h35, show [c] ++ b = c :: b from rfl, pieceS_open hc, if_neg (by simp)]
  simp
def Chn : List (Tk × Bool) → List UInt8 → Prop
  | [], _ => True
  | (u, b) :: ps, tail => Good u ∧ (b = true ∨ headOK (bldP ps ++ tail) ∨ Opn u) ∧ Chn ps tail
theorem bldP_append : ∀ (ps qs : List (Tk × Bool)), bldP (ps ++ qs) = bldP ps ++ bldP qs
  | [], _ => rfl
  | (u, b) :: ps, qs => by simp only [List.cons_append, bldP, bldP_append ps qs, List.append_assoc]
theorem Chn_append : ∀ (ps qs : List (Tk × Bool)) (tail : List UInt8), Chn ps (bldP qs ++ tail) → Chn qs tail → Chn (ps ++ qs) tail
  | [], _, _, _, h => h
  | (u, b) :: ps, qs, tail, h, h2 => ⟨h.1, by
      rw [show ps.append qs = ps ++ qs from rfl, bldP_append, List.append_assoc]
      exact h.2.1, Chn_append ps qs tail h.2.2 h2⟩
theorem lexF_chn : ∀ (ps : List (Tk × Bool)) (f : Nat) (line col : Int) (acc : List Tk), Chn ps [] → (bldP ps).length < f → ∃ xs L C, lexF f (bldP ps) line col acc = .ok (acc ++ xs ++ [⟨0, [], 0, L, C⟩]) ∧ xs.map Tk.z = ps.map fun p => p.1.z
  | [], f, line, col, acc, _, hf => by
    obtain ⟨f, rfl⟩ : ∃ g, f = g + 1 := ⟨f - 1, by omega⟩
    exact ⟨[], line, col, by simp [bldP, lexF], rfl⟩
  | (u, b) :: ps, f, line, col, acc, h, hf => by
    obtain ⟨hu, hb, hps⟩ := h
    rw [List.append_nil] at hb
    have h1 := List.length_pos_iff.2 hu.1
    simp only [bldP, List.length_append] at hf
    obtain ⟨f, rfl⟩ : ∃ g, f = g + 1 := ⟨f - 1, by omega⟩
    have hh : lexF (f + 1) (u.text ++ ((if b then [32] else []) ++ bldP ps)) line col acc = lexF f ((if b then [32] else []) ++ bldP ps) line (col + u.text.length) (acc ++ [⟨u.kind, u.text, u.n, line, col⟩]) := by
      cases b with
      | true => exact lexF_pieceD hu (.inr ⟨32, _, rfl, .inr (.inr (.inl rfl))⟩) f line col acc
      | false =>
        rcases hb with hb | hb | hb
        · exact absurd hb (by simp)
        · exact lexF_pieceD hu hb f line col acc
        · exact lexF_open hb _ f line col acc
    simp only [bldP]
    rw [hh]
    cases b with
    | false =>
      obtain ⟨xs, L, C, h3, h4⟩ := lexF_chn ps f line (col + u.text.length) (acc ++ [⟨u.kind, u.text, u.n, line, col⟩]) hps (by simp at hf; omega)
      exact ⟨⟨u.kind, u.text, u.n, line, col⟩ :: xs, L, C, by simpa using h3, by simp only [List.map_cons, h4]; rfl⟩
    | true =>
      simp only [if_true, List.length_singleton, List.cons_append, List.nil_append] at hf ⊢
      obtain ⟨f, rfl⟩ : ∃ g, f = g + 1 := ⟨f - 1, by omega⟩
      rw [lexF_cons rfl, if_neg (by decide), if_pos (.inl rfl)]
      obtain ⟨xs, L, C, h3, h4⟩ := lexF_chn ps f line (col + u.text.length + 1) (acc ++ [⟨u.kind, u.text, u.n, line, col⟩]) hps (by omega)
      exact ⟨⟨u.kind, u.text, u.n, line, col⟩ :: xs, L, C, by simpa using h3, by simp only [List.map_cons, h4]; rfl⟩
theorem lexS_chn {ps : List (Tk × Bool)} (h : Chn ps []) : ∃ us L C, lexS (bldP ps) = .ok (us ++ [⟨0, [], 0, L, C⟩]) ∧ us.map Tk.z = ps.map fun p => p.1.z := by
  obtain ⟨xs, L, C, h1, h2⟩ := lexF_chn ps _ 1 1 [] h (Nat.lt_succ_self _)
  exact ⟨xs, L, C, by simpa [lexS] using h1, h2⟩

/-- Decimals. -/
def digF : Nat → Nat → List UInt8
  | 0, _ => []
  | f + 1, n => if n < 10 then [UInt8.ofNat (48 + n)] else digF f (n / 10) ++ [UInt8.ofNat (48 + n % 10)]
theorem dig_one {d : Nat} (h : d < 10) : (UInt8.ofNat (48 + d)).toNat = 48 + d := by simp; omega
theorem valD_snoc (l : List UInt8) (c : UInt8) : valD (l ++ [c]) = 10 * valD l + (c.toNat - 48) := by simp [valD, List.foldl_append]
theorem digF_ok : ∀ (f n : Nat), n < 10 ^ f → (∀ c ∈ digF (f + 1) n, digB c = true) ∧ digF (f + 1) n ≠ [] ∧ valD (digF (f + 1) n) = n ∧ (10 ≤ n → (digF (f + 1) n).head? ≠ some 48) ∧ (0 < n → (digF (f + 1) n).head? ≠ some 48)
  | 0, n, h => by
    have : n = 0 := by simp at h; exact h
    subst this
    refine ⟨by decide, by decide, by decide, by omega, by omega⟩
  | f + 1, n, h => by
    rw [digF]
    by_cases hn : n < 10
    · rw [if_pos hn]
      refine ⟨fun c hc => ?_, by simp, ?_, by omega, fun h0 => ?_⟩
      · rw [List.mem_singleton.1 hc, digB_t, dig_one hn]
        omega
      · simp only [valD, List.foldl_cons, List.foldl_nil, dig_one hn]
        omega
      · intro e
        simp only [List.head?_cons, Option.some.injEq] at e
        have := congrArg UInt8.toNat e
        rw [dig_one hn] at this
        simp at this
        omega
    · rw [if_neg hn]
      have hd : n / 10 < 10 ^ f := by rw [Nat.pow_succ] at h; omega
      obtain ⟨h1, h2, h3, h4, h5⟩ := digF_ok f (n / 10) hd
      have hm : n % 10 < 10 := Nat.mod_lt _ (by omega)
      have hh : (digF (f + 1) (n / 10) ++ [UInt8.ofNat (48 + n % 10)]).head? ≠ some 48 := by
        obtain ⟨c, r, e⟩ := List.exists_cons_of_ne_nil h2
        have := h5 (by omega)
        rw [e] at this ⊢
        exact this
      refine ⟨fun c hc => ?_, by simp, ?_, fun _ => hh, fun _ => hh⟩
      · rcases List.mem_append.1 hc with hc | hc
        · exact h1 c hc
        · rw [List.mem_singleton.1 hc, digB_t, dig_one hm]
          omega
      · rw [valD_snoc, h3, dig_one hm]
        omega
def digs (n : Nat) : List UInt8 := digF 20 n
theorem digF_more : ∀ (f g n : Nat), n < 10 ^ f → f ≤ g → digF (f + 1) n = digF (g + 1) n
  | 0, g, n, h, _ => by
    have : n = 0 := by simp at h; exact h
    subst this
    rfl
  | f + 1, 0, n, _, hg => by omega
  | f + 1, g + 1, n, h, hg => by
    show (if n < 10 then [UInt8.ofNat (48 + n)] else digF (f + 1) (n / 10) ++ [UInt8.ofNat (48 + n % 10)]) = (if n < 10 then [UInt8.ofNat (48 + n)] else digF (g + 1) (n / 10) ++ [UInt8.ofNat (48 + n % 10)])
    rw [digF_more f g (n / 10) (by rw [Nat.pow_succ] at h; omega) (by omega)]
theorem digs_step {n : Nat} (h : ¬ n < 10) (hn : n < 10000000000) : digs n = digs (n / 10) ++ [UInt8.ofNat (48 + n % 10)] := by
  unfold digs
  rw [digF, if_neg h, ← digF_more 18 19 (n / 10) (by omega) (by omega)]
theorem good_num {n : Nat} (h : n ≤ 2147483647) : Good ⟨2, digs n, n, 0, 0⟩ := by
  obtain ⟨h1, h2, h3, h4, h5⟩ := digF_ok 19 n (by omega)
  change (∀ c ∈ digs n, digB c = true) at h1
  change digs n ≠ [] at h2
  change valD (digs n) = n at h3
  refine ⟨h2, ?_⟩
  have h6 : 1 < (digs n).length → (digs n).head? ≠ some 48 := fun hl => by
    rcases Nat.lt_or_ge n 10 with h10 | h10
    · exfalso
      unfold digs at hl
      rw [digF, if_pos h10] at hl
      simp at hl
    · exact h4 h10
  have h7 := numS_dig h1 h2 h6
  rw [h3, if_pos h] at h7
  obtain ⟨c, r, e⟩ := List.exists_cons_of_ne_nil h2
  simp only
  rw [e] at h1 h7 ⊢
  rw [piece_dig (h1 c (List.mem_cons_self ..)) (fun x hx => inn_dig (h1 x hx)), h7, if_neg (by simp)]
theorem good_nam {s : List UInt8} (h : nameS s = true) : Good ⟨1, s, 0, 0, 0⟩ := by
  obtain ⟨⟨h1, h2, h3⟩, h4, h5⟩ := nameS_iff.1 h
  refine ⟨h1, ?_⟩
  simp only
  unfold pieceS
  rw [if_pos h2, preN_all h3, if_neg (by omega), List.take_length, if_neg h5]

/-- The operations of two: the number, the tightness, the mark. -/
def allOps : List (Int × Nat × Tk) := [(17, 0, ⟨3, [111, 114], 0, 0, 0⟩), (16, 1, ⟨3, [97, 110, 100], 0, 0, 0⟩), (10, 2, ⟨4, [61], 0, 0, 0⟩), (11, 2, ⟨4, [33, 61], 0, 0, 0⟩), (12, 2, ⟨4, [60], 0, 0, 0⟩), (13, 2, ⟨4, [60, 61], 0, 0, 0⟩), (14, 2, ⟨4, [62], 0, 0, 0⟩), (15, 2, ⟨4, [62, 61], 0, 0, 0⟩), (8, 3, ⟨4, [43], 0, 0, 0⟩), (9, 3, ⟨4, [45], 0, 0, 0⟩), (5, 4, ⟨4, [42], 0, 0, 0⟩), (6, 4, ⟨4, [47], 0, 0, 0⟩), (7, 4, ⟨4, [37], 0, 0, 0⟩)]
theorem ops_ok : ∀ p ∈ allOps, p.2.1 < 5 ∧ (lvlT p.2.1).lookup p.2.2.text = some p.1 ∧ (∀ m, m < 5 → m ≠ p.2.1 → (lvlT m).lookup p.2.2.text = none) ∧ p.2.2.text ≠ [] := by decide
theorem ops_good : ∀ p ∈ allOps, pieceS p.2.2.text = ⟨p.2.2.kind, p.2.2.text, p.2.2.n, 0⟩ := by
  intro p hp
  simp only [allOps, List.mem_cons, List.not_mem_nil, or_false] at hp
  rcases hp with rfl | rfl | rfl | rfl | rfl | rfl | rfl | rfl | rfl | rfl | rfl | rfl | rfl <;> kernel_rfl
theorem ops_z : ∀ p ∈ allOps, p.2.2.z = p.2.2 := by
  intro p hp
  simp only [allOps, List.mem_cons, List.not_mem_nil, or_false] at hp
  rcases hp with rfl | rfl | rfl | rfl | rfl | rfl | rfl | rfl | rfl | rfl | rfl | rfl | rfl <;> rfl
def mkOf (op : Int) : Tk := ((allOps.find? fun p => p.1 == op).map fun p => p.2.2).getD endZ
def lvOf (op : Int) : Nat := ((allOps.find? fun p => p.1 == op).map fun p => p.2.1).getD 0
theorem find_ops : ∀ p ∈ allOps, mkOf p.1 = p.2.2 ∧ lvOf p.1 = p.2.1 := by
  intro p hp
  simp only [allOps, List.mem_cons, List.not_mem_nil, or_false] at hp
  rcases hp with rfl | rfl | rfl | rfl | rfl | rfl | rfl | rfl | rfl | rfl | rfl | rfl | rfl <;> exact ⟨rfl, rfl⟩
/-- A tree that a text may say. -/
def RightX : Ex → Prop
  | .num n => 0 ≤ n ∧ n ≤ 2147483647
  | .nam s => nameS s = true
  | .idx s e => nameS s = true ∧ RightX e
  | .neg e => RightX e
  | .non e => RightX e
  | .bin op a b => (∃ p ∈ allOps, p.1 = op) ∧ RightX a ∧ RightX b
def brO : Tk := ⟨4, [91], 0, 0, 0⟩
def brC : Tk := ⟨4, [93], 0, 0, 0⟩
def minT : Tk := ⟨4, [45], 0, 0, 0⟩
def notT : Tk := ⟨3, [110, 111, 116], 0, 0, 0⟩
def pcs : Ex → List (Tk × Bool)
  | .num n => [(⟨2, digs n.toNat, n, 0, 0⟩, false)]
  | .nam s => [(⟨1, s, 0, 0, 0⟩, false)]
  | .idx s e => (⟨1, s, 0, 0, 0⟩, false) :: (brO, false) :: (pcs e ++ [(brC, false)])
  | .neg e => (minT, false) :: (parenO, false) :: (pcs e ++ [(parenC, false)])
  | .non e => (notT, false) :: (parenO, false) :: (pcs e ++ [(parenC, false)])
  | .bin op a b => (parenO, false) :: (pcs a ++ (parenC, true) :: (mkOf op, true) :: (parenO, false) :: (pcs b ++ [(parenC, false)]))
theorem good_fix : Good parenO ∧ Good parenC ∧ Good brO ∧ Good brC ∧ Good minT ∧ Good notT := by
  refine ⟨⟨by decide, by kernel_rfl⟩, ⟨by decide, by kernel_rfl⟩, ⟨by decide, by kernel_rfl⟩, ⟨by decide, by kernel_rfl⟩, ⟨by decide, by kernel_rfl⟩, ⟨by decide, by kernel_rfl⟩⟩
theorem good_op {op : Int} (h : ∃ p ∈ allOps, p.1 = op) : Good (mkOf op) := by
  obtain ⟨p, hp, rfl⟩ := h
  rw [(find_ops p hp).1]
  exact ⟨(ops_ok p hp).2.2.2, ops_good p hp⟩
theorem headD {c : UInt8} (h : delimB c) (r : List UInt8) : headOK (c :: r) := .inr ⟨c, r, rfl, .inl h⟩
theorem pcs_chn : ∀ (x : Ex), RightX x → ∀ tail, headOK tail → Chn (pcs x) tail
  | .num n, h, tail, ht => by
    have hg : Good ⟨2, digs n.toNat, n, 0, 0⟩ := by
      have := good_num (n := n.toNat) (by have := h.2; omega)
      rwa [show ((n.toNat : Nat) : Int) = n from Int.toNat_of_nonneg h.1] at this
    exact ⟨hg, .inr (.inl ht), trivial⟩
  | .nam s, h, tail, ht => ⟨good_nam h, .inr (.inl ht), trivial⟩
  | .idx s e, h, tail, ht => ⟨good_nam h.1, .inr (.inl (headD (.inr (.inr (.inl rfl))) _)), good_fix.2.2.1, .inr (.inr ⟨91, .inr rfl, rfl, rfl, rfl⟩), Chn_append _ _ _ (pcs_chn e h.2 _ (headD (.inr (.inr (.inr rfl))) _)) ⟨good_fix.2.2.2.1, .inr (.inl ht), trivial⟩⟩
  | .neg e, h, tail, ht => ⟨good_fix.2.2.2.2.1, .inr (.inl (headD (.inl rfl) _)), good_fix.1, .inr (.inr ⟨40, .inl rfl, rfl, rfl, rfl⟩), Chn_append _ _ _ (pcs_chn e h _ (headD (.inr (.inl rfl)) _)) ⟨good_fix.2.1, .inr (.inl ht), trivial⟩⟩
  | .non e, h, tail, ht => ⟨good_fix.2.2.2.2.2, .inr (.inl (headD (.inl rfl) _)), good_fix.1, .inr (.inr ⟨40, .inl rfl, rfl, rfl, rfl⟩), Chn_append _ _ _ (pcs_chn e h _ (headD (.inr (.inl rfl)) _)) ⟨good_fix.2.1, .inr (.inl ht), trivial⟩⟩
  | .bin op a b, h, tail, ht => ⟨good_fix.1, .inr (.inr ⟨40, .inl rfl, rfl, rfl, rfl⟩), Chn_append _ _ _ (pcs_chn a h.2.1 _ (headD (.inr (.inl rfl)) _)) ⟨good_fix.2.1, .inl rfl, good_op h.1, .inl rfl, good_fix.1, .inr (.inr ⟨40, .inl rfl, rfl, rfl, rfl⟩), Chn_append _ _ _ (pcs_chn b h.2.2 _ (headD (.inr (.inl rfl)) _)) ⟨good_fix.2.1, .inr (.inl ht), trivial⟩⟩⟩
end Go.Proofs.YtdmlnoeneoomfaaDoor
namespace Go.Proofs.YtdmlnoeneoomfaaDoor
open Go.RowKit

def txt (x : Ex) : List Tk := (pcs x).map fun p => p.1.z
def costX : Ex → Nat
  | .num _ => 1
  | .nam _ => 1
  | .idx _ e => costX e + 1
  | .neg e => costX e + 2
  | .non e => costX e + 2
  | .bin _ a b => max (costX a) (costX b) + 1
theorem calm_brC (Y : List Tk) : Calm (brC :: Y) := ⟨rfl, fun l => by
  match l with
  | 0 => rfl
  | 1 => rfl
  | 2 => rfl
  | 3 => rfl
  | 4 => rfl
  | _ + 5 => rfl⟩
theorem mk_z {op : Int} (h : ∃ p ∈ allOps, p.1 = op) : (mkOf op).z = mkOf op := by
  obtain ⟨p, hp, rfl⟩ := h
  rw [(find_ops p hp).1, ops_z p hp]
theorem mk_at {op : Int} (h : ∃ p ∈ allOps, p.1 = op) (r : List Tk) : lvOf op < 5 ∧ opAt (lvOf op) (mkOf op :: r) = some op ∧ ∀ m, m < 5 → m ≠ lvOf op → opAt m (mkOf op :: r) = none := by
  obtain ⟨p, hp, rfl⟩ := h
  obtain ⟨h1, h2⟩ := find_ops p hp
  obtain ⟨h3, h4, h5, _⟩ := ops_ok p hp
  unfold opAt
  rw [h1, h2]
  exact ⟨h3, h4, h5⟩
theorem up5 {d : Nat} {r Y : List Tk} {x : Ex} (h : plainD d r = .ok x Y) (hy : Calm Y) : joinL (plainD d) 5 r = .ok x Y := joinL_ups (k := 0) (plain := plainD d) (show joinL (plainD d) 0 r = .ok x Y from h) 5 (fun _ _ _ => hy.2 _)
theorem join_two {d l : Nat} {a b : Ex} {op : Int} {r r2 Y : List Tk} {t : Tk} (hl : l < 5) (ha : plainD d r = .ok a (t :: r2)) (hb : plainD d r2 = .ok b Y) (ht : opAt l (t :: r2) = some op) (hn : ∀ m, m < 5 → m ≠ l → opAt m (t :: r2) = none) (hy : Calm Y) :
    joinL (plainD d) 5 r = .ok (.bin op a b) Y := by
  have h1 : joinL (plainD d) (4 - l) r = .ok a (t :: r2) := by
    have := joinL_ups (k := 0) (plain := plainD d) (show joinL (plainD d) 0 r = .ok a (t :: r2) from ha) (4 - l) (fun m _ hm => hn _ (by omega) (by omega))
    rwa [Nat.zero_add] at this
  have h2 : joinL (plainD d) (4 - l) r2 = .ok b Y := by
    have := joinL_ups (k := 0) (plain := plainD d) (show joinL (plainD d) 0 r2 = .ok b Y from hb) (4 - l) (fun m _ _ => hy.2 _)
    rwa [Nat.zero_add] at this
  have h3 : joinL (plainD d) (4 - l + 1) r = .ok (.bin op a b) Y := by
    simp only [joinL]
    rw [h1]
    simp only
    rw [show 4 - (4 - l) = l from by omega]
    simp only [List.length_cons, loopJ, ht, List.tail_cons]
    rw [h2]
    simp only
    split
    · rfl
    · cases hq : r2.length with
      | zero => rfl
      | succ n => simp only [loopJ, hy.2 l]
  have h4 := joinL_ups (k := 4 - l + 1) h3 l (fun m _ _ => hy.2 _)
  rwa [show 4 - l + 1 + l = 5 from by omega] at h4
theorem par_in {d : Nat} {us Y : List Tk} {e : Ex} (h : joinL (plainD d) 5 (us ++ parenC :: Y) = .ok e (parenC :: Y)) : plainD (d + 1) (parenO :: (us ++ parenC :: Y)) = .ok e Y := join_par (o := parenO) (c := parenC) rfl rfl rfl rfl h
theorem txt_neg (e : Ex) (Y : List Tk) : txt (.neg e) ++ Y = minT :: parenO :: (txt e ++ parenC :: Y) := by simp [txt, pcs]; exact ⟨rfl, rfl, rfl⟩
theorem txt_non (e : Ex) (Y : List Tk) : txt (.non e) ++ Y = notT :: parenO :: (txt e ++ parenC :: Y) := by simp [txt, pcs]; exact ⟨rfl, rfl, rfl⟩
theorem txt_idx (s : List UInt8) (e : Ex) (Y : List Tk) : txt (.idx s e) ++ Y = ⟨1, s, 0, 0, 0⟩ :: brO :: (txt e ++ brC :: Y) := by simp [txt, pcs]; exact ⟨rfl, rfl, rfl⟩
theorem txt_bin (op : Int) (a b : Ex) (Y : List Tk) : txt (.bin op a b) ++ Y = parenO :: (txt a ++ parenC :: (mkOf op).z :: parenO :: (txt b ++ parenC :: Y)) := by simp [txt, pcs]; exact ⟨rfl, rfl, rfl, rfl⟩
theorem txt_parse : ∀ (x : Ex), RightX x → ∀ d, costX x ≤ d → ∀ Y, Calm Y → joinL (plainD d) 5 (txt x ++ Y) = .ok x Y
  | .num n, _, d, hd, Y, hy => by
    obtain ⟨d, rfl⟩ : ∃ q, d = q + 1 := ⟨d - 1, by simp [costX] at hd; omega⟩
    exact up5 (plainD_num rfl rfl) hy
  | .nam s, _, d, hd, Y, hy => by
    obtain ⟨d, rfl⟩ : ∃ q, d = q + 1 := ⟨d - 1, by simp [costX] at hd; omega⟩
    exact up5 (plainD_nam (t := ⟨1, s, 0, 0, 0⟩) (r := Y) rfl rfl hy.1) hy
  | .idx s e, h, d, hd, Y, hy => by
    simp only [costX] at hd
    obtain ⟨d, rfl⟩ : ∃ q, d = q + 1 := ⟨d - 1, by omega⟩
    have ih := txt_parse e h.2 d (by omega) (brC :: Y) (calm_brC Y)
    rw [txt_idx]
    refine up5 ?_ hy
    rw [plainD_idx (t := ⟨1, s, 0, 0, 0⟩) (r := brO :: (txt e ++ brC :: Y)) rfl rfl rfl, List.tail_cons, ih]
    rfl
  | .neg e, h, d, hd, Y, hy => by
    simp only [costX] at hd
    obtain ⟨d, rfl⟩ : ∃ q, d = q + 2 := ⟨d - 2, by omega⟩
    have ih := txt_parse e h d (by omega) (parenC :: Y) (calm_close Y)
    rw [txt_neg]
    refine up5 ?_ hy
    rw [plainD_neg (t := minT) (r := parenO :: (txt e ++ parenC :: Y)) rfl (by decide) (by decide) (by decide) rfl, par_in ih]
    rfl
  | .non e, h, d, hd, Y, hy => by
    simp only [costX] at hd
    obtain ⟨d, rfl⟩ : ∃ q, d = q + 2 := ⟨d - 2, by omega⟩
    have ih := txt_parse e h d (by omega) (parenC :: Y) (calm_close Y)
    rw [txt_non]
    refine up5 ?_ hy
    rw [plainD_non (t := notT) (r := parenO :: (txt e ++ parenC :: Y)) rfl (by decide) (by decide) (by decide) (by decide), par_in ih]
    rfl
  | .bin op a b, h, d, hd, Y, hy => by
    simp only [costX] at hd
    obtain ⟨d, rfl⟩ : ∃ q, d = q + 1 := ⟨d - 1, by omega⟩
    rw [txt_bin, mk_z h.1]
    obtain ⟨h3, h4, h5⟩ := mk_at h.1 (parenO :: (txt b ++ parenC :: Y))
    have iha := txt_parse a h.2.1 d (by omega) (parenC :: mkOf op :: parenO :: (txt b ++ parenC :: Y)) (calm_close _)
    have ihb := txt_parse b h.2.2 d (by omega) (parenC :: Y) (calm_close Y)
    exact join_two h3 (par_in iha) (par_in ihb) h4 h5 hy
/-- The text of a tree, as the document writes it. -/
def textX (x : Ex) : List UInt8 := bldP (pcs x)
theorem trees_text {x : Ex} (h : RightX x) (hc : costX x ≤ 16) : exprO (textX x) = .ok x := by
  obtain ⟨us, L, C, h1, h2⟩ := lexS_chn (pcs_chn x h [] (.inl rfl))
  refine exprO_of h1 ?_
  rw [h2]
  exact txt_parse x h 16 hc [endZ] (dead_end 0 0).calm
theorem textX_num (n : Int) : textX (.num n) = digs n.toNat := by simp [textX, pcs, bldP]
theorem textX_nam (s : List UInt8) : textX (.nam s) = s := by simp [textX, pcs, bldP]
theorem textX_idx (s : List UInt8) (e : Ex) : textX (.idx s e) = s ++ [91] ++ textX e ++ [93] := by simp [textX, pcs, bldP, bldP_append, brO, brC]
theorem textX_neg (e : Ex) : textX (.neg e) = [45, 40] ++ textX e ++ [41] := by simp [textX, pcs, bldP, bldP_append, minT, parenO, parenC]
theorem textX_non (e : Ex) : textX (.non e) = [110, 111, 116, 40] ++ textX e ++ [41] := by simp [textX, pcs, bldP, bldP_append, notT, parenO, parenC]
theorem textX_bin (op : Int) (a b : Ex) : textX (.bin op a b) = [40] ++ textX a ++ [41, 32] ++ (mkOf op).text ++ [32, 40] ++ textX b ++ [41] := by simp [textX, pcs, bldP, bldP_append, parenO, parenC]
end Go.Proofs.YtdmlnoeneoomfaaDoor
