
/-
  PrintBrackets: how few bytes a text of a tree can have, in plain Lean. No program is named here.
-/
import Derived.Test.YtdgekckedchjbaaDoorQR
import Derived.Test.YtdgekckedchjbaaDoorQQ
namespace Go.Proofs.YtdgekckedchjbaaDoor

/-- How many bytes stand in a text that are no blanks. -/
def inkB (c : UInt8) : Bool := decide (c ≠ 10 ∧ c ≠ 32 ∧ c ≠ 9)
def nb (l : List UInt8) : Nat := (l.filter inkB).length
theorem nb_append (a b : List UInt8) : nb (a ++ b) = nb a + nb b := by simp [nb]
theorem nb_all {l : List UInt8} (h : ∀ c ∈ l, inkB c = true) : nb l = l.length := by
  unfold nb
  rw [List.filter_eq_self.2 h]
theorem nb_cons (c : UInt8) (l : List UInt8) : nb (c :: l) = (if inkB c then 1 else 0) + nb l := by
  unfold nb
  rw [List.filter_cons]
  split
  · simp; omega
  · simp
def Ex.op : Ex → Int
  | .num _ => 0
  | .nam _ => 1
  | .idx _ _ => 2
  | .neg _ => 3
  | .non _ => 4
  | .bin op _ _ => op
/-- A tree's bytes, as it is written; and within parentheses, if it is not so tight. -/
def wide (t : Int) (e : Ex) (n : Nat) : Nat := n + if tightN e.op < t then 2 else 0
def nbE : Ex → Nat
  | .num n => (Lib.itoa n).length
  | .nam s => s.length
  | .idx s e => s.length + 1 + nbE e + 1
  | .neg e => 1 + wide 6 e (nbE e)
  | .non e => 3 + wide 6 e (nbE e)
  | .bin op a b => wide (leftN op) a (nbE a) + (markN op).length + wide (tightN op + 1) b (nbE b)
theorem op_gx (e : Ex) : e.gx.op = e.op := by cases e <;> rfl
theorem operO_nb {e : Ex} {t : Int} {s : List UInt8} (ih : ∀ s, rawE e.gx = some s → nb s = nbE e) (h : operO e.gx.op t (rawE e.gx) = some s) : nb s = wide t e (nbE e) := by
  unfold operO at h
  unfold wide
  rw [op_gx] at h
  split at h
  · rename_i hc
    rw [if_pos hc]
    cases hr : rawE e.gx with
    | none => rw [hr] at h; cases h
    | some u =>
      rw [hr] at h
      injection h with h
      subst h
      rw [nb_append, nb_append, ih u hr]
      have e1 : nb [40, 32] = 1 := by decide
      have e2 : nb [32, 41] = 1 := by decide
      omega
  · rename_i hc
    rw [if_neg hc, ih s h]
    rfl
theorem nb_clean {l : List UInt8} (h : ∀ c ∈ l, inkB c = true) : nb l = l.length := nb_all h
theorem digit_ink : ∀ (u : Nat), ∀ c ∈ Lib.decDigits u, inkB c = true := by
  have key : ∀ i, i < 10 → inkB (UInt8.ofNat (48 + i)) = true := by decide
  intro u
  induction u using Nat.strongRecOn with
  | ind u ih =>
    by_cases h : u < 10
    · rw [Lib.decDigits_one h]
      intro c hc
      obtain rfl := List.mem_singleton.1 hc
      exact key u h
    · rw [Lib.decDigits, dif_neg h]
      intro c hc
      rcases List.mem_append.1 hc with hc | hc
      · exact ih (u / 10) (by omega) c hc
      · obtain rfl := List.mem_singleton.1 hc
        exact key (u % 10) (by omega)
theorem itoa_ink (n : Int) : ∀ c ∈ Lib.itoa n, inkB c = true := by
  unfold Lib.itoa
  split
  · intro c hc
    rcases List.mem_cons.1 hc with rfl | hc
    · decide
    · exact digit_ink _ c hc
  · exact digit_ink _
theorem name_ink {s : List UInt8} (h : NameP s) : ∀ c ∈ s, inkB c = true := by
  intro c hc
  have := h.2.2.1 c hc
  unfold inkB
  rw [decide_eq_true_iff]
  refine ⟨fun e => ?_, fun e => ?_, fun e => ?_⟩ <;> rw [e] at this <;> revert this <;> decide
theorem mark_nb {op : Int} (h0 : 3 ≤ op) (h : op < 18) : nb (markN op) = (markN op).length := by
  have key : ∀ m, m < 15 → nb (markN ((m : Nat) + 3 : Int)) = (markN ((m : Nat) + 3 : Int)).length := by decide
  have := key (op - 3).toNat (by omega)
  rwa [show (((op - 3).toNat : Nat) + 3 : Int) = op by omega] at this
theorem rawE_nb : ∀ (e : Ex) (t : List UInt8), EvE NameP NumP e → rawE e.gx = some t → nb t = nbE e
  | .num n, t, _, h => by
    simp [Ex.gx, rawE, partsN] at h
    subst h
    exact nb_all (itoa_ink n)
  | .nam s, t, hp, h => by
    simp [Ex.gx, rawE, partsN] at h
    subst h
    exact nb_all (name_ink hp)
  | .idx s e, t, hp, h => by
    simp [Ex.gx, rawE, partsN] at h
    obtain ⟨u, hu, rfl⟩ := h
    have h1 := rawE_nb e u hp.2 hu
    have h2 : nb s = s.length := nb_all (name_ink hp.1)
    rw [str_list]
    simp only [nb_append, nb_cons, h1, h2, nbE]
    have e1 : nb [] = 0 := rfl
    simp [inkB, e1]
    omega
  | .neg e, t, hp, h => by
    simp [Ex.gx, rawE, partsN] at h
    obtain ⟨u, hu, rfl⟩ := h
    have h1 := operO_nb (fun s hs => rawE_nb e s hp hs) hu
    simp only [nb_append, nb_cons, h1, nbE, markN]
    have e1 : nb [] = 0 := rfl
    simp [inkB, nb_cons, e1]
  | .non e, t, hp, h => by
    simp [Ex.gx, rawE, partsN] at h
    obtain ⟨u, hu, rfl⟩ := h
    have h1 := operO_nb (fun s hs => rawE_nb e s hp hs) hu
    simp only [nb_append, nb_cons, h1, nbE, markN]
    have e1 : nb [] = 0 := rfl
    simp [inkB, nb_cons, e1]
  | .bin op a b, t, hp, h => by
    rw [Ex.gx, rawE] at h
    split at h
    · rename_i hc
      obtain ⟨u, v, hu, hv, rfl⟩ := ocat_some_iff h
      obtain ⟨m, v2, hm, hv2, rfl⟩ := ocat_some_iff hv
      injection hm with hm
      subst hm
      have h5 : 5 ≤ op := by
        have := hc.2.2
        unfold partsN at this
        split at this
        · simp at this
        · split at this
          · simp at this
          · omega
      have h1 := operO_nb (fun s hs => rawE_nb a s hp.1 hs) hu
      have h2 := operO_nb (fun s hs => rawE_nb b s hp.2 hs) hv2
      have h3 := mark_nb (op := op) (by omega) hc.2.1
      have e1 : nb [32] = 0 := by decide
      simp only [nb_append, h1, h2, h3, e1, nbE]
      omega
    · cases h
/-- What is asked of tokens: a number's text is its digits; only the end has none. -/
def TkN (t : Tk) : Prop := t.kind = 2 → Lib.itoa t.n = t.text
theorem textsLen_cons' (t : Tk) (r : List Tk) : textsLen (t :: r) = t.text.length + textsLen r := by simp [textsLen]
/-- A step takes at least the tree's bytes, as it is written where it has to be so tight. -/
def OkW (t : Int) (f : List Tk → PR) : Prop := ∀ r, (∀ u ∈ r, TkN u) → ∀ e r', f r = .ok e r' → (∀ u ∈ r', TkN u) ∧ wide t e (nbE e) + textsLen r' ≤ textsLen r
theorem wide_le {e : Ex} {n : Nat} {s t : Int} (h : s ≤ t) : wide s e n ≤ wide t e n := by
  unfold wide
  split
  · rw [if_pos (by omega)]
    exact Nat.le_refl _
  · omega
theorem wide_big (t : Int) (e : Ex) (n : Nat) : n ≤ wide t e n ∧ wide t e n ≤ n + 2 := by
  unfold wide
  split <;> omega
theorem op_mark {lvl : Nat} {t : Tk} {r : List Tk} {op : Int} (h : opAt lvl (t :: r) = some op) : t.text.length = (markN op).length ∧ tightN op = lvl + 1 := by
  have key : ∀ (l : List (List UInt8 × Int)) (x : List UInt8) (n : Int), l.all (fun p => decide (p.1.length = (markN p.2).length ∧ tightN p.2 = n)) = true → l.lookup x = some op → x.length = (markN op).length ∧ tightN op = n := by
    intro l x n ha hl
    induction l with
    | nil => cases hl
    | cons p l ih =>
      rw [List.all_cons, Bool.and_eq_true] at ha
      obtain ⟨a, b⟩ := p
      rw [List.lookup_cons] at hl
      split at hl
      · rename_i hx
        injection hl with hl
        subst hl
        have : x = a := by simpa using hx
        subst this
        simpa using ha.1
      · exact ih ha.2 hl
  match lvl, h with
  | 0, h => exact key _ _ 1 (by decide) h
  | 1, h => exact key _ _ 2 (by decide) h
  | 2, h => exact key _ _ 3 (by decide) h
  | 3, h => exact key _ _ 4 (by decide) h
  | 4, h => exact key _ _ 5 (by decide) h
  | n + 5, h => cases h
theorem loopJ_w {lvl : Nat} {next : List Tk → PR} (hn : OkW (lvl + 2) next) : ∀ (f : Nat) (e : Ex) (r : List Tk), (∀ u ∈ r, TkN u) → ∀ w0, wide (lvl + 1) e (nbE e) ≤ w0 → (lvl = 2 → wide (lvl + 2) e (nbE e) ≤ w0) → ∀ a r', loopJ lvl next f e r = .ok a r' → (∀ u ∈ r', TkN u) ∧ wide (lvl + 1) a (nbE a) + textsLen r' ≤ w0 + textsLen r
  | 0, e, r, hr, w0, h0, _, a, r', h => by
    rw [loopJ] at h
    injection h with h1 h2
    subst h1 h2
    exact ⟨hr, by omega⟩
  | f + 1, e, r, hr, w0, h0, h2', a, r', h => by
    rw [loopJ] at h
    cases ho : opAt lvl r with
    | none =>
      rw [ho] at h
      injection h with h1 h2
      subst h1 h2
      exact ⟨hr, by omega⟩
    | some op =>
      cases r with
      | nil => cases ho
      | cons t r =>
        obtain ⟨hl, hl1⟩ := op_mark ho
        rw [ho] at h
        rw [List.tail_cons] at h
        cases hq : next r with
        | bad r2 er => rw [hq] at h; cases h
        | ok e2 r2 =>
          rw [hq] at h
          obtain ⟨h1, h2⟩ := hn r (fun u hu => hr u (List.mem_cons_of_mem _ hu)) e2 r2 hq
          have hleft : wide (leftN op) e (nbE e) ≤ w0 := by
            unfold leftN
            split
            · rename_i h3
              rw [hl1] at h3 ⊢
              have : lvl = 2 := by omega
              have := h2' this
              rwa [show (lvl : Int) + 1 + 1 = lvl + 2 by omega]
            · rw [hl1]
              exact h0
          have hb : nbE (.bin op e e2) + textsLen r2 ≤ w0 + textsLen (t :: r) := by
            rw [nbE, hl1, textsLen_cons', show (lvl : Int) + 1 + 1 = lvl + 2 by omega]
            omega
          have hw : wide (lvl + 1) (.bin op e e2) (nbE (.bin op e e2)) = nbE (.bin op e e2) := by
            unfold wide
            rw [Ex.op, hl1, if_neg (by omega)]
            rfl
          simp only at h
          split at h
          · injection h with h3 h4
            subst h3 h4
            exact ⟨h1, by rw [hw]; omega⟩
          · rename_i hne
            have hx : textsLen r2 ≤ w0 + textsLen (t :: r) := by omega
            obtain ⟨h3, h4⟩ := loopJ_w hn f (.bin op e e2) r2 h1 (w0 + textsLen (t :: r) - textsLen r2) (by rw [hw]; omega) (fun e => absurd e hne) a r' h
            exact ⟨h3, by omega⟩
theorem joinL_w {plain : List Tk → PR} (hp : OkW 6 plain) : ∀ k : Nat, k ≤ 5 → OkW ((6 - k : Nat) : Int) (joinL plain k)
  | 0, _ => hp
  | k + 1, hk => fun r hr a r' h => by
    rw [joinL] at h
    cases hq : joinL plain k r with
    | bad r2 er => rw [hq] at h; cases h
    | ok e r2 =>
      rw [hq] at h
      have ih := joinL_w hp k (by omega)
      obtain ⟨h1, h2⟩ := ih r hr e r2 hq
      have e1 : ((6 - k : Nat) : Int) = ((4 - k : Nat) : Int) + 2 := by omega
      have e2 : ((6 - (k + 1) : Nat) : Int) = ((4 - k : Nat) : Int) + 1 := by omega
      rw [e1] at ih h2
      rw [e2]
      have hle : wide (((4 - k : Nat) : Int) + 1) e (nbE e) ≤ wide (((4 - k : Nat) : Int) + 2) e (nbE e) := wide_le (by omega)
      obtain ⟨h3, h4⟩ := loopJ_w ih _ e r2 h1 (wide (((4 - k : Nat) : Int) + 2) e (nbE e)) hle (fun _ => Nat.le_refl _) a r' h
      exact ⟨h3, by omega⟩
theorem mustT_w {x : List UInt8} {e : Ex} {r : List Tk} (hr : ∀ t ∈ r, TkN t) {a : Ex} {r' : List Tk} (h : mustT x e r = .ok a r') : a = e ∧ (∀ t ∈ r', TkN t) ∧ textsLen r = x.length + textsLen r' := by
  unfold mustT at h
  split at h
  · rename_i hx
    injection h with h1 h2
    subst h1 h2
    cases r with
    | nil => cases hx
    | cons t r =>
      have ht : t.text = x := by
        simp [hasT] at hx
        exact hx.2
      exact ⟨rfl, fun u hu => hr u (List.mem_cons_of_mem _ hu), by rw [textsLen_cons', ht]; rfl⟩
  · cases h
theorem wide_plain {e : Ex} {n : Nat} (h : tightN e.op = 6) : wide 6 e n = n := by
  unfold wide
  rw [h, if_neg (by omega)]
  rfl
theorem plainD_w : ∀ d, OkW 6 (plainD d)
  | 0 => fun r hr a r' h => by
    cases r with
    | nil => cases h
    | cons t r =>
      rw [plainD] at h
      split at h <;> cases h
  | d + 1 => fun r hr a r' h => by
    cases r with
    | nil => cases h
    | cons t r =>
      have ht := hr t (List.mem_cons_self ..)
      have hr' : ∀ u ∈ r, TkN u := fun u hu => hr u (List.mem_cons_of_mem _ hu)
      have hj : OkW 1 (joinL (plainD d) 5) := joinL_w (plainD_w d) 5 (Nat.le_refl _)
      rw [plainD] at h
      split at h
      · cases h
      rename_i hop
      split at h
      · rename_i hk
        injection h with h1 h2
        subst h1 h2
        refine ⟨hr', ?_⟩
        rw [wide_plain rfl, nbE, ht hk, textsLen_cons']
        omega
      rename_i hk2
      split at h
      · rename_i hk
        split at h
        · rename_i hx
          cases r with
          | nil => cases hx
          | cons u r =>
            have hu : u.text = [91] := by
              simp [hasT] at hx
              exact hx.2
            rw [List.tail_cons] at h
            cases hq : joinL (plainD d) 5 r with
            | bad r2 er => rw [hq] at h; cases h
            | ok e r2 =>
              rw [hq] at h
              obtain ⟨h1, h2⟩ := hj r (fun v hv => hr' v (List.mem_cons_of_mem _ hv)) e r2 hq
              obtain ⟨rfl, h5, h6⟩ := mustT_w h1 h
              refine ⟨h5, ?_⟩
              have h7 := (wide_big 1 e (nbE e)).1
              rw [wide_plain rfl, nbE, textsLen_cons', textsLen_cons', hu]
              simp only [List.length_cons, List.length_nil] at h6 ⊢
              omega
        · injection h with h1 h2
          subst h1 h2
          refine ⟨hr', ?_⟩
          rw [wide_plain rfl, nbE, textsLen_cons']
          omega
      rename_i hk1
      split at h
      · rename_i hx
        cases hq : joinL (plainD d) 5 r with
        | bad r2 er => rw [hq] at h; cases h
        | ok e r2 =>
          rw [hq] at h
          obtain ⟨h1, h2⟩ := hj r hr' e r2 hq
          obtain ⟨rfl, h5, h6⟩ := mustT_w h1 h
          refine ⟨h5, ?_⟩
          have h7 := (wide_big 1 a (nbE a)).1
          have h8 := (wide_big 6 a (nbE a)).2
          rw [textsLen_cons', hx]
          simp only [List.length_cons, List.length_nil] at h6 ⊢
          omega
      rename_i hx0
      split at h
      · rename_i hx
        cases hq : plainD d r with
        | bad r2 er => rw [hq] at h; cases h
        | ok e r2 =>
          rw [hq] at h
          injection h with h3 h4
          subst h3 h4
          obtain ⟨h1, h2⟩ := plainD_w d r hr' e r2 hq
          refine ⟨h1, ?_⟩
          rw [wide_plain rfl, nbE, textsLen_cons', hx]
          simp only [List.length_cons, List.length_nil]
          omega
      rename_i hx1
      · cases hq : plainD d r with
        | bad r2 er => rw [hq] at h; cases h
        | ok e r2 =>
          rw [hq] at h
          injection h with h3 h4
          subst h3 h4
          obtain ⟨h1, h2⟩ := plainD_w d r hr' e r2 hq
          have hx : t.text = [110, 111, 116] := by
            simp [openT, hasT, hk1, hk2, hx0, hx1] at hop
            exact hop.2
          refine ⟨h1, ?_⟩
          rw [wide_plain rfl, nbE, textsLen_cons', hx]
          simp only [List.length_cons, List.length_nil]
          omega
/-- The tokens' bytes are no blanks. -/
theorem lexF_nb : ∀ (f : Nat) (l : List UInt8) (line col : Int) (acc ts : List Tk), l.length < f → lexF f l line col acc = .ok ts → textsLen ts ≤ textsLen acc + nb l
  | 0, _, _, _, _, _, h, _ => absurd h (by omega)
  | f + 1, [], line, col, acc, ts, _, h => by
    simp only [lexF, Res.ok.injEq] at h
    subst h
    rw [textsLen_snoc]
    simp only [List.length_nil]
    omega
  | f + 1, c :: r, line, col, acc, ts, hf, h => by
    have hf' : r.length < f := by simp at hf; omega
    rw [lexF_cons rfl] at h
    have hc := nb_cons c r
    by_cases h1 : c = 10
    · rw [if_pos h1] at h
      have := lexF_nb f r _ _ acc ts hf' h
      omega
    · rw [if_neg h1] at h
      by_cases h2 : c = 32 ∨ c = 9
      · rw [if_pos h2] at h
        have := lexF_nb f r _ _ acc ts hf' h
        omega
      · rw [if_neg h2] at h
        have hdrop : ∀ n, nb (c :: r) = nb ((c :: r).take n) + nb ((c :: r).drop n) := fun n => by rw [← nb_append, List.take_append_drop]
        by_cases h3 : c = 35
        · rw [if_pos h3] at h
          have hp : 1 ≤ preN nlB (c :: r) := preN_pos (by subst h3; rfl)
          have := lexF_nb f _ _ _ acc ts (by simp; omega) h
          have := hdrop (preN nlB (c :: r))
          omega
        · rw [if_neg h3] at h
          by_cases h4 : (pieceS (c :: r)).err ≠ 0
          · rw [if_pos h4] at h
            cases h
          · rw [if_neg h4] at h
            have h9 : (pieceS (c :: r)).err = 0 := by simpa using h4
            have hp := (pieceS_len h9 (by simp : c :: r ≠ [])).1
            obtain ⟨ht, hk⟩ := head_text h9
            have h5 := lexF_nb f _ _ _ _ ts (by simp; omega) h
            have h6 := hdrop (pieceS (c :: r)).text.length
            rw [← ht, nb_all (l := (pieceS (c :: r)).text) (fun x hx => by
              have := hk x hx
              unfold inkB
              rw [decide_eq_true_iff]
              exact ⟨this.1, this.2.1, this.2.2.1⟩)] at h6
            rw [textsLen_snoc] at h5
            simp only at h5
            omega
/-- A text that is read as a tree has at least the bytes of that tree's text. -/
theorem exprO_nb {l : List UInt8} {x : Ex} (h : exprO l = .ok x) {t : List UInt8} (ht : rawE x.gx = some t) : nb t ≤ nb l := by
  obtain ⟨ts, r, h1, h2, -⟩ := exprO_lex h
  have h3 := lexF_nb _ l 1 1 [] ts (Nat.lt_succ_self _) h1
  obtain ⟨us, L, C, rfl, hg, -, -⟩ := lexS_good h1
  obtain ⟨-, h6⟩ := (joinL_w (plainD_w 16) 5 (Nat.le_refl _)) _ (fun t ht hk => by
    rcases List.mem_append.1 ht with ht | ht
    · exact (good_number (hg t ht) hk).2.2
    · rw [List.mem_singleton.1 ht] at hk
      cases hk) x r h2
  have h7 := (wide_big ((6 - 5 : Nat) : Int) x (nbE x)).1
  rw [rawE_nb x t (exprO_ev h) ht]
  have h8 : textsLen ([] : List Tk) = 0 := rfl
  omega
end Go.Proofs.YtdgekckedchjbaaDoor
