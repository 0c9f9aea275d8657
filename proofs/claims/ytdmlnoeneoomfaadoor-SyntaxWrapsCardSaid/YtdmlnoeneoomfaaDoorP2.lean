
/-
  The law SyntaxWraps in plain Lean: a text within parentheses.
-/
import Derived.Test.YtdmlnoeneoomfaaDoorP1
import Derived.Test.YtdmlnoeneoomfaaDoorL25
import Derived.Test.YtdmlnoeneoomfaaDoorL22
import Derived.Test.YtdmlnoeneoomfaaDoorS9
namespace Go.Proofs.YtdmlnoeneoomfaaDoor
open Go.RowKit

def Res.zz : Res → Res
  | .ok ts => .ok (ts.map Tk.z)
  | .err _ _ e => .err 0 0 e
theorem lexF_z : ∀ (f g : Nat) (l : List UInt8) (line col line' col' : Int) (acc acc' : List Tk), l.length < f → l.length < g → acc.map Tk.z = acc'.map Tk.z → (lexF f l line col acc).zz = (lexF g l line' col' acc').zz
  | 0, _, _, _, _, _, _, _, _, h, _, _ => absurd h (by omega)
  | _ + 1, 0, _, _, _, _, _, _, _, _, h, _ => absurd h (by omega)
  | f + 1, g + 1, [], line, col, line', col', acc, acc', _, _, ha => by simp [lexF, Res.zz, ha, Tk.z]
  | f + 1, g + 1, c :: r, line, col, line', col', acc, acc', hf, hg, ha => by
    have hf' : r.length < f := by simp at hf; omega
    have hg' : r.length < g := by simp at hg; omega
    rw [lexF_cons rfl, lexF_cons rfl]
    by_cases h1 : c = 10
    · rw [if_pos h1, if_pos h1]
      exact lexF_z f g r _ _ _ _ acc acc' hf' hg' ha
    · rw [if_neg h1, if_neg h1]
      by_cases h2 : c = 32 ∨ c = 9
      · rw [if_pos h2, if_pos h2]
        exact lexF_z f g r _ _ _ _ acc acc' hf' hg' ha
      · rw [if_neg h2, if_neg h2]
        by_cases h3 : c = 35
        · rw [if_pos h3, if_pos h3]
          have hp : 1 ≤ preN nlB (c :: r) := preN_pos (by subst h3; rfl)
          exact lexF_z f g _ _ _ _ _ acc acc' (by simp <;> omega) (by simp <;> omega) ha
        · rw [if_neg h3, if_neg h3]
          by_cases h4 : (pieceS (c :: r)).err ≠ 0
          · rw [if_pos h4, if_pos h4]
            rfl
          · rw [if_neg h4, if_neg h4]
            have hp := (pieceS_len (by simpa using h4) (by simp : c :: r ≠ [])).1
            exact lexF_z f g _ _ _ _ _ _ _ (by simp <;> omega) (by simp <;> omega) (by rw [List.map_append, List.map_append, ha]; rfl)
theorem pieceS_paren (t : List UInt8) : pieceS (40 :: t) = ⟨4, [40], 0, 0⟩ := by
  unfold pieceS
  rw [List.headD_cons, if_neg (by decide), if_neg (by decide), if_neg, if_pos (show List.take 1 (40 :: t) ∈ marksL from (by decide : [40] ∈ marksL))]
  · rfl
  · rintro ⟨_, h⟩
    cases t with
    | nil => exact absurd ‹2 ≤ _› (by simp)
    | cons a t => simp [marksL] at h
theorem lexS_open (t : List UInt8) : lexS (40 :: t) = (lexF (t.length + 1) t 1 2 []).from_ [⟨4, [40], 0, 1, 1⟩] 0 := by
  have h1 : lexS (40 :: t) = lexF (t.length + 1) t 1 2 [⟨4, [40], 0, 1, 1⟩] := by
    unfold lexS
    rw [List.length_cons, lexF_cons rfl, if_neg (by decide), if_neg (by decide), if_neg (by decide), pieceS_paren, if_neg (by simp)]
    rfl
  rw [h1]
  exact lexF_from [⟨4, [40], 0, 1, 1⟩] 0 _ _ t 1 2 [] (Nat.lt_succ_self _) (Nat.lt_succ_self _)
def endZ : Tk := ⟨0, [], 0, 0, 0⟩
theorem z_end {e : Tk} (h : e.z = endZ) : ∃ L C, e = ⟨0, [], 0, L, C⟩ := by
  obtain ⟨k, t, n, L, C⟩ := e
  simp only [Tk.z, endZ, Tk.mk.injEq] at h
  obtain ⟨rfl, rfl, rfl, _⟩ := h
  exact ⟨L, C, rfl⟩
theorem z_down (us : List Tk) (k : Int) : (us.map (Tk.down k)).map Tk.z = us.map Tk.z := by
  rw [List.map_map]
  rfl
theorem z_split {ts us : List Tk} (h : ts.map Tk.z = us ++ [endZ]) : ∃ vs L C, ts = vs ++ [⟨0, [], 0, L, C⟩] ∧ vs.map Tk.z = us := by
  rcases List.eq_nil_or_concat ts with rfl | ⟨l, e, rfl⟩
  · simp at h
  · rw [List.concat_eq_append, List.map_append] at h
    have h2 := List.append_inj' h rfl
    obtain ⟨L, C, rfl⟩ := z_end (e := e) (by simpa using h2.2)
    exact ⟨l, L, C, by rw [List.concat_eq_append], h2.1⟩
theorem lexS_paren {t : List UInt8} {us : List Tk} {L C : Int} (h : lexS t = .ok (us ++ [⟨0, [], 0, L, C⟩])) : ∃ us' L' C', lexS (40 :: t ++ [10, 41]) = .ok (us' ++ [⟨0, [], 0, L', C'⟩]) ∧ us'.map Tk.z = parenO :: us.map Tk.z ++ [parenC] := by
  have h1 := lexF_z (t.length + 1) (t.length + 1) t 1 2 1 1 [] [] (Nat.lt_succ_self _) (Nat.lt_succ_self _) rfl
  rw [show lexF (t.length + 1) t 1 1 [] = .ok (us ++ [⟨0, [], 0, L, C⟩]) from h] at h1
  have e0 : 40 :: t ++ [10, 41] = (40 :: t) ++ 10 :: [41] := rfl
  have h41 : lexS [41] = .ok [⟨4, [41], 0, 1, 1⟩, ⟨0, [], 0, 1, 2⟩] := by kernel_rfl
  rw [e0, lexS_two, lexS_open]
  cases hq : lexF (t.length + 1) t 1 2 [] with
  | err a b c => rw [hq] at h1; cases h1
  | ok ts =>
    rw [hq] at h1
    simp only [Res.zz, Res.ok.injEq, List.map_append] at h1
    obtain ⟨vs, L1, C1, rfl, hv⟩ := z_split (us := us.map Tk.z) h1
    simp only [Res.from_]
    rw [h41]
    simp only
    refine ⟨⟨4, [40], 0, 1, 1⟩ :: vs.map (Tk.down 0) ++ [⟨4, [41], 0, 1 + (1 + ((40 :: t).count 10 : Nat)), 1⟩], 1 + (1 + ((40 :: t).count 10 : Nat)), 2, ?_, ?_⟩
    · have e1 : ([(⟨4, [40], 0, 1, 1⟩ : Tk)] ++ List.map (Tk.down 0) (vs ++ [(⟨0, [], 0, L1, C1⟩ : Tk)])).dropLast = ⟨4, [40], 0, 1, 1⟩ :: vs.map (Tk.down 0) := by
        rw [List.map_append, ← List.append_assoc]
        exact List.dropLast_concat
      rw [e1]
      simp [Tk.down]
    · rw [List.map_append, List.map_cons, z_down, hv]
      rfl
def wrapB : Nat → List UInt8 → List UInt8
  | 0, l => l
  | k + 1, l => 40 :: wrapB k l ++ [10, 41]
theorem wrapB_len (l : List UInt8) : ∀ k, (wrapB k l).length = l.length + 3 * k
  | 0 => rfl
  | k + 1 => by simp [wrapB, wrapB_len l k]; omega
theorem lexS_wrap {t : List UInt8} {us : List Tk} {L C : Int} (h : lexS t = .ok (us ++ [⟨0, [], 0, L, C⟩])) : ∀ k, ∃ us' L' C', lexS (wrapB k t) = .ok (us' ++ [⟨0, [], 0, L', C'⟩]) ∧ us'.map Tk.z = wrapT k (us.map Tk.z)
  | 0 => ⟨us, L, C, h, rfl⟩
  | k + 1 => by
    obtain ⟨us', L', C', h1, h2⟩ := lexS_wrap h k
    obtain ⟨us2, L2, C2, h3, h4⟩ := lexS_paren h1
    exact ⟨us2, L2, C2, h3, by rw [h4, h2]; rfl⟩
theorem dead_end (L C : Int) : Dead [⟨0, [], 0, L, C⟩] := ⟨rfl, rfl, rfl, rfl, fun l => by
  match l with
  | 0 => rfl
  | 1 => rfl
  | 2 => rfl
  | 3 => rfl
  | 4 => rfl
  | _ + 5 => rfl⟩
theorem good_kind {u : Tk} (h : Good u) : u.kind ≠ 0 := by
  have h1 := piece_kind (l := u.text) (by rw [h.2])
  rw [h.2] at h1
  exact h1
/-- What a whole text's tree is made of. -/
theorem exprO_ok {l : List UInt8} {x : Ex} (h : exprO l = .ok x) : ∃ us L C, lexS l = .ok (us ++ [⟨0, [], 0, L, C⟩]) ∧ (∀ u ∈ us, Good u) ∧ joinL (plainD 16) 5 (us ++ [⟨0, [], 0, L, C⟩]) = .ok x [⟨0, [], 0, L, C⟩] := by
  unfold exprO at h
  cases hl : lexS l with
  | err a b c => rw [hl] at h; cases h
  | ok ts =>
    rw [hl] at h
    obtain ⟨us, L, C, rfl, hg, -, -⟩ := lexS_good hl
    refine ⟨us, L, C, rfl, hg, ?_⟩
    simp only at h
    cases hj : joinL (plainD 16) 5 (us ++ [⟨0, [], 0, L, C⟩]) with
    | bad r e => rw [hj] at h; cases r <;> cases h
    | ok y r =>
      rw [hj] at h
      obtain ⟨vs, rfl, hvs, -⟩ := joinL_loc (plainD_loc 16) (plainD_eats 16) 5 _ [⟨0, [], 0, L, C⟩] us y r (dead_end L C) (dead_end L C).calm hj
      cases vs with
      | nil =>
        simp only [List.nil_append, endO, if_pos, Out.ok.injEq] at h
        rw [h]
        rfl
      | cons v vs =>
        simp only [List.cons_append, endO] at h
        rw [if_neg (good_kind (hg v (hvs.subset (List.mem_cons_self ..))))] at h
        cases h
theorem exprO_of {l : List UInt8} {x : Ex} {us : List Tk} {L C : Int} (h : lexS l = .ok (us ++ [⟨0, [], 0, L, C⟩])) (hj : joinL (plainD 16) 5 (us.map Tk.z ++ [endZ]) = .ok x [endZ]) : exprO l = .ok x := by
  have h1 := joinL_z (plainD_z 16) 5 (us ++ [⟨0, [], 0, L, C⟩])
  rw [List.map_append] at h1
  have h2 := h1.symm.trans hj
  unfold exprO
  rw [h]
  simp only
  cases hq : joinL (plainD 16) 5 (us ++ [⟨0, [], 0, L, C⟩]) with
  | bad r e => rw [hq] at h2; cases h2
  | ok y r =>
    rw [hq] at h2
    simp only [PR.map, PR.ok.injEq] at h2
    obtain ⟨rfl, h3⟩ := h2
    obtain ⟨vs, L1, C1, rfl, hv⟩ := z_split (us := []) h3
    obtain rfl : vs = [] := by simpa using hv
    rfl
theorem exprO_bad {l : List UInt8} {us r : List Tk} {e : Int} {L C : Int} (h : lexS l = .ok (us ++ [⟨0, [], 0, L, C⟩])) (hj : joinL (plainD 16) 5 (us.map Tk.z ++ [endZ]) = .bad r e) : ∃ L' C', exprO l = .bad L' C' e := by
  have h1 := joinL_z (plainD_z 16) 5 (us ++ [⟨0, [], 0, L, C⟩])
  rw [List.map_append] at h1
  have h2 := h1.symm.trans hj
  unfold exprO
  rw [h]
  simp only
  cases hq : joinL (plainD 16) 5 (us ++ [⟨0, [], 0, L, C⟩]) with
  | bad r2 e2 =>
    rw [hq] at h2
    simp only [PR.map, PR.bad.injEq] at h2
    obtain ⟨_, rfl⟩ := h2
    cases r2 <;> exact ⟨_, _, rfl⟩
  | ok y r => rw [hq] at h2; cases h2
theorem wraps_text {t : List UInt8} {x : Ex} (h : exprO t = .ok x) (k : Nat) : exprO (wrapB k t) = .ok x ∨ (0 < k ∧ ∃ L C, exprO (wrapB k t) = .bad L C 25) := by
  rcases Nat.eq_zero_or_pos k with rfl | hk
  · exact .inl h
  · obtain ⟨us, L, C, h1, -, h3⟩ := exprO_ok h
    obtain ⟨us', L', C', h4, h5⟩ := lexS_wrap h1 k
    have h6 := joinL_z (plainD_z 16) 5 (us ++ [⟨0, [], 0, L, C⟩])
    rw [h3, List.map_append] at h6
    rcases wraps_law (us := us.map Tk.z) (X := [endZ]) (dead_end 0 0) h6 k 16 [endZ] (Nat.le_refl _) (dead_end 0 0).calm with h7 | ⟨r, h7⟩
    · rw [← h5] at h7
      exact .inl (exprO_of h4 h7)
    · rw [← h5] at h7
      exact .inr ⟨hk, exprO_bad h4 h7⟩
end Go.Proofs.YtdmlnoeneoomfaaDoor
