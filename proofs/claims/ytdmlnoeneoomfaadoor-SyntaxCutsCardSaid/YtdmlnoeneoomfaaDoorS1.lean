
/-
  Expressions: their trees, and how tokens are parsed. No program is named here.
-/
import Derived.Test.YtdmlnoeneoomfaaDoorL7
namespace Go.Proofs.YtdmlnoeneoomfaaDoor

/-- A tree. -/
inductive Ex where
  | num (n : Int)
  | nam (s : List UInt8)
  | idx (s : List UInt8) (e : Ex)
  | neg (e : Ex)
  | non (e : Ex)
  | bin (op : Int) (a b : Ex)
/-- What a parse gives: a tree, and what is left; or where it is wrong, and how. -/
inductive PR where
  | ok (e : Ex) (r : List Tk)
  | bad (r : List Tk) (err : Int)
def hasT (x : List UInt8) : List Tk → Bool
  | [] => false
  | t :: _ => (decide (t.kind = 3) || decide (t.kind = 4)) && decide (t.text = x)
/-- With this token nothing goes on. -/
def wrongT : List Tk → Int
  | [] => 4
  | t :: _ => if t.kind = 0 then 4 else 3
def lvlT : Nat → List (List UInt8 × Int)
  | 0 => [([111, 114], 17)]
  | 1 => [([97, 110, 100], 16)]
  | 2 => [([61], 10), ([33, 61], 11), ([60], 12), ([60, 61], 13), ([62], 14), ([62, 61], 15)]
  | 3 => [([43], 8), ([45], 9)]
  | 4 => [([42], 5), ([47], 6), ([37], 7)]
  | _ => []
def opAt (lvl : Nat) : List Tk → Option Int
  | [] => none
  | t :: _ => (lvlT lvl).lookup t.text
def openT (r : List Tk) : Bool :=
  (match r with | [] => false | t :: _ => decide (t.kind = 2) || decide (t.kind = 1)) || hasT [40] r || hasT [45] r || hasT [110, 111, 116] r
def mustT (x : List UInt8) (e : Ex) (r : List Tk) : PR := if hasT x r then .ok e r.tail else .bad r (wrongT r)
/-- Operands joined by the marks of a tightness. -/
def loopJ (lvl : Nat) (next : List Tk → PR) : Nat → Ex → List Tk → PR
  | 0, e, r => .ok e r
  | f + 1, e, r => match opAt lvl r with
    | none => .ok e r
    | some op => match next r.tail with
      | .bad r2 er => .bad r2 er
      | .ok e2 r2 => if lvl = 2 then .ok (.bin op e e2) r2 else loopJ lvl next f (.bin op e e2) r2
/-- An expression that is at least so tight (of k more tightnesses). -/
def joinL (plain : List Tk → PR) : Nat → List Tk → PR
  | 0, r => plain r
  | k + 1, r => match joinL plain k r with
    | .bad r2 er => .bad r2 er
    | .ok e r2 => loopJ (4 - k) (joinL plain k) r2.length e r2
/-- A plain expression, within which there may stand d more. -/
def plainD : Nat → List Tk → PR
  | _, [] => .bad [] 4
  | 0, t :: r => if openT (t :: r) then .bad (t :: r) 25 else .bad (t :: r) (wrongT (t :: r))
  | d + 1, t :: r =>
    if openT (t :: r) = false then .bad (t :: r) (wrongT (t :: r))
    else if t.kind = 2 then .ok (.num t.n) r
    else if t.kind = 1 then
      (if hasT [91] r then (match joinL (plainD d) 5 r.tail with
        | .bad r2 er => .bad r2 er
        | .ok e r2 => mustT [93] (.idx t.text e) r2)
      else .ok (.nam t.text) r)
    else if t.text = [40] then (match joinL (plainD d) 5 r with
      | .bad r2 er => .bad r2 er
      | .ok e r2 => mustT [41] e r2)
    else if t.text = [45] then (match plainD d r with
      | .bad r2 er => .bad r2 er
      | .ok e r2 => .ok (.neg e) r2)
    else (match plainD d r with
      | .bad r2 er => .bad r2 er
      | .ok e r2 => .ok (.non e) r2)
/-- A whole text's expression. -/
def exprS (ts : List Tk) : PR := match joinL (plainD 16) 5 ts with
  | .bad r er => .bad r er
  | .ok e r => match r with
    | [] => .ok e r
    | t :: _ => if t.kind = 0 then .ok e r else .bad r 3
def PR.map (f : Tk → Tk) : PR → PR
  | .ok e r => .ok e (r.map f)
  | .bad r er => .bad (r.map f) er
/-- A token without its place. -/
def Tk.z (t : Tk) : Tk := ⟨t.kind, t.text, t.n, 0, 0⟩
theorem hasT_z (x : List UInt8) (r : List Tk) : hasT x (r.map Tk.z) = hasT x r := by cases r <;> rfl
theorem wrongT_z (r : List Tk) : wrongT (r.map Tk.z) = wrongT r := by cases r <;> rfl
theorem opAt_z (l : Nat) (r : List Tk) : opAt l (r.map Tk.z) = opAt l r := by cases r <;> rfl
theorem openT_z (r : List Tk) : openT (r.map Tk.z) = openT r := by
  unfold openT
  rw [hasT_z, hasT_z, hasT_z]
  cases r <;> rfl
theorem mustT_z (x : List UInt8) (e : Ex) (r : List Tk) : mustT x e (r.map Tk.z) = (mustT x e r).map Tk.z := by
  unfold mustT
  rw [hasT_z, wrongT_z]
  split
  · simp [PR.map, List.map_tail]
  · rfl
theorem loopJ_z {lvl : Nat} {next : List Tk → PR} (hn : ∀ r, next (r.map Tk.z) = (next r).map Tk.z) : ∀ (f : Nat) (e : Ex) (r : List Tk), loopJ lvl next f e (r.map Tk.z) = (loopJ lvl next f e r).map Tk.z
  | 0, e, r => rfl
  | f + 1, e, r => by
    simp only [loopJ]
    rw [opAt_z]
    cases opAt lvl r with
    | none => rfl
    | some op =>
      simp only
      rw [← List.map_tail, hn]
      cases next r.tail with
      | bad r2 er => rfl
      | ok e2 r2 =>
        simp only [PR.map]
        split
        · rfl
        · exact loopJ_z hn f _ _
theorem joinL_z {plain : List Tk → PR} (hn : ∀ r, plain (r.map Tk.z) = (plain r).map Tk.z) : ∀ (k : Nat) (r : List Tk), joinL plain k (r.map Tk.z) = (joinL plain k r).map Tk.z
  | 0, r => hn r
  | k + 1, r => by
    simp only [joinL]
    rw [joinL_z hn k r]
    cases joinL plain k r with
    | bad r2 er => rfl
    | ok e r2 =>
      simp only [PR.map]
      rw [List.length_map]
      exact loopJ_z (joinL_z hn k) _ _ _
theorem plainD_z : ∀ (d : Nat) (r : List Tk), plainD d (r.map Tk.z) = (plainD d r).map Tk.z
  | 0, [] => rfl
  | _ + 1, [] => rfl
  | 0, t :: r => by
    have h := openT_z (t :: r)
    have h2 := wrongT_z (t :: r)
    simp only [List.map_cons] at h h2 ⊢
    simp only [plainD]
    rw [h, h2]
    split <;> rfl
  | d + 1, t :: r => by
    have ih := plainD_z d
    have h := openT_z (t :: r)
    have h2 := wrongT_z (t :: r)
    simp only [List.map_cons] at h h2 ⊢
    simp only [plainD]
    have k1 : t.z.kind = t.kind := rfl
    have k2 : t.z.text = t.text := rfl
    have k3 : t.z.n = t.n := rfl
    rw [h, h2, k1, k2, k3, hasT_z]
    split
    · rfl
    · split
      · rfl
      · split
        · split
          · rw [← List.map_tail, joinL_z ih]
            cases joinL (plainD d) 5 r.tail with
            | bad r2 er => rfl
            | ok e r2 => simp only [PR.map]; exact mustT_z _ _ _
          · rfl
        · split
          · rw [joinL_z ih]
            cases joinL (plainD d) 5 r with
            | bad r2 er => rfl
            | ok e r2 => simp only [PR.map]; exact mustT_z _ _ _
          · split
            · rw [ih]
              cases plainD d r <;> rfl
            · rw [ih]
              cases plainD d r <;> rfl
/-- What is parsed is behind. -/
def Eats (next : List Tk → PR) : Prop := ∀ r e r2, next r = .ok e r2 → r2.length < r.length
theorem loopJ_le {lvl : Nat} {next : List Tk → PR} (hn : Eats next) : ∀ (f : Nat) (e : Ex) (r : List Tk) (e2 : Ex) (r2 : List Tk), loopJ lvl next f e r = .ok e2 r2 → r2.length ≤ r.length
  | 0, e, r, e2, r2, h => by
    simp only [loopJ, PR.ok.injEq] at h
    rw [h.2]
    exact Nat.le_refl _
  | f + 1, e, r, e2, r2, h => by
    simp only [loopJ] at h
    have ht : r.tail.length ≤ r.length := by rw [List.length_tail]; omega
    cases ho : opAt lvl r with
    | none =>
      rw [ho] at h
      simp only [PR.ok.injEq] at h
      rw [h.2]
      exact Nat.le_refl _
    | some op =>
      rw [ho] at h
      simp only at h
      cases hq : next r.tail with
      | bad r3 er => rw [hq] at h; cases h
      | ok e3 r3 =>
        rw [hq] at h
        simp only at h
        have h3 := hn _ _ _ hq
        split at h
        · simp only [PR.ok.injEq] at h
          rw [← h.2]
          omega
        · have := loopJ_le hn f _ _ _ _ h
          omega
theorem joinL_eats {plain : List Tk → PR} (hp : Eats plain) : ∀ k, Eats (joinL plain k)
  | 0 => hp
  | k + 1 => fun r e r2 h => by
    simp only [joinL] at h
    cases hq : joinL plain k r with
    | bad r3 er => rw [hq] at h; cases h
    | ok e3 r3 =>
      rw [hq] at h
      simp only at h
      have h1 := joinL_eats hp k _ _ _ hq
      have h2 := loopJ_le (joinL_eats hp k) _ _ _ _ _ h
      omega
theorem mustT_lt {x : List UInt8} {e e2 : Ex} {r r2 : List Tk} (h : mustT x e r = .ok e2 r2) : r2.length < r.length := by
  unfold mustT at h
  split at h
  · rename_i hh
    simp only [PR.ok.injEq] at h
    rw [← h.2]
    cases r with
    | nil => simp [hasT] at hh
    | cons t r => simp
  · cases h
theorem plainD_eats : ∀ d, Eats (plainD d)
  | 0 => fun r e r2 h => by
    cases r with
    | nil => simp [plainD] at h
    | cons t r =>
      simp only [plainD] at h
      split at h <;> cases h
  | d + 1 => fun r e r2 h => by
    have ih := plainD_eats d
    have ij := joinL_eats ih 5
    cases r with
    | nil => simp [plainD] at h
    | cons t r =>
      simp only [plainD] at h
      have ht : r.tail.length ≤ r.length := by rw [List.length_tail]; omega
      rw [List.length_cons]
      split at h
      · cases h
      · split at h
        · simp only [PR.ok.injEq] at h
          rw [← h.2]; omega
        · split at h
          · split at h
            · cases hq : joinL (plainD d) 5 r.tail with
              | bad r3 er => rw [hq] at h; cases h
              | ok e3 r3 =>
                rw [hq] at h
                have h1 := ij _ _ _ hq
                have h2 := mustT_lt h
                omega
            · simp only [PR.ok.injEq] at h
              rw [← h.2]; omega
          · split at h
            · cases hq : joinL (plainD d) 5 r with
              | bad r3 er => rw [hq] at h; cases h
              | ok e3 r3 =>
                rw [hq] at h
                have h1 := ij _ _ _ hq
                have h2 := mustT_lt h
                omega
            · split at h
              · cases hq : plainD d r with
                | bad r3 er => rw [hq] at h; cases h
                | ok e3 r3 =>
                  rw [hq] at h
                  simp only [PR.ok.injEq] at h
                  have h1 := ih _ _ _ hq
                  rw [← h.2]; omega
              · cases hq : plainD d r with
                | bad r3 er => rw [hq] at h; cases h
                | ok e3 r3 =>
                  rw [hq] at h
                  simp only [PR.ok.injEq] at h
                  have h1 := ih _ _ _ hq
                  rw [← h.2]; omega
/-- More rounds than tokens change nothing. -/
theorem loopJ_more {lvl : Nat} {next : List Tk → PR} (hn : Eats next) : ∀ (n : Nat) (r : List Tk), r.length ≤ n → ∀ (f : Nat) (e : Ex), r.length ≤ f → loopJ lvl next f e r = loopJ lvl next r.length e r
  | 0, r, h, f, e, _ => by
    have : r = [] := List.eq_nil_of_length_eq_zero (by omega)
    subst this
    cases f <;> simp [loopJ, opAt]
  | n + 1, r, h, f, e, hf => by
    cases r with
    | nil => cases f <;> simp [loopJ, opAt]
    | cons t r =>
      rw [List.length_cons] at h hf ⊢
      obtain ⟨f, rfl⟩ : ∃ q, f = q + 1 := ⟨f - 1, by omega⟩
      simp only [loopJ]
      cases opAt lvl (t :: r) with
      | none => rfl
      | some op =>
        simp only [List.tail_cons]
        cases hq : next r with
        | bad r3 er => rfl
        | ok e3 r3 =>
          simp only
          have h3 := hn _ _ _ hq
          split
          · rfl
          · rw [loopJ_more hn n r3 (by omega) f _ (by omega), loopJ_more hn n r3 (by omega) r.length _ (by omega)]
theorem expr_test : (match lexS [97, 32, 61, 32, 98, 32, 61, 32, 99] with | .ok ts => (match exprS ts with | .bad (t :: _) 3 => t.col | _ => 0) | _ => 0) = 7 := by decide +kernel
end Go.Proofs.YtdmlnoeneoomfaaDoor
