
/-
  Where the tokens stand: the law. More blanks between the pieces: the law. What parsed programs are made of: names and numbers of the tokens; numbers and their digits. No program is named here. Names and numbers of good tokens; a parsed program fits. No program is named here.
-/
import Derived.Test.YtdgekckedchjbaaGreatDoorQK
import Derived.Test.YtdgekckedchjbaaGreatDoorQC
import Derived.Test.YtdgekckedchjbaaGreatDoorQL
import Derived.Test.YtdgekckedchjbaaGreatDoorQM
namespace Go.Proofs.YtdgekckedchjbaaGreatDoor
open Go.RowKit

/-- The places behind line feeds. -/
def stF : List UInt8 → Nat → List Nat
  | [], _ => []
  | c :: r, i => if c = 10 then (i + 1) :: stF r (i + 1) else stF r (i + 1)
def starts (X : List UInt8) : List Nat := 0 :: stF X 0

/-- From one place to another there are blanks and comments alone. -/
inductive Gap (X : List UInt8) (e : Nat) : Nat → Prop
  | done : Gap X e e
  | blank {k : Nat} {c : UInt8} (h : k < e) (hc : X[k]? = some c) (hb : c = 10 ∨ c = 32 ∨ c = 9) (hg : Gap X e (k + 1)) : Gap X e k
  | note {k : Nat} (h : k < e) (hc : X[k]? = some 35) (hle : k + preN nlB (X.drop k) ≤ e) (hg : Gap X e (k + preN nlB (X.drop k))) : Gap X e k
theorem Gap.trans {X : List UInt8} {m e k : Nat} (h : Gap X m k) (hme : m ≤ e) (h2 : Gap X e m) : Gap X e k := by
  induction h with
  | done => exact h2
  | blank h hc hb _ ih => exact .blank (by omega) hc hb ih
  | note h hc hle _ ih => exact .note (by omega) hc (by omega) ih

structure Stands (X : List UInt8) (b : Nat) (t : Tk) (p : Nat) : Prop where
  line1 : 1 ≤ t.line
  line2 : t.line ≤ (starts X).length
  col : 1 ≤ t.col
  start : ∃ v, (starts X)[(t.line - 1).toNat]? = some v ∧ (v : Int) + t.col - 1 = p
  ahead : b ≤ p
  fits : p + t.text.length ≤ X.length
  text : (X.drop p).take t.text.length = t.text
  gap : Gap X p b
inductive Placed (X : List UInt8) : Nat → List Tk → Prop
  | last {b : Nat} {t : Tk} : Stands X b t X.length → t.kind = 0 → t.text = [] → Placed X b [t]
  | more {b p : Nat} {t : Tk} {ts : List Tk} : Stands X b t p → t.kind ≠ 0 → ts ≠ [] → Placed X (p + t.text.length) ts → Placed X b (t :: ts)
theorem Placed.ne {X : List UInt8} {b : Nat} {ts : List Tk} (h : Placed X b ts) : ts ≠ [] := by cases h <;> simp
theorem Placed.step {X : List UInt8} {b : Nat} {ts : List Tk} (h : Placed X b ts) : ∃ t p us, ts = t :: us ∧ Stands X b t p ∧ ((t.kind = 0 ∧ us = [] ∧ p + t.text.length = X.length) ∨ (t.kind ≠ 0 ∧ us ≠ [] ∧ Placed X (p + t.text.length) us)) := by
  cases h with
  | last st hk ht => exact ⟨_, _, _, rfl, st, .inl ⟨hk, rfl, by simp [ht]⟩⟩
  | more st hk hu hp => exact ⟨_, _, _, rfl, st, .inr ⟨hk, hu, hp⟩⟩
end Go.Proofs.YtdgekckedchjbaaGreatDoor
namespace Go.Proofs.YtdgekckedchjbaaGreatDoor
open Go.RowKit

theorem preN_take {p : UInt8 → Bool} (l : List UInt8) : preN p (l.take (preN p l)) = preN p l := by
  rw [preN_all (by rw [← take_of_pre]; exact fun c hc => mem_pre hc), List.length_take]
  exact Nat.min_eq_left (preN_le _ _)
/-- A piece's text is that piece. -/
theorem pieceS_self {l : List UInt8} (h : (pieceS l).err = 0) (hl : l ≠ []) : pieceS (pieceS l).text = pieceS l := by
  obtain ⟨c, r, rfl⟩ := List.exists_cons_of_ne_nil hl
  have hhd : ∀ n, 1 ≤ n → ((c :: r).take n).headD 0 = c := by
    intro n hn
    obtain ⟨m, rfl⟩ : ∃ m, n = m + 1 := ⟨n - 1, by omega⟩
    rfl
  have hp1 : letB c = true ∨ digB c = true → 1 ≤ preN innB (c :: r) := fun h => preN_pos (by unfold innB; rcases h with h | h <;> simp [h])
  have ht : (((c :: r).take (preN innB (c :: r))).take (preN innB (c :: r))) = (c :: r).take (preN innB (c :: r)) := by rw [List.take_take, Nat.min_self]
  revert h
  have hd : (c :: r).headD 0 = c := rfl
  by_cases h1 : letB c = true
  · have hn := hp1 (.inl h1)
    unfold pieceS
    rw [hd, if_pos h1]
    by_cases h2 : 30 < preN innB (c :: r)
    · rw [if_pos h2]
      intro h; exact absurd h (by decide)
    · rw [if_neg h2]
      by_cases h3 : (c :: r).take (preN innB (c :: r)) ∈ wordsL
      · rw [if_pos h3]
        intro _
        simp only
        rw [hhd _ hn, if_pos h1, preN_take, if_neg h2, ht, if_pos h3]
      · rw [if_neg h3]
        intro _
        simp only
        rw [hhd _ hn, if_pos h1, preN_take, if_neg h2, ht, if_neg h3]
  · by_cases h2 : digB c = true
    · have hn := hp1 (.inr h2)
      unfold pieceS
      rw [hd, if_neg h1, if_pos h2]
      by_cases h3 : (numS ((c :: r).take (preN innB (c :: r)))).2 ≠ 0
      · rw [if_pos h3]
        intro h; exact absurd h h3
      · rw [if_neg h3]
        intro _
        simp only
        rw [hhd _ hn, if_neg h1, if_pos h2, preN_take, ht, if_neg h3]
    · unfold pieceS
      rw [hd, if_neg h1, if_neg h2]
      by_cases h3 : 2 ≤ (c :: r).length ∧ (c :: r).take 2 ∈ marksL
      · rw [if_pos h3]
        intro _
        simp only
        rw [hhd 2 (by omega), if_neg h1, if_neg h2, List.take_take, Nat.min_self, if_pos ⟨by rw [List.length_take]; omega, h3.2⟩]
      · rw [if_neg h3]
        by_cases h4 : (c :: r).take 1 ∈ marksL
        · rw [if_pos h4]
          intro _
          simp only
          rw [hhd 1 (by omega), if_neg h1, if_neg h2, if_neg (by rw [List.length_take]; simp), List.take_take, Nat.min_self, if_pos h4]
        · rw [if_neg h4]
          intro h; exact absurd h (by decide)

/-- A token that its text is read as. -/
def Good (u : Tk) : Prop := u.text ≠ [] ∧ pieceS u.text = ⟨u.kind, u.text, u.n, 0⟩
def textsLen (us : List Tk) : Nat := (us.map fun u => u.text.length).sum
theorem textsLen_snoc (us : List Tk) (u : Tk) : textsLen (us ++ [u]) = textsLen us + u.text.length := by simp [textsLen]
theorem lexF_good : ∀ (f : Nat) (l : List UInt8) (line col : Int) (acc ts : List Tk), l.length < f → (∀ u ∈ acc, Good u) → lexF f l line col acc = .ok ts → ∃ us L C, ts = us ++ [⟨0, [], 0, L, C⟩] ∧ (∀ u ∈ us, Good u) ∧ textsLen us ≤ textsLen acc + l.length ∧ us.length ≤ acc.length + l.length
  | 0, _, _, _, _, _, h, _, _ => absurd h (by omega)
  | f + 1, [], line, col, acc, ts, _, ha, h => by
    simp only [lexF, Res.ok.injEq] at h
    exact ⟨acc, line, col, h.symm, ha, by omega, by omega⟩
  | f + 1, c :: r, line, col, acc, ts, hf, ha, h => by
    have hf' : r.length < f := by simp at hf; omega
    rw [lexF_cons rfl] at h
    rw [List.length_cons]
    by_cases h1 : c = 10
    · rw [if_pos h1] at h
      obtain ⟨us, L, C, h5, h6, h7, h8⟩ := lexF_good f r _ _ acc ts hf' ha h
      exact ⟨us, L, C, h5, h6, by omega, by omega⟩
    · rw [if_neg h1] at h
      by_cases h2 : c = 32 ∨ c = 9
      · rw [if_pos h2] at h
        obtain ⟨us, L, C, h5, h6, h7, h8⟩ := lexF_good f r _ _ acc ts hf' ha h
        exact ⟨us, L, C, h5, h6, by omega, by omega⟩
      · rw [if_neg h2] at h
        by_cases h3 : c = 35
        · have hp : 1 ≤ preN nlB (c :: r) := preN_pos (by subst h3; rfl)
          rw [if_pos h3] at h
          obtain ⟨us, L, C, h5, h6, h7, h8⟩ := lexF_good f _ _ _ acc ts (by simp; omega) ha h
          simp only [List.length_drop, List.length_cons] at h7 h8
          exact ⟨us, L, C, h5, h6, by omega, by omega⟩
        · rw [if_neg h3] at h
          by_cases h4 : (pieceS (c :: r)).err ≠ 0
          · rw [if_pos h4] at h
            cases h
          · rw [if_neg h4] at h
            have h9 : (pieceS (c :: r)).err = 0 := by simpa using h4
            have hp := pieceS_len h9 (by simp : c :: r ≠ [])
            have hs := pieceS_self h9 (by simp : c :: r ≠ [])
            have hp1 := hp.1
            have hp2 := hp.2
            obtain ⟨us, L, C, h5, h6, h7, h8⟩ := lexF_good f _ _ _ _ ts (by simp; omega) (by
              intro u hu
              rcases List.mem_append.1 hu with hu | hu
              · exact ha u hu
              · simp only [List.mem_singleton] at hu
                subst hu
                refine ⟨fun e => by simp only at e; rw [e] at hp1; simp at hp1, ?_⟩
                simp only
                rw [hs]
                exact (show pieceS (c :: r) = ⟨(pieceS (c :: r)).kind, (pieceS (c :: r)).text, (pieceS (c :: r)).n, (pieceS (c :: r)).err⟩ from rfl).trans (by rw [h9])) h
            simp only [List.length_drop, List.length_cons, textsLen_snoc, List.length_append, List.length_nil] at h7 h8
            simp only [List.length_cons] at hp2
            exact ⟨us, L, C, h5, h6, by omega, by omega⟩
theorem lexS_good {l : List UInt8} {ts : List Tk} (h : lexS l = .ok ts) : ∃ us L C, ts = us ++ [⟨0, [], 0, L, C⟩] ∧ (∀ u ∈ us, Good u) ∧ textsLen us ≤ l.length ∧ us.length ≤ l.length := by
  obtain ⟨us, L, C, h1, h2, h3, h4⟩ := lexF_good _ l 1 1 [] ts (by omega) (by simp) h
  exact ⟨us, L, C, h1, h2, by simpa [textsLen] using h3, by simpa using h4⟩
end Go.Proofs.YtdgekckedchjbaaGreatDoor
namespace Go.Proofs.YtdgekckedchjbaaGreatDoor

/-- A step of the parser that gives what is Q out of tokens that are T. -/
def Ok1 (T : Tk → Prop) {α : Type} (f : List Tk → PS α) (Q : α → Prop) : Prop := ∀ r, (∀ t ∈ r, T t) → ∀ a r', f r = .ok a r' → Q a ∧ ∀ t ∈ r', T t
section
variable {T : Tk → Prop}
theorem Ok1.bind {α β : Type} {p : List Tk → PS α} {f : α → List Tk → PS β} {Q : α → Prop} {R : β → Prop} (hp : Ok1 T p Q) (hf : ∀ a, Q a → Ok1 T (f a) R) : Ok1 T (fun r => (p r).bind (f · ·)) R := fun r hr b r' h => by
  change (p r).bind f = _ at h
  cases hq : p r with
  | ok a r1 =>
    rw [hq] at h
    obtain ⟨h1, h2⟩ := hp r hr a r1 hq
    exact hf a h1 r1 h2 b r' h
  | bad r1 e => rw [hq] at h; cases h
theorem Ok1.ok {α : Type} {a : α} {Q : α → Prop} (h : Q a) : Ok1 T (fun r => PS.ok a r) Q := fun r hr b r' e => by
  injection e with e1 e2
  subst e1 e2
  exact ⟨h, hr⟩
theorem Ok1.tail {α : Type} {f : List Tk → PS α} {Q : α → Prop} (hf : Ok1 T f Q) : Ok1 T (fun r => f r.tail) Q := fun r hr a r' h => hf r.tail (fun t ht => hr t (List.mem_of_mem_tail ht)) a r' h
theorem Ok1.bad {α : Type} {Q : α → Prop} {g : List Tk → List Tk} {e : List Tk → Int} : Ok1 T (fun r => (PS.bad (g r) (e r) : PS α)) Q := fun r hr a r' h => by cases h
theorem Ok1.mono {α : Type} {f : List Tk → PS α} {Q R : α → Prop} (hf : Ok1 T f Q) (h : ∀ a, Q a → R a) : Ok1 T f R := fun r hr a r' e => ⟨h a (hf r hr a r' e).1, (hf r hr a r' e).2⟩
end
/-- Names are P, numbers are N. -/
def EvE (P : List UInt8 → Prop) (N : Int → Prop) : Ex → Prop
  | .num n => N n
  | .nam s => P s
  | .idx s e => P s ∧ EvE P N e
  | .neg e => EvE P N e
  | .non e => EvE P N e
  | .bin _ e f => EvE P N e ∧ EvE P N f
/-- A token whose name is P, whose number is N, with either sign. -/
def TkOk (P : List UInt8 → Prop) (N : Int → Prop) (t : Tk) : Prop := (t.kind = 1 → P t.text) ∧ (t.kind = 2 → N t.n ∧ N (IntKind.i64.wrap (-t.n)))
section
variable {P : List UInt8 → Prop} {N : Int → Prop}
/-- An expression's step. -/
def OkR (P : List UInt8 → Prop) (N : Int → Prop) (f : List Tk → PR) : Prop := ∀ r, (∀ t ∈ r, TkOk P N t) → ∀ e r', f r = .ok e r' → EvE P N e ∧ ∀ t ∈ r', TkOk P N t
theorem loopJ_ok {lvl : Nat} {next : List Tk → PR} (hn : OkR P N next) : ∀ (f : Nat) (e : Ex), EvE P N e → OkR P N (loopJ lvl next f e)
  | 0, e, he => fun r hr a r' h => by
    rw [loopJ] at h
    injection h with h1 h2
    subst h1 h2
    exact ⟨he, hr⟩
  | f + 1, e, he => fun r hr a r' h => by
    rw [loopJ] at h
    cases ho : opAt lvl r with
    | none =>
      rw [ho] at h
      injection h with h1 h2
      subst h1 h2
      exact ⟨he, hr⟩
    | some op =>
      rw [ho] at h
      cases hq : next r.tail with
      | bad r2 er => rw [hq] at h; cases h
      | ok e2 r2 =>
        rw [hq] at h
        obtain ⟨h1, h2⟩ := hn r.tail (fun t ht => hr t (List.mem_of_mem_tail ht)) e2 r2 hq
        simp only at h
        split at h
        · injection h with h3 h4
          subst h3 h4
          exact ⟨⟨he, h1⟩, h2⟩
        · exact loopJ_ok hn f (.bin op e e2) ⟨he, h1⟩ r2 h2 a r' h
theorem joinL_ok {plain : List Tk → PR} (hp : OkR P N plain) : ∀ k, OkR P N (joinL plain k)
  | 0 => hp
  | k + 1 => fun r hr a r' h => by
    rw [joinL] at h
    cases hq : joinL plain k r with
    | bad r2 er => rw [hq] at h; cases h
    | ok e r2 =>
      rw [hq] at h
      obtain ⟨h1, h2⟩ := joinL_ok hp k r hr e r2 hq
      exact loopJ_ok (joinL_ok hp k) _ e h1 r2 h2 a r' h
theorem mustT_ok {x : List UInt8} {e : Ex} (he : EvE P N e) : OkR P N (mustT x e) := fun r hr a r' h => by
  unfold mustT at h
  split at h
  · injection h with h1 h2
    subst h1 h2
    exact ⟨he, fun t ht => hr t (List.mem_of_mem_tail ht)⟩
  · cases h
theorem plainD_ok : ∀ d, OkR P N (plainD d)
  | 0 => fun r hr a r' h => by
    cases r with
    | nil => cases h
    | cons t r =>
      rw [plainD] at h
      split at h <;> cases h
  | d + 1 => fun r hr a r' h => by
    cases r with
    | nil => cases h
    | cons t r =>
      have ht := hr t (List.mem_cons_self ..)
      have hr' : ∀ u ∈ r, TkOk P N u := fun u hu => hr u (List.mem_cons_of_mem _ hu)
      rw [plainD] at h
      split at h
      · cases h
      split at h
      · rename_i hk
        injection h with h1 h2
        subst h1 h2
        exact ⟨(ht.2 hk).1, hr'⟩
      split at h
      · rename_i hk
        split at h
        · cases hq : joinL (plainD d) 5 r.tail with
          | bad r2 er => rw [hq] at h; cases h
          | ok e r2 =>
            rw [hq] at h
            obtain ⟨h1, h2⟩ := joinL_ok (plainD_ok d) 5 r.tail (fun u hu => hr' u (List.mem_of_mem_tail hu)) e r2 hq
            exact mustT_ok (e := .idx t.text e) ⟨ht.1 hk, h1⟩ r2 h2 a r' h
        · injection h with h1 h2
          subst h1 h2
          exact ⟨ht.1 hk, hr'⟩
      split at h
      · cases hq : joinL (plainD d) 5 r with
        | bad r2 er => rw [hq] at h; cases h
        | ok e r2 =>
          rw [hq] at h
          obtain ⟨h1, h2⟩ := joinL_ok (plainD_ok d) 5 r hr' e r2 hq
          exact mustT_ok h1 r2 h2 a r' h
      split at h
      · cases hq : plainD d r with
        | bad r2 er => rw [hq] at h; cases h
        | ok e r2 =>
          rw [hq] at h
          obtain ⟨h1, h2⟩ := plainD_ok d r hr' e r2 hq
          injection h with h3 h4
          subst h3 h4
          exact ⟨h1, h2⟩
      · cases hq : plainD d r with
        | bad r2 er => rw [hq] at h; cases h
        | ok e r2 =>
          rw [hq] at h
          obtain ⟨h1, h2⟩ := plainD_ok d r hr' e r2 hq
          injection h with h3 h4
          subst h3 h4
          exact ⟨h1, h2⟩
mutual
/-- Names are P (but for none), numbers N. -/
def EvS (P : List UInt8 → Prop) (N : Int → Prop) : St → Prop
  | .mk k nm E lo hi L El => (P nm ∨ (nm = [] ∧ k ≠ 0 ∧ k ≠ 1 ∧ k ≠ 3 ∧ k ≠ 5)) ∧ (∀ e ∈ E, EvE P N e) ∧ N lo ∧ N hi ∧ EvSs P N L ∧ EvSs P N El
def EvSs (P : List UInt8 → Prop) (N : Int → Prop) : List St → Prop
  | [] => True
  | s :: l => EvS P N s ∧ EvSs P N l
end
def EvV (P : List UInt8 → Prop) (N : Int → Prop) (v : Va) : Prop := P v.nm ∧ N v.size ∧ N v.lo ∧ N v.hi
structure EvP (P : List UInt8 → Prop) (N : Int → Prop) (p : Pg) : Prop where
  nm : P p.nm
  silent : P p.silent
  seats : N p.seats
  stakes : ∀ n ∈ p.stakes, N n
  vars : ∀ v ∈ p.vars, EvV P N v
  params : ∀ v ∈ p.params, EvV P N v
  start : EvSs P N p.start
  turn : EvSs P N p.turn
  play : EvSs P N p.play
  quiet : EvSs P N p.quiet
  pays : EvSs P N p.pays
end
end Go.Proofs.YtdgekckedchjbaaGreatDoor
namespace Go.Proofs.YtdgekckedchjbaaGreatDoor

/-- A text that may be a name. -/
def NameP (s : List UInt8) : Prop := s ≠ [] ∧ letB (s.headD 0) = true ∧ (∀ c ∈ s, innB c = true) ∧ s.length ≤ 30 ∧ s ∉ wordsL
theorem all_of_preN {p : UInt8 → Bool} {l : List UInt8} (h : preN p l = l.length) : ∀ c ∈ l, p c = true := by
  intro c hc
  have hpre := List.takeWhile_prefix p (l := l)
  have : l.takeWhile p = l := List.IsPrefix.eq_of_length hpre h
  rw [← this] at hc
  exact mem_pre hc
theorem good_name {u : Tk} (h : Good u) (hk : u.kind = 1) : NameP u.text := by
  obtain ⟨h0, h1⟩ := h
  unfold pieceS at h1
  have hall : ∀ {p : UInt8 → Bool} {l : List UInt8}, l.take (preN p l) = l → ∀ c ∈ l, p c = true := by
    intro p l e
    refine all_of_preN ?_
    have := congrArg List.length e
    rw [List.length_take] at this
    have := preN_le p l
    omega
  split at h1
  · rename_i hl
    split at h1
    · unfold noPc at h1
      injection h1 with e1
      omega
    · rename_i h30
      split at h1
      · injection h1 with e1
        omega
      · rename_i hw
        injection h1 with e1 e2
        rw [e2] at hw
        refine ⟨h0, hl, hall e2, ?_, hw⟩
        have := congrArg List.length e2
        rw [List.length_take] at this
        have := preN_le innB u.text
        omega
  · split at h1
    · split at h1
      · unfold noPc at h1
        injection h1 with e1
        omega
      · injection h1 with e1
        omega
    · split at h1
      · injection h1 with e1
        omega
      · split at h1
        · injection h1 with e1
          omega
        · unfold noPc at h1
          injection h1 with e1
          omega
theorem numF_dec : ∀ (l : List UInt8) (a : Nat) (n : Int), 0 < a → (∀ c ∈ l, digB c = true) → numF (a : Int) l = (n, 0) → (a : Int) ≤ 2147483647 → 0 ≤ n ∧ n ≤ 2147483647 ∧ Lib.decDigits n.toNat = Lib.decDigits a ++ l
  | [], a, n, _, _, h, ha => by
    rw [numF] at h
    injection h with h _
    subst h
    exact ⟨by omega, ha, by simp⟩
  | c :: l, a, n, h0, hd, h, _ => by
    have hc := digB_t.1 (hd c (List.mem_cons_self ..))
    rw [numF] at h
    split at h
    · injection h with _ h
      cases h
    · rename_i hle
      have e : 10 * (a : Int) + ((c.toNat : Int) - 48) = ((10 * a + (c.toNat - 48) : Nat) : Int) := by omega
      rw [e] at h
      obtain ⟨h1, h2, h3⟩ := numF_dec l (10 * a + (c.toNat - 48)) n (by omega) (fun x hx => hd x (List.mem_cons_of_mem _ hx)) h (by omega)
      refine ⟨h1, h2, ?_⟩
      rw [h3]
      have hbig : ¬ 10 * a + (c.toNat - 48) < 10 := by omega
      rw [Lib.decDigits, dif_neg hbig]
      rw [show (10 * a + (c.toNat - 48)) / 10 = a by omega, show (10 * a + (c.toNat - 48)) % 10 = c.toNat - 48 by omega]
      rw [show UInt8.ofNat (48 + (c.toNat - 48)) = c by rw [show 48 + (c.toNat - 48) = c.toNat by omega]; simp]
      simp
theorem good_number {u : Tk} (h : Good u) (hk : u.kind = 2) : 0 ≤ u.n ∧ u.n ≤ 2147483647 ∧ Lib.itoa u.n = u.text := by
  obtain ⟨h0, h1⟩ := h
  unfold pieceS at h1
  have key : ∀ l : List UInt8, (numS l).2 = 0 → 0 ≤ (numS l).1 ∧ (numS l).1 ≤ 2147483647 ∧ Lib.itoa (numS l).1 = l := by
    intro l hl
    unfold numS at hl ⊢
    split
    · rename_i hc
      rw [if_pos hc] at hl
      cases hl
    · rename_i hc
      rw [if_neg hc] at hl
      have hne : l ≠ [] := fun e => hc (.inl e)
      have hall : ∀ c ∈ l, digB c = true := all_of_preN (Classical.not_not.1 (fun e => hc (.inr (.inl e))))
      cases l with
      | nil => exact absurd rfl hne
      | cons c r =>
        have hcd := digB_t.1 (hall c (List.mem_cons_self ..))
        rw [numF] at hl ⊢
        rw [if_neg (by omega)] at hl ⊢
        have e : 10 * (0 : Int) + ((c.toNat : Int) - 48) = ((c.toNat - 48 : Nat) : Int) := by omega
        rw [e] at hl ⊢
        have hone : Lib.decDigits (c.toNat - 48) = [c] := by
          rw [Lib.decDigits, dif_pos (by omega)]
          rw [show UInt8.ofNat (48 + (c.toNat - 48)) = c by rw [show 48 + (c.toNat - 48) = c.toNat by omega]; simp]
        cases r with
        | nil =>
          rw [numF]
          refine ⟨by simp, by simp only; omega, ?_⟩
          rw [Lib.itoa_nonneg, hone]
        | cons c2 r =>
          have h48 : c.toNat ≠ 48 := fun e => hc (.inr (.inr ⟨by simp, by
            rw [List.head?_cons]
            congr 1
            exact UInt8.toNat_inj.1 e⟩))
          have hh : numF ((c.toNat - 48 : Nat) : Int) (c2 :: r) = ((numF ((c.toNat - 48 : Nat) : Int) (c2 :: r)).1, 0) := by rw [← hl]
          obtain ⟨h1, h2, h3⟩ := numF_dec (c2 :: r) (c.toNat - 48) _ (by omega) (fun x hx => hall x (List.mem_cons_of_mem _ hx)) hh (by omega)
          refine ⟨h1, h2, ?_⟩
          obtain ⟨k, hk⟩ := Int.eq_ofNat_of_zero_le h1
          rw [hk] at h3 ⊢
          rw [Lib.itoa_nonneg]
          rw [Int.toNat_natCast] at h3
          rw [h3, hone]
          rfl
  split at h1
  · split at h1
    · unfold noPc at h1
      injection h1 with e1
      omega
    · split at h1
      · injection h1 with e1
        omega
      · injection h1 with e1
        omega
  · split at h1
    · split at h1
      · unfold noPc at h1
        injection h1 with e1
        omega
      · rename_i hn
        injection h1 with e1 e2 e3
        have := key _ (Classical.not_not.1 hn)
        rw [e3, e2] at this
        exact this
    · split at h1
      · injection h1 with e1
        omega
      · split at h1
        · injection h1 with e1
          omega
        · unfold noPc at h1
          injection h1 with e1
          omega
/-- Numbers that a text tells. -/
def NumP (n : Int) : Prop := -2147483647 ≤ n ∧ n ≤ 2147483647
theorem lexS_tk {l : List UInt8} {ts : List Tk} (h : lexS l = .ok ts) : ∀ t ∈ ts, TkOk NameP NumP t := by
  obtain ⟨us, L, C, rfl, hg, _⟩ := lexS_good h
  intro t ht
  rcases List.mem_append.1 ht with ht | ht
  · refine ⟨fun hk => good_name (hg t ht) hk, fun hk => ?_⟩
    obtain ⟨h1, h2, _⟩ := good_number (hg t ht) hk
    refine ⟨⟨by omega, h2⟩, ?_⟩
    rw [IntWalk.i64_in _ (by omega)]
    exact ⟨by omega, by omega⟩
  · rw [List.mem_singleton.1 ht]
    exact ⟨fun h => (by simp at h), fun h => (by simp at h)⟩
theorem NumP.fit {n : Int} (h : NumP n) : FitN n := ⟨by have := h.1; omega, by have := h.2; omega⟩
theorem NameP.len {s : List UInt8} (h : NameP s) : s.length ≤ 2513169434843 := Nat.le_trans h.2.2.2.1 (by decide)
theorem EvE_fit : ∀ (e : Ex), EvE NameP NumP e → FitE e
  | .num _, h => NumP.fit h
  | .nam _, h => NameP.len h
  | .idx _ e, h => ⟨h.1.len, EvE_fit e h.2⟩
  | .neg e, h => EvE_fit e h
  | .non e, h => EvE_fit e h
  | .bin _ e f, h => ⟨EvE_fit e h.1, EvE_fit f h.2⟩
mutual
theorem EvS.fit : ∀ {s : St}, EvS NameP NumP s → FitS s
  | .mk _ nm _ _ _ _ _, h => by
    rw [EvS] at h
    rw [FitS]
    obtain ⟨h1, h2, h3, h4, h5, h6⟩ := h
    refine ⟨?_, fun e he => EvE_fit e (h2 e he), h3.fit, h4.fit, EvSs.fit h5, EvSs.fit h6⟩
    rcases h1 with h1 | ⟨rfl, _⟩
    · exact h1.len
    · decide
theorem EvSs.fit : ∀ {l : List St}, EvSs NameP NumP l → FitSs l
  | [], _ => by rw [FitSs]; trivial
  | s :: l, h => by
    rw [EvSs] at h
    rw [FitSs]
    exact ⟨EvS.fit h.1, EvSs.fit h.2⟩
end
theorem EvV.fit {v : Va} (h : EvV NameP NumP v) : FitV v := ⟨h.1.len, h.2.1.fit, h.2.2.1.fit, h.2.2.2.fit⟩
theorem EvP.fit {p : Pg} (h : EvP NameP NumP p) : FitP p :=
  ⟨h.nm.len, h.silent.len, h.seats.fit, fun n hn => (h.stakes n hn).fit, fun v hv => (h.vars v hv).fit, fun v hv => (h.params v hv).fit, EvSs.fit h.start, EvSs.fit h.turn, EvSs.fit h.play, EvSs.fit h.quiet, EvSs.fit h.pays⟩
end Go.Proofs.YtdgekckedchjbaaGreatDoor
