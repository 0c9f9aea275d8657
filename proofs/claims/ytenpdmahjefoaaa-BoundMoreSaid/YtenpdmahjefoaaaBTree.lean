/-
  Expressions and statements in memory, with their steps. No program is named here.
-/
import Derived.Test.YtenpdmahjefoaaaKept
import Derived.Test.YtenpdmahjefoaaaMapLaws
namespace Go.Proofs.Ytenpdmahjefoaaa
open Go.RowKit

/-- All is counted up to Most and 1. -/
def capT (n : Nat) : Nat := min n 65537
/-- An expression's steps, of its parts'. -/
def costE (op : Int) (ks : List Nat) : Nat := if op = 0 ∨ op = 1 then 1 else if op = 2 then capT (6 + ks.sum) else capT (2 + ks.sum)
/-- How often a loop goes. -/
def rnds (lo hi : Int) : Nat := if lo ≤ hi then min (hi - lo).toNat 65536 + 1 else 0
/-- What a statement has itself, and whether its expressions count. -/
def ownS (kind : Int) : Nat := if kind = 0 then 3 else if kind = 1 then 6 else if kind = 2 then 3 else if kind = 3 then 3 else if kind = 4 then 2 else if kind = 5 then 4 else if kind = 6 then 3 else if kind = 7 then 2 else if kind = 8 then 8 else if kind = 9 then 3 else 1
def partS (kind : Int) : Bool := kind = 0 || kind = 1 || kind = 2 || kind = 6 || kind = 8 || kind = 9
/-- A statement's steps, of its parts'. -/
def costS (kind lo hi : Int) (es ls fs : List Nat) : Nat :=
  capT (ownS kind + (if partS kind then es.sum else 0) + (if kind = 2 then max (capT ls.sum) (capT fs.sum) else if kind = 3 then rnds lo hi * (4 + capT ls.sum) else 0))

/-- A slice of elements of s cells each, each as Q says. -/
def Els (w : World) (B s : Nat) (Q : List Value → Nat → Prop) (A : Option Addr) (len : Nat) (ks : List Nat) : Prop :=
  ∃ xs : List Value, Reads w B s A len xs ∧ len ≤ 9223372036854775807 ∧ ks.length = len ∧ ∀ i (h : i < ks.length), Q ((xs.drop (i * s)).take s) (ks[i]'h)

/-- The k-th element of a slice of elements of s cells. -/
theorem Reads.chunk {w : World} {B s n : Nat} {A : Option Addr} {xs cs : List Value} (h : Reads w B s A n xs) (hs : 0 < s) {k : Nat} (hk : k < n) (hcs : (xs.drop (k * s)).take s = cs) :
    ∃ b o, A = some ⟨b, o, none⟩ ∧ b < B ∧ ∀ j u, cs[j]? = some u → w.cell? ⟨b, o + k * s + j, none⟩ = some u := by
  obtain ⟨ad, rfl, hb, hc⟩ := h.2 (by omega)
  have hlen : k * s + s ≤ xs.length := by
    rw [h.1]
    have h1 : k * s + s = (k + 1) * s := by rw [Nat.add_mul, Nat.one_mul]
    rw [h1]
    exact Nat.mul_le_mul_right _ hk
  have h0 := hc 0 _ (List.getElem?_eq_getElem (by omega))
  obtain ⟨b, o, spot⟩ := ad
  have hspot : spot = none := by simpa [Addr.add] using World.cell?_spot h0
  subst hspot
  refine ⟨b, o, rfl, hb, fun j u hu => ?_⟩
  rw [← hcs, List.getElem?_take] at hu
  split at hu
  · rw [List.getElem?_drop] at hu
    have := hc _ u hu
    rw [Addr.add_lit] at this
    rw [Nat.add_assoc]
    exact this
  · cases hu

theorem Els.keep {w w' : World} {B B' s : Nat} {Q Q' : List Value → Nat → Prop} {A : Option Addr} {len : Nat} {ks : List Nat} (h : Els w B s Q A len ks) (hb : Below B w w') (hB : B ≤ B') (hq : ∀ cs k, Q cs k → Q' cs k) : Els w' B' s Q' A len ks := by
  obtain ⟨xs, h1, h2, h3, h4⟩ := h
  exact ⟨xs, (Reads.below h1 hb).more hB, h2, h3, fun i hi => hq _ _ (h4 i hi)⟩
theorem Els.none_ (w : World) (B s : Nat) (Q : List Value → Nat → Prop) (A : Option Addr) : Els w B s Q A 0 [] := ⟨[], Reads.none_, by omega, rfl, fun i hi => by simp at hi⟩

/-- The cells of an expression of k steps, at most n deep, whose parts lie below B. -/
def EC (w : World) (B : Nat) : Nat → List Value → Nat → Prop
  | 0, _, _ => False
  | n + 1, cs, k => ∃ (op N : Int) (nm : ByteArray) (A : Option Addr) (len cap : Nat) (ks : List Nat),
      cs = [.int .i64 op, .int .i64 N, .string nm, .slice A len cap] ∧ Els w B 4 (EC w B n) A len ks ∧ k = costE op ks
theorem EC.keep {w w' : World} {B B' : Nat} (hb : Below B w w') (hB : B ≤ B') : ∀ (n : Nat) (cs : List Value) (k : Nat), EC w B n cs k → EC w' B' n cs k := by
  intro n
  induction n with
  | zero => intro cs k h; exact h
  | succ n ih =>
    intro cs k h
    obtain ⟨op, N, nm, A, len, cap, ks, h1, h2, h3⟩ := h
    exact ⟨op, N, nm, A, len, cap, ks, h1, h2.keep hb hB ih, h3⟩
theorem EC.deep {w : World} {B : Nat} : ∀ (n : Nat) (cs : List Value) (k : Nat), EC w B n cs k → EC w B (n + 1) cs k := by
  intro n
  induction n with
  | zero => intro cs k h; exact absurd h id
  | succ n ih =>
    intro cs k h
    obtain ⟨op, N, nm, A, len, cap, ks, h1, h2, h3⟩ := h
    exact ⟨op, N, nm, A, len, cap, ks, h1, h2.keep (Below.refl _ _) (Nat.le_refl _) ih, h3⟩
theorem EC.deeper {w : World} {B n m : Nat} (hm : n ≤ m) {cs : List Value} {k : Nat} (h : EC w B n cs k) : EC w B m cs k := by
  obtain ⟨d, rfl⟩ : ∃ d, m = n + d := ⟨m - n, by omega⟩
  induction d with
  | zero => exact h
  | succ d ih => exact EC.deep _ _ _ (ih (by omega))

/-- The cells of a statement of k steps, at most n deep, whose parts lie below B. -/
def SC (w : World) (B : Nat) : Nat → List Value → Nat → Prop
  | 0, _, _ => False
  | n + 1, cs, k => ∃ (kind lo hi : Int) (nm : ByteArray) (A0 A1 A2 : Option Addr) (l0 l1 l2 c0 c1 c2 : Nat) (es ls fs : List Nat),
      cs = [.int .i64 kind, .string nm, .slice A0 l0 c0, .int .i64 lo, .int .i64 hi, .slice A1 l1 c1, .slice A2 l2 c2] ∧
      (-9223372036854775808 ≤ lo ∧ lo ≤ 9223372036854775807 ∧ -9223372036854775808 ≤ hi ∧ hi ≤ 9223372036854775807) ∧
      Els w B 4 (EC w B n) A0 l0 es ∧ Els w B 7 (SC w B n) A1 l1 ls ∧ Els w B 7 (SC w B n) A2 l2 fs ∧ k = costS kind lo hi es ls fs
theorem SC.keep {w w' : World} {B B' : Nat} (hb : Below B w w') (hB : B ≤ B') : ∀ (n : Nat) (cs : List Value) (k : Nat), SC w B n cs k → SC w' B' n cs k := by
  intro n
  induction n with
  | zero => intro cs k h; exact h
  | succ n ih =>
    intro cs k h
    obtain ⟨kind, lo, hi, nm, A0, A1, A2, l0, l1, l2, c0, c1, c2, es, ls, fs, h1, h2, h3, h4, h5, h6⟩ := h
    exact ⟨kind, lo, hi, nm, A0, A1, A2, l0, l1, l2, c0, c1, c2, es, ls, fs, h1, h2, h3.keep hb hB (EC.keep hb hB n), h4.keep hb hB ih, h5.keep hb hB ih, h6⟩
theorem SC.deep {w : World} {B : Nat} : ∀ (n : Nat) (cs : List Value) (k : Nat), SC w B n cs k → SC w B (n + 1) cs k := by
  intro n
  induction n with
  | zero => intro cs k h; exact absurd h id
  | succ n ih =>
    intro cs k h
    obtain ⟨kind, lo, hi, nm, A0, A1, A2, l0, l1, l2, c0, c1, c2, es, ls, fs, h1, h2, h3, h4, h5, h6⟩ := h
    exact ⟨kind, lo, hi, nm, A0, A1, A2, l0, l1, l2, c0, c1, c2, es, ls, fs, h1, h2, h3.keep (Below.refl _ _) (Nat.le_refl _) (EC.deep n), h4.keep (Below.refl _ _) (Nat.le_refl _) ih, h5.keep (Below.refl _ _) (Nat.le_refl _) ih, h6⟩
theorem SC.deeper {w : World} {B n m : Nat} (hm : n ≤ m) {cs : List Value} {k : Nat} (h : SC w B n cs k) : SC w B m cs k := by
  obtain ⟨d, rfl⟩ : ∃ d, m = n + d := ⟨m - n, by omega⟩
  induction d with
  | zero => exact h
  | succ d ih => exact SC.deep _ _ _ (ih (by omega))

theorem capT_le (n : Nat) : capT n ≤ 65537 := Nat.min_le_right _ _
theorem capT_add (n m : Nat) : capT (capT n + m) = capT (n + m) := by unfold capT; omega
theorem capT_cap (n : Nat) : capT (capT n) = capT n := by unfold capT; omega
theorem capT_full {n m : Nat} (h : 65536 < capT n) : capT (n + m) = capT n := by unfold capT at *; omega
theorem capT_small {n : Nat} (h : n ≤ 65537) : capT n = n := by unfold capT; omega
theorem costE_le (op : Int) (ks : List Nat) : costE op ks ≤ 65537 := by
  unfold costE
  split
  · omega
  · split <;> exact capT_le _
theorem costS_le (kind lo hi : Int) (es ls fs : List Nat) : costS kind lo hi es ls fs ≤ 65537 := capT_le _
theorem EC_le {w : World} {B n : Nat} {cs : List Value} {k : Nat} (h : EC w B n cs k) : k ≤ 65537 := by
  cases n with
  | zero => exact absurd h (fun h => h)
  | succ n =>
    obtain ⟨_, _, _, _, _, _, _, _, _, rfl⟩ := h
    exact costE_le _ _
theorem SC_le {w : World} {B n : Nat} {cs : List Value} {k : Nat} (h : SC w B n cs k) : k ≤ 65537 := by
  cases n with
  | zero => exact absurd h (fun h => h)
  | succ n =>
    obtain ⟨_, _, _, _, _, _, _, _, _, _, _, _, _, _, _, _, _, _, _, _, _, rfl⟩ := h
    exact costS_le _ _ _ _ _ _
theorem EC_form {w : World} {B n : Nat} {cs : List Value} {k : Nat} (h : EC w B n cs k) : ∃ (op N : Int) (nm : ByteArray) (A : Option Addr) (len cap : Nat), cs = [.int .i64 op, .int .i64 N, .string nm, .slice A len cap] := by
  cases n with
  | zero => exact absurd h (fun h => h)
  | succ n =>
    obtain ⟨op, N, nm, A, len, cap, _, h1, _⟩ := h
    exact ⟨op, N, nm, A, len, cap, h1⟩
theorem SC_form {w : World} {B n : Nat} {cs : List Value} {k : Nat} (h : SC w B n cs k) : ∃ (kind lo hi : Int) (nm : ByteArray) (A0 A1 A2 : Option Addr) (l0 l1 l2 c0 c1 c2 : Nat),
    cs = [.int .i64 kind, .string nm, .slice A0 l0 c0, .int .i64 lo, .int .i64 hi, .slice A1 l1 c1, .slice A2 l2 c2] := by
  cases n with
  | zero => exact absurd h (fun h => h)
  | succ n =>
    obtain ⟨kind, lo, hi, nm, A0, A1, A2, l0, l1, l2, c0, c1, c2, _, _, _, h1, _⟩ := h
    exact ⟨kind, lo, hi, nm, A0, A1, A2, l0, l1, l2, c0, c1, c2, h1⟩
theorem sum_take_succ (ks : List Nat) (i : Nat) (h : i < ks.length) : (ks.take (i + 1)).sum = (ks.take i).sum + ks[i] := by
  rw [List.take_succ_eq_append_getElem h, List.sum_append]; simp
theorem sum_take_le (ks : List Nat) (i : Nat) : (ks.take i).sum ≤ ks.sum := by
  conv => rhs; rw [← List.take_append_drop i ks]
  rw [List.sum_append]
  omega
theorem capT_stop {ks : List Nat} {n0 i : Nat} (h : 65536 < capT (n0 + (ks.take i).sum)) : capT (n0 + (ks.take i).sum) = capT (n0 + ks.sum) := by
  have := sum_take_le ks i
  unfold capT at *
  omega
theorem MapIs.ne_blk {w : World} {r b : Nat} {es : Array MapEntry} {c : Nat} {t : TypeId} {cs : Array Value} (h : MapIs w r es c) (hb : Blk w b t cs) : r ≠ b := by
  rintro rfl
  unfold MapIs at h
  unfold Blk at hb
  rw [h] at hb
  cases hb
end Go.Proofs.Ytenpdmahjefoaaa
