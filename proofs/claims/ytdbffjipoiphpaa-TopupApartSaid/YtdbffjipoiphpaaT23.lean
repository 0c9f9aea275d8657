/-
  package topup: how far a raise has come; the plain law of TopupAll and TopupOrder.
-/
import Derived.Test.YtdbffjipoiphpaaT18
namespace Go.Proofs.Ytdbffjipoiphpaa
open Go.RowKit

/-- Stakes and adds of 16 bits. -/
structure RsOk (s a : List Int) : Prop where
  len : a.length = s.length
  two : 2 ≤ s.length
  few : s.length ≤ 8
  sr : ∀ x ∈ s, 0 ≤ x ∧ x ≤ 65535
  ar : ∀ x ∈ a, 0 ≤ x ∧ x ≤ 65535

theorem right16 {x : Int} (h : 0 ≤ x ∧ x ≤ 65535) : rightB x = true := rightB_iff.2 ⟨h.1, by omega⟩
theorem sum16 {l : List Int} (h : ∀ x ∈ l, 0 ≤ x ∧ x ≤ 65535) : 0 ≤ l.sum ∧ l.sum ≤ l.length * 65535 := by
  induction l with
  | nil => simp
  | cons x xs ih =>
    have h1 := h x (by simp)
    have h2 := ih (fun y hy => h y (by simp [hy]))
    simp only [List.sum_cons, List.length_cons]
    omega
theorem sum_pos {l : List Int} (h : ∀ x ∈ l, 0 ≤ x) (hs : 0 < l.sum) : ∃ i, i < l.length ∧ l.getD i 0 ≠ 0 := by
  induction l with
  | nil => simp at hs
  | cons x xs ih =>
    by_cases hx : x = 0
    · subst hx
      obtain ⟨i, h1, h2⟩ := ih (fun y hy => h y (by simp [hy])) (by simpa using hs)
      exact ⟨i + 1, by simpa using h1, by simpa using h2⟩
    · exact ⟨0, by simp, by simpa using hx⟩

def tab0 : List Int := [0, 0, 0, 0, 0, 0, 0, 0]
def rsB (s a : List Int) : Bk := askB ⟨s, -1, none⟩ tab0 5 a 100

theorem rs_new {s : List Int} (h2 : 2 ≤ s.length) (h8 : s.length ≤ 8) (hs : ∀ x ∈ s, 0 ≤ x ∧ x ≤ 65535) : newOk s :=
  ⟨h2, h8, fun x hx => right16 (hs x hx), by have := (sum16 hs).2; omega⟩
theorem rs_notnew {s : List Int} (h2 : s.length < 2) : ¬ newOk s := fun h => by have := h.1; omega

theorem rs_list {s a : List Int} (h : RsOk s a) : askL ⟨s, -1, none⟩ 50 5 a 100 = [0, 0, 0, 0, 0, 0, un (decide (0 < a.sum)) 1, 0] := by
  have ht : totR 0 a = (a.sum, true) := by rw [totR_all _ (fun x hx => right16 (h.ar x hx)), Int.zero_add]
  have h1 := sum16 h.sr
  have h2 := sum16 h.ar
  have h3 := h.few
  have h4 := h.len
  have hr : rightB (s.sum + a.sum) = true := rightB_iff.2 ⟨by omega, by omega⟩
  unfold askL
  rw [ht]
  have e1 : hts 50 5 100 = true := by decide
  have e2 : decide (a.length = s.length) = true := by simpa using h4
  have e3 : decide ((-1 : Int) < 5) = true := by decide
  have e4 : decide ((50 : Int) ≤ 100) = true := by decide
  have e5 : freeB ⟨s, -1, none⟩ 50 = true := rfl
  simp only [e1, e2, e3, e4, e5, hr]
  rfl
theorem rs_yes {s a : List Int} (h : RsOk s a) (hs : 0 < a.sum) : askE ⟨s, -1, none⟩ 50 5 a 100 = 0 := by
  unfold askE
  rw [rs_list h, decide_eq_true hs]
  rfl
theorem rs_no {s a : List Int} (h : RsOk s a) (hs : ¬ 0 < a.sum) : askE ⟨s, -1, none⟩ 50 5 a 100 = 1 := by
  unfold askE
  rw [rs_list h, decide_eq_false hs]
  rfl

/-- A bank whose raise waits; who has laid. -/
def rsW (s a : List Int) (L : List Bool) : Bk := ⟨s, 5, some ⟨tab0, 5, a, 100, L⟩⟩
/-- A bank whose raise is done. -/
def rsD (s a : List Int) : Bk := ⟨List.zipWith (· + ·) s a, 5, none⟩
/-- It waits: who has nothing to lay and those in V have laid, and somebody hasn't. -/
structure Waits (s a : List Int) (V : Nat → Bool) (L : List Bool) : Prop where
  len : L.length = 8
  laid : ∀ i, i < s.length → L.getD i false = (a.getD i 0 == 0 || V i)
  lacks : ∃ i, i < s.length ∧ L.getD i false = false
/-- How far it has come. -/
def PS (s a : List Int) (V : Nat → Bool) (b : Bk) : Prop :=
  (∃ L, b = rsW s a L ∧ Waits s a V L) ∨ (b = rsD s a ∧ ∀ i, i < s.length → (a.getD i 0 == 0 || V i) = true)

theorem laidTo_getD (a : List Int) (i : Nat) (h : i < a.length) : (laidTo a a.length).getD i false = (a.getD i 0 == 0) := by
  unfold laidTo
  simp only [List.getD_eq_getElem?_getD]
  rw [List.getElem?_append_left (by simpa using h)]
  simp [h]
theorem PS_start {s a : List Int} (h : RsOk s a) (hs : 0 < a.sum) : PS s a (fun _ => false) (rsB s a) := by
  refine .inl ⟨laidTo a a.length, rfl, ⟨laidTo_len a (by have := h.len; have := h.few; omega) _ (Nat.le_refl _), fun i hi => ?_, ?_⟩⟩
  · rw [laidTo_getD a i (by have := h.len; omega), Bool.or_false]
  · obtain ⟨i, h1, h2⟩ := sum_pos (fun x hx => (h.ar x hx).1) hs
    exact ⟨i, by have := h.len; omega, by rw [laidTo_getD a i h1]; simpa using h2⟩

theorem asked_w {s a : List Int} {L : List Bool} {i : Nat} (hi : i < s.length) : askedE (rsW s a L) 60 i = 0 := by
  have e1 : (rsW s a L).wt.isSome = true := rfl
  have e2 : seatE (i : Int) (rsW s a L).stakes.length = 0 := by
    have : (rsW s a L).stakes.length = s.length := rfl
    simp [seatE, un, this, hi]
  unfold askedE
  rw [e1, e2]
  decide
theorem put_w {s a : List Int} {L : List Bool} {i : Nat} (hi : i < s.length) (amt : Int) : putE (rsW s a L) 60 i amt = if L.getD i false then 7 else if amt = a.getD i 0 then 0 else 22 := by
  unfold putE putL
  rw [asked_w hi]
  have e1 : ((rsW s a L).wt.getD noW) = ⟨tab0, 5, a, 100, L⟩ := rfl
  rw [e1]
  simp only [Int.toNat_natCast]
  have e2 : un (!decide ((100 : Int) < 60)) 19 = 0 := by decide
  rw [e2]
  cases L.getD i false
  · by_cases hq : amt = a.getD i 0
    · have : (amt == a.getD i 0) = true := by simpa using hq
      rw [this, if_neg (by simp), if_pos hq]; decide
    · have : (amt == a.getD i 0) = false := by simpa using hq
      rw [this, if_neg (by simp), if_neg hq]; decide
  · rw [if_pos rfl]; rfl
theorem put_d {s a : List Int} (i amt : Int) : putE (rsD s a) 60 i amt = 9 := rfl

/-- One more has laid. -/
def upd (V : Nat → Bool) (i : Nat) : Nat → Bool := fun j => V j || j == i
theorem full_iff {s a : List Int} {L : List Bool} (h : RsOk s a) (hl : L.length = 8) : fullW ⟨tab0, 5, a, 100, L⟩ = true ↔ ∀ i, i < s.length → L.getD i false = true := by
  unfold fullW
  simp only [List.all_eq_true, id]
  constructor
  · intro hh i hi
    refine hh _ ?_
    have h8 := h.few
    have hla := h.len
    rw [List.mem_iff_getElem?]
    exact ⟨i, by rw [List.getElem?_take, if_pos (by omega), List.getD_eq_getElem?_getD, List.getElem?_eq_getElem (by omega)]; rfl⟩
  · intro hh x hx
    obtain ⟨i, hi⟩ := List.mem_iff_getElem?.1 hx
    rw [List.getElem?_take] at hi
    split at hi
    · have := hh i (by have := h.len; omega)
      rw [List.getD_eq_getElem?_getD, hi] at this
      exact this
    · cases hi
theorem set_getD (L : List Bool) (i j : Nat) (hi : i < L.length) : (L.set i true).getD j false = (L.getD j false || j == i) := by
  simp only [List.getD_eq_getElem?_getD, List.getElem?_set]
  by_cases h : i = j
  · subst h; simp [hi]
  · rw [if_neg h]
    have : (j == i) = false := by simp; omega
    rw [this, Bool.or_false]

theorem PS_skip {s a : List Int} {V : Nat → Bool} {b : Bk} {i : Nat} (h : PS s a V b) (hs : a.getD i 0 = 0 ∨ V i = true) : PS s a (upd V i) b := by
  have key : ∀ j, (a.getD j 0 == 0 || upd V i j) = (a.getD j 0 == 0 || V j) := by
    intro j
    unfold upd
    by_cases hj : j = i
    · subst hj
      rcases hs with hs | hs
      · rw [hs]; rfl
      · rw [hs]; simp
    · have : (j == i) = false := by simpa using hj
      rw [this, Bool.or_false]
  rcases h with ⟨L, rfl, hw⟩ | ⟨rfl, hd⟩
  · exact .inl ⟨L, rfl, hw.len, fun j hj => by rw [key]; exact hw.laid j hj, hw.lacks⟩
  · exact .inr ⟨rfl, fun j hj => by rw [key]; exact hd j hj⟩
theorem PS_put {s a : List Int} {V : Nat → Bool} {L : List Bool} {i : Nat} (hok : RsOk s a) (hw : Waits s a V L) (hi : i < s.length) : PS s a (upd V i) (putB (rsW s a L) i) := by
  have h8 := hok.few
  have hl := hw.len
  have hL : (L.set i true).length = 8 := by simpa using hl
  have hg : ∀ j, j < s.length → (L.set i true).getD j false = (a.getD j 0 == 0 || upd V i j) := fun j hj => by
    rw [set_getD L i j (by omega), hw.laid j hj]
    unfold upd
    rw [Bool.or_assoc]
  by_cases hf : fullW ⟨tab0, 5, a, 100, L.set i true⟩ = true
  · have hb : putB (rsW s a L) i = rsD s a := by
      show (if fullW ⟨tab0, 5, a, 100, L.set i true⟩ then _ else _) = _
      rw [if_pos hf]
      rfl
    rw [hb]
    exact .inr ⟨rfl, fun j hj => by rw [← hg j hj]; exact (full_iff hok hL).1 hf j hj⟩
  · have hb : putB (rsW s a L) i = rsW s a (L.set i true) := by
      show (if fullW ⟨tab0, 5, a, 100, L.set i true⟩ then _ else _) = _
      rw [if_neg hf]
      rfl
    rw [hb]
    refine .inl ⟨_, rfl, hL, hg, ?_⟩
    apply Classical.byContradiction
    intro hn
    exact hf ((full_iff hok hL).2 fun j hj => by
      cases hq : (L.set i true).getD j false
      · exact absurd ⟨j, hj, hq⟩ hn
      · rfl)

/-- How many have yet to lay, of the first n. -/
def cnt (a : List Int) (V : Nat → Bool) (n : Nat) : Nat := (List.range n).countP fun i => !(a.getD i 0 == 0 || V i)
theorem cnt_succ (a : List Int) (V : Nat → Bool) (n : Nat) : cnt a V (n + 1) = cnt a V n + (if (a.getD n 0 == 0 || V n) then 0 else 1) := by
  unfold cnt
  rw [List.range_succ, List.countP_append, List.countP_singleton]
  cases (a.getD n 0 == 0 || V n) <;> rfl
theorem cnt_le (a : List Int) (V : Nat → Bool) (n : Nat) : cnt a V n ≤ n := by
  have := List.countP_le_length (p := fun i => !(a.getD i 0 == 0 || V i)) (l := List.range n)
  simpa [cnt] using this
theorem cnt_upd (a : List Int) (V : Nat → Bool) (i : Nat) : ∀ n, cnt a V n = cnt a (upd V i) n + (if i < n ∧ (a.getD i 0 == 0 || V i) = false then 1 else 0) := by
  intro n
  induction n with
  | zero => simp [cnt]
  | succ n ih =>
    rw [cnt_succ, cnt_succ, ih]
    by_cases hn : n = i
    · subst hn
      have e : (a.getD n 0 == 0 || upd V n n) = true := by simp [upd]
      rw [e, if_neg (fun h : n < n ∧ _ => by have := h.1; omega), if_pos rfl]
      cases (a.getD n 0 == 0 || V n)
      · rw [if_neg (by simp), if_pos ⟨by omega, rfl⟩]
      · rw [if_pos rfl, if_neg (fun h : n < n + 1 ∧ true = false => by cases h.2)]
    · have e : (a.getD n 0 == 0 || upd V i n) = (a.getD n 0 == 0 || V n) := by
        have : (n == i) = false := by simpa using hn
        unfold upd
        rw [this, Bool.or_false]
      rw [e]
      by_cases hi : i < n ∧ (a.getD i 0 == 0 || V i) = false
      · have hi' : i < n + 1 ∧ (a.getD i 0 == 0 || V i) = false := ⟨by have := hi.1; omega, hi.2⟩
        rw [if_pos hi, if_pos hi']
        omega
      · rw [if_neg hi, if_neg (fun h : i < n + 1 ∧ _ => hi ⟨by have := h.1; omega, h.2⟩)]
        omega
theorem cnt_zero {a : List Int} {V : Nat → Bool} {n : Nat} : cnt a V n = 0 ↔ ∀ i, i < n → (a.getD i 0 == 0 || V i) = true := by
  unfold cnt
  rw [List.countP_eq_zero]
  constructor
  · intro h i hi
    have h1 := h i (by simpa using hi)
    cases hq : (a.getD i 0 == 0 || V i)
    · rw [hq] at h1; exact absurd rfl h1
    · rfl
  · intro h i hi
    rw [h i (by simpa using hi)]
    simp
theorem PS_waits {s a : List Int} {V : Nat → Bool} {b : Bk} (h : PS s a V b) (hc : 0 < cnt a V s.length) : ∃ L, b = rsW s a L ∧ Waits s a V L := by
  rcases h with h | ⟨_, h⟩
  · exact h
  · have := cnt_zero.2 h
    omega
theorem PS_done {s a : List Int} {V : Nat → Bool} {b : Bk} (h : PS s a V b) (hc : cnt a V s.length = 0) : b = rsD s a := by
  rcases h with ⟨L, _, hw⟩ | ⟨h, _⟩
  · obtain ⟨i, h1, h2⟩ := hw.lacks
    rw [hw.laid i h1, cnt_zero.1 hc i h1] at h2
    cases h2
  · exact h
end Go.Proofs.Ytdbffjipoiphpaa
