
/-
  Journals as lists of entries: last ones, keys, what is cut. No program is named here.
-/
import Derived.Test.YtidppcaohkfnfaaBase
namespace Go.Proofs.Ytidppcaohkfnfaa

structure En where
  kind : Int
  key : List UInt8
  body : List UInt8
def En.pl (e : En) : Int × List UInt8 := (e.kind, e.key)
/-- The last one of a place. -/
def lastE (l : List En) (p : Int × List UInt8) : Option En := l.reverse.find? fun e => decide (e.pl = p)
/-- Of each place the last one. -/
def cutE : List En → List En
  | [] => []
  | e :: r => if (r.any fun x => decide (x.pl = e.pl)) = true then cutE r else e :: cutE r
/-- The keys of a kind, as they came first. -/
def keysE (k : Int) (seen : List (List UInt8)) : List En → List (List UInt8)
  | [] => []
  | e :: r => if e.kind = k ∧ ¬ e.key ∈ seen then e.key :: keysE k (e.key :: seen) r else keysE k seen r
theorem cutE_any (p : Int × List UInt8) : ∀ l : List En, ((cutE l).any fun x => decide (x.pl = p)) = (l.any fun x => decide (x.pl = p))
  | [] => rfl
  | e :: r => by
    have ih := cutE_any p r
    simp only [cutE]
    split
    · rename_i h
      rw [ih, List.any_cons]
      by_cases he : e.pl = p
      · rw [he] at h
        rw [h]
        simp
      · simp [he]
    · rw [List.any_cons, List.any_cons, ih]
theorem cutE_cut : ∀ l : List En, cutE (cutE l) = cutE l
  | [] => rfl
  | e :: r => by
    have ih := cutE_cut r
    by_cases h : (r.any fun x => decide (x.pl = e.pl)) = true
    · simp only [cutE]
      rw [if_pos h]
      exact ih
    · have e1 : cutE (e :: r) = e :: cutE r := by simp only [cutE]; rw [if_neg h]
      rw [e1]
      have h2 : ¬ ((cutE r).any fun x => decide (x.pl = e.pl)) = true := by rw [cutE_any]; exact h
      simp only [cutE]
      rw [if_neg h2, ih]
theorem cutE_len : ∀ l : List En, (cutE l).length ≤ l.length
  | [] => Nat.le_refl _
  | e :: r => by
    have ih := cutE_len r
    simp only [cutE]
    split
    · simp; omega
    · simp; omega
theorem lastE_cons (e : En) (r : List En) (p : Int × List UInt8) : lastE (e :: r) p = (lastE r p).or (if e.pl = p then some e else none) := by
  unfold lastE
  rw [List.reverse_cons, List.find?_append]
  congr 1
  by_cases h : e.pl = p <;> simp [h]
theorem lastE_any {l : List En} {p : Int × List UInt8} : (l.any fun x => decide (x.pl = p)) = (lastE l p).isSome := by
  unfold lastE
  rw [List.isSome_find?, List.any_reverse]
theorem lastE_cut (p : Int × List UInt8) : ∀ l : List En, lastE (cutE l) p = lastE l p
  | [] => rfl
  | e :: r => by
    have ih := lastE_cut p r
    simp only [cutE]
    split
    · rename_i h
      rw [ih, lastE_cons]
      by_cases he : e.pl = p
      · rw [he, lastE_any] at h
        obtain ⟨x, hx⟩ := Option.isSome_iff_exists.1 h
        rw [hx]
        rfl
      · rw [if_neg he, Option.or_none]
    · rw [lastE_cons, lastE_cons, ih]
theorem mem_keysE (k : Int) (x : List UInt8) : ∀ (l : List En) (seen : List (List UInt8)), x ∈ keysE k seen l ↔ (∃ e ∈ l, e.kind = k ∧ e.key = x) ∧ ¬ x ∈ seen
  | [], seen => by simp [keysE]
  | e :: r, seen => by
    simp only [keysE]
    split
    · rename_i h
      rw [List.mem_cons, mem_keysE k x r (e.key :: seen), List.mem_cons]
      constructor
      · rintro (rfl | ⟨⟨a, ha, h1⟩, h2⟩)
        · exact ⟨⟨e, List.mem_cons_self .., h.1, rfl⟩, h.2⟩
        · exact ⟨⟨a, List.mem_cons_of_mem _ ha, h1⟩, fun h3 => h2 (.inr h3)⟩
      · rintro ⟨⟨a, ha, h1⟩, h2⟩
        by_cases hx : x = e.key
        · exact .inl hx
        · rcases List.mem_cons.1 ha with rfl | ha
          · exact absurd h1.2.symm hx
          · exact .inr ⟨⟨a, ha, h1⟩, fun h3 => h3.elim hx h2⟩
    · rename_i h
      rw [mem_keysE k x r seen]
      constructor
      · rintro ⟨⟨a, ha, h1⟩, h2⟩
        exact ⟨⟨a, List.mem_cons_of_mem _ ha, h1⟩, h2⟩
      · rintro ⟨⟨a, ha, h1⟩, h2⟩
        rcases List.mem_cons.1 ha with rfl | ha
        · exact absurd ⟨h1.1, by rw [h1.2]; exact h2⟩ h
        · exact ⟨⟨a, ha, h1⟩, h2⟩
theorem keysE_nodup (k : Int) : ∀ (l : List En) (seen : List (List UInt8)), (keysE k seen l).Nodup
  | [], _ => List.nodup_nil
  | e :: r, seen => by
    simp only [keysE]
    split
    · refine List.nodup_cons.2 ⟨fun h => ?_, keysE_nodup k r _⟩
      exact ((mem_keysE k _ r _).1 h).2 (List.mem_cons_self ..)
    · exact keysE_nodup k r seen
theorem len_le_of_sub {α : Type} [DecidableEq α] : ∀ (a b : List α), a.Nodup → (∀ x ∈ a, x ∈ b) → a.length ≤ b.length
  | [], _, _, _ => by simp
  | x :: a, b, hn, hs => by
    have hx := hs x (List.mem_cons_self ..)
    have h1 := List.nodup_cons.1 hn
    have h2 := len_le_of_sub a (b.erase x) h1.2 (fun y hy => (List.mem_erase_of_ne (fun e => h1.1 (by rw [← e]; exact hy))).2 (hs y (List.mem_cons_of_mem _ hy)))
    have h3 := List.length_erase_of_mem hx
    have h4 := List.length_pos_of_mem hx
    rw [List.length_cons]
    omega
theorem cutE_mem_pl (p : Int × List UInt8) (l : List En) : (∃ e ∈ cutE l, e.pl = p) ↔ ∃ e ∈ l, e.pl = p := by
  have h := cutE_any p l
  constructor
  · rintro ⟨e, he, hp⟩
    have h1 : ((cutE l).any fun x => decide (x.pl = p)) = true := List.any_eq_true.2 ⟨e, he, by simpa using hp⟩
    rw [h] at h1
    obtain ⟨x, hx, h2⟩ := List.any_eq_true.1 h1
    exact ⟨x, hx, by simpa using h2⟩
  · rintro ⟨e, he, hp⟩
    have h1 : (l.any fun x => decide (x.pl = p)) = true := List.any_eq_true.2 ⟨e, he, by simpa using hp⟩
    rw [← h] at h1
    obtain ⟨x, hx, h2⟩ := List.any_eq_true.1 h1
    exact ⟨x, hx, by simpa using h2⟩
theorem keysE_cut (k : Int) (l : List En) : (keysE k [] (cutE l)).length = (keysE k [] l).length := by
  have key : ∀ x, x ∈ keysE k [] (cutE l) ↔ x ∈ keysE k [] l := by
    intro x
    rw [mem_keysE, mem_keysE]
    have h := cutE_mem_pl (k, x) l
    unfold En.pl at h
    simp only [Prod.mk.injEq] at h
    rw [h]
  exact Nat.le_antisymm (len_le_of_sub _ _ (keysE_nodup k _ _) (fun x hx => (key x).1 hx)) (len_le_of_sub _ _ (keysE_nodup k _ _) (fun x hx => (key x).2 hx))
end Go.Proofs.Ytidppcaohkfnfaa
