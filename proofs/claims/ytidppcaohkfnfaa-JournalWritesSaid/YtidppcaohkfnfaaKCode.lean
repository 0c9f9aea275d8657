
/-
  The bytes of entries are a prefix code. No program is named here.
-/
import Derived.Test.YtidppcaohkfnfaaNum
import Derived.Test.YtidppcaohkfnfaaKLaw
namespace Go.Proofs.Ytidppcaohkfnfaa

theorem ofNat_toNat {n : Nat} (h : n < 256) : (UInt8.ofNat n).toNat = n := by
  rw [UInt8.toNat_ofNat']
  omega
theorem num_inj : ∀ (k n m : Nat) (r s : List UInt8), n ≤ k → num n ++ r = num m ++ s → n = m ∧ r = s
  | k, n, m, r, s, hk, h => by
    by_cases hn : n < 128
    · rw [num_small hn] at h
      by_cases hm : m < 128
      · rw [num_small hm] at h
        simp only [List.cons_append, List.nil_append, List.cons.injEq] at h
        have h1 := congrArg UInt8.toNat h.1
        rw [ofNat_toNat (by omega), ofNat_toNat (by omega)] at h1
        exact ⟨h1, h.2⟩
      · rw [num_big (by omega)] at h
        simp only [List.cons_append, List.nil_append, List.cons.injEq] at h
        have h1 := congrArg UInt8.toNat h.1
        rw [ofNat_toNat (by omega), ofNat_toNat (by omega)] at h1
        omega
    · rw [num_big (by omega : 128 ≤ n)] at h
      by_cases hm : m < 128
      · rw [num_small hm] at h
        simp only [List.cons_append, List.nil_append, List.cons.injEq] at h
        have h1 := congrArg UInt8.toNat h.1
        rw [ofNat_toNat (by omega), ofNat_toNat (by omega)] at h1
        omega
      · rw [num_big (by omega : 128 ≤ m)] at h
        simp only [List.cons_append, List.cons.injEq] at h
        have h1 := congrArg UInt8.toNat h.1
        rw [ofNat_toNat (by omega), ofNat_toNat (by omega)] at h1
        obtain ⟨k, rfl⟩ : ∃ j, k = j + 1 := ⟨k - 1, by omega⟩
        obtain ⟨h2, h3⟩ := num_inj k (n / 128) (m / 128) r s (by omega) h.2
        exact ⟨by omega, h3⟩
/-- Bytes with how many they are ahead. -/
def lenB (x : List UInt8) : List UInt8 := num x.length ++ x
theorem lenB_inj {x y r s : List UInt8} (h : lenB x ++ r = lenB y ++ s) : x = y ∧ r = s := by
  unfold lenB at h
  rw [List.append_assoc, List.append_assoc] at h
  obtain ⟨h1, h2⟩ := num_inj _ _ _ _ _ (Nat.le_refl _) h
  exact List.append_inj h2 h1
/-- What an entry's digest is of. -/
def headB (e : En) : List UInt8 := num e.kind.toNat ++ (lenB e.key ++ lenB e.body)
/-- An entry's bytes; D: the digest. -/
def entryB (D : List UInt8 → List UInt8) (e : En) : List UInt8 := headB e ++ D (headB e)
theorem entryB_inj {D : List UInt8 → List UInt8} (hD : ∀ l, (D l).length = 8) {e f : En} (he : 0 ≤ e.kind) (hf : 0 ≤ f.kind) {r s : List UInt8} (h : entryB D e ++ r = entryB D f ++ s) : e = f ∧ r = s := by
  unfold entryB headB at h
  simp only [List.append_assoc] at h
  obtain ⟨h1, h2⟩ := num_inj _ _ _ _ _ (Nat.le_refl _) h
  obtain ⟨h3, h4⟩ := lenB_inj h2
  obtain ⟨h5, h6⟩ := lenB_inj h4
  have hk : e.kind = f.kind := by omega
  have hef : e = f := by
    cases e
    cases f
    simp_all
  subst hef
  exact ⟨rfl, (List.append_inj h6 (by rw [hD])).2⟩
theorem entryB_pos {D : List UInt8 → List UInt8} (e : En) : entryB D e ≠ [] := by
  have := num_pos e.kind.toNat
  intro h
  have h1 := congrArg List.length h
  unfold entryB headB at h1
  simp only [List.length_append, List.length_nil] at h1
  omega
def allB (D : List UInt8 → List UInt8) (l : List En) : List UInt8 := l.flatMap (entryB D)
theorem allB_inj {D : List UInt8 → List UInt8} (hD : ∀ l, (D l).length = 8) : ∀ (l m : List En), (∀ e ∈ l, 0 ≤ e.kind) → (∀ e ∈ m, 0 ≤ e.kind) → allB D l = allB D m → l = m
  | [], [], _, _, _ => rfl
  | [], f :: m, _, _, h => by
    have := entryB_pos (D := D) f
    simp [allB] at h
    exact absurd h.1 this
  | e :: l, [], _, _, h => by
    have := entryB_pos (D := D) e
    simp [allB] at h
    exact absurd h.1 this
  | e :: l, f :: m, hl, hm, h => by
    have h1 : entryB D e ++ allB D l = entryB D f ++ allB D m := h
    obtain ⟨rfl, h2⟩ := entryB_inj hD (hl e (List.mem_cons_self ..)) (hm f (List.mem_cons_self ..)) h1
    rw [allB_inj hD l m (fun x hx => hl x (List.mem_cons_of_mem _ hx)) (fun x hx => hm x (List.mem_cons_of_mem _ hx)) h2]
end Go.Proofs.Ytidppcaohkfnfaa
