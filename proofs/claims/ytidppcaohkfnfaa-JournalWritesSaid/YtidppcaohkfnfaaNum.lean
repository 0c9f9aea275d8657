
/-
  A number's bytes, in plain Lean: seven bits each, the lowest first. No program is named here.
-/
namespace Go.Proofs.Ytidppcaohkfnfaa

def numF : Nat → Nat → List UInt8
  | 0, n => [UInt8.ofNat n]
  | f + 1, n => if n < 128 then [UInt8.ofNat n] else UInt8.ofNat (n % 128 + 128) :: numF f (n / 128)
/-- A number's bytes. -/
def num (n : Nat) : List UInt8 := numF n n

theorem numF_eq : ∀ (f g n : Nat), n ≤ f → n ≤ g → numF f n = numF g n := by
  intro f
  induction f with
  | zero =>
    intro g n hf hg
    have : n = 0 := by omega
    subst this
    cases g <;> simp [numF]
  | succ f ih =>
    intro g n hf hg
    cases g with
    | zero =>
      have : n = 0 := by omega
      subst this
      simp [numF]
    | succ g =>
      unfold numF
      split
      · rfl
      · rw [ih g (n / 128) (by omega) (by omega)]

theorem num_small {n : Nat} (h : n < 128) : num n = [UInt8.ofNat n] := by
  unfold num
  cases n with
  | zero => rfl
  | succ n => simp [numF, h]

theorem num_big {n : Nat} (h : 128 ≤ n) : num n = UInt8.ofNat (n % 128 + 128) :: num (n / 128) := by
  unfold num
  cases n with
  | zero => omega
  | succ n =>
    rw [numF, if_neg (by omega), numF_eq n ((n + 1) / 128) _ (by omega) (by omega)]

theorem num_pos (n : Nat) : 1 ≤ (num n).length := by
  by_cases h : n < 128
  · rw [num_small h]; simp
  · rw [num_big (by omega)]; simp

theorem num_le (k : Nat) : ∀ n, n < 128 ^ (k + 1) → (num n).length ≤ k + 1 := by
  induction k with
  | zero => intro n h; rw [num_small (by omega)]; simp
  | succ k ih =>
    intro n h
    by_cases hs : n < 128
    · rw [num_small hs]; simp
    · rw [num_big (by omega)]
      have := ih (n / 128) (by rw [Nat.div_lt_iff_lt_mul (by omega)]; rw [Nat.pow_succ] at h; exact h)
      simp only [List.length_cons]
      omega

theorem num_le10 {n : Nat} (h : n < 18446744073709551616) : (num n).length ≤ 10 :=
  num_le 9 n (by omega)

/-- A greater number has no fewer bytes. -/
theorem num_mono : ∀ (n m : Nat), n ≤ m → (num n).length ≤ (num m).length := by
  intro n
  induction n using Nat.strongRecOn with
  | ind n ih =>
    intro m hm
    by_cases h : n < 128
    · rw [num_small h]; exact num_pos m
    · rw [num_big (by omega), num_big (n := m) (by omega)]
      have := ih (n / 128) (by omega) (m / 128) (Nat.div_le_div_right hm)
      simp only [List.length_cons]
      omega
end Go.Proofs.Ytidppcaohkfnfaa
