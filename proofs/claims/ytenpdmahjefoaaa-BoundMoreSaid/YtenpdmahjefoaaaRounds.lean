/-
  Halvings: bound.Rounds and the reference's.
-/
import Derived.Test.YtenpdmahjefoaaaBShelf
import Derived.Test.YtenpdmahjefoaaaKept
namespace Go.Proofs.Ytenpdmahjefoaaa
open Go.RowKit

/-- How many halvings lead from so many steps to one. -/
def rounds (n : Int) : Nat := if n ≤ 1 then 0 else min (Lib.bitLen (n - 1).toNat) 62

set_option maxHeartbeats 400000 in
set_option maxRecDepth 100000 in
theorem rounds_any (n : Int) (w : World) (h1 : -9223372036854775808 ≤ n) (h2 : n ≤ 9223372036854775807) :
    Calls Try.prog 8 #[.int .i64 n] w fun e w' => e = .returned (.int .i64 (rounds n)) ∧ w = w' := by
  by_cases h : n ≤ 1
  · have HR : Hid (rounds n = 0) := by rw [Hid, rounds, if_pos h]
    go_enter Try.func8, Try.ntmps8
    go_wp2_with fail
    go_ret
    rw [HR.out]
    exact ⟨rfl, rfl⟩
  · have HR : Hid (rounds n = min (Lib.bitLen (n - 1).toNat) 62) := by rw [Hid, rounds, if_neg h]
    go_enter Try.func8, Try.ntmps8
    go_wp2_with fail
    refine (Try.bits_Len64 (n - 1) w (by omega) (by omega)).mono ?_
    rintro e w' ⟨rfl, rfl⟩
    generalize Lib.bitLen (n - 1).toNat = bl at HR ⊢
    by_cases hb : bl ≤ 62
    · go_wp2_with fail
      go_ret
      rw [HR.out, Nat.min_eq_left hb]
      exact ⟨ret_int (by omega), rfl⟩
    · go_wp2_with fail
      go_ret
      rw [HR.out, Nat.min_eq_right (by omega)]
      exact ⟨ret_int (by omega), rfl⟩

/-- A number has k bits just where it lies between two powers. -/
theorem bitLen_pow : ∀ (k x : Nat), x < 2 ^ 64 → 2 ^ k ≤ x → x < 2 ^ (k + 1) → Lib.bitLen x = k + 1 := by
  intro k
  induction k with
  | zero =>
    intro x h64 h1 h2
    have : x = 1 := by omega
    subst this
    decide
  | succ k ih =>
    intro x h64 h1 h2
    have hp : 1 ≤ 2 ^ k := Nat.one_le_two_pow
    rw [Nat.pow_succ] at h1 h2
    rw [Lib.bitLen_half x (by omega) h64, ih (x / 2) (by omega) (by omega) (by omega)]
    omega

theorem rounds_of (n : Int) (k : Nat) (h2 : n ≤ 9223372036854775807) (hk : k ≤ 62) (hlo : k = 0 ∨ (2 : Int) ^ (k - 1) < n) (hhi : n ≤ 2 ^ k ∨ k = 62) : rounds n = k := by
  rcases Nat.eq_zero_or_pos k with hk0 | hk0
  · subst hk0
    have : n ≤ 1 := by rcases hhi with h | h <;> omega
    rw [rounds, if_pos this]
  · obtain ⟨j, rfl⟩ : ∃ j, k = j + 1 := ⟨k - 1, by omega⟩
    have hlo' : (2 : Int) ^ j < n := by rcases hlo with h | h; omega; simpa using h
    have hp : (1 : Nat) ≤ 2 ^ j := Nat.one_le_two_pow
    have hc : (2 : Int) ^ j = ((2 ^ j : Nat) : Int) := by simp
    rw [hc] at hlo'
    have hn1 : ¬ n ≤ 1 := by omega
    rw [rounds, if_neg hn1]
    have h64 : (n - 1).toNat < 2 ^ 64 := by omega
    by_cases hle : n ≤ 2 ^ (j + 1)
    · have hc2 : (2 : Int) ^ (j + 1) = ((2 ^ (j + 1) : Nat) : Int) := by simp
      rw [hc2] at hle
      have hpp : (2 : Nat) ^ (j + 1) = 2 * 2 ^ j := by rw [Nat.pow_succ]; omega
      rw [bitLen_pow j (n - 1).toNat h64 (by omega) (by omega)]
      omega
    · have hj : j = 61 := by rcases hhi with h | h; exact absurd h hle; omega
      subst hj
      rw [bitLen_pow 62 (n - 1).toNat h64 (by omega) (by omega)]
      rfl

set_option maxHeartbeats 400000 in
set_option maxRecDepth 100000 in
theorem refRounds_any (n : Int) (w : World) (h2 : n ≤ 9223372036854775807) :
    Calls Try.prog 9 #[.int .i64 n] w fun e w' => e = .returned (.int .i64 (rounds n)) ∧ w = w' := by
  go_enter Try.func9, Try.ntmps9
  go_wp2
  go_loop [3, 4] (fun r p => ∃ (k : Nat) (q : Int), k ≤ 62 ∧ r = .int .i64 k ∧ p = .int .i64 q ∧ 1 ≤ q ∧ q ≤ 4611686018427387904 ∧ Hid (q = 2 ^ k) ∧ Hid (k = 0 ∨ (2 : Int) ^ (k - 1) < n)) (fun r _ => 62 - (intOf r).toNat)
  case atStart => exact ⟨0, 1, by omega, rfl, rfl, by omega, by omega, rfl, .inl rfl⟩
  case round =>
    obtain ⟨k, q, hk, rfl, rfl, hq1, hq2, HQ, HL⟩ := hrel
    by_cases hlt : q < n
    · by_cases hk62 : k < 62
      · have HN : Hid (2 * q = 2 ^ (k + 1)) := by rw [Hid, HQ.out, Int.pow_succ]; omega
        have hq3 : 2 * q ≤ 4611686018427387904 := by
          have h3 : (2 : Nat) ^ (k + 1) ≤ 2 ^ 62 := Nat.pow_le_pow_right (by omega) (by omega)
          have h4 : (2 : Int) ^ (k + 1) = ((2 ^ (k + 1) : Nat) : Int) := by simp
          rw [HN.out, h4]; omega
        have HL' : Hid (k + 1 = 0 ∨ (2 : Int) ^ (k + 1 - 1) < n) := .inr (by rw [Nat.add_sub_cancel, ← HQ.out]; exact hlt)
        go_wp2
        go_round
        case rel => exact ⟨k + 1, 2 * q, by omega, by go_num, rfl, by omega, hq3, HN, HL'⟩
        case measure => simp [intOf]; omega
      · have hk2 : k = 62 := by omega
        have HR := Lib.hid (rounds_of n k h2 hk HL.out (.inr hk2))
        clear hk2
        go_wp2
        go_ret
        rw [HR.out]
        exact ⟨rfl, rfl⟩
    · have HR := Lib.hid (rounds_of n k h2 hk HL.out (.inl (by rw [← HQ.out]; omega)))
      go_wp2
      go_ret
      rw [HR.out]
      exact ⟨rfl, rfl⟩
end Go.Proofs.Ytenpdmahjefoaaa
