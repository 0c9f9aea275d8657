/-
  BoundRounds: so many halvings lead to one step, and fewer don't: the walk.
-/
import Derived.Test.YtenpdmahjefoaaaBTop
namespace Go.Proofs.Ytenpdmahjefoaaa
open Go.RowKit

theorem least_pow (n : Int) (h : 2 ≤ n) : ∀ m : Nat, (∃ k, 1 ≤ k ∧ k ≤ m ∧ (2 : Int) ^ (k - 1) < n ∧ n ≤ 2 ^ k) ∨ (2 : Int) ^ m < n := by
  intro m
  induction m with
  | zero => right; simp; omega
  | succ m ih =>
    rcases ih with ⟨k, h1, h2, h3, h4⟩ | h1
    · exact .inl ⟨k, h1, by omega, h3, h4⟩
    · rcases Int.lt_or_le (2 ^ (m + 1)) n with h2 | h2
      · exact .inr h2
      · exact .inl ⟨m + 1, by omega, by omega, by simpa using h1, h2⟩
theorem rounds_spec (n : Int) (h : 2 ≤ n) (h2 : n ≤ 9223372036854775807) : 1 ≤ rounds n ∧ rounds n ≤ 62 ∧ (2 : Int) ^ (rounds n - 1) < n ∧ (n ≤ 2 ^ rounds n ∨ rounds n = 62) := by
  rcases least_pow n h 62 with ⟨k, h3, h4, h5, h6⟩ | h3
  · have e := rounds_of n k h2 h4 (.inr h5) (.inl h6)
    rw [e]
    exact ⟨h3, h4, h5, .inl h6⟩
  · have hlt : (2 : Int) ^ 61 < n := by have : (2 : Int) ^ 61 < 2 ^ 62 := by decide
                                        omega
    have e := rounds_of n 62 h2 (by omega) (.inr hlt) (.inr rfl)
    rw [e]
    exact ⟨by omega, by omega, hlt, .inr rfl⟩
/-- So often halved, rounded up. -/
def Halved (n : Int) (k : Nat) (x : Int) : Prop := 2 ^ k * (x - 1) < n ∧ n ≤ 2 ^ k * x
theorem Halved.start (n : Int) : Halved n 0 n := by unfold Halved; simp; omega
theorem Halved.next {n : Int} {k : Nat} {x : Int} (h : Halved n k x) : Halved n (k + 1) (x / 2 + x % 2) := by
  obtain ⟨h1, h2⟩ := h
  have hp : (0 : Int) < 2 ^ k := Int.pow_pos (by omega)
  unfold Halved
  generalize hy : x / 2 + x % 2 = y
  have hy1 : x ≤ 2 * y := by omega
  have hy2 : 2 * (y - 1) ≤ x - 1 := by omega
  rw [Int.pow_succ, Int.mul_assoc, Int.mul_assoc]
  have a1 := Int.mul_le_mul_of_nonneg_left hy1 (Int.le_of_lt hp)
  have a2 := Int.mul_le_mul_of_nonneg_left hy2 (Int.le_of_lt hp)
  omega
theorem Halved.one {n : Int} {k : Nat} {x : Int} (h : Halved n k x) (hn : n ≤ 2 ^ k) (h1 : 1 ≤ x) : x = 1 := by
  obtain ⟨h2, _⟩ := h
  have hp : (0 : Int) < 2 ^ k := Int.pow_pos (by omega)
  have h3 : (2 : Int) ^ k * (x - 1) < 2 ^ k * 1 := by omega
  have := Int.lt_of_mul_lt_mul_left h3 (Int.le_of_lt hp)
  omega
theorem Halved.more {n : Int} {k : Nat} {x : Int} (h : Halved n k x) (hn : 2 ^ k < n) : 1 < x := by
  obtain ⟨_, h2⟩ := h
  have hp : (0 : Int) < 2 ^ k := Int.pow_pos (by omega)
  have h3 : (2 : Int) ^ k * 1 < 2 ^ k * x := by omega
  exact Int.lt_of_mul_lt_mul_left h3 (Int.le_of_lt hp)

set_option maxHeartbeats 2000000 in
set_option maxRecDepth 100000 in
theorem boundRounds_any (n : Int) (w : World) (h1 : -9223372036854775808 ≤ n) (h2 : n ≤ 9223372036854775807) :
    Calls Try.prog 3 #[.int .i64 n] w (Tells w true) := by
  by_cases hn : n ≤ 1
  · have HR : Hid (rounds n = 0) := by rw [Hid, rounds, if_pos hn]
    go_enter Try.func3, Try.ntmps3
    go_wp2_with fail
    refine (rounds_any _ _ h1 h2).mono ?_
    rintro e w1 ⟨rfl, rfl⟩
    go_wp2_with fail
    refine (refRounds_any _ _ h2).mono ?_
    rintro e w1 ⟨rfl, rfl⟩
    rw [HR.out]
    go_wp2_with fail
    refine (known_any _).mono ?_
    rintro e w1 ⟨rfl, b1⟩
    go_wp2_with fail
    go_ret
    exact ⟨rfl, b1⟩
  · obtain ⟨r1, r2, r3, r4⟩ := rounds_spec n (by omega) h2
    have R3 := Lib.hid r3
    have R4 := Lib.hid r4
    clear r3 r4
    go_enter Try.func3, Try.ntmps3
    go_wp2_with fail
    refine (rounds_any _ _ h1 h2).mono ?_
    rintro e w1 ⟨rfl, rfl⟩
    go_wp2_with fail
    refine (refRounds_any _ _ h2).mono ?_
    rintro e w1 ⟨rfl, rfl⟩
    generalize rounds n = r at *
    have t1 : ((r : Int) != (r : Int)) = false := by simp
    have t2 : decide ((r : Int) < 0) = false := by simp
    have t3 : decide ((62 : Int) < (r : Int)) = false := by simp; omega
    go_wp2_with fail
    go_loop [4, 5] (fun x i => ∃ (k : Nat) (y : Int), k ≤ r ∧ i = .int .i64 k ∧ x = .int .i64 y ∧ 1 ≤ y ∧ y ≤ n ∧ Hid (Halved n k y)) (fun _ i => r - (intOf i).toNat)
    case atStart => exact ⟨0, n, by omega, rfl, rfl, by omega, by omega, Halved.start n⟩
    case round =>
      obtain ⟨k, y, hk, rfl, rfl, hy1, hy2, HH⟩ := hrel
      by_cases hlt : k < r
      · have HN := Lib.hid HH.out.next
        go_wp2_with fail
        go_round
        case rel => exact ⟨k + 1, _, by omega, by go_num, rfl, by omega, by omega, HN⟩
        case measure => simp [intOf]; omega
      · obtain rfl : k = r := by omega
        go_wp2_with fail
        go_loop [6, 7] (fun x i => ∃ (j : Nat) (z : Int), j + 1 ≤ k ∧ i = .int .i64 j ∧ x = .int .i64 z ∧ 1 ≤ z ∧ z ≤ n ∧ Hid (Halved n j z)) (fun _ i => k - (intOf i).toNat)
        case atStart => exact ⟨0, n, by omega, rfl, rfl, by omega, by omega, Halved.start n⟩
        case round =>
          obtain ⟨j, z, hj, rfl, rfl, hz1, hz2, HZ⟩ := hrel
          by_cases hjt : j + 1 < k
          · have HN := Lib.hid HZ.out.next
            go_wp2_with fail
            go_round
            case rel => exact ⟨j + 1, _, by omega, by go_num, rfl, by omega, by omega, HN⟩
            case measure => simp [intOf]; omega
          · have hz3 : 1 < z := HZ.out.more (by have e : j = k - 1 := by omega
                                                rw [e]; exact R3.out)
            by_cases hbig : n ≤ 4611686018427387904
            · have hy3 : y = 1 := HH.out.one (by rcases R4.out with h | h; exact h; rw [h]; exact hbig) hy1
              subst hy3
              go_wp2_with fail
              refine (known_any _).mono ?_
              rintro e w1 ⟨rfl, b1⟩
              go_wp2_with fail
              go_ret
              exact ⟨rfl, b1⟩
            · go_wp2_with fail
              refine (known_any _).mono ?_
              rintro e w1 ⟨rfl, b1⟩
              go_wp2_with fail
              all_goals (go_ret; exact ⟨rfl, b1⟩)
end Go.Proofs.Ytenpdmahjefoaaa
