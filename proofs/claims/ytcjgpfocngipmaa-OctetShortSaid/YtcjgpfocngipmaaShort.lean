/-
  OctetShort: for every two numbers the law returns true. No condition.
-/
import Derived.Test.YtcjgpfocngipmaaKnown
namespace Go.Proofs.Ytcjgpfocngipmaa
open Go.RowKit

/-- How many bytes are still to come of what is left of a number. -/
def more (r : Nat) : Nat := if r = 0 then 0 else (num r).length
theorem more_zero : more 0 = 0 := rfl
theorem more_step {r : Nat} (h : 0 < r) : more r = 1 + more (r / 128) := by
  unfold more
  rw [if_neg (by omega)]
  by_cases h1 : r < 128
  · rw [num_small h1, if_pos (by omega)]; rfl
  · rw [num_big (by omega), if_neg (by omega)]; simp only [List.length_cons]; omega
theorem num_more (n : Nat) : (num n).length = 1 + more (n / 128) := by
  by_cases h : n = 0
  · subst h; rfl
  · have := more_step (r := n) (by omega)
    unfold more at this
    rw [if_neg h] at this
    exact this

set_option maxHeartbeats 1000000 in
set_option maxRecDepth 100000 in
theorem octetShort_any (n m : Nat) (w : World) (hn : U64 n) (hm : U64 m) :
    Calls Try.prog 3 #[.int .u64 n, .int .u64 m] w (Tells w true) := by
  have e3 := num_le10 hn
  have HM := Lib.hid (num_more n)
  have HW := Lib.hid (wrap_u64_in ((n : Int) / 128) (by omega) (by unfold U64 at hn; omega))
  go_enter Try.func3, Try.ntmps3
  go_wp2_with fail
  refine (putNum_any none 0 0 n [] w RB.none_ hn (by omega)).mono ?_
  rintro e w1 ⟨v1, rfl, ho1, hb1⟩
  obtain ⟨A1, la, c1, rfl, -, -, r1⟩ := ho1.got
  have HA := Lib.hid (show la = (num n).length from r1.len)
  go_wp2_with fail
  refine (putNum_any none 0 0 m [] w1 RB.none_ hm (by omega)).mono ?_
  rintro e w2 ⟨v2, rfl, ho2, hb2⟩
  obtain ⟨A2, lb, c2, rfl, -, -, r2⟩ := ho2.got
  have HB := Lib.hid (show lb = (num m).length from r2.len)
  have hb := hb1.then_ hb2
  clear hb1 hb2 ho1 ho2 r1 r2
  have e1 : n ≤ m → la ≤ lb := fun h => by rw [HA.out, HB.out]; exact num_mono n m h
  have e2 : m ≤ n → lb ≤ la := fun h => by rw [HA.out, HB.out]; exact num_mono m n h
  have e4 : la ≤ 10 := by rw [HA.out]; exact e3
  clear e3
  rcases (show (n < m) ∨ (m < n) ∨ n = m from by omega) with h | h | rfl
  · have f1 : decide (lb < la) = false := by have := e1 (by omega); simp; omega
    clear e1 e2
    go_wp2_with fail
    go_loop [7, 8] (fun k r => ∃ i j : Nat, U64 j ∧ k = .int .i64 i ∧ r = .int .u64 j ∧ Hid (la = i + more j)) (fun _ r => (intOf r).toNat)
    case atStart => exact ⟨1, n / 128, by unfold U64 at hn ⊢; omega, rfl, by rw [HW.out]; go_num, by rw [Hid, HA.out, HM.out]⟩
    case round =>
      obtain ⟨i, j, hj, rfl, rfl, HK⟩ := hrel
      have hi : i ≤ 10 := by have := HK.out; omega
      by_cases h0 : 0 < j
      · have HV := Lib.hid (wrap_u64_in ((j : Int) / 128) (by omega) (by unfold U64 at hj; omega))
        go_wp2_with fail
        go_round
        case rel => exact ⟨i + 1, j / 128, by unfold U64 at hj ⊢; omega, by go_num, by rw [HV.out]; go_num, by rw [Hid, HK.out, more_step h0]; omega⟩
        case measure => rw [HV.out]; simp [intOf]; omega
      · have hj0 : j = 0 := by omega
        subst hj0
        have hil : la = i := by have := HK.out; rw [more_zero] at this; omega
        subst hil
        go_wp2_with (go_at_call 13; refine (known_any _).mono ?_; rintro e w3 ⟨rfl, hb3⟩)
        go_ret
        exact ⟨rfl, hb.then_ hb3⟩
  · have f1 : decide (la < lb) = false := by have := e2 (by omega); simp; omega
    clear e1 e2
    go_wp2_with fail
    go_loop [7, 8] (fun k r => ∃ i j : Nat, U64 j ∧ k = .int .i64 i ∧ r = .int .u64 j ∧ Hid (la = i + more j)) (fun _ r => (intOf r).toNat)
    case atStart => exact ⟨1, n / 128, by unfold U64 at hn ⊢; omega, rfl, by rw [HW.out]; go_num, by rw [Hid, HA.out, HM.out]⟩
    case round =>
      obtain ⟨i, j, hj, rfl, rfl, HK⟩ := hrel
      have hi : i ≤ 10 := by have := HK.out; omega
      by_cases h0 : 0 < j
      · have HV := Lib.hid (wrap_u64_in ((j : Int) / 128) (by omega) (by unfold U64 at hj; omega))
        go_wp2_with fail
        go_round
        case rel => exact ⟨i + 1, j / 128, by unfold U64 at hj ⊢; omega, by go_num, by rw [HV.out]; go_num, by rw [Hid, HK.out, more_step h0]; omega⟩
        case measure => rw [HV.out]; simp [intOf]; omega
      · have hj0 : j = 0 := by omega
        subst hj0
        have hil : la = i := by have := HK.out; rw [more_zero] at this; omega
        subst hil
        go_wp2_with (go_at_call 13; refine (known_any _).mono ?_; rintro e w3 ⟨rfl, hb3⟩)
        go_ret
        exact ⟨rfl, hb.then_ hb3⟩
  · have f1 : decide (la < lb) = false := by have := e2 (by omega); simp; omega
    have f2 : decide (lb < la) = false := by have := e1 (by omega); simp; omega
    clear e1 e2
    go_wp2_with fail
    go_loop [7, 8] (fun k r => ∃ i j : Nat, U64 j ∧ k = .int .i64 i ∧ r = .int .u64 j ∧ Hid (la = i + more j)) (fun _ r => (intOf r).toNat)
    case atStart => exact ⟨1, n / 128, by unfold U64 at hn ⊢; omega, rfl, by rw [HW.out]; go_num, by rw [Hid, HA.out, HM.out]⟩
    case round =>
      obtain ⟨i, j, hj, rfl, rfl, HK⟩ := hrel
      have hi : i ≤ 10 := by have := HK.out; omega
      by_cases h0 : 0 < j
      · have HV := Lib.hid (wrap_u64_in ((j : Int) / 128) (by omega) (by unfold U64 at hj; omega))
        go_wp2_with fail
        go_round
        case rel => exact ⟨i + 1, j / 128, by unfold U64 at hj ⊢; omega, by go_num, by rw [HV.out]; go_num, by rw [Hid, HK.out, more_step h0]; omega⟩
        case measure => rw [HV.out]; simp [intOf]; omega
      · have hj0 : j = 0 := by omega
        subst hj0
        have hil : la = i := by have := HK.out; rw [more_zero] at this; omega
        subst hil
        go_wp2_with (go_at_call 13; refine (known_any _).mono ?_; rintro e w3 ⟨rfl, hb3⟩)
        go_ret
        exact ⟨rfl, hb.then_ hb3⟩
end Go.Proofs.Ytcjgpfocngipmaa
