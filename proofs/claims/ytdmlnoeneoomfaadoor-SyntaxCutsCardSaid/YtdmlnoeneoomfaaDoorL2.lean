
/-
  package lex: the longest beginning of a text.
-/
import Derived.Test.YtdmlnoeneoomfaaDoorL1
namespace Go.Proofs.YtdmlnoeneoomfaaDoor
open Go.RowKit

/-- How many bytes the longest beginning has whose bytes are all so. -/
def preN (p : UInt8 → Bool) (l : List UInt8) : Nat := (l.takeWhile p).length
theorem preN_le (p : UInt8 → Bool) (l : List UInt8) : preN p l ≤ l.length := by
  unfold preN
  exact (List.takeWhile_sublist p).length_le
theorem preN_eq {p : UInt8 → Bool} {l : List UInt8} {k : Nat} (hk : k ≤ l.length) (h1 : ∀ j (hj : j < l.length), j < k → p (l[j]'hj) = true) (h2 : ∀ hj : k < l.length, p (l[k]'hj) = false) : preN p l = k := by
  unfold preN
  induction l generalizing k with
  | nil => simp at hk; simp [hk]
  | cons c l ih =>
    rcases k with _ | k
    · have := h2 (by simp)
      simp at this
      simp [this]
    · have h0 := h1 0 (by simp) (by omega)
      simp at h0
      have := ih (k := k) (by simpa using hk) (fun j hj hjk => by have := h1 (j + 1) (by simpa using hj) (by omega); simpa using this) (fun hj => by have := h2 (by simpa using hj); simpa using this)
      simp [h0, this]

theorem ext_all (s : ByteArray) : s.extract 0 s.size = s := by
  first | exact ByteArray.extract_zero_size | simp

set_option maxHeartbeats 1000000 in
set_option maxRecDepth 100000 in
theorem runInner_any (s : ByteArray) (w : World) (hs : s.size ≤ 9223372036854775807) :
    Calls Tryd.prog 31 #[.string s, .func (.func 52) #[] #[]] w fun e w' => e = .returned (.string (s.extract 0 (preN innB s.data.toList))) ∧ w = w' := by
  have hlen : s.data.toList.length = s.size := Array.length_toList
  have HL := Lib.hid hlen
  clear hlen
  go_enter Tryd.func31, Tryd.ntmps31
  go_wp2
  go_loop [5] (fun i => ∃ k : Nat, k ≤ s.size ∧ i = .int .i64 k ∧ Hid (∀ j (hj : j < s.data.toList.length), j < k → innB (s.data.toList[j]'hj) = true)) (fun i => s.size - (intOf i).toNat)
  case atStart => exact ⟨0, by omega, rfl, fun j hj h => absurd h (by omega)⟩
  case round =>
    obtain ⟨k, hk, rfl, hp⟩ := hrel
    by_cases hlt : k < s.size
    · obtain ⟨c, hcc⟩ : ∃ c : UInt8, s[k] = c := ⟨_, rfl⟩
      have hq : ∃ hj : k < s.data.toList.length, s.data.toList[k]'hj = c := ⟨by rw [HL.out]; exact hlt, by rw [← hcc]; rfl⟩
      have HQ := Lib.hid hq
      clear hq
      cases hpc : innB c
      · have HP := Lib.hid hpc
        clear hpc
        go_wp2_with fail
        refine (inner_any c w).mono ?_
        rintro e w' ⟨rfl, rfl⟩
        rw [HP.out]
        have hpre : preN innB s.data.toList = k := preN_eq (by rw [HL.out]; exact hk) hp.out (fun hj => by obtain ⟨_, h⟩ := HQ.out; rw [h]; exact HP.out)
        have HPRE := Lib.hid hpre
        clear hpre hcc
        go_wp2_with fail
        go_ret
        exact ⟨by rw [HPRE.out]; rfl, rfl⟩
      · have HP := Lib.hid hpc
        clear hpc
        go_wp2_with fail
        refine (inner_any c w).mono ?_
        rintro e w' ⟨rfl, rfl⟩
        rw [HP.out]
        clear hcc
        go_wp2_with fail
        go_round
        case rel => exact ⟨k + 1, by omega, by go_num, fun j hj h => by
          rcases Nat.lt_or_ge j k with h1 | h1
          · exact hp.out j hj h1
          · obtain rfl : j = k := by omega
            obtain ⟨_, h2⟩ := HQ.out
            rw [h2]
            exact HP.out⟩
        case measure => simp [intOf]; omega
    · obtain rfl : k = s.size := by omega
      have hpre : preN innB s.data.toList = s.size := preN_eq (by rw [HL.out]; exact hk) hp.out (fun hj => by rw [HL.out] at hj; omega)
      have HPRE := Lib.hid hpre
      clear hpre
      go_wp2_with fail
      go_ret
      exact ⟨by rw [HPRE.out, ext_all]; rfl, rfl⟩
set_option maxHeartbeats 1000000 in
set_option maxRecDepth 100000 in
theorem runDigit_any (s : ByteArray) (w : World) (hs : s.size ≤ 9223372036854775807) :
    Calls Tryd.prog 31 #[.string s, .func (.func 54) #[] #[]] w fun e w' => e = .returned (.string (s.extract 0 (preN digB s.data.toList))) ∧ w = w' := by
  have hlen : s.data.toList.length = s.size := Array.length_toList
  have HL := Lib.hid hlen
  clear hlen
  go_enter Tryd.func31, Tryd.ntmps31
  go_wp2
  go_loop [5] (fun i => ∃ k : Nat, k ≤ s.size ∧ i = .int .i64 k ∧ Hid (∀ j (hj : j < s.data.toList.length), j < k → digB (s.data.toList[j]'hj) = true)) (fun i => s.size - (intOf i).toNat)
  case atStart => exact ⟨0, by omega, rfl, fun j hj h => absurd h (by omega)⟩
  case round =>
    obtain ⟨k, hk, rfl, hp⟩ := hrel
    by_cases hlt : k < s.size
    · obtain ⟨c, hcc⟩ : ∃ c : UInt8, s[k] = c := ⟨_, rfl⟩
      have hq : ∃ hj : k < s.data.toList.length, s.data.toList[k]'hj = c := ⟨by rw [HL.out]; exact hlt, by rw [← hcc]; rfl⟩
      have HQ := Lib.hid hq
      clear hq
      cases hpc : digB c
      · have HP := Lib.hid hpc
        clear hpc
        go_wp2_with fail
        refine (digit_any c w).mono ?_
        rintro e w' ⟨rfl, rfl⟩
        rw [HP.out]
        have hpre : preN digB s.data.toList = k := preN_eq (by rw [HL.out]; exact hk) hp.out (fun hj => by obtain ⟨_, h⟩ := HQ.out; rw [h]; exact HP.out)
        have HPRE := Lib.hid hpre
        clear hpre hcc
        go_wp2_with fail
        go_ret
        exact ⟨by rw [HPRE.out]; rfl, rfl⟩
      · have HP := Lib.hid hpc
        clear hpc
        go_wp2_with fail
        refine (digit_any c w).mono ?_
        rintro e w' ⟨rfl, rfl⟩
        rw [HP.out]
        clear hcc
        go_wp2_with fail
        go_round
        case rel => exact ⟨k + 1, by omega, by go_num, fun j hj h => by
          rcases Nat.lt_or_ge j k with h1 | h1
          · exact hp.out j hj h1
          · obtain rfl : j = k := by omega
            obtain ⟨_, h2⟩ := HQ.out
            rw [h2]
            exact HP.out⟩
        case measure => simp [intOf]; omega
    · obtain rfl : k = s.size := by omega
      have hpre : preN digB s.data.toList = s.size := preN_eq (by rw [HL.out]; exact hk) hp.out (fun hj => by rw [HL.out] at hj; omega)
      have HPRE := Lib.hid hpre
      clear hpre
      go_wp2_with fail
      go_ret
      exact ⟨by rw [HPRE.out, ext_all]; rfl, rfl⟩
set_option maxHeartbeats 1000000 in
set_option maxRecDepth 100000 in
theorem runNl_any (s : ByteArray) (w : World) (hs : s.size ≤ 9223372036854775807) :
    Calls Tryd.prog 31 #[.string s, .func (.func 32) #[] #[]] w fun e w' => e = .returned (.string (s.extract 0 (preN nlB s.data.toList))) ∧ w = w' := by
  have hlen : s.data.toList.length = s.size := Array.length_toList
  have HL := Lib.hid hlen
  clear hlen
  go_enter Tryd.func31, Tryd.ntmps31
  go_wp2
  go_loop [5] (fun i => ∃ k : Nat, k ≤ s.size ∧ i = .int .i64 k ∧ Hid (∀ j (hj : j < s.data.toList.length), j < k → nlB (s.data.toList[j]'hj) = true)) (fun i => s.size - (intOf i).toNat)
  case atStart => exact ⟨0, by omega, rfl, fun j hj h => absurd h (by omega)⟩
  case round =>
    obtain ⟨k, hk, rfl, hp⟩ := hrel
    by_cases hlt : k < s.size
    · obtain ⟨c, hcc⟩ : ∃ c : UInt8, s[k] = c := ⟨_, rfl⟩
      have hq : ∃ hj : k < s.data.toList.length, s.data.toList[k]'hj = c := ⟨by rw [HL.out]; exact hlt, by rw [← hcc]; rfl⟩
      have HQ := Lib.hid hq
      clear hq
      cases hpc : nlB c
      · have HP := Lib.hid hpc
        clear hpc
        go_wp2_with fail
        refine (nl_any c w).mono ?_
        rintro e w' ⟨rfl, rfl⟩
        rw [HP.out]
        have hpre : preN nlB s.data.toList = k := preN_eq (by rw [HL.out]; exact hk) hp.out (fun hj => by obtain ⟨_, h⟩ := HQ.out; rw [h]; exact HP.out)
        have HPRE := Lib.hid hpre
        clear hpre hcc
        go_wp2_with fail
        go_ret
        exact ⟨by rw [HPRE.out]; rfl, rfl⟩
      · have HP := Lib.hid hpc
        clear hpc
        go_wp2_with fail
        refine (nl_any c w).mono ?_
        rintro e w' ⟨rfl, rfl⟩
        rw [HP.out]
        clear hcc
        go_wp2_with fail
        go_round
        case rel => exact ⟨k + 1, by omega, by go_num, fun j hj h => by
          rcases Nat.lt_or_ge j k with h1 | h1
          · exact hp.out j hj h1
          · obtain rfl : j = k := by omega
            obtain ⟨_, h2⟩ := HQ.out
            rw [h2]
            exact HP.out⟩
        case measure => simp [intOf]; omega
    · obtain rfl : k = s.size := by omega
      have hpre : preN nlB s.data.toList = s.size := preN_eq (by rw [HL.out]; exact hk) hp.out (fun hj => by rw [HL.out] at hj; omega)
      have HPRE := Lib.hid hpre
      clear hpre
      go_wp2_with fail
      go_ret
      exact ⟨by rw [HPRE.out, ext_all]; rfl, rfl⟩
end Go.Proofs.YtdmlnoeneoomfaaDoor
