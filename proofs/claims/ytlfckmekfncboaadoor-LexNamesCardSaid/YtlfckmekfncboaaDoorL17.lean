/-
  The document's run: a letter, and letters, digits and _ behind it.
-/
import Derived.Test.YtlfckmekfncboaaDoorL16
namespace Go.Proofs.YtlfckmekfncboaaDoor
open Go.RowKit

set_option maxHeartbeats 2000000 in
set_option maxRecDepth 100000 in
theorem refRun_any (s : ByteArray) (w : World) (hs : s.size ≤ 9223372036854775807) :
    Calls Tryd.prog 29 #[.string s] w fun e w' => e = .returned (.bool (runS s.data.toList)) ∧ w' = w := by
  have hlen : s.data.toList.length = s.size := Array.length_toList
  have HL := Lib.hid hlen
  have htl : s.toList = s.data.toList := tl_eq s
  have HTL := Lib.hid htl
  clear hlen htl
  go_enter Tryd.func29, Tryd.ntmps29
  go_wp2_with fail
  go_loopw [3] (fun i wr => ∃ k : Nat, k ≤ s.size ∧ i = .int .i64 k ∧ Hid (∀ j (hj : j < s.data.toList.length), j < k → innB (s.data.toList[j]'hj) = true ∧ (j = 0 → letB (s.data.toList[j]'hj) = true)) ∧ wr = w) (fun i _ => s.size - (intOf i).toNat)
  case atStart => exact ⟨0, by omega, rfl, fun j hj h => absurd h (by omega), rfl⟩
  case round =>
    obtain ⟨k, hk, rfl, hp, rfl⟩ := hrel
    by_cases hlt : k < s.size
    · obtain ⟨c, hcc⟩ : ∃ c : UInt8, s[k] = c := ⟨_, rfl⟩
      have hq : ∃ hj : k < s.data.toList.length, s.data.toList[k]'hj = c := ⟨by rw [HL.out]; exact hlt, by rw [← hcc]; rfl⟩
      have HQ := Lib.hid hq
      clear hq
      by_cases hok : letB c = true ∨ (k ≠ 0 ∧ innB c = true)
      · have hnext : Hid (∀ j (hj : j < s.data.toList.length), j < k + 1 → innB (s.data.toList[j]'hj) = true ∧ (j = 0 → letB (s.data.toList[j]'hj) = true)) := fun j hj h => by
          rcases Nat.lt_or_ge j k with h1 | h1
          · exact hp.out j hj h1
          · obtain rfl : j = k := by omega
            obtain ⟨_, h2⟩ := HQ.out
            rw [h2]
            rcases hok with h3 | ⟨h3, h4⟩
            · exact ⟨by unfold innB; simp [h3], fun _ => h3⟩
            · exact ⟨h4, fun h => absurd h h3⟩
        have HOK := Lib.hid hok
        clear hok hp HQ
        cases hlc : letB c
        · have hok := HOK.out.resolve_left (by rw [hlc]; simp)
          have z1 : ¬ (k : Int) = 0 := by have := hok.1; omega
          have z2 : ((k : Int) == 0) = false := by simpa using z1
          have HLC := Lib.hid hlc
          clear hlc
          cases hdc : digB c
          · have e95 : (c.toNat : Int) = 95 := by
              have := hok.2
              unfold innB at this
              rw [HLC.out, hdc] at this
              simp at this
              omega
            have e96 : ((c.toNat : Int) != 95) = false := by rw [e95]; rfl
            clear e95
            have HDC := Lib.hid hdc
            clear hdc hok
            go_wp2_with (first | (go_at_call 41; refine (refLetter_any c _).mono ?_; rintro e w' ⟨rfl, rfl⟩; rw [HLC.out]) | (go_at_call 42; refine (refDigit_any c _).mono ?_; rintro e w' ⟨rfl, rfl⟩; rw [HDC.out]))
            go_roundw
            case rel => exact ⟨k + 1, by omega, by go_num, hnext, trivial⟩
            case measure => simp [intOf]; omega
          · have HDC := Lib.hid hdc
            clear hdc hok
            go_wp2_with (first | (go_at_call 41; refine (refLetter_any c _).mono ?_; rintro e w' ⟨rfl, rfl⟩; rw [HLC.out]) | (go_at_call 42; refine (refDigit_any c _).mono ?_; rintro e w' ⟨rfl, rfl⟩; rw [HDC.out]))
            go_roundw
            case rel => exact ⟨k + 1, by omega, by go_num, hnext, trivial⟩
            case measure => simp [intOf]; omega
        · have HLC := Lib.hid hlc
          clear hlc
          go_wp2_with (first | (go_at_call 41; refine (refLetter_any c _).mono ?_; rintro e w' ⟨rfl, rfl⟩; rw [HLC.out]))
          go_roundw
          case rel => exact ⟨k + 1, by omega, by go_num, hnext, trivial⟩
          case measure => simp [intOf]; omega
      · have hlc : letB c = false := by
          cases h : letB c
          · rfl
          · exact absurd (.inl h) hok
        have HF : Hid (runS s.data.toList = false) := by
          rw [Hid]
          unfold runS
          rw [decide_eq_false_iff_not]
          rintro ⟨h1, h2, h3⟩
          obtain ⟨hj, h4⟩ := HQ.out
          have h5 := h3 c (by rw [← h4]; exact List.getElem_mem hj)
          rcases Nat.eq_zero_or_pos k with h6 | h6
          · subst h6
            rw [List.headD_eq_head?_getD, List.head?_eq_getElem?, List.getElem?_eq_getElem hj, h4] at h2
            exact hok (.inl h2)
          · exact hok (.inr ⟨by omega, h5⟩)
        have hdc : k = 0 ∨ digB c = false := by
          rcases Nat.eq_zero_or_pos k with h6 | h6
          · exact .inl h6
          · right
            cases h : digB c
            · rfl
            · exact absurd (.inr ⟨by omega, by unfold innB; simp [h]⟩) hok
        have h95 : k = 0 ∨ ¬ (c.toNat : Int) = 95 := by
          rcases Nat.eq_zero_or_pos k with h6 | h6
          · exact .inl h6
          · right
            intro h
            exact hok (.inr ⟨by omega, by unfold innB; simp; omega⟩)
        have HLC := Lib.hid hlc
        clear hok hlc HQ hp
        by_cases hk0 : k = 0
        · subst hk0
          clear hdc h95
          go_wp2_with (first | (go_at_call 41; refine (refLetter_any c _).mono ?_; rintro e w' ⟨rfl, rfl⟩; rw [HLC.out]))
          go_ret
          exact ⟨by rw [HF.out]; rfl, rfl⟩
        · have z1 : ¬ (k : Int) = 0 := by omega
          have z2 : ((k : Int) == 0) = false := by simpa using z1
          have HDC := Lib.hid (hdc.resolve_left hk0)
          have e95 := h95.resolve_left hk0
          clear hdc h95
          go_wp2_with (first | (go_at_call 41; refine (refLetter_any c _).mono ?_; rintro e w' ⟨rfl, rfl⟩; rw [HLC.out]) | (go_at_call 42; refine (refDigit_any c _).mono ?_; rintro e w' ⟨rfl, rfl⟩; rw [HDC.out]))
          go_ret
          exact ⟨by rw [HF.out]; rfl, rfl⟩
    · obtain rfl : k = s.size := by omega
      have HR : Hid (runS s.data.toList = !s.toList.isEmpty) := by
        rw [Hid, HTL.out]
        unfold runS
        rcases hsl : s.data.toList with _ | ⟨c, r⟩
        · simp
        · simp only [List.isEmpty_cons, Bool.not_false, decide_eq_true_iff]
          have h := hp.out
          rw [hsl] at h
          have hsz : s.size = (c :: r).length := by rw [← HL.out, hsl]
          refine ⟨by simp, ?_, ?_⟩
          · exact (h 0 (by simp) (by rw [hsz]; simp)).2 rfl
          · intro x hx
            obtain ⟨j, hj, rfl⟩ := List.getElem_of_mem hx
            exact (h j hj (by rw [hsz]; exact hj)).1
      cases hemp : s.toList.isEmpty
      · have e1 : ¬ s.toList = [] := by simpa using hemp
        go_wp2_with fail
        go_ret
        exact ⟨by rw [HR.out, hemp]; rfl, rfl⟩
      · have e1 : s.toList = [] := by simpa using hemp
        go_wp2_with fail
        go_ret
        exact ⟨by rw [HR.out, hemp]; rfl, rfl⟩
end Go.Proofs.YtlfckmekfncboaaDoor
