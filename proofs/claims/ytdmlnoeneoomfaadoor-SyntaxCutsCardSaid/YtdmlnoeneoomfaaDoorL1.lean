
/-
  package lex: what a byte may be; the longest beginning of a text.
-/
import Derived.Test.YtdmlnoeneoomfaaDoorKept
import Derived.Test.YtdmlnoeneoomfaaDoorProg
import Derived.WalkMore
import Derived.WalkSpells
namespace Go.Proofs.YtdmlnoeneoomfaaDoor
open Go.RowKit

def letB (c : UInt8) : Bool := decide (97 ≤ c.toNat ∧ c.toNat ≤ 122 ∨ 65 ≤ c.toNat ∧ c.toNat ≤ 90)
def digB (c : UInt8) : Bool := decide (48 ≤ c.toNat ∧ c.toNat ≤ 57)
def innB (c : UInt8) : Bool := letB c || digB c || decide (c.toNat = 95)
def nlB (c : UInt8) : Bool := decide (c.toNat ≠ 10)
theorem letB_t {c : UInt8} : letB c = true ↔ (97 ≤ c.toNat ∧ c.toNat ≤ 122 ∨ 65 ≤ c.toNat ∧ c.toNat ≤ 90) := by simp [letB]
theorem letB_f {c : UInt8} : letB c = false ↔ ¬ (97 ≤ c.toNat ∧ c.toNat ≤ 122 ∨ 65 ≤ c.toNat ∧ c.toNat ≤ 90) := by simp only [letB, decide_eq_false_iff_not]
theorem digB_t {c : UInt8} : digB c = true ↔ 48 ≤ c.toNat ∧ c.toNat ≤ 57 := by simp [digB]
theorem digB_f {c : UInt8} : digB c = false ↔ ¬ (48 ≤ c.toNat ∧ c.toNat ≤ 57) := by simp only [digB, decide_eq_false_iff_not]

theorem ret_bool {a b : Bool} (h : a = b) : Ending.returned (.bool a) = .returned (.bool b) := by rw [h]
set_option maxHeartbeats 1000000 in
theorem letter_any (c : UInt8) (w : World) : Calls Tryd.prog 53 #[.int .u8 (c.toNat : Int)] w fun e w' => e = .returned (.bool (letB c)) ∧ w = w' := by
  obtain ⟨x, hx⟩ : ∃ x, c.toNat = x := ⟨_, rfl⟩
  have h5 : x < 65 ∨ (65 ≤ x ∧ x ≤ 90) ∨ (90 < x ∧ x < 97) ∨ (97 ≤ x ∧ x ≤ 122) ∨ 122 < x := by omega
  have hb : Hid (letB c = decide (97 ≤ x ∧ x ≤ 122 ∨ 65 ≤ x ∧ x ≤ 90)) := by rw [← hx]; rfl
  rw [hx]
  clear hx
  rcases h5 with h | ⟨h, h'⟩ | ⟨h, h'⟩ | ⟨h, h'⟩ | h
  · have t1 : decide ((97 : Int) ≤ (x : Int)) = false := by simp; omega
    have t2 : decide ((x : Int) ≤ 122) = true := by simp; omega
    have t3 : decide ((65 : Int) ≤ (x : Int)) = false := by simp; omega
    have t4 : decide ((x : Int) ≤ 90) = true := by simp; omega
    go_enter Tryd.func53, Tryd.ntmps53
    go_wp2
    go_ret
    refine ⟨?_, rfl⟩
    rw [hb.out, show decide (97 ≤ x ∧ x ≤ 122 ∨ 65 ≤ x ∧ x ≤ 90) = false from by simp; omega]
    rfl
  · have t1 : decide ((97 : Int) ≤ (x : Int)) = false := by simp; omega
    have t2 : decide ((x : Int) ≤ 122) = true := by simp; omega
    have t3 : decide ((65 : Int) ≤ (x : Int)) = true := by simp; omega
    have t4 : decide ((x : Int) ≤ 90) = true := by simp; omega
    go_enter Tryd.func53, Tryd.ntmps53
    go_wp2
    go_ret
    refine ⟨?_, rfl⟩
    rw [hb.out, show decide (97 ≤ x ∧ x ≤ 122 ∨ 65 ≤ x ∧ x ≤ 90) = true from by simp; omega]
    rfl
  · have t1 : decide ((97 : Int) ≤ (x : Int)) = false := by simp; omega
    have t2 : decide ((x : Int) ≤ 122) = true := by simp; omega
    have t3 : decide ((65 : Int) ≤ (x : Int)) = true := by simp; omega
    have t4 : decide ((x : Int) ≤ 90) = false := by simp; omega
    go_enter Tryd.func53, Tryd.ntmps53
    go_wp2
    go_ret
    refine ⟨?_, rfl⟩
    rw [hb.out, show decide (97 ≤ x ∧ x ≤ 122 ∨ 65 ≤ x ∧ x ≤ 90) = false from by simp; omega]
    rfl
  · have t1 : decide ((97 : Int) ≤ (x : Int)) = true := by simp; omega
    have t2 : decide ((x : Int) ≤ 122) = true := by simp; omega
    have t3 : decide ((65 : Int) ≤ (x : Int)) = true := by simp; omega
    have t4 : decide ((x : Int) ≤ 90) = false := by simp; omega
    go_enter Tryd.func53, Tryd.ntmps53
    go_wp2
    go_ret
    refine ⟨?_, rfl⟩
    rw [hb.out, show decide (97 ≤ x ∧ x ≤ 122 ∨ 65 ≤ x ∧ x ≤ 90) = true from by simp; omega]
    rfl
  · have t1 : decide ((97 : Int) ≤ (x : Int)) = true := by simp; omega
    have t2 : decide ((x : Int) ≤ 122) = false := by simp; omega
    have t3 : decide ((65 : Int) ≤ (x : Int)) = true := by simp; omega
    have t4 : decide ((x : Int) ≤ 90) = false := by simp; omega
    go_enter Tryd.func53, Tryd.ntmps53
    go_wp2
    go_ret
    refine ⟨?_, rfl⟩
    rw [hb.out, show decide (97 ≤ x ∧ x ≤ 122 ∨ 65 ≤ x ∧ x ≤ 90) = false from by simp; omega]
    rfl
set_option maxHeartbeats 1000000 in
theorem refLetter_any (c : UInt8) (w : World) : Calls Tryd.prog 70 #[.int .u8 (c.toNat : Int)] w fun e w' => e = .returned (.bool (letB c)) ∧ w = w' := by
  obtain ⟨x, hx⟩ : ∃ x, c.toNat = x := ⟨_, rfl⟩
  have h5 : x < 65 ∨ (65 ≤ x ∧ x ≤ 90) ∨ (90 < x ∧ x < 97) ∨ (97 ≤ x ∧ x ≤ 122) ∨ 122 < x := by omega
  have hb : Hid (letB c = decide (97 ≤ x ∧ x ≤ 122 ∨ 65 ≤ x ∧ x ≤ 90)) := by rw [← hx]; rfl
  rw [hx]
  clear hx
  rcases h5 with h | ⟨h, h'⟩ | ⟨h, h'⟩ | ⟨h, h'⟩ | h
  · have t1 : decide ((97 : Int) ≤ (x : Int)) = false := by simp; omega
    have t2 : decide ((x : Int) ≤ 122) = true := by simp; omega
    have t3 : decide ((65 : Int) ≤ (x : Int)) = false := by simp; omega
    have t4 : decide ((x : Int) ≤ 90) = true := by simp; omega
    go_enter Tryd.func70, Tryd.ntmps70
    go_wp2
    go_ret
    refine ⟨?_, rfl⟩
    rw [hb.out, show decide (97 ≤ x ∧ x ≤ 122 ∨ 65 ≤ x ∧ x ≤ 90) = false from by simp; omega]
    rfl
  · have t1 : decide ((97 : Int) ≤ (x : Int)) = false := by simp; omega
    have t2 : decide ((x : Int) ≤ 122) = true := by simp; omega
    have t3 : decide ((65 : Int) ≤ (x : Int)) = true := by simp; omega
    have t4 : decide ((x : Int) ≤ 90) = true := by simp; omega
    go_enter Tryd.func70, Tryd.ntmps70
    go_wp2
    go_ret
    refine ⟨?_, rfl⟩
    rw [hb.out, show decide (97 ≤ x ∧ x ≤ 122 ∨ 65 ≤ x ∧ x ≤ 90) = true from by simp; omega]
    rfl
  · have t1 : decide ((97 : Int) ≤ (x : Int)) = false := by simp; omega
    have t2 : decide ((x : Int) ≤ 122) = true := by simp; omega
    have t3 : decide ((65 : Int) ≤ (x : Int)) = true := by simp; omega
    have t4 : decide ((x : Int) ≤ 90) = false := by simp; omega
    go_enter Tryd.func70, Tryd.ntmps70
    go_wp2
    go_ret
    refine ⟨?_, rfl⟩
    rw [hb.out, show decide (97 ≤ x ∧ x ≤ 122 ∨ 65 ≤ x ∧ x ≤ 90) = false from by simp; omega]
    rfl
  · have t1 : decide ((97 : Int) ≤ (x : Int)) = true := by simp; omega
    have t2 : decide ((x : Int) ≤ 122) = true := by simp; omega
    have t3 : decide ((65 : Int) ≤ (x : Int)) = true := by simp; omega
    have t4 : decide ((x : Int) ≤ 90) = false := by simp; omega
    go_enter Tryd.func70, Tryd.ntmps70
    go_wp2
    go_ret
    refine ⟨?_, rfl⟩
    rw [hb.out, show decide (97 ≤ x ∧ x ≤ 122 ∨ 65 ≤ x ∧ x ≤ 90) = true from by simp; omega]
    rfl
  · have t1 : decide ((97 : Int) ≤ (x : Int)) = true := by simp; omega
    have t2 : decide ((x : Int) ≤ 122) = false := by simp; omega
    have t3 : decide ((65 : Int) ≤ (x : Int)) = true := by simp; omega
    have t4 : decide ((x : Int) ≤ 90) = false := by simp; omega
    go_enter Tryd.func70, Tryd.ntmps70
    go_wp2
    go_ret
    refine ⟨?_, rfl⟩
    rw [hb.out, show decide (97 ≤ x ∧ x ≤ 122 ∨ 65 ≤ x ∧ x ≤ 90) = false from by simp; omega]
    rfl
set_option maxHeartbeats 1000000 in
theorem digit_any (c : UInt8) (w : World) : Calls Tryd.prog 54 #[.int .u8 (c.toNat : Int)] w fun e w' => e = .returned (.bool (digB c)) ∧ w = w' := by
  obtain ⟨x, hx⟩ : ∃ x, c.toNat = x := ⟨_, rfl⟩
  have h5 : x < 48 ∨ (48 ≤ x ∧ x ≤ 57) ∨ 57 < x := by omega
  have hb : Hid (digB c = decide (48 ≤ x ∧ x ≤ 57)) := by rw [← hx]; rfl
  rw [hx]
  clear hx
  rcases h5 with h | ⟨h, h'⟩ | h
  · have t1 : decide ((48 : Int) ≤ (x : Int)) = false := by simp; omega
    have t2 : decide ((x : Int) ≤ 57) = true := by simp; omega
    go_enter Tryd.func54, Tryd.ntmps54
    go_wp2
    go_ret
    refine ⟨?_, rfl⟩
    rw [hb.out, show decide (48 ≤ x ∧ x ≤ 57) = false from by simp; omega]
    rfl
  · have t1 : decide ((48 : Int) ≤ (x : Int)) = true := by simp; omega
    have t2 : decide ((x : Int) ≤ 57) = true := by simp; omega
    go_enter Tryd.func54, Tryd.ntmps54
    go_wp2
    go_ret
    refine ⟨?_, rfl⟩
    rw [hb.out, show decide (48 ≤ x ∧ x ≤ 57) = true from by simp; omega]
    rfl
  · have t1 : decide ((48 : Int) ≤ (x : Int)) = true := by simp; omega
    have t2 : decide ((x : Int) ≤ 57) = false := by simp; omega
    go_enter Tryd.func54, Tryd.ntmps54
    go_wp2
    go_ret
    refine ⟨?_, rfl⟩
    rw [hb.out, show decide (48 ≤ x ∧ x ≤ 57) = false from by simp; omega]
    rfl
set_option maxHeartbeats 1000000 in
theorem refDigit_any (c : UInt8) (w : World) : Calls Tryd.prog 71 #[.int .u8 (c.toNat : Int)] w fun e w' => e = .returned (.bool (digB c)) ∧ w = w' := by
  obtain ⟨x, hx⟩ : ∃ x, c.toNat = x := ⟨_, rfl⟩
  have h5 : x < 48 ∨ (48 ≤ x ∧ x ≤ 57) ∨ 57 < x := by omega
  have hb : Hid (digB c = decide (48 ≤ x ∧ x ≤ 57)) := by rw [← hx]; rfl
  rw [hx]
  clear hx
  rcases h5 with h | ⟨h, h'⟩ | h
  · have t1 : decide ((48 : Int) ≤ (x : Int)) = false := by simp; omega
    have t2 : decide ((x : Int) ≤ 57) = true := by simp; omega
    go_enter Tryd.func71, Tryd.ntmps71
    go_wp2
    go_ret
    refine ⟨?_, rfl⟩
    rw [hb.out, show decide (48 ≤ x ∧ x ≤ 57) = false from by simp; omega]
    rfl
  · have t1 : decide ((48 : Int) ≤ (x : Int)) = true := by simp; omega
    have t2 : decide ((x : Int) ≤ 57) = true := by simp; omega
    go_enter Tryd.func71, Tryd.ntmps71
    go_wp2
    go_ret
    refine ⟨?_, rfl⟩
    rw [hb.out, show decide (48 ≤ x ∧ x ≤ 57) = true from by simp; omega]
    rfl
  · have t1 : decide ((48 : Int) ≤ (x : Int)) = true := by simp; omega
    have t2 : decide ((x : Int) ≤ 57) = false := by simp; omega
    go_enter Tryd.func71, Tryd.ntmps71
    go_wp2
    go_ret
    refine ⟨?_, rfl⟩
    rw [hb.out, show decide (48 ≤ x ∧ x ≤ 57) = false from by simp; omega]
    rfl

set_option maxHeartbeats 1000000 in
theorem nl_any (c : UInt8) (w : World) : Calls Tryd.prog 32 #[.int .u8 (c.toNat : Int)] w fun e w' => e = .returned (.bool (nlB c)) ∧ w = w' := by
  go_enter Tryd.func32, Tryd.ntmps32
  go_wp2
  go_ret
  refine ⟨ret_bool ?_, rfl⟩
  rw [Bool.eq_iff_iff]
  simp [nlB]
  omega
set_option maxHeartbeats 1000000 in
theorem inner_any (c : UInt8) (w : World) : Calls Tryd.prog 52 #[.int .u8 (c.toNat : Int)] w fun e w' => e = .returned (.bool (innB c)) ∧ w = w' := by
  have hi : Hid (innB c = (letB c || digB c || decide (c.toNat = 95))) := rfl
  cases h1 : letB c <;> cases h2 : digB c
  all_goals
    have H1 := Lib.hid h1
    have H2 := Lib.hid h2
    clear h1 h2
    go_enter Tryd.func52, Tryd.ntmps52
    go_wp2_with fail
    refine (letter_any c w).mono ?_
    rintro e w' ⟨rfl, rfl⟩
    rw [H1.out]
    go_wp2_with (first | (go_at_call 54; refine (digit_any c _).mono ?_; rintro e w' ⟨rfl, rfl⟩; rw [H2.out]))
    go_ret
    refine ⟨?_, rfl⟩
    rw [hi.out, H1.out, H2.out]
    first | rfl | exact ret_bool (by rw [Bool.eq_iff_iff]; simp; omega)
end Go.Proofs.YtdmlnoeneoomfaaDoor
