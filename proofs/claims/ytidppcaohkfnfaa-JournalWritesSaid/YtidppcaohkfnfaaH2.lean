
/-
  packages hash and baizeref02: numbers of eight bytes, and back.
-/
import Derived.Test.YtidppcaohkfnfaaH1
import Derived.LoopN
namespace Go.Proofs.Ytidppcaohkfnfaa
open Go.RowKit

/-- Bytes, as numbers. -/
def By (d : Nat → Int) : Prop := ∀ i, 0 ≤ d i ∧ d i ≤ 255
/-- Eight bytes, in an array. -/
abbrev dv (d : Nat → Int) : Value := .agg #[.int .u8 (d 0), .int .u8 (d 1), .int .u8 (d 2), .int .u8 (d 3), .int .u8 (d 4), .int .u8 (d 5), .int .u8 (d 6), .int .u8 (d 7)]
/-- The number of eight bytes. -/
def num8 (d : Nat → Int) : Int := d 0 + d 1 * 256 + d 2 * 65536 + d 3 * 16777216 + d 4 * 4294967296 + d 5 * 1099511627776 + d 6 * 281474976710656 + d 7 * 72057594037927936
/-- A byte of a number. -/
def dig (n : Int) (i : Nat) : Int := n / 256 ^ i % 256
theorem dig_by (n : Int) : By (dig n) := fun i => by unfold dig; omega
theorem or_add (n c p : Int) (j : Nat) (hp : p = 2 ^ j) (hn0 : 0 ≤ n) (hn : n < p) (hc0 : 0 ≤ c) (hb : c * p + n < 18446744073709551616) : bits .or .u64 n (c * p) = n + c * p := by
  obtain ⟨m, rfl⟩ := Int.eq_ofNat_of_zero_le hn0
  obtain ⟨d, rfl⟩ := Int.eq_ofNat_of_zero_le hc0
  have hp' : p = ((2 ^ j : Nat) : Int) := by rw [hp]; simp
  subst hp'
  clear hp
  have e : (d : Int) * ((2 ^ j : Nat) : Int) = ((d * 2 ^ j : Nat) : Int) := by simp
  rw [e] at hb ⊢
  rw [u64_or_nat _ _ (by omega) (by omega)]
  have h := Nat.two_pow_add_eq_or_of_lt (i := j) (b := m) (by omega) d
  rw [Nat.mul_comm (2 ^ j) d] at h
  rw [Nat.or_comm, ← h]
  omega


theorem or_first (c : Int) (h0 : 0 ≤ c) (h1 : c ≤ 255) : bits .or .u64 0 c = c := by
  obtain ⟨m, rfl⟩ := Int.eq_ofNat_of_zero_le h0
  have h := u64_or_nat 0 m (by omega) (by omega)
  simpa using h
theorem or_num8 (d : Nat → Int) (hd : By d) : bits .or .u64 (bits .or .u64 (bits .or .u64 (bits .or .u64 (bits .or .u64 (bits .or .u64 (bits .or .u64 (bits .or .u64 0 (d 0)) (d 1 * 256)) (d 2 * 65536)) (d 3 * 16777216)) (d 4 * 4294967296)) (d 5 * 1099511627776)) (d 6 * 281474976710656)) (d 7 * 72057594037927936) = num8 d := by
  have h0 := hd 0
  have h1 := hd 1
  have h2 := hd 2
  have h3 := hd 3
  have h4 := hd 4
  have h5 := hd 5
  have h6 := hd 6
  have h7 := hd 7
  rw [or_first _ h0.1 h0.2]
  rw [or_add _ (d 1) 256 8 (by decide) (by omega) (by omega) (by omega) (by omega)]
  rw [or_add _ (d 2) 65536 16 (by decide) (by omega) (by omega) (by omega) (by omega)]
  rw [or_add _ (d 3) 16777216 24 (by decide) (by omega) (by omega) (by omega) (by omega)]
  rw [or_add _ (d 4) 4294967296 32 (by decide) (by omega) (by omega) (by omega) (by omega)]
  rw [or_add _ (d 5) 1099511627776 40 (by decide) (by omega) (by omega) (by omega) (by omega)]
  rw [or_add _ (d 6) 281474976710656 48 (by decide) (by omega) (by omega) (by omega) (by omega)]
  rw [or_add _ (d 7) 72057594037927936 56 (by decide) (by omega) (by omega) (by omega) (by omega)]
  rfl
set_option maxHeartbeats 2000000 in
set_option maxRecDepth 100000 in
theorem hnum_any (d : Nat → Int) (w : World) (hd : By d) :
    Calls Try.prog 81 #[dv d] w fun e w' => e = .returned (.int .u64 (num8 d)) ∧ Below w.heap.size w w' := by
  obtain ⟨a0, b0⟩ := hd 0
  obtain ⟨a1, b1⟩ := hd 1
  obtain ⟨a2, b2⟩ := hd 2
  obtain ⟨a3, b3⟩ := hd 3
  obtain ⟨a4, b4⟩ := hd 4
  obtain ⟨a5, b5⟩ := hd 5
  obtain ⟨a6, b6⟩ := hd 6
  obtain ⟨a7, b7⟩ := hd 7
  have i0 : ∀ w, (Instr.index 88 (dv d) (.int .i64 0)).run Try.prog w = .ok (.int .u8 (d 0)) w := fun _ => by kernel_rfl
  have i1 : ∀ w, (Instr.index 88 (dv d) (.int .i64 1)).run Try.prog w = .ok (.int .u8 (d 1)) w := fun _ => by kernel_rfl
  have i2 : ∀ w, (Instr.index 88 (dv d) (.int .i64 2)).run Try.prog w = .ok (.int .u8 (d 2)) w := fun _ => by kernel_rfl
  have i3 : ∀ w, (Instr.index 88 (dv d) (.int .i64 3)).run Try.prog w = .ok (.int .u8 (d 3)) w := fun _ => by kernel_rfl
  have i4 : ∀ w, (Instr.index 88 (dv d) (.int .i64 4)).run Try.prog w = .ok (.int .u8 (d 4)) w := fun _ => by kernel_rfl
  have i5 : ∀ w, (Instr.index 88 (dv d) (.int .i64 5)).run Try.prog w = .ok (.int .u8 (d 5)) w := fun _ => by kernel_rfl
  have i6 : ∀ w, (Instr.index 88 (dv d) (.int .i64 6)).run Try.prog w = .ok (.int .u8 (d 6)) w := fun _ => by kernel_rfl
  have i7 : ∀ w, (Instr.index 88 (dv d) (.int .i64 7)).run Try.prog w = .ok (.int .u8 (d 7)) w := fun _ => by kernel_rfl
  go_enter Try.func81, Try.ntmps81
  go_wp2
  refine wp_loop_rounds 9 ?_
  iterate 9
    rw [rounds_succ]
    go_wp2
  go_ret
  exact ⟨ret_int (or_num8 d hd), (Below.refl _ w).al _⟩

set_option maxHeartbeats 2000000 in
set_option maxRecDepth 100000 in
theorem refNum8_any (d : Nat → Int) (w : World) (hd : By d) :
    Calls Try.prog 74 #[dv d] w fun e w' => e = .returned (.int .u64 (num8 d)) ∧ Below w.heap.size w w' := by
  obtain ⟨a0, b0⟩ := hd 0
  obtain ⟨a1, b1⟩ := hd 1
  obtain ⟨a2, b2⟩ := hd 2
  obtain ⟨a3, b3⟩ := hd 3
  obtain ⟨a4, b4⟩ := hd 4
  obtain ⟨a5, b5⟩ := hd 5
  obtain ⟨a6, b6⟩ := hd 6
  obtain ⟨a7, b7⟩ := hd 7
  go_enter Try.func74, Try.ntmps74
  go_wp2
  refine wp_loop_rounds 9 ?_
  iterate 9
    rw [rounds_succ]
    go_wp2
  go_ret
  exact ⟨ret_int (by unfold num8; omega), (Below.refl _ w).al _⟩

theorem dv_eq {d : Nat → Int} {a0 a1 a2 a3 a4 a5 a6 a7 : Int} (h0 : a0 = d 0) (h1 : a1 = d 1) (h2 : a2 = d 2) (h3 : a3 = d 3) (h4 : a4 = d 4) (h5 : a5 = d 5) (h6 : a6 = d 6) (h7 : a7 = d 7) :
    Ending.returned (.agg #[.int .u8 a0, .int .u8 a1, .int .u8 a2, .int .u8 a3, .int .u8 a4, .int .u8 a5, .int .u8 a6, .int .u8 a7]) = .returned (dv d) := by
  subst h0 h1 h2 h3 h4 h5 h6 h7
  rfl

set_option maxHeartbeats 2000000 in
set_option maxRecDepth 100000 in
theorem fromNum_any (n : Int) (w : World) (h0 : 0 ≤ n) (h1 : n ≤ 18446744073709551615) :
    Calls Try.prog 77 #[.int .u64 n] w fun e w' => e = .returned (dv (dig n)) ∧ Below w.heap.size w w' := by
  go_enter Try.func77, Try.ntmps77
  go_wp2
  refine wp_loop_rounds 9 ?_
  iterate 9
    rw [rounds_succ]
    go_wp2
  refine bodyPost_ret (v := .agg #[.int .u8 _, .int .u8 _, .int .u8 _, .int .u8 _, .int .u8 _, .int .u8 _, .int .u8 _, .int .u8 _]) (by simp [results, Try.results77, go_sem]; exact ⟨rfl, rfl, rfl, rfl, rfl, rfl, rfl, rfl⟩) rfl ⟨dv_eq ?_ ?_ ?_ ?_ ?_ ?_ ?_ ?_, ((Below.refl _ w).al _).al _⟩
  all_goals (simp [dig]; try omega)

set_option maxHeartbeats 2000000 in
set_option maxRecDepth 100000 in
theorem refFromNum_any (n : Int) (w : World) (h0 : 0 ≤ n) (h1 : n ≤ 18446744073709551615) :
    Calls Try.prog 72 #[.int .u64 n] w fun e w' => e = .returned (dv (dig n)) ∧ Below w.heap.size w w' := by
  go_enter Try.func72, Try.ntmps72
  go_wp2
  refine wp_loop_rounds 9 ?_
  iterate 9
    rw [rounds_succ]
    go_wp2
  refine bodyPost_ret (v := .agg #[.int .u8 _, .int .u8 _, .int .u8 _, .int .u8 _, .int .u8 _, .int .u8 _, .int .u8 _, .int .u8 _]) (by simp [results, Try.results72, go_sem]; exact ⟨rfl, rfl, rfl, rfl, rfl, rfl, rfl, rfl⟩) rfl ⟨dv_eq ?_ ?_ ?_ ?_ ?_ ?_ ?_ ?_, ((Below.refl _ w).al _).al _⟩
  all_goals (simp [dig]; try omega)
end Go.Proofs.Ytidppcaohkfnfaa
