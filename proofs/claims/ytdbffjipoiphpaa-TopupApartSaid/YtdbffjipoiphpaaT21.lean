/-
  package topup: the nil bank; the reference's Ints; TopupNil: the walk.
-/
import Derived.Test.YtdbffjipoiphpaaT20
import Derived.Test.YtdbffjipoiphpaaArr
namespace Go.Proofs.Ytdbffjipoiphpaa
open Go.RowKit

set_option maxHeartbeats 400000 in
set_option maxRecDepth 100000 in
theorem ints_true (A A' : Option Addr) (n c c' : Nat) (xs : List Int) (w : World) (ha : RI w A n xs) (hb : RI w A' n xs) (hn : n ≤ 140737488355328) :
    Calls Try.prog 20 #[.slice A n c, .slice A' n c'] w (Tells w true) := by
  go_enter Try.func20, Try.ntmps20
  have g0 : ((n : Int) != (n : Int)) = false := by simp
  go_wp2
  go_loopw [5] (fun i wr => ∃ k q : Nat, k ≤ n ∧ i = .int .i64 k ∧ wr = w.drewN q) (fun i _ => n - (intOf i).toNat)
  case atStart => exact ⟨0, 0, Nat.zero_le _, rfl, rfl⟩
  case round =>
    obtain ⟨k, q, hk, rfl, rfl⟩ := hrel
    by_cases hlt : k < n
    · obtain ⟨b, o, rfl, hbl, hkl, hc⟩ := ha.at_ hlt
      obtain ⟨b', o', rfl, hbl', hkm, hc'⟩ := hb.at_ hlt
      generalize xs[k] = x at *
      have g1 : (0 : Int) ≤ (k : Int) := by omega
      have g2 : (k : Int) < (n : Int) := by omega
      have g3 : (x != x) = false := by simp
      go_wp2
      go_quiet (fail)
      go_wp2
      go_roundw
      case rel => exact ⟨k + 1, _, by omega, by go_num, rfl⟩
      case measure => simp [intOf]; omega
    · go_wp2
      go_ret
      exact ⟨rfl, below_drewN (Below.refl _ _) q⟩

theorem info_u8 : (Try.prog.info? 5).map (·.size) = some 1 := by kernel_rfl
/-- Two tables compared. -/
theorem run_eq_tab (xs ys : List Int) (hx : xs.length = 8) (hy : ys.length = 8) (W : World) : (Op.equalIn 10000 30 (.agg (xs.map (Value.int .u8)).toArray) (.agg (ys.map (Value.int .u8)).toArray)).run Try.prog W = .ok (decide (xs = ys)) W := by
  obtain ⟨i, hi, _⟩ := Option.map_eq_some_iff.1 info_u8
  exact run_equal_row W 9999 Try.underlying30 hi (by kernel_rfl) (by kernel_rfl) (Value.int .u8) (fun a b => by rw [run_equalIn_int W 9998 _ _ _ a b Try.underlying5]; congr 1) xs ys hx hy
def nilR : Array Value := #[.int .u8 0, .int .u8 0, .int .u8 0, .int .u8 0, .int .u8 0, .int .u8 0, .int .u8 0, .int .u8 0, .int .i64 0, .slice none 0 0, .int .i64 0]
theorem ri_nil (w : World) : RI w none 0 [] := ⟨by simp, fun h => absurd h (by omega)⟩
set_option maxHeartbeats 400000 in
set_option maxRecDepth 100000 in
theorem sameRaise_nil (c c' : Nat) (w : World) :
    Calls Try.prog 24 #[.agg #[.int .u8 0, .int .u8 0, .int .u8 0, .int .u8 0, .int .u8 0, .int .u8 0, .int .u8 0, .int .u8 0, .int .i64 0, .slice none 0 c, .int .i64 0], .agg #[.int .u8 0, .int .u8 0, .int .u8 0, .int .u8 0, .int .u8 0, .int .u8 0, .int .u8 0, .int .u8 0, .int .i64 0, .slice none 0 c', .int .i64 0]] w (Tells w true) := by
  have heq : ∀ W, (Op.equalIn 10000 30 (.agg #[.int .u8 0, .int .u8 0, .int .u8 0, .int .u8 0, .int .u8 0, .int .u8 0, .int .u8 0, .int .u8 0]) (.agg #[.int .u8 0, .int .u8 0, .int .u8 0, .int .u8 0, .int .u8 0, .int .u8 0, .int .u8 0, .int .u8 0])).run Try.prog W = .ok true W := run_eq_tab [0, 0, 0, 0, 0, 0, 0, 0] [0, 0, 0, 0, 0, 0, 0, 0] rfl rfl
  go_enter Try.func24, Try.ntmps24
  go_wp2_with fail
  refine (ints_true _ _ _ _ _ [] _ (ri_nil _) (ri_nil _) (by omega)).mono ?_
  rintro e w1 ⟨rfl, b1⟩
  go_wp2_with fail
  go_ret
  exact ⟨rfl, (((Below.refl _ w).al _).al _).then_ b1⟩

set_option maxHeartbeats 400000 in
set_option maxRecDepth 100000 in
theorem nil_ask (h : Int) (v : Value) (w : World) (hv : ∃ t0 t1 t2 t3 t4 t5 t6 t7 num till A n c, v = .agg #[.int .u8 t0, .int .u8 t1, .int .u8 t2, .int .u8 t3, .int .u8 t4, .int .u8 t5, .int .u8 t6, .int .u8 t7, .int .i64 num, .slice A n c, .int .i64 till]) :
    Calls Try.prog 13 #[.pointer none, .int .i64 h, v] w fun e w' => e = .returned (.int .i64 1) ∧ Below w.heap.size w w' := by
  obtain ⟨t0, t1, t2, t3, t4, t5, t6, t7, num, till, A, n, c, rfl⟩ := hv
  go_enter Try.func13, Try.ntmps13
  go_wp2_with fail
  go_ret
  exact ⟨rfl, by repeat (first | exact Below.refl _ _ | apply Below.al)⟩
set_option maxHeartbeats 400000 in
set_option maxRecDepth 100000 in
theorem nil_put (h seat amt : Int) (w : World) : Calls Try.prog 16 #[.pointer none, .int .i64 h, .int .i64 seat, .int .i64 amt] w fun e w' => e = .returned (.int .i64 1) ∧ Below w.heap.size w w' := by
  go_enter Try.func16, Try.ntmps16
  go_wp2_with fail
  go_ret
  exact ⟨rfl, by repeat (first | exact Below.refl _ _ | apply Below.al)⟩
set_option maxHeartbeats 400000 in
set_option maxRecDepth 100000 in
theorem nil_back (h seat : Int) (w : World) : Calls Try.prog 17 #[.pointer none, .int .i64 h, .int .i64 seat] w fun e w' => e = .returned (.tuple #[.int .i64 0, .int .i64 1]) ∧ Below w.heap.size w w' := by
  go_enter Try.func17, Try.ntmps17
  go_wp2_with fail
  go_ret2
  exact ⟨rfl, by repeat (first | exact Below.refl _ _ | apply Below.al)⟩
set_option maxHeartbeats 400000 in
set_option maxRecDepth 100000 in
theorem nil_open (w : World) : Calls Try.prog 12 #[.pointer none] w fun e w' => e = .returned (.tuple #[.agg #[.int .u8 0, .int .u8 0, .int .u8 0, .int .u8 0, .int .u8 0, .int .u8 0, .int .u8 0, .int .u8 0, .int .i64 0, .slice none 0 0, .int .i64 0], .slice none 0 0, .bool false]) ∧ Below w.heap.size w w' := by
  go_enter Try.func12, Try.ntmps12
  go_wp2_with fail
  exact bodyPost_ret (v := .tuple #[.agg #[.int .u8 0, .int .u8 0, .int .u8 0, .int .u8 0, .int .u8 0, .int .u8 0, .int .u8 0, .int .u8 0, .int .i64 0, .slice none 0 0, .int .i64 0], .slice none 0 0, .bool false]) (by simp [results, Try.results12, go_sem]) rfl ⟨rfl, (Below.refl _ _).al _⟩
set_option maxRecDepth 100000 in
theorem nil_stakes (w : World) : Calls Try.prog 21 #[.pointer none] w fun e w' => e = .returned (.slice none 0 0) ∧ w = w' := by
  go_enter Try.func21, Try.ntmps21
  go_wp2_with fail
  go_ret
  exact ⟨rfl, rfl⟩
set_option maxRecDepth 100000 in
theorem nil_pot (w : World) : Calls Try.prog 18 #[.pointer none] w fun e w' => e = .returned (.int .i64 0) ∧ w = w' := by
  go_enter Try.func18, Try.ntmps18
  go_wp2_with fail
  go_ret
  exact ⟨rfl, rfl⟩
set_option maxRecDepth 100000 in
theorem nil_held (w : World) : Calls Try.prog 11 #[.pointer none] w fun e w' => e = .returned (.int .i64 0) ∧ w = w' := by
  go_enter Try.func11, Try.ntmps11
  go_wp2_with fail
  go_ret
  exact ⟨rfl, rfl⟩
set_option maxRecDepth 100000 in
theorem nil_clone (w : World) : Calls Try.prog 23 #[.pointer none] w fun e w' => e = .returned (.pointer none) ∧ w = w' := by
  go_enter Try.func23, Try.ntmps23
  go_wp2_with fail
  go_ret
  exact ⟨rfl, rfl⟩
set_option maxRecDepth 100000 in
theorem nil_same (w : World) : Calls Try.prog 22 #[.pointer none, .pointer none] w fun e w' => e = .returned (.bool true) ∧ w = w' := by
  go_enter Try.func22, Try.ntmps22
  go_wp2_with fail
  go_ret
  exact ⟨rfl, rfl⟩
set_option maxRecDepth 100000 in
theorem nil_same1 (a : Addr) (w : World) : Calls Try.prog 22 #[.pointer none, .pointer (some a)] w fun e w' => e = .returned (.bool false) ∧ w = w' := by
  go_enter Try.func22, Try.ntmps22
  go_wp2_with fail
  go_ret
  exact ⟨rfl, rfl⟩
set_option maxRecDepth 100000 in
theorem nil_same2 (a : Addr) (w : World) : Calls Try.prog 22 #[.pointer (some a), .pointer none] w fun e w' => e = .returned (.bool false) ∧ w = w' := by
  go_enter Try.func22, Try.ntmps22
  go_wp2_with fail
  go_ret
  exact ⟨rfl, rfl⟩

end Go.Proofs.Ytdbffjipoiphpaa
