/-
  OctetNil: a nil reader; the walk.
-/
import Derived.Test.YtcjgpfocngipmaaKnown
import Derived.Test.YtcjgpfocngipmaaReadB
namespace Go.Proofs.Ytcjgpfocngipmaa
open Go.RowKit

set_option maxRecDepth 100000 in
theorem read_nil (f : Value) (w : World) : Calls Try.prog 35 #[.pointer none, f] w fun e w' => e = .returned (.tuple #[]) ∧ w = w' := by
  go_enter Try.func35, Try.ntmps35
  go_wp2_with fail
  refine bodyPost_ret (results_none rfl _ _ _) rfl ?_
  exact ⟨rfl, rfl⟩
set_option maxRecDepth 100000 in
theorem num_nil (x : Int) (w : World) : Calls Try.prog 23 #[.pointer none, .int .u64 x] w fun e w' => e = .returned (.int .u64 0) ∧ Below w.heap.size w w' := by
  go_enter Try.func23, Try.ntmps23
  go_wp2_with fail
  refine (read_nil _ _).mono ?_
  rintro e w1 ⟨rfl, rfl⟩
  go_wp2_with fail
  go_ret
  exact ⟨rfl, ((Below.refl _ w).al _).al _⟩
set_option maxRecDepth 100000 in
theorem int_nil (w : World) : Calls Try.prog 22 #[.pointer none] w fun e w' => e = .returned (.int .i64 0) ∧ Below w.heap.size w w' := by
  have t : (bits .and .u64 (0 : Int) 1 == 1) = false := by decide
  go_enter Try.func22, Try.ntmps22
  go_wp2_with fail
  refine (num_nil _ _).mono ?_
  rintro e w1 ⟨rfl, b1⟩
  go_wp2_with fail
  go_ret
  exact ⟨rfl, b1⟩
set_option maxHeartbeats 1000000 in
set_option maxRecDepth 100000 in
theorem bytes_nil (x : Int) (w : World) (hx : x ≤ 9223372036854775807) : Calls Try.prog 26 #[.pointer none, .int .i64 x] w fun e w' => e = .returned (.slice none 0 0) ∧ Below w.heap.size w w' := by
  by_cases h : x < 0
  · go_enter Try.func26, Try.ntmps26
    go_wp2_with fail
    refine (read_nil _ _).mono ?_
    rintro e w1 ⟨rfl, rfl⟩
    go_wp2_with fail
    go_ret
    exact ⟨rfl, ((Below.refl _ w).al _).al _⟩
  · go_enter Try.func26, Try.ntmps26
    go_wp2_with fail
    refine (read_nil _ _).mono ?_
    rintro e w1 ⟨rfl, rfl⟩
    go_wp2_with fail
    go_ret
    exact ⟨rfl, ((Below.refl _ w).al _).al _⟩
set_option maxHeartbeats 1000000 in
set_option maxRecDepth 100000 in
theorem text_nil (x : Int) (w : World) (hx : x ≤ 9223372036854775807) : Calls Try.prog 28 #[.pointer none, .int .i64 x] w fun e w' => e = .returned (.string ⟨#[]⟩) ∧ Below w.heap.size w w' := by
  go_enter Try.func28, Try.ntmps28
  go_wp2_with fail
  refine (bytes_nil _ _ hx).mono ?_
  rintro e w1 ⟨rfl, b1⟩
  have hcv := run_text (w := w1) (A := none) (n := 0) (l := []) 0 RB.none_
  go_wp2_with fail
  go_ret
  exact ⟨rfl, b1⟩
set_option maxRecDepth 100000 in
theorem left_nil (w : World) : Calls Try.prog 25 #[.pointer none] w fun e w' => e = .returned (.int .i64 0) ∧ w = w' := by
  go_enter Try.func25, Try.ntmps25
  go_wp2_with fail
  go_ret
  exact ⟨rfl, rfl⟩
set_option maxRecDepth 100000 in
theorem err_nil (w : World) : Calls Try.prog 24 #[.pointer none] w fun e w' => e = .returned (.int .i64 1) ∧ w = w' := by
  go_enter Try.func24, Try.ntmps24
  go_wp2_with fail
  go_ret
  exact ⟨rfl, rfl⟩
set_option maxRecDepth 100000 in
theorem end_nil (w : World) : Calls Try.prog 27 #[.pointer none] w fun e w' => e = .returned (.int .i64 1) ∧ w = w' := by
  go_enter Try.func27, Try.ntmps27
  go_wp2_with fail
  refine (err_nil _).mono ?_
  rintro e w1 ⟨rfl, rfl⟩
  go_wp2_with fail
  refine (err_nil _).mono ?_
  rintro e w1 ⟨rfl, rfl⟩
  go_wp2_with fail
  go_ret
  exact ⟨rfl, rfl⟩

set_option maxHeartbeats 1000000 in
set_option maxRecDepth 100000 in
theorem octetNil_any (n : Int) (most : Nat) (w : World) (hn : n ≤ 9223372036854775807) :
    Calls Try.prog 9 #[.int .i64 n, .int .u64 most] w (Tells w true) := by
  go_enter Try.func9, Try.ntmps9
  go_wp2_with fail
  refine (known_any _).mono ?_
  rintro e w1 ⟨rfl, b1⟩
  go_wp2_with fail
  refine (num_nil _ _).mono ?_
  rintro e w2 ⟨rfl, b2⟩
  go_wp2_with fail
  refine (int_nil _).mono ?_
  rintro e w3 ⟨rfl, b3⟩
  go_wp2_with fail
  refine (bytes_nil _ _ hn).mono ?_
  rintro e w4 ⟨rfl, b4⟩
  go_wp2_with fail
  refine (text_nil _ _ hn).mono ?_
  rintro e w5 ⟨rfl, b5⟩
  go_wp2_with fail
  refine (left_nil _).mono ?_
  rintro e w6 ⟨rfl, rfl⟩
  go_wp2_with fail
  refine (err_nil _).mono ?_
  rintro e w6 ⟨rfl, rfl⟩
  go_wp2_with fail
  refine (end_nil _).mono ?_
  rintro e w6 ⟨rfl, rfl⟩
  go_wp2_with fail
  go_ret
  exact ⟨rfl, (((b1.then_ b2).then_ b3).then_ b4).then_ b5⟩
end Go.Proofs.Ytcjgpfocngipmaa
