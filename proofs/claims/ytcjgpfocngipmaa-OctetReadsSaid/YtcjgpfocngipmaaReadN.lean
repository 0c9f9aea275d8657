/-
  Readers of package octet: Num, Int, Left, Err, End.
-/
import Derived.Test.YtcjgpfocngipmaaReader
namespace Go.Proofs.Ytcjgpfocngipmaa
open Go.RowKit

/-- Num of a reader: the number, the place, the error. -/
def readNum (b : List UInt8) (at_ err most : Nat) : Nat × Nat × Nat :=
  if err ≠ 0 then (0, at_, err) else ((stepN (b.drop at_) most).1, (after at_ (stepN (b.drop at_) most)).1, (after at_ (stepN (b.drop at_) most)).2)

set_option maxHeartbeats 1000000 in
set_option maxRecDepth 100000 in
theorem num_any (lo g at_ err most : Nat) (b : List UInt8) (w : World) (hr : Rdr w lo g b at_ err) :
    Calls Try.prog 23 #[.pointer (some ⟨g, 0, none⟩), .int .u64 most] w
      fun e w' => e = .returned (.int .u64 (readNum b at_ err most).1) ∧ Rdr w' lo g b (readNum b at_ err most).2.1 (readNum b at_ err most).2.2 ∧ Kept (fun k => k = g) w w' := by
  have hg := hr.lt
  have e1 : Blk ((w.alloc (.cells #[.int .u64 (most : Int)] 22)).alloc (.cells #[.int .u64 0] 22)) w.heap.size 22 #[.int .u64 (most : Int)] := (Blk.new _ _ _).alloc _
  have e2 : Blk ((w.alloc (.cells #[.int .u64 (most : Int)] 22)).alloc (.cells #[.int .u64 0] 22)) (w.heap.size + 1) 22 #[.int .u64 0] := by
    have := Blk.new (w.alloc (.cells #[.int .u64 (most : Int)] 22)) 22 #[.int .u64 0]
    simpa using this
  have kk : Kept (fun k => k = g) w ((w.alloc (.cells #[.int .u64 (most : Int)] 22)).alloc (.cells #[.int .u64 0] 22)) := ((Kept.refl _ w).alloc _).alloc _
  have hr1 : Rdr ((w.alloc (.cells #[.int .u64 (most : Int)] 22)).alloc (.cells #[.int .u64 0] 22)) lo g b at_ err := hr.below (((Below.refl _ w).al _).al _)
  by_cases he : err = 0
  · have HN : Hid (readNum b at_ err most = ((stepN (b.drop at_) most).1, (after at_ (stepN (b.drop at_) most)).1, (after at_ (stepN (b.drop at_) most)).2)) := by
      rw [Hid, readNum, if_neg (by simpa using he)]
    subst he
    generalize readNum b at_ 0 most = rn at HN
    go_enter Try.func23, Try.ntmps23
    go_wp2_with fail
    refine (readN_go lo g at_ _ _ most b _ hr1 (by omega) (e1.cell 0) (e2.cell 0) (e2.frozen 0)).mono ?_
    rintro e w1 ⟨rfl, r1, hv, hk⟩
    go_wp2_with fail
    go_ret
    rw [HN.out]
    refine ⟨rfl, r1, kk.then_ hk (fun i hi h => by omega)⟩
  · have HN : Hid (readNum b at_ err most = (0, at_, err)) := by rw [Hid, readNum, if_pos he]
    have c2 := e2.cell 0
    generalize readNum b at_ err most = rn at HN
    go_enter Try.func23, Try.ntmps23
    go_wp2_with fail
    refine (readN_err lo g at_ err _ b _ hr1 he).mono ?_
    rintro e w1 ⟨rfl, rfl⟩
    go_wp2_with fail
    go_ret
    rw [HN.out]
    exact ⟨rfl, hr1, kk⟩

theorem num_at (lo g at_ err most : Nat) (y : Int) (hy : y = (most : Int)) (b : List UInt8) (w : World) (hr : Rdr w lo g b at_ err) :
    Calls Try.prog 23 #[.pointer (some ⟨g, 0, none⟩), .int .u64 y] w
      fun e w' => e = .returned (.int .u64 (readNum b at_ err most).1) ∧ Rdr w' lo g b (readNum b at_ err most).2.1 (readNum b at_ err most).2.2 ∧ Kept (fun k => k = g) w w' := by
  subst hy
  exact num_any lo g at_ err most b w hr

/-- The greatest number of 64 bits. -/
def maxU : Nat := 18446744073709551615
theorem lookL_lt (l : List UInt8) : (lookL l).1 < 18446744073709551616 := by
  unfold lookL
  split
  · simp
  · rename_i k hk
    obtain ⟨h, h10, _, _⟩ := stopF_get 10 l k hk
    split
    · simp
    · rename_i hn
      have hk' : (l.getD k 0) = l[k] := by simp [List.getD, h]
      rw [hk'] at hn
      have := look_ok (l := l) (k := k) h (by omega) (fun h9 => by omega)
      simp only
      rw [← this]
      exact Nat.mod_lt _ (by omega)
theorem readNum_lt (b : List UInt8) (at_ err most : Nat) : (readNum b at_ err most).1 < 18446744073709551616 := by
  have := lookL_lt (b.drop at_)
  unfold readNum
  split
  · simp
  · simp only
    unfold stepN
    split
    · simp
    · split
      · simp
      · exact this
theorem and_one (n : Nat) (h : n < 18446744073709551616) : bits .and .u64 (n : Int) 1 = ((n % 2 : Nat) : Int) := by
  have h1 := u64_and_nat n 1 h (by omega)
  rw [nat_mask1] at h1
  exact h1

set_option maxHeartbeats 1000000 in
set_option maxRecDepth 100000 in
theorem int_any (lo g at_ err : Nat) (b : List UInt8) (w : World) (hr : Rdr w lo g b at_ err) :
    Calls Try.prog 22 #[.pointer (some ⟨g, 0, none⟩)] w
      fun e w' => e = .returned (.int .i64 (unfold_ (readNum b at_ err maxU).1)) ∧ Rdr w' lo g b (readNum b at_ err maxU).2.1 (readNum b at_ err maxU).2.2 ∧ Kept (fun k => k = g) w w' := by
  have hlt := readNum_lt b at_ err maxU
  have HC := Lib.hid (num_at lo g at_ err maxU 18446744073709551615 rfl b w hr)
  generalize readNum b at_ err maxU = rn at *
  obtain ⟨n, p, er⟩ := rn
  simp only at hlt
  have HA := Lib.hid (and_one n hlt)
  have hq : (n : Int) / 2 ≤ 9223372036854775807 := by omega
  clear hlt
  rcases Nat.mod_two_eq_zero_or_one n with h2 | h2
  · have t : (bits .and .u64 (n : Int) 1 == 1) = false := by rw [HA.out, h2]; rfl
    have HU : Hid (unfold_ n = (n : Int) / 2) := by rw [Hid, unfold_, if_neg (by omega)]; omega
    clear h2
    go_enter Try.func22, Try.ntmps22
    go_wp2_with fail
    refine HC.out.mono ?_
    rintro e w1 ⟨rfl, r1, k1⟩
    go_wp2_with fail
    go_ret
    exact ⟨by rw [HU.out]; rfl, r1, k1⟩
  · have t : (bits .and .u64 (n : Int) 1 == 1) = true := by rw [HA.out, h2]; rfl
    have HU : Hid (unfold_ n = -((n : Int) / 2) - 1) := by rw [Hid, unfold_, if_pos h2]; omega
    have HX := Lib.hid (i64_not_any ((n : Int) / 2) (by omega) (by omega))
    clear h2
    go_enter Try.func22, Try.ntmps22
    go_wp2_with fail
    refine HC.out.mono ?_
    rintro e w1 ⟨rfl, r1, k1⟩
    go_wp2_with fail
    go_ret
    exact ⟨by rw [HU.out]; exact ret_int (by rw [HX.out]; omega), r1, k1⟩

set_option maxHeartbeats 1000000 in
set_option maxRecDepth 100000 in
theorem err_any (lo g at_ err : Nat) (b : List UInt8) (w : World) (hr : Rdr w lo g b at_ err) :
    Calls Try.prog 24 #[.pointer (some ⟨g, 0, none⟩)] w fun e w' => e = .returned (.int .i64 err) ∧ w = w' := by
  obtain ⟨A, c, hblk, -⟩ := hr
  have h2 : w.cell? ⟨g, 2, none⟩ = some (.int .i64 err) := hblk.cell 2
  go_enter Try.func24, Try.ntmps24
  go_wp2_with fail
  go_ret
  exact ⟨rfl, rfl⟩

set_option maxHeartbeats 1000000 in
set_option maxRecDepth 100000 in
theorem left_any (lo g at_ err : Nat) (b : List UInt8) (w : World) (hr : Rdr w lo g b at_ err) :
    Calls Try.prog 25 #[.pointer (some ⟨g, 0, none⟩)] w fun e w' => e = .returned (.int .i64 ((b.length - at_ : Nat) : Int)) ∧ ∃ q, w' = w.drewN q := by
  obtain ⟨A, c, hblk, hbc, hin, hat, hlo, hbl⟩ := hr
  have h0 : w.cell? ⟨g, 0, none⟩ = some (.slice A b.length c) := hblk.cell 0
  have h1 : w.cell? ⟨g, 1, none⟩ = some (.int .i64 at_) := hblk.cell 1
  go_enter Try.func25, Try.ntmps25
  go_wp2_with fail
  go_quiet (fail)
  go_wp2_with fail
  go_ret
  refine ⟨ret_int ?_, _, rfl⟩
  omega

theorem left_tells (lo g at_ err : Nat) (b : List UInt8) (w : World) (hr : Rdr w lo g b at_ err) :
    Calls Try.prog 25 #[.pointer (some ⟨g, 0, none⟩)] w fun e w' => e = .returned (.int .i64 ((b.length - at_ : Nat) : Int)) ∧ Below w.heap.size w w' :=
  (left_any lo g at_ err b w hr).mono fun _ _ ⟨h, q, hq⟩ => ⟨h, by rw [hq]; exact below_drewN (Below.refl _ _) q⟩

/-- End of a reader. -/
def endOf (b : List UInt8) (at_ err : Nat) : Nat := if err ≠ 0 then err else if at_ < b.length then 5 else 0

set_option maxHeartbeats 1000000 in
set_option maxRecDepth 100000 in
theorem end_any (lo g at_ err : Nat) (b : List UInt8) (w : World) (hr : Rdr w lo g b at_ err) :
    Calls Try.prog 27 #[.pointer (some ⟨g, 0, none⟩)] w fun e w' => e = .returned (.int .i64 (endOf b at_ err)) ∧ Below w.heap.size w w' := by
  have hat : at_ ≤ b.length := by obtain ⟨A, c, _, _, _, h, _⟩ := hr; exact h
  by_cases he : err = 0
  · subst he
    by_cases hl : at_ < b.length
    · have HE : Hid (endOf b at_ 0 = 5) := by rw [Hid, endOf, if_neg (by simp), if_pos hl]
      go_enter Try.func27, Try.ntmps27
      go_wp2_with fail
      refine (err_any lo g at_ 0 b _ hr).mono ?_
      rintro e w1 ⟨rfl, rfl⟩
      go_wp2_with fail
      refine (left_tells lo g at_ 0 b _ hr).mono ?_
      rintro e w1 ⟨rfl, hb⟩
      have hp : 0 < b.length - at_ := by omega
      go_wp2_with fail
      go_ret
      rw [HE.out]
      exact ⟨rfl, hb⟩
    · have HE : Hid (endOf b at_ 0 = 0) := by rw [Hid, endOf, if_neg (by simp), if_neg hl]
      go_enter Try.func27, Try.ntmps27
      go_wp2_with fail
      refine (err_any lo g at_ 0 b _ hr).mono ?_
      rintro e w1 ⟨rfl, rfl⟩
      go_wp2_with fail
      refine (left_tells lo g at_ 0 b _ hr).mono ?_
      rintro e w1 ⟨rfl, hb⟩
      have hp : ¬ 0 < b.length - at_ := by omega
      go_wp2_with fail
      go_ret
      rw [HE.out]
      exact ⟨rfl, hb⟩
  · have HE : Hid (endOf b at_ err = err) := by rw [Hid, endOf, if_pos he]
    have t : ((err : Int) != 0) = true := by simp; omega
    go_enter Try.func27, Try.ntmps27
    go_wp2_with fail
    refine (err_any lo g at_ err b _ hr).mono ?_
    rintro e w1 ⟨rfl, rfl⟩
    go_wp2_with fail
    refine (err_any lo g at_ err b _ hr).mono ?_
    rintro e w1 ⟨rfl, rfl⟩
    go_wp2_with fail
    go_ret
    rw [HE.out]
    exact ⟨rfl, Below.refl _ _⟩
end Go.Proofs.Ytcjgpfocngipmaa
