
/-
  Readers of package octet: Num, Int, Left, Err, End.
-/
import Derived.Test.YtidppcaohkfnfaaReader
namespace Go.Proofs.Ytidppcaohkfnfaa
open Go.RowKit

/-- Num of a reader: the number, the place, the error. -/
def readNum (b : List UInt8) (at_ err most : Nat) : Nat × Nat × Nat :=
  if err ≠ 0 then (0, at_, err) else ((stepN (b.drop at_) most).1, (after at_ (stepN (b.drop at_) most)).1, (after at_ (stepN (b.drop at_) most)).2)

set_option maxHeartbeats 1000000 in
set_option maxRecDepth 100000 in
theorem num_any (lo g at_ err most : Nat) (b : List UInt8) (w : World) (hr : Rdr w lo g b at_ err) :
    Calls Try.prog 51 #[.pointer (some ⟨g, 0, none⟩), .int .u64 most] w
      fun e w' => e = .returned (.int .u64 (readNum b at_ err most).1) ∧ Rdr w' lo g b (readNum b at_ err most).2.1 (readNum b at_ err most).2.2 ∧ Kept (fun k => k = g) w w' := by
  have hg := hr.lt
  have e1 : Blk ((w.alloc (.cells #[.int .u64 (most : Int)] 50)).alloc (.cells #[.int .u64 0] 50)) w.heap.size 50 #[.int .u64 (most : Int)] := (Blk.new _ _ _).alloc _
  have e2 : Blk ((w.alloc (.cells #[.int .u64 (most : Int)] 50)).alloc (.cells #[.int .u64 0] 50)) (w.heap.size + 1) 50 #[.int .u64 0] := by
    have := Blk.new (w.alloc (.cells #[.int .u64 (most : Int)] 50)) 50 #[.int .u64 0]
    simpa using this
  have kk : Kept (fun k => k = g) w ((w.alloc (.cells #[.int .u64 (most : Int)] 50)).alloc (.cells #[.int .u64 0] 50)) := ((Kept.refl _ w).alloc _).alloc _
  have hr1 : Rdr ((w.alloc (.cells #[.int .u64 (most : Int)] 50)).alloc (.cells #[.int .u64 0] 50)) lo g b at_ err := hr.below (((Below.refl _ w).al _).al _)
  by_cases he : err = 0
  · have HN : Hid (readNum b at_ err most = ((stepN (b.drop at_) most).1, (after at_ (stepN (b.drop at_) most)).1, (after at_ (stepN (b.drop at_) most)).2)) := by
      rw [Hid, readNum, if_neg (by simpa using he)]
    subst he
    generalize readNum b at_ 0 most = rn at HN
    go_enter Try.func51, Try.ntmps51
    go_wp2_with fail
    refine (readN_go lo g at_ _ _ most b _ hr1 (by omega) (e1.cell 0) (e2.cell 0) (e2.frozen 0)).mono ?_
    rintro e w1 ⟨rfl, r1, hv, hk⟩
    go_wp2_with fail
    go_ret
    rw [HN.out]
    refine ⟨rfl, r1, kk.then_ hk (fun i hi h => by omega)⟩
  · have HN : Hid (readNum b at_ err most = (0, at_, err)) := by rw [Hid, readNum, if_pos he]
    have c2 := e2.cell 0
    generalize readNum b at_ err most = rn at HN
    go_enter Try.func51, Try.ntmps51
    go_wp2_with fail
    refine (readN_err lo g at_ err _ b _ hr1 he).mono ?_
    rintro e w1 ⟨rfl, rfl⟩
    go_wp2_with fail
    go_ret
    rw [HN.out]
    exact ⟨rfl, hr1, kk⟩

theorem num_at (lo g at_ err most : Nat) (y : Int) (hy : y = (most : Int)) (b : List UInt8) (w : World) (hr : Rdr w lo g b at_ err) :
    Calls Try.prog 51 #[.pointer (some ⟨g, 0, none⟩), .int .u64 y] w
      fun e w' => e = .returned (.int .u64 (readNum b at_ err most).1) ∧ Rdr w' lo g b (readNum b at_ err most).2.1 (readNum b at_ err most).2.2 ∧ Kept (fun k => k = g) w w' := by
  subst hy
  exact num_any lo g at_ err most b w hr

/-- The greatest number of 64 bits. -/
def maxU : Nat := 18446744073709551615
theorem lookL_lt (l : List UInt8) : (lookL l).1 < 18446744073709551616 := by
  unfold lookL
  split
  · simp
  · rename_i k hk
    obtain ⟨h, h10, _, _⟩ := stopF_get 10 l k hk
    split
    · simp
    · rename_i hn
      have hk' : (l.getD k 0) = l[k] := by simp [List.getD, h]
      rw [hk'] at hn
      have := look_ok (l := l) (k := k) h (by omega) (fun h9 => by omega)
      simp only
      rw [← this]
      exact Nat.mod_lt _ (by omega)
theorem readNum_lt (b : List UInt8) (at_ err most : Nat) : (readNum b at_ err most).1 < 18446744073709551616 := by
  have := lookL_lt (b.drop at_)
  unfold readNum
  split
  · simp
  · simp only
    unfold stepN
    split
    · simp
    · split
      · simp
      · exact this
theorem and_one (n : Nat) (h : n < 18446744073709551616) : bits .and .u64 (n : Int) 1 = ((n % 2 : Nat) : Int) := by
  have h1 := u64_and_nat n 1 h (by omega)
  rw [nat_mask1] at h1
  exact h1

set_option maxHeartbeats 1000000 in
set_option maxRecDepth 100000 in
theorem err_any (lo g at_ err : Nat) (b : List UInt8) (w : World) (hr : Rdr w lo g b at_ err) :
    Calls Try.prog 53 #[.pointer (some ⟨g, 0, none⟩)] w fun e w' => e = .returned (.int .i64 err) ∧ w = w' := by
  obtain ⟨A, c, hblk, -⟩ := hr
  have h2 : w.cell? ⟨g, 2, none⟩ = some (.int .i64 err) := hblk.cell 2
  go_enter Try.func53, Try.ntmps53
  go_wp2_with fail
  go_ret
  exact ⟨rfl, rfl⟩

set_option maxHeartbeats 1000000 in
set_option maxRecDepth 100000 in
theorem left_any (lo g at_ err : Nat) (b : List UInt8) (w : World) (hr : Rdr w lo g b at_ err) :
    Calls Try.prog 54 #[.pointer (some ⟨g, 0, none⟩)] w fun e w' => e = .returned (.int .i64 ((b.length - at_ : Nat) : Int)) ∧ ∃ q, w' = w.drewN q := by
  obtain ⟨A, c, hblk, hbc, hin, hat, hlo, hbl⟩ := hr
  have h0 : w.cell? ⟨g, 0, none⟩ = some (.slice A b.length c) := hblk.cell 0
  have h1 : w.cell? ⟨g, 1, none⟩ = some (.int .i64 at_) := hblk.cell 1
  go_enter Try.func54, Try.ntmps54
  go_wp2_with fail
  go_quiet (fail)
  go_wp2_with fail
  go_ret
  refine ⟨ret_int ?_, _, rfl⟩
  omega

theorem left_tells (lo g at_ err : Nat) (b : List UInt8) (w : World) (hr : Rdr w lo g b at_ err) :
    Calls Try.prog 54 #[.pointer (some ⟨g, 0, none⟩)] w fun e w' => e = .returned (.int .i64 ((b.length - at_ : Nat) : Int)) ∧ Below w.heap.size w w' :=
  (left_any lo g at_ err b w hr).mono fun _ _ ⟨h, q, hq⟩ => ⟨h, by rw [hq]; exact below_drewN (Below.refl _ _) q⟩

/-- End of a reader. -/
def endOf (b : List UInt8) (at_ err : Nat) : Nat := if err ≠ 0 then err else if at_ < b.length then 5 else 0

end Go.Proofs.Ytidppcaohkfnfaa
