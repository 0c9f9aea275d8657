/-
  OctetOnce: the walk.
-/
import Derived.Test.YtcjgpfocngipmaaKnown
import Derived.Test.YtcjgpfocngipmaaReadN
import Derived.Test.YtcjgpfocngipmaaRound
import Derived.Deep.RegionHeld3
namespace Go.Proofs.Ytcjgpfocngipmaa
open Go.RowKit

theorem readNum_big (b : List UInt8) : (∃ e, e ≠ 0 ∧ readNum b 0 0 maxU = (0, 0, e)) ∨ (∃ n s, lookL b = (n, s, 0) ∧ readNum b 0 0 maxU = (n, s, 0)) := by
  obtain ⟨n, s, e, h⟩ : ∃ n s e, lookL b = (n, s, e) := ⟨_, _, _, rfl⟩
  have hlt := lookL_lt b
  rw [h] at hlt
  simp only at hlt
  unfold readNum stepN
  rw [if_neg (by simp), List.drop_zero, h]
  by_cases he : e = 0
  · subst he
    refine .inr ⟨n, s, rfl, ?_⟩
    simp only [ne_eq, not_true_eq_false, if_false]
    rw [if_neg (by unfold maxU; omega)]
    simp [after]
  · refine .inl ⟨e, he, ?_⟩
    simp [he, after]

set_option maxHeartbeats 2000000 in
set_option maxRecDepth 100000 in
theorem octetOnce_any (A0 : Option Addr) (m0 c0 : Nat) (l0 : List UInt8) (w : World) (hc0 : m0 ≤ c0) (r0 : RB w A0 m0 l0) :
    Calls Try.prog 7 #[.slice A0 m0 c0] w (Tells w true) := by
  go_enter Try.func7, Try.ntmps7
  go_upto_region 1 with fail
  go_cut [0] (fun s0 wx => ∃ p0 : Nat, p0 ≤ m0 ∧ p0 ≤ 40 ∧ s0 = .slice A0 p0 c0 ∧ wx = w)
  case first =>
    go_wp2_with fail
    all_goals
      go_meet
      first
        | exact ⟨40, by omega, by omega, rfl, rfl⟩
        | exact ⟨m0, by omega, by omega, rfl, rfl⟩
  case rest =>
    obtain ⟨p, hp, hp40, rfl, rfl⟩ := hcut
    rename World => w
    replace r0 := r0.upto hp
    generalize l0.take p = b at r0
    have hpc : p ≤ c0 := by omega
    clear hp hc0
    have hl := Lib.hid r0.len
    go_wp2_with fail
    refine (newReader_any _ _ _ b _ r0 (by omega)).mono ?_
    rintro e w1 ⟨g, rfl, hr1, hb1⟩
    go_wp2_with fail
    refine (num_at _ g 0 0 maxU 18446744073709551615 rfl b _ hr1).mono ?_
    have hg := hr1.lo_le
    rcases readNum_big b with ⟨er, he, hre⟩ | ⟨n, s, hlo, hre⟩
    · rw [hre]
      rintro e w2 ⟨rfl, hr2, hk2⟩
      have te : ((er : Int) != 0) = true := by simp; omega
      have hb2 : Below w.heap.size w w2 := hb1.trans (hk2.to_below hb1.size (fun k hk h => by omega))
      clear hre
      go_wp2_with fail
      refine (err_any _ g 0 er b _ hr2).mono ?_
      rintro e w3 ⟨rfl, rfl⟩
      go_wp2_with fail
      refine (known_any _).mono ?_
      rintro e w3 ⟨rfl, hb3⟩
      go_wp2_with fail
      refine (left_tells _ g 0 er b _ (hr2.below hb3)).mono ?_
      rintro e w4 ⟨rfl, hb4⟩
      have tl : ((b.length : Int) == (p : Int)) = true := by have := hl.out; simp; omega
      go_wp2_with fail
      go_ret
      exact ⟨rfl, (hb2.then_ hb3).then_ hb4⟩
    · obtain ⟨hnum, hs1, hs10, hsl⟩ := num_of_lookL hlo
      have hnl : U64 n := by have := lookL_lt b; rw [hlo] at this; exact this
      rw [hre]
      rintro e w2 ⟨rfl, hr2, hk2⟩
      have hb2 : Below w.heap.size w w2 := hb1.trans (hk2.to_below hb1.size (fun k hk h => by omega))
      have HN := Lib.hid hnum
      clear hre hlo hnum
      go_wp2_with fail
      refine (err_any _ g s 0 b _ hr2).mono ?_
      rintro e w3 ⟨rfl, rfl⟩
      go_wp2_with fail
      refine (left_tells _ g s 0 b _ hr2).mono ?_
      rintro e w3 ⟨rfl, hb3⟩
      have hb23 := hb2.then_ hb3
      have hsub : (p : Int) - ((b.length - s : Nat) : Int) = (s : Int) := by have := hl.out; omega
      have r3 := r0.below hb23
      clear hb3 hb2 hb1 hk2 hr2 hr1
      have g1 : (0 : Int) < (s : Int) := by omega
      have g2 : (s : Int) ≤ 10 := by omega
      have d1 : decide ((0 : Int) < (s : Int)) = true := by simp; omega
      have d2 : decide ((s : Int) ≤ 10) = true := by simp; omega
      have d3 : decide (0 < s) = true := by simp; omega
      have g3 : (0 : Int) ≤ (s : Int) := by omega
      have g4 : (s : Int) ≤ (c0 : Int) := by have := hl.out; omega
      have hsp : s ≤ p := by have := hl.out; omega
      go_upto_region 9 with fail
      go_region_held3 (fun _ => True) (trivial) (first
        | (go_at_call 13; refine (known_any _).mono ?_; rintro e w4 ⟨rfl, hb4⟩)
        | (go_at_call 12; refine (putNum_any none 0 0 n [] _ RB.none_ hnl (by omega)).mono ?_; rintro e w5 ⟨v5, rfl, o5, b5⟩; obtain ⟨A5, m5, c5, rfl, -, -, r5⟩ := o5.got; have g5 : m5 ≤ 10 := (by have := r5.len; have := num_le10 hnl; simp only [List.nil_append] at *; omega))
        | (go_at_call 17; refine (same_true _ _ _ _ _ _ (num n) (b.take s) _ r5 (((r3.drew.below hb4).below b5).upto hsp) (by omega) HN.out).mono ?_; rintro e w6 ⟨rfl, hb6⟩))
      all_goals
        go_wp2_with fail
        go_ret
        exact ⟨rfl, (((below_drewN hb23 1).then_ hb4).then_ b5).then_ hb6⟩
end Go.Proofs.Ytcjgpfocngipmaa
