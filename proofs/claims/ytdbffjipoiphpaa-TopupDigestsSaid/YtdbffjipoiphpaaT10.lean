/-
  package topup: what Ask asks, function by function.
-/
import Derived.Test.YtdbffjipoiphpaaT9
namespace Go.Proofs.Ytdbffjipoiphpaa
open Go.RowKit

/-- May these be heights and numbers? -/
def hts (h num till : Int) : Bool := [h, num, till].all heightB
/-- May another raise begin? -/
def freeB (b : Bk) (h : Int) : Bool := match b.wt with
  | none => true
  | some x => decide (x.till < h) && (sumW x == 0)

section
variable (S : Nat → Prop) (g gs cs gb gh gR gA gT gF : Nat) (b : Bk) (h : Int) (w : World)

set_option maxHeartbeats 400000 in
set_option maxRecDepth 100000 in
theorem ask1_any (wp : Option Addr) (hB : BAt w S g gs cs wp b) (c0 : w.cell? ⟨gb, 0, none⟩ = some (.pointer (some ⟨g, 0, none⟩))) (c1 : w.cell? ⟨gh, 0, none⟩ = some (.int .i64 h)) :
    Calls Try.prog 33 #[.pointer (some ⟨gb, 0, none⟩), .pointer (some ⟨gh, 0, none⟩)] w fun e w' => e = .returned (.bool (freeB b h)) ∧ Below w.heap.size w w' := by
  have c2 : w.cell? ⟨g, 2, none⟩ = some (.pointer wp) := hB.blk.cell 2
  cases hw : b.wt with
  | none =>
    have HF : Hid (freeB b h = true) := by rw [Hid, freeB, hw]
    have hp := hB.none_ hw
    subst hp
    clear hw
    go_enter Try.func33, Try.ntmps33
    go_wp2_with fail
    go_quiet (fail)
    go_wp2_with fail
    go_ret
    rw [HF.out]
    exact ⟨rfl, below_drewN (Below.refl _ _) _⟩
  | some x =>
    obtain ⟨gw, ga, ca, rfl, hx, _⟩ := hB.some_ x hw
    have HX := Lib.hid (fun n => hx.kept ((Kept.refl (fun _ => False) w).drewN n) (fun _ _ h => h))
    cases hd : decide (x.till < h)
    · have HF : Hid (freeB b h = false) := by rw [Hid, freeB, hw]; simp [hd]
      have HL := Lib.hid (fun n => (show Calls Try.prog 34 #[.pointer (some ⟨gw, 0, none⟩), .int .i64 h] (w.drewN n) fun e w' => e = .returned (.bool false) ∧ w.drewN n = w' by have hh := late_any S gw ga ca x h _ (HX.out n); rw [hd] at hh; exact hh))
      clear hw hd
      go_enter Try.func33, Try.ntmps33
      go_wp2_with fail
      go_quiet ((go_at_call 34; exact quiet_left (HL.out _)))
      go_wp2_with fail
      go_ret
      rw [HF.out]
      exact ⟨rfl, below_drewN (Below.refl _ _) _⟩
    · have HF : Hid (freeB b h = (sumW x == 0)) := by rw [Hid, freeB, hw]; simp [hd]
      have HL := Lib.hid (fun n => (show Calls Try.prog 34 #[.pointer (some ⟨gw, 0, none⟩), .int .i64 h] (w.drewN n) fun e w' => e = .returned (.bool true) ∧ w.drewN n = w' by have hh := late_any S gw ga ca x h _ (HX.out n); rw [hd] at hh; exact hh))
      clear hw hd
      go_enter Try.func33, Try.ntmps33
      go_wp2_with fail
      go_quiet ((first
        | (go_at_call 34; exact quiet_left (HL.out _))
        | (go_at_call 30; exact quiet_left (sum_any S gw ga ca x _ (HX.out _)))))
      go_wp2_with fail
      go_ret
      rw [HF.out]
      exact ⟨rfl, below_drewN (Below.refl _ _) _⟩

set_option maxHeartbeats 400000 in
set_option maxRecDepth 100000 in
theorem ask2_any (num till : Int) (c1 : w.cell? ⟨gh, 0, none⟩ = some (.int .i64 h)) (c8 : w.cell? ⟨gR, 8, none⟩ = some (.int .i64 num)) (c10 : w.cell? ⟨gR, 10, none⟩ = some (.int .i64 till)) :
    Calls Try.prog 36 #[.pointer (some ⟨gh, 0, none⟩), .pointer (some ⟨gR, 0, none⟩)] w fun e w' => e = .returned (.int .i64 (un (hts h num till) 2)) ∧ Below w.heap.size w w' := by
  go_enter Try.func36, Try.ntmps36
  go_wp2_with fail
  refine (heights_any _ _ _ [h, num, till] _ (ri_blk (xs := [h, num, till]) (Blk.new w _ #[.int .i64 h, .int .i64 num, .int .i64 till])) (by simp)).mono ?_
  rintro e w' ⟨rfl, rfl⟩
  rw [show [h, num, till].all heightB = hts h num till from rfl]
  go_wp2_with fail
  refine (unless_any _ _ _).mono ?_
  rintro e w' ⟨rfl, rfl⟩
  go_wp2_with fail
  go_ret
  exact ⟨rfl, (Below.refl _ _).al _⟩

set_option maxHeartbeats 400000 in
set_option maxRecDepth 100000 in
theorem ask3_any (A A' : Option Addr) (n c m c' : Nat) (c9 : w.cell? ⟨gR, 9, none⟩ = some (.slice A n c)) (c0 : w.cell? ⟨gb, 0, none⟩ = some (.pointer (some ⟨g, 0, none⟩))) (c1 : w.cell? ⟨g, 0, none⟩ = some (.slice A' m c')) :
    Calls Try.prog 39 #[.pointer (some ⟨gR, 0, none⟩), .pointer (some ⟨gb, 0, none⟩)] w fun e w' => e = .returned (.int .i64 (un (decide (n = m)) 3)) ∧ Below w.heap.size w w' := by
  have hd : ((n : Int) == (m : Int)) = decide (n = m) := by rw [Bool.eq_iff_iff]; simp; omega
  generalize decide (n = m) = q at *
  go_enter Try.func39, Try.ntmps39
  go_wp2_with fail
  go_region_held3 (fun w' => w'.cell? ⟨gR, 9, none⟩ = some (.slice A n c) ∧ w'.cell? ⟨gb, 0, none⟩ = some (.pointer (some ⟨g, 0, none⟩)) ∧ w'.cell? ⟨g, 0, none⟩ = some (.slice A' m c'))
    (exact ⟨c9, c0, c1⟩)
    (first | (go_at_call 37; refine (unless_any _ _ _).mono ?_; rintro e w1 ⟨rfl, rfl⟩))
  go_wp2_with fail
  go_ret
  exact ⟨by first | rfl | (rw [← hd]; rfl) | (rw [← hd]; simp), (Below.refl _ _).drew⟩

set_option maxHeartbeats 400000 in
set_option maxRecDepth 100000 in
theorem ask4_any (q : Bool) (c0 : w.cell? ⟨gT, 0, none⟩ = some (.bool q)) :
    Calls Try.prog 40 #[.pointer (some ⟨gT, 0, none⟩)] w fun e w' => e = .returned (.int .i64 (un q 2)) ∧ Below w.heap.size w w' := by
  go_enter Try.func40, Try.ntmps40
  go_wp2_with fail
  refine (unless_any _ _ _).mono ?_
  rintro e w' ⟨rfl, rfl⟩
  go_wp2_with fail
  go_ret
  exact ⟨rfl, Below.refl _ _⟩

set_option maxHeartbeats 400000 in
set_option maxRecDepth 100000 in
theorem ask5_any (wp : Option Addr) (hB : BAt w S g gs cs wp b) (c0 : w.cell? ⟨gb, 0, none⟩ = some (.pointer (some ⟨g, 0, none⟩))) (c1 : w.cell? ⟨gh, 0, none⟩ = some (.int .i64 h)) (cf : w.cell? ⟨gF, 0, none⟩ = some (.func (.func 33) #[] #[.pointer (some ⟨gb, 0, none⟩), .pointer (some ⟨gh, 0, none⟩)])) :
    Calls Try.prog 41 #[.pointer (some ⟨gF, 0, none⟩)] w fun e w' => e = .returned (.int .i64 (un (freeB b h) 10)) ∧ Below w.heap.size w w' := by
  go_enter Try.func41, Try.ntmps41
  go_wp2_with fail
  refine (ask1_any S g gs cs gb gh b h w wp hB c0 c1).mono ?_
  rintro e w1 ⟨rfl, b1⟩
  go_wp2_with fail
  refine (unless_any _ _ _).mono ?_
  rintro e w' ⟨rfl, rfl⟩
  go_wp2_with fail
  go_ret
  exact ⟨rfl, b1⟩

set_option maxHeartbeats 400000 in
set_option maxRecDepth 100000 in
theorem ask6_any (num last : Int) (c8 : w.cell? ⟨gR, 8, none⟩ = some (.int .i64 num)) (c0 : w.cell? ⟨gb, 0, none⟩ = some (.pointer (some ⟨g, 0, none⟩))) (c1 : w.cell? ⟨g, 1, none⟩ = some (.int .i64 last)) :
    Calls Try.prog 42 #[.pointer (some ⟨gR, 0, none⟩), .pointer (some ⟨gb, 0, none⟩)] w fun e w' => e = .returned (.int .i64 (un (decide (last < num)) 18)) ∧ Below w.heap.size w w' := by
  go_enter Try.func42, Try.ntmps42
  go_wp2_with fail
  go_region_held3 (fun w' => w'.cell? ⟨gR, 8, none⟩ = some (.int .i64 num) ∧ w'.cell? ⟨gb, 0, none⟩ = some (.pointer (some ⟨g, 0, none⟩)) ∧ w'.cell? ⟨g, 1, none⟩ = some (.int .i64 last))
    (exact ⟨c8, c0, c1⟩)
    (first | (go_at_call 37; refine (unless_any _ _ _).mono ?_; rintro e w1 ⟨rfl, rfl⟩))
  go_wp2_with fail
  go_ret
  exact ⟨rfl, (Below.refl _ _).drew⟩

set_option maxHeartbeats 400000 in
set_option maxRecDepth 100000 in
theorem ask7_any (till : Int) (c10 : w.cell? ⟨gR, 10, none⟩ = some (.int .i64 till)) (c1 : w.cell? ⟨gh, 0, none⟩ = some (.int .i64 h)) :
    Calls Try.prog 43 #[.pointer (some ⟨gR, 0, none⟩), .pointer (some ⟨gh, 0, none⟩)] w fun e w' => e = .returned (.int .i64 (un (decide (h ≤ till)) 19)) ∧ Below w.heap.size w w' := by
  go_enter Try.func43, Try.ntmps43
  go_wp2_with fail
  refine (unless_any _ _ _).mono ?_
  rintro e w' ⟨rfl, rfl⟩
  go_wp2_with fail
  go_ret
  exact ⟨rfl, Below.refl _ _⟩

set_option maxHeartbeats 400000 in
set_option maxRecDepth 100000 in
theorem ask8_any (sum : Int) (c0 : w.cell? ⟨gA, 0, none⟩ = some (.int .i64 sum)) :
    Calls Try.prog 44 #[.pointer (some ⟨gA, 0, none⟩)] w fun e w' => e = .returned (.int .i64 (un (decide (0 < sum)) 1)) ∧ Below w.heap.size w w' := by
  go_enter Try.func44, Try.ntmps44
  go_wp2_with fail
  refine (unless_any _ _ _).mono ?_
  rintro e w' ⟨rfl, rfl⟩
  go_wp2_with fail
  go_ret
  exact ⟨rfl, Below.refl _ _⟩

theorem right_any (n : Int) (w : World) : Calls Try.prog 28 #[.int .i64 n] w fun e w' => e = .returned (.bool (rightB n)) ∧ w = w' := by
  cases hr : rightB n
  · exact right_no n w hr
  · exact right_yes n w hr

set_option maxHeartbeats 400000 in
set_option maxRecDepth 100000 in
theorem ask9_any (wp : Option Addr) (sum : Int) (hB : BAt w S g gs cs wp b) (h0 : 0 ≤ sum) (h1 : sum ≤ 1152921504606846976) (c0 : w.cell? ⟨gb, 0, none⟩ = some (.pointer (some ⟨g, 0, none⟩))) (c1 : w.cell? ⟨gA, 0, none⟩ = some (.int .i64 sum)) :
    Calls Try.prog 45 #[.pointer (some ⟨gb, 0, none⟩), .pointer (some ⟨gA, 0, none⟩)] w fun e w' => e = .returned (.int .i64 (un (rightB (b.stakes.sum + sum)) 22)) ∧ Below w.heap.size w w' := by
  have hp := hB.ok.pot
  have hp0 := (sum_range b.stakes hB.ok.right).1
  have hadd : IntKind.i64.wrap (b.stakes.sum + sum) = b.stakes.sum + sum := IntWalk.i64_in _ (by omega)
  go_enter Try.func45, Try.ntmps45
  go_wp2_with fail
  go_region_held3 (fun w' => w'.cell? ⟨gb, 0, none⟩ = some (.pointer (some ⟨g, 0, none⟩)) ∧ w'.cell? ⟨gA, 0, none⟩ = some (.int .i64 sum))
    (exact ⟨c0, c1⟩)
    (first
      | (go_at_call 18; refine (pot_any S g gs cs wp b _ hB.drew).mono ?_; rintro e w1 ⟨rfl, rfl⟩)
      | (go_at_call 28; refine (right_any _ _).mono ?_; rintro e w1 ⟨rfl, rfl⟩)
      | (go_at_call 37; refine (unless_any _ _ _).mono ?_; rintro e w1 ⟨rfl, rfl⟩))
  all_goals
    go_wp2_with fail
    go_ret
    exact ⟨rfl, (Below.refl _ _).drew⟩
end
end Go.Proofs.Ytdbffjipoiphpaa
