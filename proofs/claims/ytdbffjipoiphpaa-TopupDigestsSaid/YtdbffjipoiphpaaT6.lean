/-
  package topup: what Put and Back ask, function by function.
-/
import Derived.Test.YtdbffjipoiphpaaT5
namespace Go.Proofs.Ytdbffjipoiphpaa
open Go.RowKit

theorem un_zero {b : Bool} {n : Int} (hn : n ≠ 0) (h : un b n = 0) : b = true := by
  cases b
  · exact absurd h hn
  · rfl
theorem askedE_zero {b : Bk} {h seat : Int} (he : askedE b h seat = 0) : b.wt.isSome = true ∧ 0 ≤ seat ∧ seat < b.stakes.length ∧ heightB h = true := by
  unfold askedE firstOf at he
  split at he
  · rename_i h1
    unfold firstOf at he
    split at he
    · rename_i h2
      unfold firstOf at he
      split at he
      · rename_i h3
        have e1 := un_zero (by omega) h1
        have e2 := un_zero (by omega) h2
        have e3 := un_zero (by omega) h3
        simp only [Bool.and_eq_true, decide_eq_true_eq] at e2
        exact ⟨e1, e2.1, e2.2, e3⟩
      · rename_i h3
        exact absurd he h3
    · rename_i h2
      exact absurd he h2
  · rename_i h1
    exact absurd he h1

section
variable (S : Nat → Prop) (g gs cs gw ga ca gb gh gt gm : Nat) (b : Bk) (x : Wt) (h : Int) (i : Nat) (w : World)

set_option maxHeartbeats 400000 in
set_option maxRecDepth 100000 in
theorem put1_any (wp : Option Addr) (seat : Int) (hB : BAt w S g gs cs wp b) (c0 : w.cell? ⟨gb, 0, none⟩ = some (.pointer (some ⟨g, 0, none⟩))) (c1 : w.cell? ⟨gh, 0, none⟩ = some (.int .i64 h)) (c2 : w.cell? ⟨gt, 0, none⟩ = some (.int .i64 seat)) :
    Calls Try.prog 46 #[.pointer (some ⟨gb, 0, none⟩), .pointer (some ⟨gh, 0, none⟩), .pointer (some ⟨gt, 0, none⟩)] w fun e w' => e = .returned (.int .i64 (askedE b h seat)) ∧ Below w.heap.size w w' := by
  go_enter Try.func46, Try.ntmps46
  go_wp2_with fail
  refine (asked_any S g gs cs wp b h seat _ hB).mono ?_
  rintro e w1 ⟨rfl, b1⟩
  go_wp2_with fail
  go_ret
  exact ⟨rfl, b1⟩
set_option maxHeartbeats 400000 in
set_option maxRecDepth 100000 in
theorem back1_any (wp : Option Addr) (seat : Int) (hB : BAt w S g gs cs wp b) (c0 : w.cell? ⟨gb, 0, none⟩ = some (.pointer (some ⟨g, 0, none⟩))) (c1 : w.cell? ⟨gh, 0, none⟩ = some (.int .i64 h)) (c2 : w.cell? ⟨gt, 0, none⟩ = some (.int .i64 seat)) :
    Calls Try.prog 52 #[.pointer (some ⟨gb, 0, none⟩), .pointer (some ⟨gh, 0, none⟩), .pointer (some ⟨gt, 0, none⟩)] w fun e w' => e = .returned (.int .i64 (askedE b h seat)) ∧ Below w.heap.size w w' := by
  go_enter Try.func52, Try.ntmps52
  go_wp2_with fail
  refine (asked_any S g gs cs wp b h seat _ hB).mono ?_
  rintro e w1 ⟨rfl, b1⟩
  go_wp2_with fail
  go_ret
  exact ⟨rfl, b1⟩

set_option maxHeartbeats 400000 in
set_option maxRecDepth 100000 in
theorem put2_any (hx : WAt w S gw ga ca x) (c0 : w.cell? ⟨gb, 0, none⟩ = some (.pointer (some ⟨g, 0, none⟩))) (c1 : w.cell? ⟨gh, 0, none⟩ = some (.int .i64 h)) (c2 : w.cell? ⟨g, 2, none⟩ = some (.pointer (some ⟨gw, 0, none⟩))) :
    Calls Try.prog 48 #[.pointer (some ⟨gb, 0, none⟩), .pointer (some ⟨gh, 0, none⟩)] w fun e w' => e = .returned (.int .i64 (un (!decide (x.till < h)) 19)) ∧ Below w.heap.size w w' := by
  have hxd : WAt w.drew S gw ga ca x := hx.kept ((Kept.refl (fun _ => False) w).drew) (fun _ _ h => h)
  go_enter Try.func48, Try.ntmps48
  go_wp2_with fail
  go_region_held3 (fun w' => w'.cell? ⟨gb, 0, none⟩ = some (.pointer (some ⟨g, 0, none⟩)) ∧ w'.cell? ⟨gh, 0, none⟩ = some (.int .i64 h) ∧ w'.cell? ⟨g, 2, none⟩ = some (.pointer (some ⟨gw, 0, none⟩)))
    (exact ⟨c0, c1, c2⟩)
    (first
      | (go_at_call 34; refine (late_any S gw ga ca x h _ hxd).mono ?_; rintro e w1 ⟨rfl, rfl⟩)
      | (go_at_call 37; refine (unless_any _ _ _).mono ?_; rintro e w1 ⟨rfl, rfl⟩))
  go_wp2_with fail
  go_ret
  exact ⟨rfl, (Below.refl _ _).drew⟩
set_option maxHeartbeats 400000 in
set_option maxRecDepth 100000 in
theorem back2_any (hx : WAt w S gw ga ca x) (c0 : w.cell? ⟨gb, 0, none⟩ = some (.pointer (some ⟨g, 0, none⟩))) (c1 : w.cell? ⟨gh, 0, none⟩ = some (.int .i64 h)) (c2 : w.cell? ⟨g, 2, none⟩ = some (.pointer (some ⟨gw, 0, none⟩))) :
    Calls Try.prog 53 #[.pointer (some ⟨gb, 0, none⟩), .pointer (some ⟨gh, 0, none⟩)] w fun e w' => e = .returned (.int .i64 (un (decide (x.till < h)) 20)) ∧ Below w.heap.size w w' := by
  have hxd : WAt w.drew S gw ga ca x := hx.kept ((Kept.refl (fun _ => False) w).drew) (fun _ _ h => h)
  go_enter Try.func53, Try.ntmps53
  go_wp2_with fail
  go_region_held3 (fun w' => w'.cell? ⟨gb, 0, none⟩ = some (.pointer (some ⟨g, 0, none⟩)) ∧ w'.cell? ⟨gh, 0, none⟩ = some (.int .i64 h) ∧ w'.cell? ⟨g, 2, none⟩ = some (.pointer (some ⟨gw, 0, none⟩)))
    (exact ⟨c0, c1, c2⟩)
    (first
      | (go_at_call 34; refine (late_any S gw ga ca x h _ hxd).mono ?_; rintro e w1 ⟨rfl, rfl⟩)
      | (go_at_call 37; refine (unless_any _ _ _).mono ?_; rintro e w1 ⟨rfl, rfl⟩))
  go_wp2_with fail
  go_ret
  exact ⟨rfl, (Below.refl _ _).drew⟩

set_option maxHeartbeats 400000 in
set_option maxRecDepth 100000 in
theorem put3_any (hx : WAt w S gw ga ca x) (hi : i < x.adds.length) (c0 : w.cell? ⟨gb, 0, none⟩ = some (.pointer (some ⟨g, 0, none⟩))) (c1 : w.cell? ⟨gt, 0, none⟩ = some (.int .i64 (i : Int))) (c2 : w.cell? ⟨g, 2, none⟩ = some (.pointer (some ⟨gw, 0, none⟩))) :
    Calls Try.prog 49 #[.pointer (some ⟨gb, 0, none⟩), .pointer (some ⟨gt, 0, none⟩)] w fun e w' => e = .returned (.int .i64 (un (!(x.laid.getD i false)) 7)) ∧ Below w.heap.size w w' := by
  have hx8 := hx.few
  have h8 : i < 8 := by omega
  have hi0 : (0 : Int) ≤ (i : Int) := by omega
  have hi8 : (i : Int) < 8 := by omega
  have hl := hx.laid_ h8
  have e : x.laid[i]'(by rw [hx.laid]; exact h8) = x.laid.getD i false := by rw [List.getD_eq_getElem?_getD, List.getElem?_eq_getElem (by rw [hx.laid]; exact h8)]; rfl
  rw [e] at hl
  clear e
  generalize x.laid.getD i false = lb at *
  go_enter Try.func49, Try.ntmps49
  go_wp2_with fail
  go_region_held3 (fun w' => w'.cell? ⟨gb, 0, none⟩ = some (.pointer (some ⟨g, 0, none⟩)) ∧ w'.cell? ⟨gt, 0, none⟩ = some (.int .i64 (i : Int)) ∧ w'.cell? ⟨g, 2, none⟩ = some (.pointer (some ⟨gw, 0, none⟩)) ∧ w'.cell? ⟨gw, 11 + i, none⟩ = some (.bool lb))
    (exact ⟨c0, c1, c2, hl⟩)
    (first | (go_at_call 37; refine (unless_any _ _ _).mono ?_; rintro e w1 ⟨rfl, rfl⟩))
  go_wp2_with fail
  go_ret
  exact ⟨rfl, (Below.refl _ _).drew⟩

set_option maxHeartbeats 400000 in
set_option maxRecDepth 100000 in
theorem put4_any (amt : Int) (hx : WAt w S gw ga ca x) (hi : i < x.adds.length) (cm : w.cell? ⟨gm, 0, none⟩ = some (.int .i64 amt)) (c0 : w.cell? ⟨gb, 0, none⟩ = some (.pointer (some ⟨g, 0, none⟩))) (c1 : w.cell? ⟨gt, 0, none⟩ = some (.int .i64 (i : Int))) (c2 : w.cell? ⟨g, 2, none⟩ = some (.pointer (some ⟨gw, 0, none⟩))) :
    Calls Try.prog 50 #[.pointer (some ⟨gm, 0, none⟩), .pointer (some ⟨gb, 0, none⟩), .pointer (some ⟨gt, 0, none⟩)] w fun e w' => e = .returned (.int .i64 (un (amt == x.adds.getD i 0) 22)) ∧ Below w.heap.size w w' := by
  have hx8 := hx.few
  have hi0 : (0 : Int) ≤ (i : Int) := by omega
  have hi8 : (i : Int) < (x.adds.length : Int) := by omega
  have hl := hx.adds.cell hi
  have ha := hx.adds_
  have e : x.adds[i] = x.adds.getD i 0 := by rw [List.getD_eq_getElem?_getD, List.getElem?_eq_getElem hi]; rfl
  rw [e] at hl
  clear e
  generalize x.adds.getD i 0 = la at *
  go_enter Try.func50, Try.ntmps50
  go_wp2_with fail
  go_region_held3 (fun w' => w'.cell? ⟨gm, 0, none⟩ = some (.int .i64 amt) ∧ w'.cell? ⟨gb, 0, none⟩ = some (.pointer (some ⟨g, 0, none⟩)) ∧ w'.cell? ⟨gt, 0, none⟩ = some (.int .i64 (i : Int)) ∧ w'.cell? ⟨g, 2, none⟩ = some (.pointer (some ⟨gw, 0, none⟩)) ∧ w'.cell? ⟨gw, 9, none⟩ = some (.slice (some ⟨ga, 0, none⟩) x.adds.length ca) ∧ w'.cell? ⟨ga, i, none⟩ = some (.int .i64 la))
    (exact ⟨cm, c0, c1, c2, ha, hl⟩)
    (first | (go_at_call 37; refine (unless_any _ _ _).mono ?_; rintro e w1 ⟨rfl, rfl⟩))
  go_wp2_with fail
  go_ret
  exact ⟨rfl, (Below.refl _ _).drew⟩

set_option maxHeartbeats 400000 in
set_option maxRecDepth 100000 in
theorem back3_any (hx : WAt w S gw ga ca x) (hi : i < x.adds.length) (c0 : w.cell? ⟨gb, 0, none⟩ = some (.pointer (some ⟨g, 0, none⟩))) (c1 : w.cell? ⟨gt, 0, none⟩ = some (.int .i64 (i : Int))) (c2 : w.cell? ⟨g, 2, none⟩ = some (.pointer (some ⟨gw, 0, none⟩))) :
    Calls Try.prog 54 #[.pointer (some ⟨gb, 0, none⟩), .pointer (some ⟨gt, 0, none⟩)] w fun e w' => e = .returned (.int .i64 (un (decide (0 < gives x i)) 21)) ∧ Below w.heap.size w w' := by
  have hxd : WAt w.drew S gw ga ca x := hx.kept ((Kept.refl (fun _ => False) w).drew) (fun _ _ h => h)
  go_enter Try.func54, Try.ntmps54
  go_wp2_with fail
  go_region_held3 (fun w' => w'.cell? ⟨gb, 0, none⟩ = some (.pointer (some ⟨g, 0, none⟩)) ∧ w'.cell? ⟨gt, 0, none⟩ = some (.int .i64 (i : Int)) ∧ w'.cell? ⟨g, 2, none⟩ = some (.pointer (some ⟨gw, 0, none⟩)))
    (exact ⟨c0, c1, c2⟩)
    (first
      | (go_at_call 32; refine (given_any S gw ga ca x i _ hxd hi).mono ?_; rintro e w1 ⟨rfl, rfl⟩)
      | (go_at_call 37; refine (unless_any _ _ _).mono ?_; rintro e w1 ⟨rfl, rfl⟩))
  go_wp2_with fail
  go_ret
  exact ⟨rfl, (Below.refl _ _).drew⟩
end
end Go.Proofs.Ytdbffjipoiphpaa
