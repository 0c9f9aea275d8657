/-
  package topup: a bank in memory; New, Stakes, Pot, Held.
-/
import Derived.Test.YtdbffjipoiphpaaT2
import Derived.IntWalk
namespace Go.Proofs.Ytdbffjipoiphpaa
open Go.RowKit

/-- A bank as it may be. -/
structure Bk.Ok (b : Bk) : Prop where
  two : 2 ≤ b.stakes.length
  few : b.stakes.length ≤ 8
  right : ∀ s ∈ b.stakes, rightB s = true
  pot : b.stakes.sum ≤ 1125899906842624
  adds : ∀ x, b.wt = some x → x.adds.length = b.stakes.length ∧ b.stakes.sum + x.adds.sum ≤ 1125899906842624
/-- The bank b lies at block g; all its blocks are in S. -/
structure BAt (w : World) (S : Nat → Prop) (g gs cs : Nat) (wp : Option Addr) (b : Bk) : Prop where
  ok : b.Ok
  inG : S g
  inS : S gs
  ne : g ≠ gs
  lt : ∀ k, S k → k < w.heap.size
  blk : Blk w g 72 #[.slice (some ⟨gs, 0, none⟩) b.stakes.length cs, .int .i64 b.last, .pointer wp]
  stakes : IOwn w gs cs b.stakes
  none_ : b.wt = none → wp = none
  some_ : ∀ x, b.wt = some x → ∃ gw ga ca, wp = some ⟨gw, 0, none⟩ ∧ WAt w S gw ga ca x ∧ g ≠ gw ∧ g ≠ ga ∧ gs ≠ gw ∧ gs ≠ ga
section
variable {w w' : World} {S : Nat → Prop} {g gs cs : Nat} {wp : Option Addr} {b : Bk}
theorem BAt.kept {T : Nat → Prop} (h : BAt w S g gs cs wp b) (hk : Kept T w w') (hs : ∀ k, S k → ¬ T k) : BAt w' S g gs cs wp b :=
  ⟨h.ok, h.inG, h.inS, h.ne, fun k hk' => Nat.lt_of_lt_of_le (h.lt k hk') hk.size, (hk.block g h.blk.lt (hs _ h.inG)).trans h.blk, h.stakes.kept hk (hs _ h.inS), h.none_, fun x hx => by
    obtain ⟨gw, ga, ca, h1, h2, h3⟩ := h.some_ x hx
    exact ⟨gw, ga, ca, h1, h2.kept hk hs, h3⟩⟩
theorem BAt.below (h : BAt w S g gs cs wp b) (hb : Below w.heap.size w w') : BAt w' S g gs cs wp b := h.kept (Kept.of_below (S := fun _ => False) hb) (fun _ _ h => h)
theorem BAt.drew (h : BAt w S g gs cs wp b) : BAt w.drew S g gs cs wp b := h.below (Below.refl _ w).drew
end

theorem sum_range (xs : List Int) (h : ∀ x ∈ xs, rightB x = true) : 0 ≤ xs.sum ∧ xs.sum ≤ xs.length * 1125899906842624 := by
  induction xs with
  | nil => simp
  | cons x xs ih =>
    have h1 := rightB_iff.1 (h x (by simp))
    have h2 := ih (fun y hy => h y (by simp [hy]))
    simp only [List.sum_cons, List.length_cons]
    omega
theorem totR_all (xs : List Int) (h : ∀ x ∈ xs, rightB x = true) : ∀ a, totR a xs = (a + xs.sum, true) := by
  induction xs with
  | nil => intro a; simp [totR]
  | cons x xs ih =>
    intro a
    rw [totR, if_pos (h x (by simp)), ih (fun y hy => h y (by simp [hy]))]
    simp only [List.sum_cons, Int.add_assoc]
theorem totR_not (xs : List Int) (h : ¬ ∀ x ∈ xs, rightB x = true) : ∀ a, (totR a xs).2 = false := by
  induction xs with
  | nil => exact absurd (fun x hx => by simp at hx) h
  | cons x xs ih =>
    intro a
    rw [totR]
    by_cases hx : rightB x = true
    · rw [if_pos hx]
      exact ih (fun hall => h (fun y hy => by rcases List.mem_cons.1 hy with rfl | hy; exact hx; exact hall y hy)) _
    · rw [if_neg hx]

set_option maxRecDepth 100000 in
theorem pot_any (S : Nat → Prop) (g gs cs : Nat) (wp : Option Addr) (b : Bk) (w : World) (h : BAt w S g gs cs wp b) :
    Calls Try.prog 18 #[.pointer (some ⟨g, 0, none⟩)] w fun e w' => e = .returned (.int .i64 b.stakes.sum) ∧ w = w' := by
  have c0 : w.cell? ⟨g, 0, none⟩ = some (.slice (some ⟨gs, 0, none⟩) b.stakes.length cs) := h.blk.cell 0
  have HT : Hid (totR 0 b.stakes = (b.stakes.sum, true)) := by rw [Hid, totR_all _ h.ok.right, Int.zero_add]
  go_enter Try.func18, Try.ntmps18
  go_wp2_with fail
  refine (total_any _ _ _ _ _ h.stakes.ri (by have := h.ok.few; omega)).mono ?_
  rintro e w' ⟨rfl, rfl⟩
  rw [HT.out]
  go_wp2_with fail
  go_ret
  exact ⟨rfl, rfl⟩

/-- All money that is there. -/
def heldB (b : Bk) : Int := b.stakes.sum + (match b.wt with | none => 0 | some x => sumW x)

set_option maxHeartbeats 400000 in
set_option maxRecDepth 100000 in
theorem held_any (S : Nat → Prop) (g gs cs : Nat) (wp : Option Addr) (b : Bk) (w : World) (h : BAt w S g gs cs wp b) :
    Calls Try.prog 11 #[.pointer (some ⟨g, 0, none⟩)] w fun e w' => e = .returned (.int .i64 (heldB b)) ∧ Below w.heap.size w w' := by
  have c2 : w.cell? ⟨g, 2, none⟩ = some (.pointer wp) := h.blk.cell 2
  obtain ⟨s1, s2⟩ := sum_range b.stakes h.ok.right
  have h8 := h.ok.few
  cases hw : b.wt with
  | none =>
    have HE : Hid (heldB b = b.stakes.sum) := by rw [Hid, heldB, hw]; simp
    have hp := h.none_ hw
    subst hp
    clear hw
    go_enter Try.func11, Try.ntmps11
    go_wp2_with fail
    refine (pot_any S g gs cs none b _ h).mono ?_
    rintro e w' ⟨rfl, rfl⟩
    go_wp2_with fail
    go_ret
    rw [HE.out]
    exact ⟨rfl, Below.refl _ _⟩
  | some x =>
    have HE : Hid (heldB b = b.stakes.sum + sumW x) := by rw [Hid, heldB, hw]
    obtain ⟨gw, ga, ca, rfl, hx, _⟩ := h.some_ x hw
    obtain ⟨u1, u2⟩ := sumTo_range hx.range x.adds.length
    have hxf := hx.few
    clear hw
    go_enter Try.func11, Try.ntmps11
    go_wp2_with fail
    have HS : sumW x = sumTo x x.adds.length := rfl
    have v1 : 0 ≤ sumW x := by rw [HS]; exact u1
    have v2 : sumW x ≤ 8 * 1125899906842624 := by rw [HS]; omega
    clear HS u1 u2
    have hadd : IntKind.i64.wrap (b.stakes.sum + sumW x) = b.stakes.sum + sumW x := IntWalk.i64_in _ (by omega)
    go_region_held3 (fun w' => w'.cell? ⟨g, 2, none⟩ = some (.pointer (some ⟨gw, 0, none⟩)))
      (exact c2)
      (first
        | (go_at_call 18; refine (pot_any S g gs cs _ b _ h.drew).mono ?_; rintro e w1 ⟨rfl, rfl⟩)
        | (go_at_call 30; refine (sum_any S gw ga ca x _ (hx.kept ((Kept.refl (fun _ => False) w).drew) (fun _ _ h => h))).mono ?_; rintro e w1 ⟨rfl, rfl⟩))
    all_goals
      go_wp2_with fail
      go_ret
      rw [HE.out]
      exact ⟨rfl, (Below.refl _ _).drew⟩

set_option maxHeartbeats 400000 in
set_option maxRecDepth 100000 in
theorem clone_ints (g c : Nat) (xs : List Int) (w : World) (h : IOwn w g c xs) (hx : xs.length ≤ 100) :
    Calls Try.prog 29 #[.slice (some ⟨g, 0, none⟩) xs.length c] w fun e w' => ∃ g' c', e = .returned (.slice (some ⟨g', 0, none⟩) xs.length c') ∧ w.heap.size ≤ g' ∧ IOwn w' g' c' xs ∧ Below w.heap.size w w' := by
  refine (Try.slices_Clone_int g 0 xs.length c xs w (Nat.le_refl _) (by omega) (fun j hj => ?_)).mono ?_
  · rw [Nat.zero_add, h.cell hj, List.getD_eq_getElem?_getD, List.getElem?_eq_getElem hj]; rfl
  · rintro e w' ⟨v', rfl, ho, hv, hb⟩
    rw [List.take_length] at ho
    obtain ⟨g', c', rfl, hg, hi⟩ := IOwn.of_own ho hv
    exact ⟨g', c', rfl, hg, hi, hb⟩

set_option maxRecDepth 100000 in
theorem stakes_any (S : Nat → Prop) (g gs cs : Nat) (wp : Option Addr) (b : Bk) (w : World) (h : BAt w S g gs cs wp b) :
    Calls Try.prog 21 #[.pointer (some ⟨g, 0, none⟩)] w fun e w' => ∃ g' c', e = .returned (.slice (some ⟨g', 0, none⟩) b.stakes.length c') ∧ w.heap.size ≤ g' ∧ IOwn w' g' c' b.stakes ∧ Below w.heap.size w w' := by
  have c0 : w.cell? ⟨g, 0, none⟩ = some (.slice (some ⟨gs, 0, none⟩) b.stakes.length cs) := h.blk.cell 0
  go_enter Try.func21, Try.ntmps21
  go_wp2_with fail
  refine (clone_ints gs cs b.stakes _ h.stakes (by have := h.ok.few; omega)).mono ?_
  rintro e w' ⟨g', c', rfl, h1, h2, h3⟩
  go_wp2_with fail
  go_ret
  exact ⟨g', c', rfl, h1, h2, h3⟩

/-- Which stakes make a bank. -/
def newOk (xs : List Int) : Prop := 2 ≤ xs.length ∧ xs.length ≤ 8 ∧ (∀ x ∈ xs, rightB x = true) ∧ xs.sum ≤ 1125899906842624

set_option maxHeartbeats 400000 in
set_option maxRecDepth 100000 in
theorem new_yes (A : Option Addr) (n c : Nat) (xs : List Int) (w : World) (hr : RI w A n xs) (hok : newOk xs) :
    Calls Try.prog 9 #[.slice A n c] w fun e w' => ∃ S g gs cs, e = .returned (.tuple #[.pointer (some ⟨g, 0, none⟩), .int .i64 0]) ∧ BAt w' S g gs cs none ⟨xs, -1, none⟩ ∧ (∀ k, S k → w.heap.size ≤ k) ∧ Below w.heap.size w w' := by
  obtain ⟨k2, k8, kr, ks⟩ := hok
  have hl := hr.len
  have HT : Hid (totR 0 xs = (xs.sum, true)) := by rw [Hid, totR_all _ kr, Int.zero_add]
  have hs0 := (sum_range xs kr).1
  have HR : Hid (rightB xs.sum = true) := rightB_iff.2 ⟨hs0, ks⟩
  subst hl
  obtain ⟨b, o, rfl, hb, _, _⟩ := hr.at_ (k := 0) (by omega)
  have HC := Lib.hid (fun j (hj : j < xs.length) => (show w.cell? ⟨b, o + j, none⟩ = some (.int .i64 (xs.getD j 0)) by
    obtain ⟨b', o', e, _, _, hc⟩ := hr.at_ hj
    injection e with e
    injection e with e1 e2
    subst e1 e2
    rw [hc, List.getD_eq_getElem?_getD, List.getElem?_eq_getElem hj]; rfl))
  have KR := Lib.hid kr
  clear kr
  go_enter Try.func9, Try.ntmps9
  go_wp2_with fail
  refine (total_any _ _ _ xs _ hr (by omega)).mono ?_
  rintro e w' ⟨rfl, rfl⟩
  rw [HT.out]
  go_wp2_with fail
  refine (right_yes _ _ HR.out).mono ?_
  rintro e w' ⟨rfl, rfl⟩
  go_wp2_with fail
  refine (Try.slices_Clone_int b o xs.length c xs w (Nat.le_refl _) (by omega) HC.out).mono ?_
  rintro e w1 ⟨v', rfl, ho, hv, hb1⟩
  rw [List.take_length] at ho
  obtain ⟨g', c', rfl, hg, hi⟩ := IOwn.of_own ho hv
  clear ho hv
  go_wp2_with fail
  go_ret2
  have hn := Blk.new w1 72 #[.slice (some ⟨g', 0, none⟩) xs.length c', .int .i64 (-1), .pointer none]
  have hgl := hi.lt
  have z1 := hb1.size
  exact ⟨fun k => k = w1.heap.size ∨ k = g', w1.heap.size, g', c', rfl, ⟨⟨k2, k8, KR.out, ks, fun x hx => by cases hx⟩, .inl rfl, .inr rfl, by omega, fun k hk => by simp; omega, hn, hi.kept (Kept.of_below (S := fun _ => False) ((Below.refl _ w1).al _)) (fun h => h), fun _ => rfl, fun x hx => by cases hx⟩, fun k hk => by omega, hb1.al _⟩
end Go.Proofs.Ytdbffjipoiphpaa
