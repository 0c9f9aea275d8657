/-
  package topup: banks and raises in memory; what a raise that waits tells.
-/
import Derived.Test.YtdbffjipoiphpaaT1
namespace Go.Proofs.Ytdbffjipoiphpaa
open Go.RowKit

/-- A raise that waits. -/
structure Wt where
  tab : List Int
  num : Int
  adds : List Int
  till : Int
  laid : List Bool
/-- A bank. -/
structure Bk where
  stakes : List Int
  last : Int
  wt : Option Wt

/-- A row of integers in a block of its own. -/
def IOwn (w : World) (g c : Nat) (xs : List Int) : Prop := ∃ cur : Array Value, Blk w g 3 cur ∧ cur.size = c ∧ xs.length ≤ c ∧ c ≤ maxLen ∧ cur.toList.take xs.length = xs.map (Value.int .i64)
section
variable {w w' : World} {g c : Nat} {xs : List Int}
theorem IOwn.lt (h : IOwn w g c xs) : g < w.heap.size := by obtain ⟨cur, h1, _⟩ := h; exact h1.lt
theorem IOwn.kept {S : Nat → Prop} (h : IOwn w g c xs) (hk : Kept S w w') (hs : ¬ S g) : IOwn w' g c xs := by
  obtain ⟨cur, h1, h2⟩ := h
  exact ⟨cur, (hk.block g h1.lt hs).trans h1, h2⟩
theorem IOwn.ri (h : IOwn w g c xs) : RI w (some ⟨g, 0, none⟩) xs.length xs := by
  obtain ⟨cur, h1, h2, h3, h4, h5⟩ := h
  refine ⟨by simp, fun _ => ⟨_, rfl, h1.lt, fun j u hu => ?_⟩⟩
  rw [Addr.add_lit, Nat.zero_add, h1.cell j]
  rw [← h5, List.getElem?_take] at hu
  split at hu
  · simpa using hu
  · cases hu
theorem IOwn.cell (h : IOwn w g c xs) {i : Nat} (hi : i < xs.length) : w.cell? ⟨g, i, none⟩ = some (.int .i64 xs[i]) := by
  obtain ⟨b, o, e, _, _, hc⟩ := h.ri.at_ hi
  injection e with e
  injection e with e1 e2
  subst e1 e2
  simpa using hc
theorem IOwn.frozen (h : IOwn w g c xs) (i : Nat) : w.frozen? ⟨g, i, none⟩ = false := by
  obtain ⟨cur, h1, _⟩ := h
  exact h1.frozen i
theorem IOwn.set_ (h : IOwn w g c xs) (i : Nat) (x : Int) : IOwn (w.setCell ⟨g, i, none⟩ (.int .i64 x)) g c (xs.set i x) := by
  obtain ⟨cur, h1, h2, h3, h4, h5⟩ := h
  refine ⟨_, h1.set_ i _, by simpa using h2, by simpa using h3, h4, ?_⟩
  simp only [List.length_set, Array.toList_setIfInBounds, List.map_set]
  rw [List.take_set, h5]
theorem IOwn.of_own {B : Nat} {v : Value} {n : Nat} (h : w.ownsRow B 3 1 v n (xs.map (Value.int .i64))) (hv : v ≠ .slice none 0 0) : ∃ g c, v = .slice (some ⟨g, 0, none⟩) xs.length c ∧ B ≤ g ∧ IOwn w g c xs := by
  rcases h with ⟨hl, ⟨rfl, rfl⟩ | ⟨g, cap, cur, rfl, hg, hh, hnc, hcm, hsz, htk⟩⟩
  · exact absurd rfl hv
  · simp only [List.length_map, Nat.mul_one] at hl
    subst hl
    exact ⟨g, cap, rfl, hg, cur, hh, by simpa using hsz, hnc, hcm, by simpa using htk⟩
end

/-- The cells of a raise that waits. -/
def wcells (x : Wt) (A : Option Addr) (ca : Nat) : List Value := x.tab.map (Value.int .u8) ++ ([.int .i64 x.num, .slice A x.adds.length ca, .int .i64 x.till] ++ x.laid.map Value.bool)
/-- The raise x waits at block gw; all its blocks are in S. -/
structure WAt (w : World) (S : Nat → Prop) (gw ga ca : Nat) (x : Wt) : Prop where
  inW : S gw
  inA : S ga
  ne : gw ≠ ga
  tab : x.tab.length = 8
  laid : x.laid.length = 8
  few : x.adds.length ≤ 8
  some_ : 0 < x.adds.length
  range : ∀ a ∈ x.adds, rightB a = true
  blk : Blk w gw 77 (wcells x (some ⟨ga, 0, none⟩) ca).toArray
  adds : IOwn w ga ca x.adds
section
variable {w w' : World} {S : Nat → Prop} {gw ga ca : Nat} {x : Wt}
theorem WAt.kept {T : Nat → Prop} (h : WAt w S gw ga ca x) (hk : Kept T w w') (hs : ∀ k, S k → ¬ T k) : WAt w' S gw ga ca x :=
  ⟨h.inW, h.inA, h.ne, h.tab, h.laid, h.few, h.some_, h.range, (hk.block gw h.blk.lt (hs _ h.inW)).trans h.blk, h.adds.kept hk (hs _ h.inA)⟩
theorem WAt.cell (h : WAt w S gw ga ca x) (i : Nat) : w.cell? ⟨gw, i, none⟩ = (wcells x (some ⟨ga, 0, none⟩) ca)[i]? := by rw [h.blk.cell i]; simp
theorem WAt.num_ (h : WAt w S gw ga ca x) : w.cell? ⟨gw, 8, none⟩ = some (.int .i64 x.num) := by
  rw [h.cell 8, wcells, List.getElem?_append_right (by simp [h.tab])]; simp [h.tab]
theorem WAt.adds_ (h : WAt w S gw ga ca x) : w.cell? ⟨gw, 9, none⟩ = some (.slice (some ⟨ga, 0, none⟩) x.adds.length ca) := by
  rw [h.cell 9, wcells, List.getElem?_append_right (by simp [h.tab])]; simp [h.tab]
theorem WAt.till_ (h : WAt w S gw ga ca x) : w.cell? ⟨gw, 10, none⟩ = some (.int .i64 x.till) := by
  rw [h.cell 10, wcells, List.getElem?_append_right (by simp [h.tab])]; simp [h.tab]
theorem WAt.laid_ (h : WAt w S gw ga ca x) {i : Nat} (hi : i < 8) : w.cell? ⟨gw, 11 + i, none⟩ = some (.bool (x.laid[i]'(by rw [h.laid]; exact hi))) := by
  rw [h.cell (11 + i), wcells, List.getElem?_append_right (by simp [h.tab]; omega)]
  simp [h.tab, h.laid, show 11 + i - 8 = i + 3 from by omega, hi]
theorem WAt.tab_ (h : WAt w S gw ga ca x) {i : Nat} (hi : i < 8) : w.cell? ⟨gw, i, none⟩ = some (.int .u8 (x.tab[i]'(by rw [h.tab]; exact hi))) := by
  rw [h.cell i, wcells, List.getElem?_append_left (by simp [h.tab]; omega)]
  simp [h.tab, hi]
end

set_option maxRecDepth 100000 in
theorem late_any (S : Nat → Prop) (gw ga ca : Nat) (x : Wt) (h : Int) (w : World) (hw : WAt w S gw ga ca x) :
    Calls Try.prog 34 #[.pointer (some ⟨gw, 0, none⟩), .int .i64 h] w fun e w' => e = .returned (.bool (decide (x.till < h))) ∧ w = w' := by
  have hc := hw.till_
  go_enter Try.func34, Try.ntmps34
  go_wp2
  go_ret
  exact ⟨rfl, rfl⟩

/-- What a seat has laid. -/
def gives (x : Wt) (i : Nat) : Int := if x.laid.getD i false then x.adds.getD i 0 else 0
/-- All that is laid. -/
def sumTo (x : Wt) : Nat → Int
  | 0 => 0
  | k + 1 => sumTo x k + gives x k
def sumW (x : Wt) : Int := sumTo x x.adds.length
theorem gives_range {x : Wt} (h : ∀ a ∈ x.adds, rightB a = true) (i : Nat) : 0 ≤ gives x i ∧ gives x i ≤ 1125899906842624 := by
  unfold gives
  split
  · rw [List.getD_eq_getElem?_getD]
    cases hi : x.adds[i]? with
    | none => simp
    | some a =>
      have := rightB_iff.1 (h a (List.mem_of_getElem? hi))
      simpa using this
  · omega
theorem sumTo_range {x : Wt} (h : ∀ a ∈ x.adds, rightB a = true) (k : Nat) : 0 ≤ sumTo x k ∧ sumTo x k ≤ k * 1125899906842624 := by
  induction k with
  | zero => simp [sumTo]
  | succ k ih =>
    have := gives_range h k
    simp only [sumTo]
    omega

set_option maxHeartbeats 400000 in
set_option maxRecDepth 100000 in
theorem given_any (S : Nat → Prop) (gw ga ca : Nat) (x : Wt) (i : Nat) (w : World) (hw : WAt w S gw ga ca x) (hi : i < x.adds.length) :
    Calls Try.prog 32 #[.pointer (some ⟨gw, 0, none⟩), .int .i64 (i : Int)] w fun e w' => e = .returned (.int .i64 (gives x i)) ∧ w = w' := by
  have h8 : i < 8 := by have := hw.few; omega
  have hl8 := hw.laid
  have hc := hw.laid_ h8
  have ha := hw.adds_
  have hx := hw.adds.cell hi
  have HE : Hid (gives x i = if x.laid[i]'(by rw [hl8]; exact h8) then x.adds[i] else 0) := by
    rw [Hid, gives, List.getD_eq_getElem?_getD, List.getD_eq_getElem?_getD, List.getElem?_eq_getElem hi, List.getElem?_eq_getElem (by rw [hl8]; exact h8)]; rfl
  generalize x.adds[i] = a at *
  generalize x.laid[i]'(by rw [hl8]; exact h8) = b at *
  have hn : x.adds.length ≤ 8 := hw.few
  clear hl8
  cases b
  · go_enter Try.func32, Try.ntmps32
    go_wp2
    go_ret
    rw [HE.out]
    exact ⟨rfl, rfl⟩
  · go_enter Try.func32, Try.ntmps32
    go_wp2
    go_ret
    rw [HE.out]
    exact ⟨rfl, rfl⟩

set_option maxHeartbeats 400000 in
set_option maxRecDepth 100000 in
theorem sum_any (S : Nat → Prop) (gw ga ca : Nat) (x : Wt) (w : World) (hw : WAt w S gw ga ca x) :
    Calls Try.prog 30 #[.pointer (some ⟨gw, 0, none⟩)] w fun e w' => e = .returned (.int .i64 (sumW x)) ∧ w = w' := by
  have ha := hw.adds_
  have hn : x.adds.length ≤ 8 := hw.few
  have HW := Lib.hid hw
  have HG := Lib.hid (gives_range hw.range)
  have HU := Lib.hid (sumTo_range hw.range)
  clear hw
  go_enter Try.func30, Try.ntmps30
  go_wp2
  go_loop [3, 4, 11] (fun s _ i => ∃ k : Nat, k ≤ x.adds.length ∧ i = .int .i64 k ∧ s = .int .i64 (sumTo x k)) (fun _ _ i => x.adds.length - (intOf i).toNat)
  case atStart => exact ⟨0, by omega, rfl, rfl⟩
  case round =>
    obtain ⟨k, hk, rfl, rfl⟩ := hrel
    obtain ⟨u1, u2⟩ := HU.out k
    by_cases hlt : k < x.adds.length
    · obtain ⟨g1, g2⟩ := HG.out k
      have HS : Hid (sumTo x (k + 1) = sumTo x k + gives x k) := rfl
      go_wp2_with fail
      refine (given_any S gw ga ca x k _ HW.out hlt).mono ?_
      rintro e w' ⟨rfl, rfl⟩
      go_wp2_with fail
      go_round
      case rel => exact ⟨k + 1, by omega, by go_num, by rw [HS.out]⟩
      case measure => simp [intOf]; omega
    · obtain rfl : k = x.adds.length := by omega
      go_wp2_with fail
      go_ret
      exact ⟨rfl, rfl⟩

/-- Have all laid theirs? -/
def fullW (x : Wt) : Bool := (x.laid.take x.adds.length).all id
set_option maxHeartbeats 400000 in
set_option maxRecDepth 100000 in
theorem full_any (S : Nat → Prop) (gw ga ca : Nat) (x : Wt) (w : World) (hw : WAt w S gw ga ca x) :
    Calls Try.prog 51 #[.pointer (some ⟨gw, 0, none⟩)] w fun e w' => e = .returned (.bool (fullW x)) ∧ w = w' := by
  have ha := hw.adds_
  have hn : x.adds.length ≤ 8 := hw.few
  have HL8 := Lib.hid hw.laid
  have HW := Lib.hid hw
  clear hw
  go_enter Try.func51, Try.ntmps51
  go_wp2
  go_step3
  go_wp2
  go_step3
  go_wp2
  go_loop [3, 4, 11] (fun s _ i => ∃ k : Nat, k ≤ x.adds.length ∧ i = .int .i64 k ∧ s = .bool true ∧ Hid ((x.laid.take k).all id = true)) (fun _ _ i => x.adds.length - (intOf i).toNat)
  case atStart => exact ⟨0, by omega, rfl, rfl, rfl⟩
  case round =>
    obtain ⟨k, hk, rfl, rfl, HA⟩ := hrel
    by_cases hlt : k < x.adds.length
    · have hk8 : k < 8 := by omega
      have hkl : k < x.laid.length := by rw [HL8.out]; exact hk8
      have hc := HW.out.laid_ hk8
      have HS : Hid ((x.laid.take (k + 1)).all id = x.laid[k]) := by
        rw [Hid, List.take_succ_eq_append_getElem hkl, List.all_append, HA.out]; simp
      have HF : Hid (x.laid[k] = false → fullW x = false) := by
        intro hf
        rw [fullW, ← Bool.not_eq_true, List.all_eq_true]
        intro hall
        have := hall x.laid[k] (List.mem_of_getElem? (i := k) (by rw [List.getElem?_take, if_pos hlt]; exact List.getElem?_eq_getElem hkl))
        rw [hf] at this
        cases this
      generalize x.laid[k] = b at *
      cases b
      · have HF' := Lib.hid (HF.out rfl)
        clear HF
        go_wp2_with fail
        try rw [Exit.noGoto_ret]
        go_ret
        rw [HF'.out]
        exact ⟨rfl, rfl⟩
      · go_wp2_with fail
        go_round
        case rel => exact ⟨k + 1, by omega, by go_num, rfl, HS⟩
        case measure => simp [intOf]; omega
    · obtain rfl : k = x.adds.length := by omega
      have HF : Hid (fullW x = true) := HA.out
      go_wp2_with fail
      try rw [Exit.noGoto_ret]
      go_ret
      rw [HF.out]
      exact ⟨rfl, rfl⟩
end Go.Proofs.Ytdbffjipoiphpaa
