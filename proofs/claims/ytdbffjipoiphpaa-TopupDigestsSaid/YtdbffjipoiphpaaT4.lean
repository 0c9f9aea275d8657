/-
  package topup: heights; what is asked of a seat's part first.
-/
import Derived.Test.YtdbffjipoiphpaaT3
namespace Go.Proofs.Ytdbffjipoiphpaa
open Go.RowKit

/-- May it be a height, or a number? -/
def heightB (n : Int) : Bool := decide (0 ≤ n) && decide (n ≤ 1099511627776)
theorem heightB_iff {n : Int} : heightB n = true ↔ 0 ≤ n ∧ n ≤ 1099511627776 := by simp [heightB]

set_option maxRecDepth 100000 in
theorem h1_yes (n : Int) (w : World) (h : heightB n = true) : Calls Try.prog 67 #[.int .i64 n] w fun e w' => e = .returned (.bool false) ∧ w = w' := by
  obtain ⟨h1, h2⟩ := heightB_iff.1 h
  clear h
  have t1 : decide (n < 0) = false := by simp; omega
  have t2 : decide ((1099511627776 : Int) < n) = false := by simp; omega
  go_enter Try.func67, Try.ntmps67
  go_wp2
  go_ret
  exact ⟨rfl, rfl⟩
set_option maxRecDepth 100000 in
theorem h1_no (n : Int) (w : World) (h : heightB n = false) : Calls Try.prog 67 #[.int .i64 n] w fun e w' => e = .returned (.bool true) ∧ w = w' := by
  have h' : ¬ (0 ≤ n ∧ n ≤ 1099511627776) := fun hh => by rw [heightB_iff.2 hh] at h; cases h
  clear h
  by_cases h0 : 0 ≤ n
  · have h1 : ¬ n ≤ 1099511627776 := fun h => h' ⟨h0, h⟩
    clear h'
    go_enter Try.func67, Try.ntmps67
    go_wp2
    go_ret
    exact ⟨rfl, rfl⟩
  · clear h'
    go_enter Try.func67, Try.ntmps67
    go_wp2
    go_ret
    exact ⟨rfl, rfl⟩

/-- Where the first that is none is. -/
def noneAt : Int → List Int → Int
  | _, [] => -1
  | k, x :: xs => if heightB x then noneAt (k + 1) xs else k
theorem noneAt_all (xs : List Int) (h : xs.all heightB = true) : ∀ k, noneAt k xs = -1 := by
  induction xs with
  | nil => intro k; rfl
  | cons x xs ih =>
    intro k
    simp only [List.all_cons, Bool.and_eq_true] at h
    rw [noneAt, if_pos h.1, ih h.2]
theorem noneAt_not (xs : List Int) (h : xs.all heightB = false) : ∀ k, 0 ≤ k → 0 ≤ noneAt k xs := by
  induction xs with
  | nil => simp at h
  | cons x xs ih =>
    intro k hk
    rw [noneAt]
    split
    · rename_i hx
      simp only [List.all_cons, hx, Bool.true_and] at h
      exact ih h _ (by omega)
    · exact hk

set_option maxHeartbeats 400000 in
set_option maxRecDepth 100000 in
theorem indexFunc_any (A : Option Addr) (n c : Nat) (xs : List Int) (w : World) (hr : RI w A n xs) (hn : n ≤ 16) :
    Calls Try.prog 80 #[.slice A n c, .func (.func 67) #[] #[]] w fun e w' => e = .returned (.int .i64 (noneAt 0 xs)) ∧ w = w' := by
  have HL := Lib.hid hr.len
  have HR := Lib.hid hr
  clear hr
  go_enter Try.func80, Try.ntmps80
  go_wp2
  go_loop [5, 8] (fun _ i => ∃ k : Nat, k ≤ n ∧ i = .int .i64 k ∧ Hid (noneAt 0 xs = noneAt k (xs.drop k))) (fun _ i => n - (intOf i).toNat)
  case atStart => exact ⟨0, by omega, rfl, rfl⟩
  case round =>
    obtain ⟨k, hk, rfl, HT⟩ := hrel
    by_cases hlt : k < n
    · obtain ⟨b, o, rfl, hb, hl, hc⟩ := HR.out.at_ hlt
      have hd : xs.drop k = xs[k] :: xs.drop (k + 1) := List.drop_eq_getElem_cons hl
      rw [hd] at HT
      clear hd
      generalize xs[k] = x at *
      cases hx : heightB x
      · have HE : Hid (noneAt 0 xs = (k : Int)) := by rw [Hid, HT.out, noneAt, hx]; rfl
        go_wp2_with fail
        refine (h1_no x w hx).mono ?_
        rintro e w' ⟨rfl, rfl⟩
        clear hx
        go_wp2_with fail
        go_ret
        rw [HE.out]
        exact ⟨rfl, rfl⟩
      · have HE : Hid (noneAt 0 xs = noneAt (k + 1 : Nat) (xs.drop (k + 1))) := by rw [Hid, HT.out, noneAt, if_pos hx]; rfl
        go_wp2_with fail
        refine (h1_yes x w hx).mono ?_
        rintro e w' ⟨rfl, rfl⟩
        clear hx
        go_wp2_with fail
        go_round
        case rel => exact ⟨k + 1, by omega, by go_num, HE⟩
        case measure => simp [intOf]; omega
    · have HE : Hid (noneAt 0 xs = -1) := by rw [Hid, HT.out, List.drop_of_length_le (by rw [← HL.out]; omega), noneAt]
      go_wp2_with fail
      go_ret
      rw [HE.out]
      exact ⟨rfl, rfl⟩

set_option maxHeartbeats 400000 in
set_option maxRecDepth 100000 in
theorem heights_any (A : Option Addr) (n c : Nat) (xs : List Int) (w : World) (hr : RI w A n xs) (hn : n ≤ 16) :
    Calls Try.prog 38 #[.slice A n c] w fun e w' => e = .returned (.bool (xs.all heightB)) ∧ w = w' := by
  have hcf : ∀ b : Bool, xs.all heightB = b → Calls Try.prog 66 #[.slice A n c, .func (.func 67) #[] #[]] w fun e w' => e = .returned (.bool (!b)) ∧ w = w' := by
    intro b hb
    have hd : decide (0 ≤ noneAt 0 xs) = !b := by
      cases b
      · simpa using noneAt_not xs hb 0 (by omega)
      · rw [noneAt_all xs hb 0]; rfl
    clear hb
    go_enter Try.func66, Try.ntmps66
    go_wp2_with fail
    refine (indexFunc_any A n c xs _ hr hn).mono ?_
    rintro e w' ⟨rfl, rfl⟩
    generalize noneAt 0 xs = z at *
    go_wp2_with fail
    go_ret
    exact ⟨by simp, rfl⟩
  have HCF := Lib.hid (hcf _ rfl)
  clear hcf
  go_enter Try.func38, Try.ntmps38
  go_wp2_with fail
  refine HCF.out.mono ?_
  rintro e w' ⟨rfl, rfl⟩
  go_wp2_with fail
  go_ret
  exact ⟨by simp, rfl⟩

/-- A row of integers that is known whole. -/
theorem ri_blk {w : World} {g : Nat} {t : TypeId} {xs : List Int} (h : Blk w g t (xs.map (Value.int .i64)).toArray) : RI w (some ⟨g, 0, none⟩) xs.length xs := by
  refine ⟨by simp, fun _ => ⟨_, rfl, h.lt, fun j u hu => ?_⟩⟩
  rw [Addr.add_lit, Nat.zero_add, h.cell j]
  simpa using hu

set_option maxHeartbeats 400000 in
set_option maxRecDepth 100000 in
theorem asked1_any (gb g : Nat) (wp : Option Addr) (w : World) (c0 : w.cell? ⟨gb, 0, none⟩ = some (.pointer (some ⟨g, 0, none⟩))) (c2 : w.cell? ⟨g, 2, none⟩ = some (.pointer wp)) :
    Calls Try.prog 68 #[.pointer (some ⟨gb, 0, none⟩)] w fun e w' => e = .returned (.int .i64 (un wp.isSome 9)) ∧ Below w.heap.size w w' := by
  cases wp with
  | none =>
    go_enter Try.func68, Try.ntmps68
    go_wp2_with fail
    refine (unless_any _ _ _).mono ?_
    rintro e w' ⟨rfl, rfl⟩
    go_wp2_with fail
    go_ret
    exact ⟨rfl, Below.refl _ _⟩
  | some a =>
    go_enter Try.func68, Try.ntmps68
    go_wp2_with fail
    refine (unless_any _ _ _).mono ?_
    rintro e w' ⟨rfl, rfl⟩
    go_wp2_with fail
    go_ret
    exact ⟨rfl, Below.refl _ _⟩

/-- Is the seat one? -/
def seatE (seat : Int) (n : Nat) : Int := un (decide (0 ≤ seat) && decide (seat < n)) 28
set_option maxHeartbeats 400000 in
set_option maxRecDepth 100000 in
theorem asked2_any (gb g gt n c : Nat) (A : Option Addr) (seat : Int) (w : World) (c0 : w.cell? ⟨gb, 0, none⟩ = some (.pointer (some ⟨g, 0, none⟩))) (cs : w.cell? ⟨gt, 0, none⟩ = some (.int .i64 seat)) (c1 : w.cell? ⟨g, 0, none⟩ = some (.slice A n c)) :
    Calls Try.prog 69 #[.pointer (some ⟨gt, 0, none⟩), .pointer (some ⟨gb, 0, none⟩)] w fun e w' => e = .returned (.int .i64 (seatE seat n)) ∧ Below w.heap.size w w' := by
  by_cases h0 : 0 ≤ seat
  · by_cases h1 : seat < n
    · have HE : Hid (seatE seat n = 0) := by simp [Hid, seatE, un, h0, h1]
      go_enter Try.func69, Try.ntmps69
      go_wp2_with fail
      go_region_held3 (fun w' => w'.cell? ⟨gb, 0, none⟩ = some (.pointer (some ⟨g, 0, none⟩)) ∧ w'.cell? ⟨gt, 0, none⟩ = some (.int .i64 seat) ∧ w'.cell? ⟨g, 0, none⟩ = some (.slice A n c))
        (exact ⟨c0, cs, c1⟩)
        (first | (go_at_call 37; refine (unless_any _ _ _).mono ?_; rintro e w1 ⟨rfl, rfl⟩))
      go_wp2_with fail
      go_ret
      rw [HE.out]
      exact ⟨rfl, (Below.refl _ _).drew⟩
    · have HE : Hid (seatE seat n = 28) := by simp [Hid, seatE, un, h1]
      have hd1 : decide (seat < (n : Int)) = false := by simpa using h1
      go_enter Try.func69, Try.ntmps69
      go_wp2_with fail
      go_region_held3 (fun w' => w'.cell? ⟨gb, 0, none⟩ = some (.pointer (some ⟨g, 0, none⟩)) ∧ w'.cell? ⟨gt, 0, none⟩ = some (.int .i64 seat) ∧ w'.cell? ⟨g, 0, none⟩ = some (.slice A n c))
        (exact ⟨c0, cs, c1⟩)
        (first | (go_at_call 37; refine (unless_any _ _ _).mono ?_; rintro e w1 ⟨rfl, rfl⟩))
      go_wp2_with fail
      go_ret
      rw [HE.out]
      exact ⟨rfl, (Below.refl _ _).drew⟩
  · have HE : Hid (seatE seat n = 28) := by simp [Hid, seatE, un, h0]
    have hd : decide (0 ≤ seat) = false := by simpa using h0
    go_enter Try.func69, Try.ntmps69
    go_wp2_with fail
    go_quiet ((go_at_call 37; exact quiet_left (unless_any _ _ _)))
    go_wp2_with fail
    go_ret
    rw [HE.out]
    exact ⟨rfl, below_drewN (Below.refl _ _) _⟩

set_option maxHeartbeats 400000 in
set_option maxRecDepth 100000 in
theorem asked3_any (gh : Nat) (h : Int) (w : World) (c0 : w.cell? ⟨gh, 0, none⟩ = some (.int .i64 h)) :
    Calls Try.prog 70 #[.pointer (some ⟨gh, 0, none⟩)] w fun e w' => e = .returned (.int .i64 (un (heightB h) 2)) ∧ Below w.heap.size w w' := by
  go_enter Try.func70, Try.ntmps70
  go_wp2_with fail
  refine (heights_any _ _ _ [h] _ (ri_blk (xs := [h]) (Blk.new w _ #[.int .i64 h])) (by simp)).mono ?_
  rintro e w' ⟨rfl, rfl⟩
  go_wp2_with fail
  refine (unless_any _ _ _).mono ?_
  rintro e w' ⟨rfl, rfl⟩
  go_wp2_with fail
  go_ret
  exact ⟨rfl, (Below.refl _ _).al _⟩
end Go.Proofs.Ytdbffjipoiphpaa
