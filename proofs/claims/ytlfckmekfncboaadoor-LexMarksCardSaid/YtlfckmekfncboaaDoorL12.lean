/-
  LexMarks: the walk.
-/
import Derived.Test.YtlfckmekfncboaaDoorL11
import Derived.Test.YtlfckmekfncboaaDoorL10
import Derived.IntWalk
import Derived.Deep.RegionHeld3
namespace Go.Proofs.YtlfckmekfncboaaDoor
open Go.RowKit

set_option maxHeartbeats 4000000 in
set_option maxRecDepth 100000 in
theorem lexMarks_walk (a b : Int) (w : World) (hT : Spaces w) :
    Calls Tryd.prog 4 #[.int .i64 a, .int .i64 b] w (Tells w true) := by
  have HT := Lib.hid hT
  clear hT
  go_enter Tryd.func4, Tryd.ntmps4
  go_wp2_with fail
  refine (marks_any w HT.out).mono ?_
  rintro e w' ⟨rfl, rfl⟩
  have ma := MarksAt.new w
  have f1 := (Below.refl w.heap.size w).al (textsO marksB)
  have l1 : w.heap.size < (w.alloc (textsO marksB)).heap.size := by simp
  generalize w.alloc (textsO marksB) = w1 at *
  have MA := Lib.hid ma
  clear ma
  go_wp2_with fail
  refine (refMarks_any w1).mono ?_
  rintro e w' ⟨rfl, rfl⟩
  have f2 := f1.al (textsO marksB)
  have b2 := (Below.refl w1.heap.size w1).al (textsO marksB)
  generalize w1.alloc (textsO marksB) = w2 at *
  go_wp2_with fail
  have hun : ∃ c : Value, c = .int .i64 16 := ⟨_, rfl⟩
  clear hun
  go_loopw [6] (fun i wr => ∃ k : Nat, k ≤ 16 ∧ i = .int .i64 k ∧ Below w1.heap.size w1 wr) (fun i _ => 16 - (intOf i).toNat)
  case atStart => exact ⟨0, by omega, rfl, b2⟩
  case round =>
    obtain ⟨k, hk, rfl, hb⟩ := hrel
    by_cases hlt : k < 16
    · obtain ⟨X, hX⟩ : ∃ X, marksL[k]? = some X := ⟨_, List.getElem?_eq_getElem (by rw [marks_count]; exact hlt)⟩
      have hXm : X ∈ marksL := List.mem_of_getElem? hX
      have hlx := lex_mark X hXm
      obtain ⟨S, hS⟩ : ∃ S, str X = S := ⟨_, rfl⟩
      have fr := f1.then_ hb
      have c0 : wr.cell? ⟨w.heap.size, k, none⟩ = some (.string S) := by rw [← hS]; exact (MA.out.below hb l1) k X hX
      have z1 : (k : Int) < 16 := by omega
      go_wp2_with fail
      rw [← hS]
      refine (tokens_any (str X) wr (HT.out.below fr) (by rw [str_size]; have := mark_len X hXm; omega)).mono ?_
      intro e w3 hp
      obtain ⟨A, c, rfl, o3, b3⟩ := tok_ok (by rw [str_list]; exact hlx) hp
      have f3 := hb.then_ b3
      have O3 := Lib.hid o3
      clear hp o3
      go_wp2_with fail
      have f4 := f3.al (.cells #[.int .i64 0, .int .i64 0] 24)
      have O4 := Lib.hid (O3.out.below_ ((Below.refl _ w3).al (.cells #[.int .i64 0, .int .i64 0] 24)))
      generalize w3.alloc (.cells #[.int .i64 0, .int .i64 0] 24) = w4 at *
      obtain ⟨g, rfl, _, hgl, _, hc1, hc2, cells⟩ := O4.out.addr (by simp)
      have t0 : w4.cell? ⟨g, 0, none⟩ = some (.int .i64 4) := cells 0 _ rfl
      have t1 : w4.cell? ⟨g, 1, none⟩ = some (.string S) := (cells 1 _ rfl).trans (by rw [← hS])
      have c4 : w4.cell? ⟨w.heap.size, k, none⟩ = some (.string S) := by rw [← hS]; exact (MA.out.below f4 l1) k X hX
      clear cells c0 O3 O4
      have q : w4.drew.cell? ⟨w.heap.size, k, none⟩ = some (.string S) ∧ w4.drew.cell? ⟨g, 0, none⟩ = some (.int .i64 4) ∧ w4.drew.cell? ⟨g, 1, none⟩ = some (.string S) := ⟨c4, t0, t1⟩
      have z0 : (0 : Int) ≤ (k : Int) := by omega
      have hw4 : w.heap.size < w4.heap.size := Nat.lt_of_lt_of_le l1 (by have := f4.size; omega)
      refine wp_region_held_drew (S := fun w' => w'.cell? ⟨w.heap.size, k, none⟩ = some (.string S) ∧ w'.cell? ⟨g, 0, none⟩ = some (.int .i64 4) ∧ w'.cell? ⟨g, 1, none⟩ = some (.string S)) (by kernel_rfl) q (fun hHeld => ?_)
      refine wpAnyH_take (i := 0) (oi := _) (v := ?_) rfl (by kernel_rfl) (by kernel_rfl) (by kernel_rfl) (fun _ _ _ h => h) (Or.inl ⟨by rfl, ?_⟩) (by assumption) ?_
      rotate_left
      · intro w hSw
        (try dsimp only at hSw)
        go_simp
        (try with_reducible rfl)
      try simp only [Act.put, List.setIfInBounds_toArray, List.set_cons_zero, List.set_cons_succ, List.getElem_toArray, List.getElem_cons_zero]
      refine wpAnyH_take (i := 1) (oi := _) (v := ?_) rfl (by kernel_rfl) (by kernel_rfl) (by kernel_rfl) (fun _ _ _ h => h) (Or.inl ⟨by rfl, ?_⟩) (by assumption) ?_
      rotate_left
      · intro w hSw
        (try dsimp only at hSw)
        go_simp
        (try with_reducible rfl)
      try simp only [Act.put, List.setIfInBounds_toArray, List.set_cons_zero, List.set_cons_succ, List.getElem_toArray, List.getElem_cons_succ, List.getElem_cons_zero]
      refine wpAnyH_take (i := 2) (oi := _) (v := ?_) rfl (by kernel_rfl) (by kernel_rfl) (by kernel_rfl) (fun _ _ _ h => h) (Or.inl ⟨by rfl, ?_⟩) (by assumption) ?_
      rotate_left
      · intro w hSw
        (try dsimp only at hSw)
        go_simp
        (try with_reducible rfl)
      try simp only [Act.put, List.setIfInBounds_toArray, List.set_cons_zero, List.set_cons_succ, List.getElem_toArray, List.getElem_cons_succ, List.getElem_cons_zero]
      refine wpAnyH_take (i := 3) (oi := _) (v := ?_) rfl (by kernel_rfl) (by kernel_rfl) (by kernel_rfl) (fun _ _ _ h => h) (Or.inl ⟨by rfl, ?_⟩) (by assumption) ?_
      rotate_left
      · intro w hSw
        (try dsimp only at hSw)
        go_simp
        (try with_reducible rfl)
      try simp only [Act.put, List.setIfInBounds_toArray, List.set_cons_zero, List.set_cons_succ, List.getElem_toArray, List.getElem_cons_succ, List.getElem_cons_zero]
      refine wpAnyH_take (i := 5) (oi := _) (v := ?_) rfl (by kernel_rfl) (by kernel_rfl) (by kernel_rfl) (fun _ _ _ h => h) (Or.inl ⟨by rfl, ?_⟩) (by assumption) ?_
      rotate_left
      · intro w hSw
        (try dsimp only at hSw)
        go_simp
        (try with_reducible rfl)
      try simp only [Act.put, List.setIfInBounds_toArray, List.set_cons_zero, List.set_cons_succ, List.getElem_toArray, List.getElem_cons_succ, List.getElem_cons_zero]
      refine wpAnyH_ready (rs := [4]) (by kernel_rfl) (by simp) ?_
      refine AllReadyH.cons (o := _) rfl (fun K hK => ?_) AllReadyH.nil
      go_simp
      go_at_call 13
      refine (refMarks_any _).mono ?_
      rintro e w5 ⟨rfl, hw5⟩
      have b5 := (Below.refl _ w4.drew).al (textsO marksB)
      have m5 := (MarksAt.new w4.drew) k X hX
      rw [hS] at m5
      rw [← hw5] at b5 m5
      clear hw5
      have m6 : w5.cell? ⟨w4.heap.size, k, none⟩ = some (.string S) := m5
      clear m5
      have f5 := f4.drew.then_ b5
      have q5 : w5.cell? ⟨w.heap.size, k, none⟩ = some (.string S) ∧ w5.cell? ⟨g, 0, none⟩ = some (.int .i64 4) ∧ w5.cell? ⟨g, 1, none⟩ = some (.string S) := ⟨(b5.cell (p := ⟨w.heap.size, k, none⟩) hw4).trans q.1, (b5.cell (p := ⟨g, 0, none⟩) hgl).trans q.2.1, (b5.cell (p := ⟨g, 1, none⟩) hgl).trans q.2.2⟩
      refine hK.out _ _ q5 (fun hHeld => ?_)
      clear hK K
      try simp only [Act.put, List.setIfInBounds_toArray, List.set_cons_zero, List.set_cons_succ, List.getElem_toArray, List.getElem_cons_succ, List.getElem_cons_zero]
      refine wpAnyH_take (i := 6) (oi := _) (v := ?_) rfl (by kernel_rfl) (by kernel_rfl) (by kernel_rfl) (fun _ _ _ h => h) (Or.inl ⟨by rfl, ?_⟩) (by assumption) ?_
      rotate_left
      · intro w hSw
        (try dsimp only at hSw)
        go_simp
        (try with_reducible rfl)
      try simp only [Act.put, List.setIfInBounds_toArray, List.set_cons_zero, List.set_cons_succ, List.getElem_toArray, List.getElem_cons_succ, List.getElem_cons_zero]
      refine wpAnyH_ready (rs := [7]) (by kernel_rfl) (by simp) ?_
      refine AllReadyH.cons (o := _) rfl (fun K hK => ?_) AllReadyH.nil
      go_simp
      refine hK.out _ _ q5 (fun hHeld => ?_)
      clear hK K
      try simp only [Act.put, List.setIfInBounds_toArray, List.set_cons_zero, List.set_cons_succ, List.getElem_toArray, List.getElem_cons_succ, List.getElem_cons_zero]
      refine wpAnyH_take (i := 8) (oi := _) (v := ?_) rfl (by kernel_rfl) (by kernel_rfl) (by kernel_rfl) (fun _ _ _ h => h) (Or.inl ⟨by rfl, ?_⟩) (by assumption) ?_
      rotate_left
      · intro w hSw
        (try dsimp only at hSw)
        go_simp
        (try with_reducible rfl)
      try simp only [Act.put, List.setIfInBounds_toArray, List.set_cons_zero, List.set_cons_succ, List.getElem_toArray, List.getElem_cons_succ, List.getElem_cons_zero]
      refine wpAnyH_take (i := 9) (oi := _) (v := ?_) rfl (by kernel_rfl) (by kernel_rfl) (by kernel_rfl) (fun _ _ _ h => h) (Or.inl ⟨by rfl, ?_⟩) (by assumption) ?_
      rotate_left
      · intro w hSw
        (try dsimp only at hSw)
        go_simp
        (try with_reducible rfl)
      try simp only [Act.put, List.setIfInBounds_toArray, List.set_cons_zero, List.set_cons_succ, List.getElem_toArray, List.getElem_cons_succ, List.getElem_cons_zero]
      refine wpAnyH_take (i := 10) (oi := _) (v := ?_) rfl (by kernel_rfl) (by kernel_rfl) (by kernel_rfl) (fun _ _ _ h => h) (Or.inl ⟨by rfl, ?_⟩) (by assumption) ?_
      rotate_left
      · intro w hSw
        (try dsimp only at hSw)
        go_simp
        (try with_reducible rfl)
      try simp only [Act.put, List.setIfInBounds_toArray, List.set_cons_zero, List.set_cons_succ, List.getElem_toArray, List.getElem_cons_succ, List.getElem_cons_zero]
      refine wpAnyH_take (i := 11) (oi := _) (v := ?_) rfl (by kernel_rfl) (by kernel_rfl) (by kernel_rfl) (fun _ _ _ h => h) (Or.inl ⟨by rfl, ?_⟩) (by assumption) ?_
      rotate_left
      · intro w hSw
        (try dsimp only at hSw)
        go_simp
        (try with_reducible rfl)
      try simp only [Act.put, List.setIfInBounds_toArray, List.set_cons_zero, List.set_cons_succ, List.getElem_toArray, List.getElem_cons_succ, List.getElem_cons_zero]
      refine wpAnyH_take (i := 12) (oi := _) (v := ?_) rfl (by kernel_rfl) (by kernel_rfl) (by kernel_rfl) (fun _ _ _ h => h) (Or.inl ⟨by rfl, ?_⟩) (by assumption) ?_
      rotate_left
      · intro w hSw
        (try dsimp only at hSw)
        go_simp
        (try with_reducible rfl)
      try simp only [Act.put, List.setIfInBounds_toArray, List.set_cons_zero, List.set_cons_succ, List.getElem_toArray, List.getElem_cons_succ, List.getElem_cons_zero]
      refine wpAnyH_take (i := 13) (oi := _) (v := ?_) rfl (by kernel_rfl) (by kernel_rfl) (by kernel_rfl) (fun _ _ _ h => h) (Or.inl ⟨by rfl, ?_⟩) (by assumption) ?_
      rotate_left
      · intro w hSw
        (try dsimp only at hSw)
        go_simp
        (try with_reducible rfl)
      try simp only [Act.put, List.setIfInBounds_toArray, List.set_cons_zero, List.set_cons_succ, List.getElem_toArray, List.getElem_cons_succ, List.getElem_cons_zero]
      refine wpAnyH_take (i := 14) (oi := _) (v := ?_) rfl (by kernel_rfl) (by kernel_rfl) (by kernel_rfl) (fun _ _ _ h => h) (Or.inl ⟨by rfl, ?_⟩) (by assumption) ?_
      rotate_left
      · intro w hSw
        (try dsimp only at hSw)
        go_simp
        (try with_reducible rfl)
      try simp only [Act.put, List.setIfInBounds_toArray, List.set_cons_zero, List.set_cons_succ, List.getElem_toArray, List.getElem_cons_succ, List.getElem_cons_zero]
      refine wpAnyH_take (i := 15) (oi := _) (v := ?_) rfl (by kernel_rfl) (by kernel_rfl) (by kernel_rfl) (fun _ _ _ h => h) (Or.inl ⟨by rfl, ?_⟩) (by assumption) ?_
      rotate_left
      · intro w hSw
        (try dsimp only at hSw)
        go_simp
        (try with_reducible rfl)
      try simp only [Act.put, List.setIfInBounds_toArray, List.set_cons_zero, List.set_cons_succ, List.getElem_toArray, List.getElem_cons_succ, List.getElem_cons_zero]
      refine wpAnyH_take (i := 16) (oi := _) (v := ?_) rfl (by kernel_rfl) (by kernel_rfl) (by kernel_rfl) (fun _ _ _ h => h) (Or.inl ⟨by rfl, ?_⟩) (by assumption) ?_
      rotate_left
      · intro w hSw
        (try dsimp only at hSw)
        go_simp
        (try with_reducible rfl)
      try simp only [Act.put, List.setIfInBounds_toArray, List.set_cons_zero, List.set_cons_succ, List.getElem_toArray, List.getElem_cons_succ, List.getElem_cons_zero]
      refine wpAnyH_take (i := 17) (oi := _) (v := ?_) rfl (by kernel_rfl) (by kernel_rfl) (by kernel_rfl) (fun _ _ _ h => h) (Or.inl ⟨by rfl, ?_⟩) (by assumption) ?_
      rotate_left
      · intro w hSw
        (try dsimp only at hSw)
        go_simp
        (try with_reducible rfl)
      try simp only [Act.put, List.setIfInBounds_toArray, List.set_cons_zero, List.set_cons_succ, List.getElem_toArray, List.getElem_cons_succ, List.getElem_cons_zero]
      refine wpAnyH_take (i := 18) (oi := _) (v := ?_) rfl (by kernel_rfl) (by kernel_rfl) (by kernel_rfl) (fun _ _ _ h => h) (Or.inl ⟨by rfl, ?_⟩) (by assumption) ?_
      rotate_left
      · intro w hSw
        (try dsimp only at hSw)
        go_simp
        (try with_reducible rfl)
      try simp only [Act.put, List.setIfInBounds_toArray, List.set_cons_zero, List.set_cons_succ, List.getElem_toArray, List.getElem_cons_succ, List.getElem_cons_zero]
      refine wpAnyH_take (i := 19) (oi := _) (v := ?_) rfl (by kernel_rfl) (by kernel_rfl) (by kernel_rfl) (fun _ _ _ h => h) (Or.inl ⟨by rfl, ?_⟩) (by assumption) ?_
      rotate_left
      · intro w hSw
        (try dsimp only at hSw)
        go_simp
        (try with_reducible rfl)
      try simp only [Act.put, List.setIfInBounds_toArray, List.set_cons_zero, List.set_cons_succ, List.getElem_toArray, List.getElem_cons_succ, List.getElem_cons_zero]
      refine wpAnyH_take (i := 20) (oi := _) (v := ?_) rfl (by kernel_rfl) (by kernel_rfl) (by kernel_rfl) (fun _ _ _ h => h) (Or.inl ⟨by rfl, ?_⟩) (by assumption) ?_
      rotate_left
      · intro w hSw
        (try dsimp only at hSw)
        go_simp
        (try with_reducible rfl)
      try simp only [Act.put, List.setIfInBounds_toArray, List.set_cons_zero, List.set_cons_succ, List.getElem_toArray, List.getElem_cons_succ, List.getElem_cons_zero]
      refine wpAnyH_take (i := 21) (oi := _) (v := ?_) rfl (by kernel_rfl) (by kernel_rfl) (by kernel_rfl) (fun _ _ _ h => h) (Or.inl ⟨by rfl, ?_⟩) (by assumption) ?_
      rotate_left
      · intro w hSw
        (try dsimp only at hSw)
        go_simp
        (try with_reducible rfl)
      try simp only [Act.put, List.setIfInBounds_toArray, List.set_cons_zero, List.set_cons_succ, List.getElem_toArray, List.getElem_cons_succ, List.getElem_cons_zero]
      refine wpAnyH_take (i := 22) (oi := _) (v := ?_) rfl (by kernel_rfl) (by kernel_rfl) (by kernel_rfl) (fun _ _ _ h => h) (Or.inl ⟨by rfl, ?_⟩) (by assumption) ?_
      rotate_left
      · intro w hSw
        (try dsimp only at hSw)
        go_simp
        (try with_reducible rfl)
      try simp only [Act.put, List.setIfInBounds_toArray, List.set_cons_zero, List.set_cons_succ, List.getElem_toArray, List.getElem_cons_succ, List.getElem_cons_zero]
      refine wpAnyH_take (i := 23) (oi := _) (v := ?_) rfl (by kernel_rfl) (by kernel_rfl) (by kernel_rfl) (fun _ _ _ h => h) (Or.inl ⟨by rfl, ?_⟩) (by assumption) ?_
      rotate_left
      · intro w hSw
        (try dsimp only at hSw)
        go_simp
        (try with_reducible rfl)
      try simp only [Act.put, List.setIfInBounds_toArray, List.set_cons_zero, List.set_cons_succ, List.getElem_toArray, List.getElem_cons_succ, List.getElem_cons_zero]
      refine wpAnyH_take (i := 24) (oi := _) (v := ?_) rfl (by kernel_rfl) (by kernel_rfl) (by kernel_rfl) (fun _ _ _ h => h) (Or.inl ⟨by rfl, ?_⟩) (by assumption) ?_
      rotate_left
      · intro w hSw
        (try dsimp only at hSw)
        go_simp
        (try with_reducible rfl)
      try simp only [Act.put, List.setIfInBounds_toArray, List.set_cons_zero, List.set_cons_succ, List.getElem_toArray, List.getElem_cons_succ, List.getElem_cons_zero]
      refine wpAnyH_take (i := 25) (oi := _) (v := ?_) rfl (by kernel_rfl) (by kernel_rfl) (by kernel_rfl) (fun _ _ _ h => h) (Or.inl ⟨by rfl, ?_⟩) (by assumption) ?_
      rotate_left
      · intro w hSw
        (try dsimp only at hSw)
        go_simp
        (try with_reducible rfl)
      try simp only [Act.put, List.setIfInBounds_toArray, List.set_cons_zero, List.set_cons_succ, List.getElem_toArray, List.getElem_cons_succ, List.getElem_cons_zero]
      refine wpAnyH_take (i := 26) (oi := _) (v := ?_) rfl (by kernel_rfl) (by kernel_rfl) (by kernel_rfl) (fun _ _ _ h => h) (Or.inl ⟨by rfl, ?_⟩) (by assumption) ?_
      rotate_left
      · intro w hSw
        (try dsimp only at hSw)
        go_simp
        (try with_reducible rfl)
      try simp only [Act.put, List.setIfInBounds_toArray, List.set_cons_zero, List.set_cons_succ, List.getElem_toArray, List.getElem_cons_succ, List.getElem_cons_zero]
      refine wpAnyH_take (i := 27) (oi := _) (v := ?_) rfl (by kernel_rfl) (by kernel_rfl) (by kernel_rfl) (fun _ _ _ h => h) (Or.inl ⟨by rfl, ?_⟩) (by assumption) ?_
      rotate_left
      · intro w hSw
        (try dsimp only at hSw)
        go_simp
        (try with_reducible rfl)
      try simp only [Act.put, List.setIfInBounds_toArray, List.set_cons_zero, List.set_cons_succ, List.getElem_toArray, List.getElem_cons_succ, List.getElem_cons_zero]
      refine wpAnyH_take (i := 28) (oi := _) (v := ?_) rfl (by kernel_rfl) (by kernel_rfl) (by kernel_rfl) (fun _ _ _ h => h) (Or.inl ⟨by rfl, ?_⟩) (by assumption) ?_
      rotate_left
      · intro w hSw
        (try dsimp only at hSw)
        go_simp
        (try with_reducible rfl)
      try simp only [Act.put, List.setIfInBounds_toArray, List.set_cons_zero, List.set_cons_succ, List.getElem_toArray, List.getElem_cons_succ, List.getElem_cons_zero]
      refine wpAnyH_take (i := 29) (oi := _) (v := ?_) rfl (by kernel_rfl) (by kernel_rfl) (by kernel_rfl) (fun _ _ _ h => h) (Or.inl ⟨by rfl, ?_⟩) (by assumption) ?_
      rotate_left
      · intro w hSw
        (try dsimp only at hSw)
        go_simp
        (try with_reducible rfl)
      try simp only [Act.put, List.setIfInBounds_toArray, List.set_cons_zero, List.set_cons_succ, List.getElem_toArray, List.getElem_cons_succ, List.getElem_cons_zero]
      refine wpAnyH_take (i := 30) (oi := _) (v := ?_) rfl (by kernel_rfl) (by kernel_rfl) (by kernel_rfl) (fun _ _ _ h => h) (Or.inl ⟨by rfl, ?_⟩) (by assumption) ?_
      rotate_left
      · intro w hSw
        (try dsimp only at hSw)
        go_simp
        (try with_reducible rfl)
      try simp only [Act.put, List.setIfInBounds_toArray, List.set_cons_zero, List.set_cons_succ, List.getElem_toArray, List.getElem_cons_succ, List.getElem_cons_zero]
      refine wpAnyH_take (i := 31) (oi := _) (v := ?_) rfl (by kernel_rfl) (by kernel_rfl) (by kernel_rfl) (fun _ _ _ h => h) (Or.inl ⟨by rfl, ?_⟩) (by assumption) ?_
      rotate_left
      · intro w hSw
        (try dsimp only at hSw)
        go_simp
        (try with_reducible rfl)
      try simp only [Act.put, List.setIfInBounds_toArray, List.set_cons_zero, List.set_cons_succ, List.getElem_toArray, List.getElem_cons_succ, List.getElem_cons_zero]
      refine wpAnyH_take (i := 32) (oi := _) (v := ?_) rfl (by kernel_rfl) (by kernel_rfl) (by kernel_rfl) (fun _ _ _ h => h) (Or.inl ⟨by rfl, ?_⟩) (by assumption) ?_
      rotate_left
      · intro w hSw
        (try dsimp only at hSw)
        go_simp
        (try with_reducible rfl)
      try simp only [Act.put, List.setIfInBounds_toArray, List.set_cons_zero, List.set_cons_succ, List.getElem_toArray, List.getElem_cons_succ, List.getElem_cons_zero]
      refine wpAnyH_take (i := 33) (oi := _) (v := ?_) rfl (by kernel_rfl) (by kernel_rfl) (by kernel_rfl) (fun _ _ _ h => h) (Or.inl ⟨by rfl, ?_⟩) (by assumption) ?_
      rotate_left
      · intro w hSw
        (try dsimp only at hSw)
        go_simp
        (try with_reducible rfl)
      try simp only [Act.put, List.setIfInBounds_toArray, List.set_cons_zero, List.set_cons_succ, List.getElem_toArray, List.getElem_cons_succ, List.getElem_cons_zero]
      refine wpAnyH_take (i := 34) (oi := _) (v := ?_) rfl (by kernel_rfl) (by kernel_rfl) (by kernel_rfl) (fun _ _ _ h => h) (Or.inl ⟨by rfl, ?_⟩) (by assumption) ?_
      rotate_left
      · intro w hSw
        (try dsimp only at hSw)
        go_simp
        (try with_reducible rfl)
      try simp only [Act.put, List.setIfInBounds_toArray, List.set_cons_zero, List.set_cons_succ, List.getElem_toArray, List.getElem_cons_succ, List.getElem_cons_zero]
      refine wpAnyH_take (i := 35) (oi := _) (v := ?_) rfl (by kernel_rfl) (by kernel_rfl) (by kernel_rfl) (fun _ _ _ h => h) (Or.inl ⟨by rfl, ?_⟩) (by assumption) ?_
      rotate_left
      · intro w hSw
        (try dsimp only at hSw)
        go_simp
        (try with_reducible rfl)
      try simp only [Act.put, List.setIfInBounds_toArray, List.set_cons_zero, List.set_cons_succ, List.getElem_toArray, List.getElem_cons_succ, List.getElem_cons_zero]
      refine wpAnyH_done (by kernel_rfl) ?_ _
      go_goals
      go_wp2_with fail
      go_roundw
      case rel => exact ⟨k + 1, by omega, by go_num, f5⟩
      case measure => simp [intOf]; omega
    · obtain rfl : k = 16 := by omega
      have fr := f1.then_ hb
      have MB := Lib.hid (MA.out.below hb l1)
      obtain ⟨u, hu⟩ : ∃ u : Nat, IntKind.u64.wrap a = (u : Int) := ⟨(IntKind.u64.wrap a).toNat, by rw [IntKind.wrap_u64]; omega⟩
      have hu' : a % 18446744073709551616 = (u : Int) := by rw [← hu, IntKind.wrap_u64]
      obtain ⟨v, hv⟩ : ∃ v : Nat, IntKind.u64.wrap b = (v : Int) := ⟨(IntKind.u64.wrap b).toNat, by rw [IntKind.wrap_u64]; omega⟩
      have hv' : b % 18446744073709551616 = (v : Int) := by rw [← hv, IntKind.wrap_u64]
      obtain ⟨p, hp, hpl⟩ : ∃ p : Nat, (u : Int) % 16 = (p : Int) ∧ p < 16 := ⟨u % 16, by omega, by omega⟩
      obtain ⟨q, hq, hql⟩ : ∃ q : Nat, (v : Int) % 16 = (q : Int) ∧ q < 16 := ⟨v % 16, by omega, by omega⟩
      obtain ⟨X, hX⟩ : ∃ X, marksL[p]? = some X := ⟨_, List.getElem?_eq_getElem (by rw [marks_count]; exact hpl)⟩
      obtain ⟨Y, hY⟩ : ∃ Y, marksL[q]? = some Y := ⟨_, List.getElem?_eq_getElem (by rw [marks_count]; exact hql)⟩
      have hXm : X ∈ marksL := List.mem_of_getElem? hX
      have hYm : Y ∈ marksL := List.mem_of_getElem? hY
      have hlx := Lib.hid (lex_two X hXm Y hYm)
      have hx2 := mark_len X hXm
      have hy2 := mark_len Y hYm
      obtain ⟨S, hS⟩ : ∃ S, str X = S := ⟨_, rfl⟩
      obtain ⟨T, hT⟩ : ∃ T, str Y = T := ⟨_, rfl⟩
      have c0 : wr.cell? ⟨w.heap.size, p, none⟩ = some (.string S) := by rw [← hS]; exact MB.out p X hX
      have c1 : wr.cell? ⟨w.heap.size, q, none⟩ = some (.string T) := by rw [← hT]; exact MB.out q Y hY
      have wp1 : IntKind.i64.wrap (p : Int) = p := by rw [IntKind.wrap_i64]; omega
      have wq1 : IntKind.i64.wrap (q : Int) = q := by rw [IntKind.wrap_i64]; omega
      have z1 : (0 : Int) ≤ (p : Int) := by omega
      have z2 : (0 : Int) ≤ (q : Int) := by omega
      have z3 : (p : Int) < 16 := by omega
      have z4 : (q : Int) < 16 := by omega
      have HX := Lib.hid hX
      have HY := Lib.hid hY
      clear hX hY
      go_wp2_with fail
      obtain ⟨U, hU⟩ : ∃ U, str (X ++ Y) = U := ⟨_, rfl⟩
      have hap : S ++ T = U := by rw [← hS, ← hT, ← hU]; exact str_append X Y
      have zS : S.size = X.length := by rw [← hS, str_size]
      have zT : T.size = Y.length := by rw [← hT, str_size]
      have z5 : ¬ (9223372036854775807 < S.size + T.size) := by omega
      have hSl : S.toList = X := by rw [← hS, str_tl]
      have hTl : T.toList = Y := by rw [← hT, str_tl]
      have HSL := Lib.hid hSl
      have HTL := Lib.hid hTl
      have HSS := Lib.hid hS
      have HTT := Lib.hid hT
      clear hSl hTl hS hT
      have HU := Lib.hid hU
      clear hU
      go_region
      clear hu hu' hv hv'
      clear hp hq wp1 wq1 z1 z2 z3 z4 c0 c1
      go_wp2_with fail
      have hUl : U.data.toList = X ++ Y := by rw [← HU.out, str_list]
      have hUz : U.size = X.length + Y.length := by rw [← HU.out, str_size, List.length_append]
      refine (tokens_any U wr.drew (HT.out.below fr.drew) (by omega)).mono ?_
      intro e w3 hp
      have hlx := hlx.out
      cases hg : glued X Y
      · rw [hg, if_neg (by simp)] at hlx
        obtain ⟨A, c, rfl, o3, b3⟩ := tok_ok (by rw [hUl]; exact hlx) hp
        have n9 : IntKind.i64.wrap (1 + (S.size : Int)) = 1 + (S.size : Int) := by rw [IntKind.wrap_i64]; omega
        by_cases hy : Y = [61]
        · have e1 : T.toList = [61] := HTL.out.trans hy
          have e2 : ¬ S.toList = [60] := by rw [HSL.out]; rintro rfl; simp [glued, hy] at hg
          have e3 : ¬ S.toList = [62] := by rw [HSL.out]; rintro rfl; simp [glued, hy] at hg
          have e4 : (S.toList == [60]) = false := by simpa using e2
          have e5 : (S.toList == [62]) = false := by simpa using e3
          clear hg hlx hUl hUz
          have f4 := fr.drew.then_ b3
          have f5 := f4.al (.cells #[.int .i64 0, .int .i64 0] 24)
          have O5 := Lib.hid (o3.below_ ((Below.refl _ w3).al (.cells #[.int .i64 0, .int .i64 0] 24)))
          clear hp o3
          go_wp2_with (go_at_call 11; refine (known_any _ (HT.out.below f5)).mono ?_; rintro e w7 ⟨rfl, b7⟩; have f7 := f5.then_ b7; have O7 := Lib.hid (O5.out.below_ b7); obtain ⟨g, rfl, _, hgl, _, hc1, hc2, cells⟩ := O7.out.addr (by simp); have m1 : w7.cell? ⟨g, 1, none⟩ = some (.string S) := (cells 1 _ rfl).trans (by rw [HSS.out]); have m6 : w7.cell? ⟨g, 6, none⟩ = some (.string T) := (cells 6 _ rfl).trans (by rw [HTT.out]); have m9 : w7.cell? ⟨g, 9, none⟩ = some (.int .i64 (1 + (S.size : Int))) := (cells 9 _ rfl).trans (by rw [zS]); clear cells)
          go_ret
          exact ⟨rfl, f7⟩
        · have e1 : ¬ T.toList = [61] := by rw [HTL.out]; exact hy
          clear hg hlx hUl hUz
          have f4 := fr.drew.then_ b3
          have f5 := f4.al (.cells #[.int .i64 0, .int .i64 0] 24)
          have O5 := Lib.hid (o3.below_ ((Below.refl _ w3).al (.cells #[.int .i64 0, .int .i64 0] 24)))
          clear hp o3
          go_wp2_with (go_at_call 11; refine (known_any _ (HT.out.below f5)).mono ?_; rintro e w7 ⟨rfl, b7⟩; have f7 := f5.then_ b7; have O7 := Lib.hid (O5.out.below_ b7); obtain ⟨g, rfl, _, hgl, _, hc1, hc2, cells⟩ := O7.out.addr (by simp); have m1 : w7.cell? ⟨g, 1, none⟩ = some (.string S) := (cells 1 _ rfl).trans (by rw [HSS.out]); have m6 : w7.cell? ⟨g, 6, none⟩ = some (.string T) := (cells 6 _ rfl).trans (by rw [HTT.out]); have m9 : w7.cell? ⟨g, 9, none⟩ = some (.int .i64 (1 + (S.size : Int))) := (cells 9 _ rfl).trans (by rw [zS]); clear cells)
          go_ret
          exact ⟨rfl, f7⟩
      · rw [hg, if_pos rfl] at hlx
        obtain ⟨A, c, rfl, o3, b3⟩ := tok_ok (by rw [hUl]; exact hlx) hp
        have hg2 : Y = [61] ∧ (X = [60] ∨ X = [62]) := by simpa [glued] using hg
        have e1 : T.toList = [61] := HTL.out.trans hg2.1
        clear hg hlx hUl hUz
        rcases hg2.2 with hx | hx
        · have e2 : S.toList = [60] := HSL.out.trans hx
          have f4 := fr.drew.then_ b3
          have f5 := f4.al (.cells #[.int .i64 0, .int .i64 0] 24)
          have O5 := Lib.hid (o3.below_ ((Below.refl _ w3).al (.cells #[.int .i64 0, .int .i64 0] 24)))
          clear hp o3
          go_wp2_with (go_at_call 11; refine (known_any _ (HT.out.below f5)).mono ?_; rintro e w7 ⟨rfl, b7⟩; have f7 := f5.then_ b7; have O7 := Lib.hid (O5.out.below_ b7); obtain ⟨g, rfl, _, hgl, _, hc1, hc2, cells⟩ := O7.out.addr (by simp); have m1 : w7.cell? ⟨g, 1, none⟩ = some (.string U) := (cells 1 _ rfl).trans (by rw [HU.out]); clear cells)
          go_ret
          exact ⟨rfl, f7⟩
        · have e2 : S.toList = [62] := HSL.out.trans hx
          have e3 : ¬ S.toList = [60] := by rw [e2]; decide
          have f4 := fr.drew.then_ b3
          have f5 := f4.al (.cells #[.int .i64 0, .int .i64 0] 24)
          have O5 := Lib.hid (o3.below_ ((Below.refl _ w3).al (.cells #[.int .i64 0, .int .i64 0] 24)))
          clear hp o3
          go_wp2_with (go_at_call 11; refine (known_any _ (HT.out.below f5)).mono ?_; rintro e w7 ⟨rfl, b7⟩; have f7 := f5.then_ b7; have O7 := Lib.hid (O5.out.below_ b7); obtain ⟨g, rfl, _, hgl, _, hc1, hc2, cells⟩ := O7.out.addr (by simp); have m1 : w7.cell? ⟨g, 1, none⟩ = some (.string U) := (cells 1 _ rfl).trans (by rw [HU.out]); clear cells)
          go_ret
          exact ⟨rfl, f7⟩
end Go.Proofs.YtlfckmekfncboaaDoor
