/-
  TopupNil: the walk.
-/
import Derived.Test.YtdbffjipoiphpaaT21
namespace Go.Proofs.Ytdbffjipoiphpaa
open Go.RowKit

theorem kNew1 : newOk [1, 1] := by
  refine ⟨by decide, by decide, fun x hx => ?_, by decide⟩
  simp at hx
  subst hx
  decide

theorem heldN {w' : World} {gn gr : Nat} {tn tr : TypeId} {kind h seat N t0 t1 t2 t3 t4 t5 t6 t7 num till : Int} {A : Option Addr} {n c : Nat} (nb : Blk w' gn tn #[.int .i64 kind, .int .i64 h, .int .i64 seat, .int .i64 N, .int .u8 t0, .int .u8 t1, .int .u8 t2, .int .u8 t3, .int .u8 t4, .int .u8 t5, .int .u8 t6, .int .u8 t7, .int .i64 num, .slice A n c, .int .i64 till]) (rb : Blk w' gr tr #[.int .u8 0, .int .u8 0, .int .u8 0, .int .u8 0, .int .u8 0, .int .u8 0, .int .u8 0, .int .u8 0, .int .i64 0, .slice none 0 0, .int .i64 0]) :
    w'.cell? ⟨gn, 1, none⟩ = some (.int .i64 h) ∧ w'.cell? ⟨gn, 2, none⟩ = some (.int .i64 seat) ∧ w'.cell? ⟨gn, 3, none⟩ = some (.int .i64 N) ∧ w'.cell? ⟨gn, 4, none⟩ = some (.int .u8 t0) ∧ w'.cell? ⟨gn, 5, none⟩ = some (.int .u8 t1) ∧ w'.cell? ⟨gn, 6, none⟩ = some (.int .u8 t2) ∧ w'.cell? ⟨gn, 7, none⟩ = some (.int .u8 t3) ∧ w'.cell? ⟨gn, 8, none⟩ = some (.int .u8 t4) ∧ w'.cell? ⟨gn, 9, none⟩ = some (.int .u8 t5) ∧ w'.cell? ⟨gn, 10, none⟩ = some (.int .u8 t6) ∧ w'.cell? ⟨gn, 11, none⟩ = some (.int .u8 t7) ∧ w'.cell? ⟨gn, 12, none⟩ = some (.int .i64 num) ∧ w'.cell? ⟨gn, 13, none⟩ = some (.slice A n c) ∧ w'.cell? ⟨gn, 14, none⟩ = some (.int .i64 till) ∧ w'.cell? ⟨gr, 0, none⟩ = some (.int .u8 0) ∧ w'.cell? ⟨gr, 1, none⟩ = some (.int .u8 0) ∧ w'.cell? ⟨gr, 2, none⟩ = some (.int .u8 0) ∧ w'.cell? ⟨gr, 3, none⟩ = some (.int .u8 0) ∧ w'.cell? ⟨gr, 4, none⟩ = some (.int .u8 0) ∧ w'.cell? ⟨gr, 5, none⟩ = some (.int .u8 0) ∧ w'.cell? ⟨gr, 6, none⟩ = some (.int .u8 0) ∧ w'.cell? ⟨gr, 7, none⟩ = some (.int .u8 0) ∧ w'.cell? ⟨gr, 8, none⟩ = some (.int .i64 0) ∧ w'.cell? ⟨gr, 9, none⟩ = some (.slice none 0 0) ∧ w'.cell? ⟨gr, 10, none⟩ = some (.int .i64 0) :=
  ⟨nb.cell 1, nb.cell 2, nb.cell 3, nb.cell 4, nb.cell 5, nb.cell 6, nb.cell 7, nb.cell 8, nb.cell 9, nb.cell 10, nb.cell 11, nb.cell 12, nb.cell 13, nb.cell 14, rb.cell 0, rb.cell 1, rb.cell 2, rb.cell 3, rb.cell 4, rb.cell 5, rb.cell 6, rb.cell 7, rb.cell 8, rb.cell 9, rb.cell 10⟩

set_option maxHeartbeats 4000000 in
set_option maxRecDepth 100000 in
theorem nil_walk (w : World) (kind h seat N t0 t1 t2 t3 t4 t5 t6 t7 num till : Int) (A : Option Addr) (n c : Nat) (adds : List Int) (hnc : n ≤ c) (hrd : RI w A n adds) :
    Calls Try.prog 7 #[.agg #[.int .i64 kind, .int .i64 h, .int .i64 seat, .int .i64 N, .int .u8 t0, .int .u8 t1, .int .u8 t2, .int .u8 t3, .int .u8 t4, .int .u8 t5, .int .u8 t6, .int .u8 t7, .int .i64 num, .slice A n c, .int .i64 till]] w (Tells w true) := by
  go_enter Try.func7, Try.ntmps7
  go_wp2_with fail
  have nb := Blk.new w 35 #[.int .i64 kind, .int .i64 h, .int .i64 seat, .int .i64 N, .int .u8 t0, .int .u8 t1, .int .u8 t2, .int .u8 t3, .int .u8 t4, .int .u8 t5, .int .u8 t6, .int .u8 t7, .int .i64 num, .slice A n c, .int .i64 till]
  have f0 : Below w.heap.size w (w.alloc (.cells #[.int .i64 kind, .int .i64 h, .int .i64 seat, .int .i64 N, .int .u8 t0, .int .u8 t1, .int .u8 t2, .int .u8 t3, .int .u8 t4, .int .u8 t5, .int .u8 t6, .int .u8 t7, .int .i64 num, .slice A n c, .int .i64 till] 35)) := (Below.refl _ w).al _
  generalize w.alloc (.cells #[.int .i64 kind, .int .i64 h, .int .i64 seat, .int .i64 N, .int .u8 t0, .int .u8 t1, .int .u8 t2, .int .u8 t3, .int .u8 t4, .int .u8 t5, .int .u8 t6, .int .u8 t7, .int .i64 num, .slice A n c, .int .i64 till] 35) = W0 at nb f0 ⊢
  refine (nil_back h seat _).mono ?_
  rintro e w1 ⟨rfl, b1⟩
  have f1 := f0.then_ b1
  have nb1 := nb.below b1 nb.lt
  clear nb f0 b1
  go_wp2_with fail
  refine (nil_open _).mono ?_
  rintro e w2 ⟨rfl, b2⟩
  have f2 := f1.then_ b2
  have nb2 := nb1.below b2 nb1.lt
  clear nb1 f1 b2
  go_wp2_with fail
  have rb := Blk.new w2 33 #[.int .u8 0, .int .u8 0, .int .u8 0, .int .u8 0, .int .u8 0, .int .u8 0, .int .u8 0, .int .u8 0, .int .i64 0, .slice none 0 0, .int .i64 0]
  have fa : Below w2.heap.size w2 (w2.alloc (.cells #[.int .u8 0, .int .u8 0, .int .u8 0, .int .u8 0, .int .u8 0, .int .u8 0, .int .u8 0, .int .u8 0, .int .i64 0, .slice none 0 0, .int .i64 0] 33)) := (Below.refl _ w2).al _
  have fb := fa.al (.cells #[.int .i64 1, .int .i64 1] 3)
  have ob := Blk.new (w2.alloc (.cells #[.int .u8 0, .int .u8 0, .int .u8 0, .int .u8 0, .int .u8 0, .int .u8 0, .int .u8 0, .int .u8 0, .int .i64 0, .slice none 0 0, .int .i64 0] 33)) 3 #[.int .i64 1, .int .i64 1]
  have hsz : (w2.alloc (.cells #[.int .u8 0, .int .u8 0, .int .u8 0, .int .u8 0, .int .u8 0, .int .u8 0, .int .u8 0, .int .u8 0, .int .i64 0, .slice none 0 0, .int .i64 0] 33)).heap.size = w2.heap.size + 1 := by simp
  rw [hsz] at ob
  clear hsz
  have rb1 := rb.alloc (.cells #[.int .i64 1, .int .i64 1] 3)
  have nb3 := nb2.below fb nb2.lt
  have f3 := f2.then_ fb
  have ri3 := ri_blk (xs := [1, 1]) ob
  clear rb fa fb ob nb2 f2
  generalize ((w2.alloc (.cells #[.int .u8 0, .int .u8 0, .int .u8 0, .int .u8 0, .int .u8 0, .int .u8 0, .int .u8 0, .int .u8 0, .int .i64 0, .slice none 0 0, .int .i64 0] 33)).alloc (.cells #[.int .i64 1, .int .i64 1] 3)) = W3 at rb1 nb3 f3 ri3 ⊢
  refine (new_yes _ _ _ [1, 1] _ ri3 kNew1).mono ?_
  rintro e w4 ⟨S, g, gs, cs, rfl, B4, hS, b4⟩
  have f4 := f3.then_ b4
  have nb4 := nb3.below b4 nb3.lt
  have rb4 := rb1.below b4 rb1.lt
  clear nb3 rb1 f3 b4 ri3 hS B4
  go_wp2_with fail
  have q4 := heldN nb4.drew rb4.drew
  have hri : RI w4 A (min n 10) (adds.take (min n 10)) := by
    have := Reads.upto (Reads.below hrd f4) (k := min n 10) (by omega)
    rw [Nat.mul_one, ← List.map_take] at this
    exact this.more f4.size
  obtain ⟨hs, hhs⟩ : ∃ hs, hs = min n 10 := ⟨_, rfl⟩
  rw [← hhs] at hri
  have hs10 : hs ≤ 10 := by omega
  generalize adds.take hs = zz at hri
  have r4 : Below w4.heap.size w4 w4.drew := (Below.refl _ w4).drew
  have HHS := Lib.hid hhs
  clear hrd hhs
  dsimp only [List.append_eq, List.cons_append, List.nil_append]
  go_region_held3 (fun w' => w'.cell? ⟨w.heap.size, 1, none⟩ = some (.int .i64 h) ∧ w'.cell? ⟨w.heap.size, 2, none⟩ = some (.int .i64 seat) ∧ w'.cell? ⟨w.heap.size, 3, none⟩ = some (.int .i64 N) ∧ w'.cell? ⟨w.heap.size, 4, none⟩ = some (.int .u8 t0) ∧ w'.cell? ⟨w.heap.size, 5, none⟩ = some (.int .u8 t1) ∧ w'.cell? ⟨w.heap.size, 6, none⟩ = some (.int .u8 t2) ∧ w'.cell? ⟨w.heap.size, 7, none⟩ = some (.int .u8 t3) ∧ w'.cell? ⟨w.heap.size, 8, none⟩ = some (.int .u8 t4) ∧ w'.cell? ⟨w.heap.size, 9, none⟩ = some (.int .u8 t5) ∧ w'.cell? ⟨w.heap.size, 10, none⟩ = some (.int .u8 t6) ∧ w'.cell? ⟨w.heap.size, 11, none⟩ = some (.int .u8 t7) ∧ w'.cell? ⟨w.heap.size, 12, none⟩ = some (.int .i64 num) ∧ w'.cell? ⟨w.heap.size, 13, none⟩ = some (.slice A n c) ∧ w'.cell? ⟨w.heap.size, 14, none⟩ = some (.int .i64 till) ∧ w'.cell? ⟨w2.heap.size, 0, none⟩ = some (.int .u8 0) ∧ w'.cell? ⟨w2.heap.size, 1, none⟩ = some (.int .u8 0) ∧ w'.cell? ⟨w2.heap.size, 2, none⟩ = some (.int .u8 0) ∧ w'.cell? ⟨w2.heap.size, 3, none⟩ = some (.int .u8 0) ∧ w'.cell? ⟨w2.heap.size, 4, none⟩ = some (.int .u8 0) ∧ w'.cell? ⟨w2.heap.size, 5, none⟩ = some (.int .u8 0) ∧ w'.cell? ⟨w2.heap.size, 6, none⟩ = some (.int .u8 0) ∧ w'.cell? ⟨w2.heap.size, 7, none⟩ = some (.int .u8 0) ∧ w'.cell? ⟨w2.heap.size, 8, none⟩ = some (.int .i64 0) ∧ w'.cell? ⟨w2.heap.size, 9, none⟩ = some (.slice none 0 0) ∧ w'.cell? ⟨w2.heap.size, 10, none⟩ = some (.int .i64 0))
    (first | with_reducible exact q4 | with_reducible exact q5 | with_reducible exact q6 | with_reducible exact q7 | with_reducible exact q8 | with_reducible exact q9 | with_reducible exact q10 | with_reducible exact q11)
    (first
      | (go_at_call 10; refine (known_any _).mono ?_; rintro e w5 ⟨rfl, b5⟩; have r5 := r4.then_ b5; have q5 := heldN (nb4.below r5 nb4.lt) (rb4.below r5 rb4.lt))
      | (go_at_call 15; have zz9 := r9; refine (of_any 0 0 0 0 0 0 0 0 0 0 none 0 0 _ (by omega)).mono ?_; rintro e w10 ⟨rfl, b10⟩; have r10 := r9.then_ b10; have q10 := heldN (nb4.below r10 nb4.lt) (rb4.below r10 rb4.lt))
      | (go_at_call 15; refine (of_any t0 t1 t2 t3 t4 t5 t6 t7 num till A n c _ hnc).mono ?_; rintro e w6 ⟨rfl, b6⟩; rw [← HHS.out]; have r6 := r5.then_ b6; have q6 := heldN (nb4.below r6 nb4.lt) (rb4.below r6 rb4.lt))
      | (go_at_call 14; refine (to_any t0 t1 t2 t3 t4 t5 t6 t7 num till A hs c zz _ (hri.below r6) hs10).mono ?_; rintro e w7 ⟨A7, c7, rfl, ri7, hc7, hc7', b7⟩; have r7 := r6.then_ b7; have q7 := heldN (nb4.below r7 nb4.lt) (rb4.below r7 rb4.lt))
      | (go_at_call 13; refine (nil_ask h _ _ ⟨t0, t1, t2, t3, t4, t5, t6, t7, num, till, _, _, _, rfl⟩).mono ?_; rintro e w8 ⟨rfl, b8⟩; have r8 := r7.then_ b8; have q8 := heldN (nb4.below r8 nb4.lt) (rb4.below r8 rb4.lt))
      | (go_at_call 16; refine (nil_put h seat N _).mono ?_; rintro e w9 ⟨rfl, b9⟩; have r9 := r8.then_ b9; have q9 := heldN (nb4.below r9 nb4.lt) (rb4.below r9 rb4.lt))
      | (go_at_call 21; refine (nil_stakes _).mono ?_; rintro e w10 ⟨rfl, rfl⟩)
      | (go_at_call 18; refine (nil_pot _).mono ?_; rintro e w10 ⟨rfl, rfl⟩)
      | (go_at_call 11; refine (nil_held _).mono ?_; rintro e w10 ⟨rfl, rfl⟩)
      | (go_at_call 24; refine (sameRaise_nil 0 0 _).mono ?_; rintro e w11 ⟨rfl, b11⟩; have r11 := r10.then_ b11; have q11 := heldN (nb4.below r11 nb4.lt) (rb4.below r11 rb4.lt))
      | (go_at_call 23; refine (nil_clone _).mono ?_; rintro e w12 ⟨rfl, rfl⟩)
      | (go_at_call 22; have zz9 := mk2; refine (nil_same2 _ _).mono ?_; rintro e w12 ⟨rfl, rfl⟩)
      | (go_at_call 22; have zz9 := mk1; refine (nil_same1 _ _).mono ?_; rintro e w12 ⟨rfl, rfl⟩; have mk2 := True.intro)
      | (go_at_call 22; refine (nil_same _).mono ?_; rintro e w12 ⟨rfl, rfl⟩; have mk1 := True.intro))
  all_goals
    go_wp2_with fail
    go_ret
    exact ⟨rfl, f4.then_ r11⟩
end Go.Proofs.Ytdbffjipoiphpaa
