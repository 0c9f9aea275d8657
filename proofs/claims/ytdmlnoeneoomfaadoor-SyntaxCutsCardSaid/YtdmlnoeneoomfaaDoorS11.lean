
/-
  The law's known.
-/
import Derived.Test.YtdmlnoeneoomfaaDoorS10
import Derived.Laws.StructEq
namespace Go.Proofs.YtdmlnoeneoomfaaDoor
open Go.RowKit

theorem known_1 : exprO [49, 32, 45, 32, 50, 32, 45, 32, 51, 32, 42, 32, 120] = .ok (.bin 9 (.bin 9 (.num 1) (.num 2)) (.bin 5 (.num 3) (.nam [120]))) := by kernel_rfl
theorem known_2 : exprO [97, 32, 61, 32, 98, 32, 61, 32, 99] = .bad 1 7 3 := by kernel_rfl
set_option maxHeartbeats 4000000 in
set_option maxRecDepth 100000 in
theorem known_any (w : World) (hT : Spaces w) : Calls Tryd.prog 8 #[] w (Tells w true) := by
  have C1 := Lib.hid (Expression_any ⟨#[49, 32, 45, 32, 50, 32, 45, 32, 51, 32, 42, 32, 120]⟩ w hT (by decide))
  have C2 : Hid (∀ W, Below w.heap.size w W → Calls Tryd.prog 9 #[.string ⟨#[97, 32, 61, 32, 98, 32, 61, 32, 99]⟩] W (ExprTo W (.bad 1 7 3))) := fun W hW => by
    have := Expression_any ⟨#[97, 32, 61, 32, 98, 32, 61, 32, 99]⟩ W (hT.below hW) (by decide)
    rw [show (ByteArray.mk #[97, 32, 61, 32, 98, 32, 61, 32, 99]).data.toList = [97, 32, 61, 32, 98, 32, 61, 32, 99] from rfl, known_2] at this
    exact this
  rw [show (ByteArray.mk #[49, 32, 45, 32, 50, 32, 45, 32, 51, 32, 42, 32, 120]).data.toList = [49, 32, 45, 32, 50, 32, 45, 32, 51, 32, 42, 32, 120] from rfl, known_1] at C1
  clear hT
  go_enter Tryd.func8, Tryd.ntmps8
  go_wp2_with fail
  refine C1.out.mono ?_
  rintro e w1 ⟨op, N, nm, B, l, k, L, C, E, rfl, b1, h1⟩
  obtain ⟨rfl, rfl, rfl, hT1⟩ := h1
  obtain ⟨b, c1, c2, hcs, hb0, hbk, ⟨b2, d1, d2, hd, -, -, -, -⟩, ⟨b3, f1, f2, hf, -, -, -, -⟩⟩ := hT1
  subst hd hf
  injection hcs with q1 hcs
  injection hcs with q2 hcs
  injection hcs with q3 hcs
  injection hcs with q4 hcs
  injection q1 with _ q1
  injection q2 with _ q2
  injection q3 with q3
  injection q4 with q4 q5 q6
  subst q1 q2 q3 q4 q5 q6
  have B1 := Lib.hid b1
  have BK := Lib.hid hbk
  obtain ⟨y1, y2⟩ := two_new w1 25 27 #[.int .i64 9, .int .i64 0, .string ⟨#[]⟩, .slice (some ⟨b, 0, none⟩) 2 2] #[.int .i64 0, .int .i64 0]
  have BK2 := Lib.hid ((hbk.alloc (.cells #[.int .i64 9, .int .i64 0, .string ⟨#[]⟩, .slice (some ⟨b, 0, none⟩) 2 2] 25)).alloc (.cells #[.int .i64 0, .int .i64 0] 27))
  have B2 := Lib.hid ((b1.alloc b1.size (.cells #[.int .i64 9, .int .i64 0, .string ⟨#[]⟩, .slice (some ⟨b, 0, none⟩) 2 2] 25)).alloc (by simp; have := b1.size; omega) (.cells #[.int .i64 0, .int .i64 0] 27))
  have Y1 := Lib.hid y1
  clear C1 b1 hbk y1 y2 hcs hb0
  go_upto_region 2 with fail
  generalize (w1.alloc (.cells #[.int .i64 9, .int .i64 0, .string ⟨#[]⟩, .slice (some ⟨b, 0, none⟩) 2 2] 25)).alloc (.cells #[.int .i64 0, .int .i64 0] 27) = W2 at *
  go_wp2_with fail
  refine (C2.out W2 B2.out).mono ?_
  rintro e w3 ⟨op, N, nm, B, l, k, L, C, E, rfl, b3, rfl, rfl, rfl, -, hcs⟩
  injection hcs with q1 hcs
  injection hcs with q2 hcs
  injection hcs with q3 hcs
  injection hcs with q4 hcs
  injection q1 with _ q1
  injection q2 with _ q2
  injection q3 with q3
  injection q4 with q4 q5 q6
  subst q1 q2 q3 q4 q5 q6
  obtain ⟨y3, y4⟩ := two_new w3 25 27 #[.int .i64 0, .int .i64 0, .string ⟨#[]⟩, .slice none 0 0] #[.int .i64 1, .int .i64 7]
  have k3 : Below W2.heap.size W2 ((w3.alloc (.cells #[.int .i64 0, .int .i64 0, .string ⟨#[]⟩, .slice none 0 0] 25)).alloc (.cells #[.int .i64 1, .int .i64 7] 27)) := (b3.alloc b3.size _).alloc (by simp; have := b3.size; omega) _
  have x1 := Y1.out.below k3 Y1.out.lt
  have x2 := BK2.out.below k3 BK2.out.lt
  have F3 := Lib.hid (B2.out.trans (k3.mono B2.out.size))
  clear C2 b3 k3 hcs y3
  go_upto_region 3 with fail
  generalize (w3.alloc (.cells #[.int .i64 0, .int .i64 0, .string ⟨#[]⟩, .slice none 0 0] 25)).alloc (.cells #[.int .i64 1, .int .i64 7] 27) = W4 at *
  have s0 : W4.cell? ⟨w1.heap.size, 0, none⟩ = some (.int .i64 9) := x1.cell 0
  have s3 : W4.cell? ⟨w1.heap.size, 3, none⟩ = some (.slice (some ⟨b, 0, none⟩) 2 2) := x1.cell 3
  have v0 : W4.cell? ⟨b, 0, none⟩ = some (.int .i64 9) := x2.cell 0
  have v4 : W4.cell? ⟨b, 4, none⟩ = some (.int .i64 5) := x2.cell 4
  have p0 : W4.cell? ⟨w3.heap.size + 1, 0, none⟩ = some (.int .i64 1) := y4.cell 0
  have p1 : W4.cell? ⟨w3.heap.size + 1, 1, none⟩ = some (.int .i64 7) := y4.cell 1
  clear x1 x2 y4
  go_wp2_with fail
  go_ret
  exact ⟨rfl, F3.out⟩
end Go.Proofs.YtdmlnoeneoomfaaDoor
