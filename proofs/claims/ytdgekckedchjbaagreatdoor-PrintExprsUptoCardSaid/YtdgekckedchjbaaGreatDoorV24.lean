
/-
  What the chapter's examples say.
-/
import Derived.Test.YtdgekckedchjbaaGreatDoorQR
import Derived.KernelRfl
namespace Go.Proofs.YtdgekckedchjbaaGreatDoor
open Go.RowKit

def numG (n : Int) : Gx := .mk 0 n ⟨#[]⟩ []
def namG (s : List UInt8) : Gx := .mk 1 0 (str s) []
def toldA : Gx := .mk 9 0 ⟨#[]⟩ [numG 1, .mk 9 0 ⟨#[]⟩ [numG 2, numG 3]]
def toldB : Gx := .mk 3 0 ⟨#[]⟩ [.mk 8 0 ⟨#[]⟩ [namG [97], numG 1]]
def textA : List UInt8 := [49, 32, 45, 32, 40, 32, 50, 32, 45, 32, 51, 32, 41]
def textB : List UInt8 := [45, 32, 40, 32, 97, 32, 43, 32, 49, 32, 41]
theorem readA : exprO textA = .ok (.bin 9 (.num 1) (.bin 9 (.num 2) (.num 3))) := by kernel_rfl
theorem readB : exprO textB = .ok (.neg (.bin 8 (.nam [97]) (.num 1))) := by kernel_rfl
theorem rawA : rawE toldA = some textA := by kernel_rfl
theorem rawB_ : rawE toldB = some textB := by kernel_rfl
theorem isA : ExprIs toldA textA := ⟨rawA, by decide, _, readA, rfl⟩
theorem isB : ExprIs toldB textB := ⟨rawB_, by decide, _, readB, rfl⟩
theorem leaf_gc {D : Nat → Prop} {w : World} (n : Nat) (op N : Int) (s : ByteArray) : GC D w 2513169434843 (n + 1) [.int .i64 op, .int .i64 N, .string s, .slice none 0 0] (.mk op N s []) := ⟨none, 0, 0, rfl, ElsG.none_ _ _ _ _ _ _⟩
theorem fit_leaf (n : Nat) (op N : Int) (s : ByteArray) (hN : FitN N) (hs : s.size ≤ 140737488355328) : FitG (n + 1) (.mk op N s []) := ⟨hN, hs, fun x hx => by simp at hx⟩
theorem fitA : FitG 3 toldA := by
  have h1 : ∀ k n : Nat, n ≤ 10 → FitG (k + 1) (numG n) := fun k n hn => fit_leaf k 0 n ⟨#[]⟩ ⟨by omega, by omega⟩ (by decide)
  refine ⟨FitN.zero, by decide, fun x hx => ?_⟩
  simp only [List.mem_cons, List.not_mem_nil, or_false] at hx
  rcases hx with rfl | rfl
  · exact h1 1 1 (by omega)
  · refine ⟨FitN.zero, by decide, fun x hx => ?_⟩
    simp only [List.mem_cons, List.not_mem_nil, or_false] at hx
    rcases hx with rfl | rfl
    · exact h1 0 2 (by omega)
    · exact h1 0 3 (by omega)
theorem fitB : FitG 3 toldB := by
  refine ⟨FitN.zero, by decide, fun x hx => ?_⟩
  obtain rfl := List.mem_singleton.1 hx
  refine ⟨FitN.zero, by decide, fun x hx => ?_⟩
  simp only [List.mem_cons, List.not_mem_nil, or_false] at hx
  rcases hx with rfl | rfl
  · exact fit_leaf 0 1 0 (str [97]) FitN.zero (by decide)
  · exact fit_leaf 0 0 1 ⟨#[]⟩ ⟨by omega, by omega⟩ (by decide)
theorem ExprTo'.is {w w' : World} {x : Gx} {t : List UInt8} {e : Ending} (h : ExprTo' w x e w') (ht : ExprIs x t) : e = .returned (.tuple #[.string (str t), .int .i64 0]) ∧ Below w.heap.size w w' := by
  obtain ⟨hb, ⟨u, hu, he⟩ | ⟨hn, _⟩⟩ := h
  · rw [hu.one ht] at he
    exact ⟨he, hb⟩
  · exact absurd ht (hn t)
set_option maxHeartbeats 4000000 in
set_option maxRecDepth 100000 in
theorem told_any (base : Nat) (w : World) (hT : Tabs base w) (hb : base ≤ w.heap.size) : Calls Tryz.prog 10 #[] w (Tells w true) := by
  obtain ⟨x0, y0⟩ := two_new w 40 40 #[.int .i64 0, .int .i64 2, .string ⟨#[]⟩, .slice none 0 0, .int .i64 0, .int .i64 3, .string ⟨#[]⟩, .slice none 0 0] #[.int .i64 9, .int .i64 0, .string ⟨#[]⟩, .slice (some ⟨w.heap.size, 0, none⟩) 2 2]
  have f0 : Below w.heap.size w ((w.alloc (.cells #[.int .i64 0, .int .i64 2, .string ⟨#[]⟩, .slice none 0 0, .int .i64 0, .int .i64 3, .string ⟨#[]⟩, .slice none 0 0] 40)).alloc (.cells #[.int .i64 9, .int .i64 0, .string ⟨#[]⟩, .slice (some ⟨w.heap.size, 0, none⟩) 2 2] 40)) := ((Below.refl _ w).al _).al _
  have X0 := Lib.hid x0
  have Y0 := Lib.hid y0
  have F0 := Lib.hid f0
  have TB1 := Lib.hid (hT.below f0 hb)
  have HB := Lib.hid hb
  clear x0 y0 f0 hT hb
  go_enter Tryz.func10, Tryz.ntmps10
  go_upto_region 2 with fail
  generalize ((w.alloc (.cells #[.int .i64 0, .int .i64 2, .string ⟨#[]⟩, .slice none 0 0, .int .i64 0, .int .i64 3, .string ⟨#[]⟩, .slice none 0 0] 40)).alloc (.cells #[.int .i64 9, .int .i64 0, .string ⟨#[]⟩, .slice (some ⟨w.heap.size, 0, none⟩) 2 2] 40)) = W1 at *
  have s0 : W1.cell? ⟨w.heap.size + 1, 0, none⟩ = some (.int .i64 9) := Y0.out.cell 0
  have s1 : W1.cell? ⟨w.heap.size + 1, 1, none⟩ = some (.int .i64 0) := Y0.out.cell 1
  have s2 : W1.cell? ⟨w.heap.size + 1, 2, none⟩ = some (.string ⟨#[]⟩) := Y0.out.cell 2
  have s3 : W1.cell? ⟨w.heap.size + 1, 3, none⟩ = some (.slice (some ⟨w.heap.size, 0, none⟩) 2 2) := Y0.out.cell 3
  have f2 : Below W1.heap.size W1 (W1.alloc (.cells #[.int .i64 0, .int .i64 1, .string ⟨#[]⟩, .slice none 0 0, .int .i64 9, .int .i64 0, .string ⟨#[]⟩, .slice (some ⟨w.heap.size, 0, none⟩) 2 2] 40)) := (Below.refl _ _).al _
  have b2 := Blk.new W1 40 #[.int .i64 0, .int .i64 1, .string ⟨#[]⟩, .slice none 0 0, .int .i64 9, .int .i64 0, .string ⟨#[]⟩, .slice (some ⟨w.heap.size, 0, none⟩) 2 2]
  have g0 : GC (fun _ => True) (W1.alloc (.cells #[.int .i64 0, .int .i64 1, .string ⟨#[]⟩, .slice none 0 0, .int .i64 9, .int .i64 0, .string ⟨#[]⟩, .slice (some ⟨w.heap.size, 0, none⟩) 2 2] 40)) 2513169434843 2 [.int .i64 9, .int .i64 0, .string ⟨#[]⟩, .slice (some ⟨w.heap.size, 0, none⟩) 2 2] (.mk 9 0 ⟨#[]⟩ [numG 2, numG 3]) :=
    ⟨_, _, _, rfl, els_two (c1 := [.int .i64 0, .int .i64 2, .string ⟨#[]⟩, .slice none 0 0]) (c2 := [.int .i64 0, .int .i64 3, .string ⟨#[]⟩, .slice none 0 0]) (by omega) (X0.out.below f2 X0.out.lt) trivial rfl rfl (leaf_gc 0 0 2 ⟨#[]⟩) (leaf_gc 0 0 3 ⟨#[]⟩)⟩
  have g1 : GC (fun _ => True) (W1.alloc (.cells #[.int .i64 0, .int .i64 1, .string ⟨#[]⟩, .slice none 0 0, .int .i64 9, .int .i64 0, .string ⟨#[]⟩, .slice (some ⟨w.heap.size, 0, none⟩) 2 2] 40)) 2513169434843 3 [.int .i64 9, .int .i64 0, .string ⟨#[]⟩, .slice (some ⟨W1.heap.size, 0, none⟩) 2 2] toldA :=
    ⟨_, _, _, rfl, els_two (c1 := [.int .i64 0, .int .i64 1, .string ⟨#[]⟩, .slice none 0 0]) (c2 := [.int .i64 9, .int .i64 0, .string ⟨#[]⟩, .slice (some ⟨w.heap.size, 0, none⟩) 2 2]) (by omega) b2 trivial rfl rfl (leaf_gc 1 0 1 ⟨#[]⟩) g0⟩
  have hbb : base ≤ W1.heap.size := Nat.le_trans HB.out F0.out.size
  have E1 := Lib.hid (Expr_any base 3 _ 9 0 ⟨#[]⟩ (some ⟨W1.heap.size, 0, none⟩) 2 2 toldA _ (TB1.out.below f2 hbb) (Nat.le_trans hbb f2.size) g1 fitA)
  have F2 := Lib.hid (F0.out.trans (f2.mono F0.out.size))
  have TB2 := Lib.hid (TB1.out.below f2 hbb)
  have HB2 := Lib.hid (Nat.le_trans hbb f2.size)
  clear f2 b2 g0 g1 hbb
  go_wp2_with fail
  refine E1.out.mono ?_
  rintro e w3 h3
  obtain ⟨rfl, b3⟩ := h3.is isA
  have F3 := Lib.hid (F2.out.trans (b3.mono F2.out.size))
  have TB3 := Lib.hid (TB2.out.below b3 HB2.out)
  have HB3 := Lib.hid (Nat.le_trans HB2.out b3.size)
  have hsA : Hid ((str textA).toList = [49, 32, 45, 32, 40, 32, 50, 32, 45, 32, 51, 32, 41]) := by rw [ByteArray.toList_eq]; exact str_list _
  obtain ⟨SA, hSA⟩ : ∃ x, x = str textA := ⟨_, rfl⟩
  rw [← hSA] at hsA ⊢
  clear h3 b3 E1 s0 s1 s2 s3 hSA
  have f4 : Below w3.heap.size w3 ((w3.alloc (.cells #[.int .i64 1, .int .i64 0, .string ⟨#[97]⟩, .slice none 0 0, .int .i64 0, .int .i64 1, .string ⟨#[]⟩, .slice none 0 0] 40)).alloc (.cells #[.int .i64 8, .int .i64 0, .string ⟨#[]⟩, .slice (some ⟨w3.heap.size, 0, none⟩) 2 2] 40)) := ((Below.refl _ _).al _).al _
  obtain ⟨x4, y4⟩ := two_new w3 40 40 #[.int .i64 1, .int .i64 0, .string ⟨#[97]⟩, .slice none 0 0, .int .i64 0, .int .i64 1, .string ⟨#[]⟩, .slice none 0 0] #[.int .i64 8, .int .i64 0, .string ⟨#[]⟩, .slice (some ⟨w3.heap.size, 0, none⟩) 2 2]
  have g0 : GC (fun _ => True) ((w3.alloc (.cells #[.int .i64 1, .int .i64 0, .string ⟨#[97]⟩, .slice none 0 0, .int .i64 0, .int .i64 1, .string ⟨#[]⟩, .slice none 0 0] 40)).alloc (.cells #[.int .i64 8, .int .i64 0, .string ⟨#[]⟩, .slice (some ⟨w3.heap.size, 0, none⟩) 2 2] 40)) 2513169434843 2 [.int .i64 8, .int .i64 0, .string ⟨#[]⟩, .slice (some ⟨w3.heap.size, 0, none⟩) 2 2] (.mk 8 0 ⟨#[]⟩ [namG [97], numG 1]) :=
    ⟨_, _, _, rfl, els_two (c1 := [.int .i64 1, .int .i64 0, .string ⟨#[97]⟩, .slice none 0 0]) (c2 := [.int .i64 0, .int .i64 1, .string ⟨#[]⟩, .slice none 0 0]) (by omega) x4 trivial rfl rfl (leaf_gc 0 1 0 ⟨#[97]⟩) (leaf_gc 0 0 1 ⟨#[]⟩)⟩
  have g1 : GC (fun _ => True) ((w3.alloc (.cells #[.int .i64 1, .int .i64 0, .string ⟨#[97]⟩, .slice none 0 0, .int .i64 0, .int .i64 1, .string ⟨#[]⟩, .slice none 0 0] 40)).alloc (.cells #[.int .i64 8, .int .i64 0, .string ⟨#[]⟩, .slice (some ⟨w3.heap.size, 0, none⟩) 2 2] 40)) 2513169434843 3 [.int .i64 3, .int .i64 0, .string ⟨#[]⟩, .slice (some ⟨w3.heap.size + 1, 0, none⟩) 1 1] toldB :=
    ⟨_, _, _, rfl, els_one (c1 := [.int .i64 8, .int .i64 0, .string ⟨#[]⟩, .slice (some ⟨w3.heap.size, 0, none⟩) 2 2]) (by omega) y4 trivial rfl g0⟩
  have E4 := Lib.hid (Expr_any base 3 _ 3 0 ⟨#[]⟩ (some ⟨w3.heap.size + 1, 0, none⟩) 1 1 toldB _ (TB3.out.below f4 HB3.out) (Nat.le_trans HB3.out f4.size) g1 fitB)
  have F4 := Lib.hid (F3.out.trans (f4.mono F3.out.size))
  clear f4 x4 y4 g0 g1
  go_wp2_with fail
  refine E4.out.mono ?_
  rintro e w5 h5
  obtain ⟨rfl, b5⟩ := h5.is isB
  have F5 := Lib.hid (F4.out.trans (b5.mono F4.out.size))
  have hsB : Hid ((str textB).toList = [45, 32, 40, 32, 97, 32, 43, 32, 49, 32, 41]) := by rw [ByteArray.toList_eq]; exact str_list _
  obtain ⟨SB, hSB⟩ : ∃ x, x = str textB := ⟨_, rfl⟩
  rw [← hSB] at hsB ⊢
  clear h5 b5 E4 hSB
  have e1 : (SA.toList == (⟨#[49, 32, 45, 32, 40, 32, 50, 32, 45, 32, 51, 32, 41]⟩ : ByteArray).toList) = true := by rw [hsA.out, ByteArray.toList_eq]; rfl
  have e2 : (SB.toList == (⟨#[45, 32, 40, 32, 97, 32, 43, 32, 49, 32, 41]⟩ : ByteArray).toList) = true := by rw [hsB.out, ByteArray.toList_eq]; rfl
  go_wp2_with fail
  go_ret
  exact ⟨rfl, F5.out⟩
end Go.Proofs.YtdgekckedchjbaaGreatDoor
