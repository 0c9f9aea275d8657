
/-
  Journals that are nil; JournalNil: the law's walk.
-/
import Derived.Test.YtidppcaohkfnfaaK22
import Derived.Test.YtidppcaohkfnfaaK21
namespace Go.Proofs.Ytidppcaohkfnfaa
open Go.RowKit

set_option maxHeartbeats 1000000 in
set_option maxRecDepth 100000 in
theorem add_nil (m : Me) (w : World) :
    Calls Try.prog 23 #[.pointer none, m.val] w fun e w' => e = .returned (.tuple #[.slice none 0 0, .int .i64 1]) ∧ Below w.heap.size w w' := by
  obtain ⟨k, s, A, n, c, l⟩ := m
  unfold Me.val
  go_enter Try.func23, Try.ntmps23
  go_wp2_with fail
  go_ret2
  exact ⟨rfl, (Below.refl _ w).al _⟩
set_option maxHeartbeats 1000000 in
set_option maxRecDepth 100000 in
theorem bytes_nil (w : World) : Calls Try.prog 17 #[.pointer none] w fun e w' => e = .returned (.slice none 0 0) ∧ w' = w := by
  go_enter Try.func17, Try.ntmps17
  go_wp2_with fail
  go_ret
  exact ⟨rfl, rfl⟩
set_option maxHeartbeats 1000000 in
set_option maxRecDepth 100000 in
theorem all_nil (w : World) : Calls Try.prog 21 #[.pointer none] w fun e w' => e = .returned (.slice none 0 0) ∧ w' = w := by
  go_enter Try.func21, Try.ntmps21
  go_wp2_with fail
  go_ret
  exact ⟨rfl, rfl⟩
set_option maxHeartbeats 1000000 in
set_option maxRecDepth 100000 in
theorem len_nil (w : World) : Calls Try.prog 24 #[.pointer none] w fun e w' => e = .returned (.int .i64 0) ∧ w' = w := by
  go_enter Try.func24, Try.ntmps24
  go_wp2_with fail
  go_ret
  exact ⟨rfl, rfl⟩
set_option maxHeartbeats 1000000 in
set_option maxRecDepth 100000 in
theorem keys_nil (k : Int) (w : World) : Calls Try.prog 29 #[.pointer none, .int .i64 k] w fun e w' => e = .returned (.slice none 0 0) ∧ w' = w := by
  go_enter Try.func29, Try.ntmps29
  go_wp2_with fail
  go_ret
  exact ⟨rfl, rfl⟩
set_option maxHeartbeats 1000000 in
set_option maxRecDepth 100000 in
theorem jcut_nil (w : World) : Calls Try.prog 28 #[.pointer none] w fun e w' => e = .returned (.pointer none) ∧ w' = w := by
  go_enter Try.func28, Try.ntmps28
  go_wp2_with fail
  go_ret
  exact ⟨rfl, rfl⟩
set_option maxHeartbeats 1000000 in
set_option maxRecDepth 100000 in
theorem jclone_nil (w : World) : Calls Try.prog 25 #[.pointer none] w fun e w' => e = .returned (.pointer none) ∧ w' = w := by
  go_enter Try.func25, Try.ntmps25
  go_wp2_with fail
  go_ret
  exact ⟨rfl, rfl⟩
set_option maxHeartbeats 1000000 in
set_option maxRecDepth 100000 in
theorem jsame_nil (w : World) : Calls Try.prog 15 #[.pointer none, .pointer none] w fun e w' => e = .returned (.bool true) ∧ w' = w := by
  go_enter Try.func15, Try.ntmps15
  go_wp2_with fail
  go_ret
  exact ⟨rfl, rfl⟩
set_option maxHeartbeats 1000000 in
set_option maxRecDepth 100000 in
theorem jsame_nil2 (g : Nat) (w : World) : Calls Try.prog 15 #[.pointer none, .pointer (some ⟨g, 0, none⟩)] w fun e w' => e = .returned (.bool false) ∧ w' = w := by
  go_enter Try.func15, Try.ntmps15
  go_wp2_with fail
  go_ret
  exact ⟨rfl, rfl⟩
set_option maxHeartbeats 1000000 in
set_option maxRecDepth 100000 in
theorem jlast_nil (k : Int) (s : ByteArray) (w : World) : Calls Try.prog 26 #[.pointer none, .int .i64 k, .string s] w fun e w' => e = .returned (.tuple #[zeroE, .bool false]) ∧ Below w.heap.size w w' := by
  have f0 : Below w.heap.size w (w.alloc (.cells #[.int .i64 0, .string ⟨#[]⟩, .slice none 0 0] 45)) := (Below.refl _ w).al _
  have X0 := Blk.new w 45 #[.int .i64 0, .string ⟨#[]⟩, .slice none 0 0]
  go_enter Try.func26, Try.ntmps26
  go_upto_region 1 with fail
  generalize w.alloc (.cells #[.int .i64 0, .string ⟨#[]⟩, .slice none 0 0] 45) = W0 at *
  have s0 : W0.cell? ⟨w.heap.size, 0, none⟩ = some (.int .i64 0) := X0.cell 0
  have s1 : W0.cell? ⟨w.heap.size, 1, none⟩ = some (.string ⟨#[]⟩) := X0.cell 1
  have s2 : W0.cell? ⟨w.heap.size, 2, none⟩ = some (.slice none 0 0) := X0.cell 2
  have t0 := X0.frozen 0
  have t1 := X0.frozen 1
  have t2 := X0.frozen 2
  go_wp2_with fail
  refine bodyPost_ret (v := .tuple #[zeroE, .bool false]) (by simp [results, Try.results26, go_sem, s0, s1, s2, zeroE]) rfl ⟨rfl, ?_⟩
  exact ((f0.setCell (Nat.le_refl _) _).setCell (by simp) _).setCell (by simp) _

/-- The empty entry. -/
def zeroM : Me := ⟨0, ⟨#[]⟩, none, 0, 0, []⟩
theorem zeroM_ok (D : Nat → Prop) (w : World) : zeroM.Ok D w := ⟨by decide, by decide, by decide, by decide, by decide, RIn.none_⟩

set_option maxHeartbeats 4000000 in
set_option maxRecDepth 100000 in
theorem journalNil_walk (e0 : Me) (w : World) (hm : e0.Ok (fun k => k < w.heap.size) w) :
    Calls Try.prog 10 #[e0.val] w (Tells w true) := by
  have f0 : Below w.heap.size w (w.alloc (.cells #[.int .i64 e0.kind, .string e0.key, .slice e0.A e0.n e0.c] 45)) := (Below.refl _ w).al _
  have x0 := Blk.new w 45 #[.int .i64 e0.kind, .string e0.key, .slice e0.A e0.n e0.c]
  have z0 : (w.alloc (.cells #[.int .i64 e0.kind, .string e0.key, .slice e0.A e0.n e0.c] 45)).heap.size = w.heap.size + 1 := by simp
  have f1 : Below w.heap.size w ((w.alloc (.cells #[.int .i64 e0.kind, .string e0.key, .slice e0.A e0.n e0.c] 45)).alloc (.cells #[.int .i64 e0.kind, .string e0.key, .slice e0.A e0.n e0.c] 45)) := f0.al _
  have hins : Ins ((w.alloc (.cells #[.int .i64 e0.kind, .string e0.key, .slice e0.A e0.n e0.c] 45)).alloc (.cells #[.int .i64 e0.kind, .string e0.key, .slice e0.A e0.n e0.c] 45)) (some ⟨w.heap.size + 1, 0, none⟩) 1 1 [e0] := by
    have h1 := new_entry (w.alloc (.cells #[.int .i64 e0.kind, .string e0.key, .slice e0.A e0.n e0.c] 45)) 45 e0
    rw [z0] at h1
    have h2 : meCells [e0] = e0.cells := by simp [meCells]
    refine ⟨?_, rfl, Nat.le_refl _, by decide, fun m hm' => ?_⟩
    · rw [h2]
      exact h1.more (by simp)
    · obtain rfl := List.mem_singleton.1 hm'
      exact (hm.below f1).mono (fun q hq _ => hq)
  have CU := Lib.hid (cut_any' _ 1 1 [e0] 1 _ hins (by decide))
  have X1 := Lib.hid (x0.alloc (.cells #[.int .i64 e0.kind, .string e0.key, .slice e0.A e0.n e0.c] 45))
  have F1 := Lib.hid f1
  clear f0 x0 f1 hins hm
  unfold Me.val
  go_enter Try.func10, Try.ntmps10
  go_wp2_with fail
  generalize (w.alloc (.cells #[.int .i64 e0.kind, .string e0.key, .slice e0.A e0.n e0.c] 45)).alloc (.cells #[.int .i64 e0.kind, .string e0.key, .slice e0.A e0.n e0.c] 45) = W1 at *
  refine CU.out.mono ?_
  rintro e w2 ⟨A10, n10, c10, rfl, hn10, hm10, hc10, hcm10, r10, ok10, b9⟩
  obtain rfl : n10 = 1 := hn10
  have hcell : meCells (([e0].take 1).map cutM) = (cutM e0).cells := by simp [meCells]
  rw [hcell] at r10
  have X2 := X1.out.below b9 X1.out.lt
  have F2 := Lib.hid (F1.out.then_ b9)
  generalize cutM e0 = mx at *
  obtain ⟨b, o, rfl, hb, hcl⟩ := r10.chunk (k := 0) (by omega) (by omega) (show ((mx.cells).drop (0 * 3)).take 3 = mx.cells from rfl)
  rw [Nat.zero_mul, Nat.add_zero] at hcl
  have q0 : w2.cell? ⟨b, o, none⟩ = some (.int .i64 mx.kind) := hcl 0 _ rfl
  have q1 : w2.cell? ⟨b, o + 1, none⟩ = some (.string mx.key) := hcl 1 _ rfl
  have q2 : w2.cell? ⟨b, o + 2, none⟩ = some (.slice mx.A mx.n mx.c) := hcl 2 _ rfl
  have s0 : w2.cell? ⟨w.heap.size, 0, none⟩ = some (.int .i64 e0.kind) := X2.cell 0
  have s1 : w2.cell? ⟨w.heap.size, 1, none⟩ = some (.string e0.key) := X2.cell 1
  have s2 : w2.cell? ⟨w.heap.size, 2, none⟩ = some (.slice e0.A e0.n e0.c) := X2.cell 2
  have t0 := X2.frozen 0
  have t1 := X2.frozen 1
  have t2 := X2.frozen 2
  clear CU hcl r10 ok10 hcell X1 F1
  go_upto_region 2 with fail
  have X3 := ((X2.set_ 0 (.int .i64 mx.kind)).set_ 1 (.string mx.key)).set_ 2 (.slice mx.A mx.n mx.c)
  have K3 : Kept (fun z => z = w.heap.size) w2 (((w2.setCell ⟨w.heap.size, 0, none⟩ (.int .i64 mx.kind)).setCell ⟨w.heap.size, 1, none⟩ (.string mx.key)).setCell ⟨w.heap.size, 2, none⟩ (.slice mx.A mx.n mx.c)) :=
    (((Kept.refl (fun z => z = w.heap.size) w2).setCell (p := ⟨w.heap.size, 0, none⟩) (fun _ => rfl) _).setCell (p := ⟨w.heap.size, 1, none⟩) (fun _ => rfl) _).setCell (p := ⟨w.heap.size, 2, none⟩) (fun _ => rfl) _
  generalize ((w2.setCell ⟨w.heap.size, 0, none⟩ (.int .i64 mx.kind)).setCell ⟨w.heap.size, 1, none⟩ (.string mx.key)).setCell ⟨w.heap.size, 2, none⟩ (.slice mx.A mx.n mx.c) = W3 at *
  have F3 : Below w.heap.size w W3 := F2.out.trans (K3.to_below F2.out.size (fun q hq e => by omega))
  clear s0 s1 s2 t0 t1 t2 q0 q1 q2 hb K3 X2 F2
  have s0 : W3.cell? ⟨w.heap.size, 0, none⟩ = some (.int .i64 mx.kind) := X3.cell 0
  have s1 : W3.cell? ⟨w.heap.size, 1, none⟩ = some (.string mx.key) := X3.cell 1
  have s2 : W3.cell? ⟨w.heap.size, 2, none⟩ = some (.slice mx.A mx.n mx.c) := X3.cell 2
  go_wp2_with fail
  refine (add_nil mx W3).mono ?_
  rintro e w4 ⟨rfl, b4⟩
  have X4 := X3.below b4 X3.lt
  have F4 := F3.then_ b4
  clear s0 s1 s2 X3 F3 b4
  have s0 : w4.cell? ⟨w.heap.size, 0, none⟩ = some (.int .i64 mx.kind) := X4.cell 0
  have s1 : w4.cell? ⟨w.heap.size, 1, none⟩ = some (.string mx.key) := X4.cell 1
  go_wp2_with fail
  refine (jlast_nil mx.kind mx.key w4).mono ?_
  rintro e w5 ⟨rfl, b5⟩
  have X5 := X4.below b5 X4.lt
  have F5 := F4.then_ b5
  clear s0 s1 X4 F4 b5
  unfold zeroE
  go_wp2_with fail
  have f6 : Below w5.heap.size w5 (w5.alloc (.cells #[.int .i64 0, .string ⟨#[]⟩, .slice none 0 0] 45)) := (Below.refl _ w5).al _
  have Y6 := Blk.new w5 45 #[.int .i64 0, .string ⟨#[]⟩, .slice none 0 0]
  have X6 := X5.below f6 X5.lt
  have F6 := F5.then_ f6
  generalize w5.alloc (.cells #[.int .i64 0, .string ⟨#[]⟩, .slice none 0 0] 45) = W6 at *
  clear X5 F5 f6
  refine (known_any W6).mono ?_
  rintro e w7 ⟨rfl, b7⟩
  have X7 := X6.below b7 X6.lt
  have Y7 := Y6.below b7 Y6.lt
  have F7 := F6.then_ b7
  clear X6 F6 Y6 b7
  go_wp2_with fail
  refine (bytes_nil w7).mono ?_
  rintro e w8 ⟨rfl, rfl⟩
  go_wp2_with fail
  refine (all_nil w8).mono ?_
  rintro e w9 ⟨rfl, rfl⟩
  go_wp2_with fail
  refine (len_nil w9).mono ?_
  rintro e w10 ⟨rfl, rfl⟩
  have q0 : w10.cell? ⟨w5.heap.size, 0, none⟩ = some (.int .i64 0) := Y7.cell 0
  have q1 : w10.cell? ⟨w5.heap.size, 1, none⟩ = some (.string ⟨#[]⟩) := Y7.cell 1
  have q2 : w10.cell? ⟨w5.heap.size, 2, none⟩ = some (.slice none 0 0) := Y7.cell 2
  have SZ := Lib.hid (esame_any (fun _ => False) (fun _ => False) zeroM zeroM w10 (zeroM_ok _ _) (zeroM_ok _ _) (by decide) (by decide))
  unfold zeroM Me.val at SZ
  go_wp2_with fail
  refine SZ.out.mono ?_
  rintro e w11 ⟨rfl, b11⟩
  rw [sameE_iff.2 rfl]
  have X11 := X7.below b11 X7.lt
  have F11 := F7.then_ b11
  have s0 : w11.cell? ⟨w.heap.size, 0, none⟩ = some (.int .i64 mx.kind) := X11.cell 0
  clear q0 q1 q2 SZ X7 Y7 F7 b11
  go_wp2_with fail
  refine (keys_nil mx.kind w11).mono ?_
  rintro e w12 ⟨rfl, rfl⟩
  go_wp2_with fail
  refine (jcut_nil w12).mono ?_
  rintro e w13 ⟨rfl, rfl⟩
  go_wp2_with fail
  refine (jclone_nil w13).mono ?_
  rintro e w14 ⟨rfl, rfl⟩
  go_wp2_with fail
  refine (jsame_nil w14).mono ?_
  rintro e w15 ⟨rfl, rfl⟩
  go_wp2_with fail
  refine (new_any w15).mono ?_
  intro e w16 hnew
  obtain ⟨S, g, rfl, j1, hS, b16⟩ := Jn.of_new hnew
  clear hnew
  go_wp2_with fail
  refine (jsame_nil2 g w16).mono ?_
  rintro e w17 ⟨rfl, rfl⟩
  go_wp2_with fail
  go_ret
  exact ⟨rfl, F11.then_ b16⟩
end Go.Proofs.Ytidppcaohkfnfaa
