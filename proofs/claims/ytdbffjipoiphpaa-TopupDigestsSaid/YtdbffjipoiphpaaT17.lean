/-
  The law's own words: Of, To.
-/
import Derived.Test.YtdbffjipoiphpaaT16
import Derived.Test.YtdbffjipoiphpaaStep
namespace Go.Proofs.Ytdbffjipoiphpaa
open Go.RowKit

theorem held11 {w' : World} {g : Nat} {t : TypeId} {c0 c1 c2 c3 c4 c5 c6 c7 c8 c9 c10 : Value} (h : Blk w' g t #[c0, c1, c2, c3, c4, c5, c6, c7, c8, c9, c10]) :
    w'.cell? ⟨g, 0, none⟩ = some c0 ∧ w'.cell? ⟨g, 1, none⟩ = some c1 ∧ w'.cell? ⟨g, 2, none⟩ = some c2 ∧ w'.cell? ⟨g, 3, none⟩ = some c3 ∧ w'.cell? ⟨g, 4, none⟩ = some c4 ∧ w'.cell? ⟨g, 5, none⟩ = some c5 ∧ w'.cell? ⟨g, 6, none⟩ = some c6 ∧ w'.cell? ⟨g, 7, none⟩ = some c7 ∧ w'.cell? ⟨g, 8, none⟩ = some c8 ∧ w'.cell? ⟨g, 9, none⟩ = some c9 ∧ w'.cell? ⟨g, 10, none⟩ = some c10 :=
  ⟨h.cell 0, h.cell 1, h.cell 2, h.cell 3, h.cell 4, h.cell 5, h.cell 6, h.cell 7, h.cell 8, h.cell 9, h.cell 10⟩
theorem kept_set2 {g o : Nat} {w w' : World} {v : Value} (h : Kept (fun q => q = g) w w') : Kept (fun q => q = g) w (w'.setCell ⟨g, o, none⟩ v) := h.setCell (p := ⟨g, o, none⟩) (fun _ => rfl) v

theorem kept11 (g : Nat) (w : World) (v0 v1 v2 v3 v4 v5 v6 v7 v8 v9 v10 : Value) : Kept (fun q => q = g) w (((((((((((w.setCell ⟨g, 0, none⟩ v0).setCell ⟨g, 1, none⟩ v1).setCell ⟨g, 2, none⟩ v2).setCell ⟨g, 3, none⟩ v3).setCell ⟨g, 4, none⟩ v4).setCell ⟨g, 5, none⟩ v5).setCell ⟨g, 6, none⟩ v6).setCell ⟨g, 7, none⟩ v7).setCell ⟨g, 8, none⟩ v8).setCell ⟨g, 9, none⟩ v9).setCell ⟨g, 10, none⟩ v10) := by
  iterate 11 (refine kept_set2 ?_)
  exact Kept.refl _ _
set_option maxHeartbeats 1000000 in
set_option maxRecDepth 100000 in
theorem of_any (t0 t1 t2 t3 t4 t5 t6 t7 num till : Int) (A : Option Addr) (n c : Nat) (w : World) (hn : n ≤ c) :
    Calls Try.prog 15 #[.agg #[.int .u8 t0, .int .u8 t1, .int .u8 t2, .int .u8 t3, .int .u8 t4, .int .u8 t5, .int .u8 t6, .int .u8 t7, .int .i64 num, .slice A n c, .int .i64 till]] w fun e w' => e = .returned (.agg #[.int .u8 t0, .int .u8 t1, .int .u8 t2, .int .u8 t3, .int .u8 t4, .int .u8 t5, .int .u8 t6, .int .u8 t7, .int .i64 num, .slice A (min n 10) c, .int .i64 till]) ∧ Below w.heap.size w w' := by
  have h0 : (0 : Int) ≤ ((min n 10 : Nat) : Int) := by omega
  have h1 : ((min n 10 : Nat) : Int) ≤ (c : Int) := by omega
  have hmin : min (n : Int) 10 = ((min n 10 : Nat) : Int) := by omega
  generalize min n 10 = m at *
  go_enter Try.func15, Try.ntmps15
  go_wp2_with fail
  have x0 := (Blk.new w 33 #[.int .u8 t0, .int .u8 t1, .int .u8 t2, .int .u8 t3, .int .u8 t4, .int .u8 t5, .int .u8 t6, .int .u8 t7, .int .i64 num, .slice A n c, .int .i64 till]).alloc (.cells #[.int .u8 0, .int .u8 0, .int .u8 0, .int .u8 0, .int .u8 0, .int .u8 0, .int .u8 0, .int .u8 0, .int .i64 0, .slice none 0 0, .int .i64 0] 41)
  have q := held11 x0.drew
  go_region_held3 (fun w' => w'.cell? ⟨w.heap.size, 0, none⟩ = some (.int .u8 t0) ∧ w'.cell? ⟨w.heap.size, 1, none⟩ = some (.int .u8 t1) ∧ w'.cell? ⟨w.heap.size, 2, none⟩ = some (.int .u8 t2) ∧ w'.cell? ⟨w.heap.size, 3, none⟩ = some (.int .u8 t3) ∧ w'.cell? ⟨w.heap.size, 4, none⟩ = some (.int .u8 t4) ∧ w'.cell? ⟨w.heap.size, 5, none⟩ = some (.int .u8 t5) ∧ w'.cell? ⟨w.heap.size, 6, none⟩ = some (.int .u8 t6) ∧ w'.cell? ⟨w.heap.size, 7, none⟩ = some (.int .u8 t7) ∧ w'.cell? ⟨w.heap.size, 8, none⟩ = some (.int .i64 num) ∧ w'.cell? ⟨w.heap.size, 9, none⟩ = some (.slice A n c) ∧ w'.cell? ⟨w.heap.size, 10, none⟩ = some (.int .i64 till))
    (first | exact q | exact held11 ((Blk.new w _ _).alloc _).drew) (fail)
  go_wp2_with fail
  exact bodyPost_ret (v := .agg #[.int .u8 t0, .int .u8 t1, .int .u8 t2, .int .u8 t3, .int .u8 t4, .int .u8 t5, .int .u8 t6, .int .u8 t7, .int .i64 num, .slice A m c, .int .i64 till]) (by simp [results, Try.results15, go_sem]) rfl ⟨rfl, (((Below.refl _ w).al _).al _).drew⟩
theorem ints_one (xs : List Int) : ∀ u ∈ xs.map (Value.int .i64), u.oneCell' = true := by
  intro u hu
  obtain ⟨_, _, rfl⟩ := List.mem_map.1 hu
  rfl

/-- A raise with adds of its own. -/
def Toed (w : World) (t0 t1 t2 t3 t4 t5 t6 t7 num : Int) (adds : List Int) (till : Int) (e : Ending) (w' : World) : Prop := ∃ A c, e = .returned (.agg #[.int .u8 t0, .int .u8 t1, .int .u8 t2, .int .u8 t3, .int .u8 t4, .int .u8 t5, .int .u8 t6, .int .u8 t7, .int .i64 num, .slice A adds.length c, .int .i64 till]) ∧ RI w' A adds.length adds ∧ adds.length ≤ c ∧ c ≤ 9223372036854775807 ∧ Below w.heap.size w w'

set_option maxHeartbeats 1000000 in
set_option maxRecDepth 100000 in
theorem to_any (t0 t1 t2 t3 t4 t5 t6 t7 num till : Int) (A : Option Addr) (n c : Nat) (adds : List Int) (w : World) (hr : RI w A n adds) (hn : n ≤ 10) :
    Calls Try.prog 14 #[.agg #[.int .u8 t0, .int .u8 t1, .int .u8 t2, .int .u8 t3, .int .u8 t4, .int .u8 t5, .int .u8 t6, .int .u8 t7, .int .i64 num, .slice A n c, .int .i64 till]] w (Toed w t0 t1 t2 t3 t4 t5 t6 t7 num adds till) := by
  obtain ⟨i0, hi0, hz0, hz1, hz2⟩ := info_parts info_int
  have HL := Lib.hid hr.len
  have HR := Lib.hid hr
  clear hr
  go_enter Try.func14, Try.ntmps14
  go_wp2_with fail
  have x0 := (Blk.new w 41 #[.int .u8 t0, .int .u8 t1, .int .u8 t2, .int .u8 t3, .int .u8 t4, .int .u8 t5, .int .u8 t6, .int .u8 t7, .int .i64 num, .slice A n c, .int .i64 till]).alloc (.cells #[.int .u8 0, .int .u8 0, .int .u8 0, .int .u8 0, .int .u8 0, .int .u8 0, .int .u8 0, .int .u8 0, .int .i64 0, .slice none 0 0, .int .i64 0] 33)
  have f0 : Below w.heap.size w ((w.alloc (.cells #[.int .u8 t0, .int .u8 t1, .int .u8 t2, .int .u8 t3, .int .u8 t4, .int .u8 t5, .int .u8 t6, .int .u8 t7, .int .i64 num, .slice A n c, .int .i64 till] 41)).alloc (.cells #[.int .u8 0, .int .u8 0, .int .u8 0, .int .u8 0, .int .u8 0, .int .u8 0, .int .u8 0, .int .u8 0, .int .i64 0, .slice none 0 0, .int .i64 0] 33)) := ((Below.refl _ w).al _).al _
  have y0 : Blk ((w.alloc (.cells #[.int .u8 t0, .int .u8 t1, .int .u8 t2, .int .u8 t3, .int .u8 t4, .int .u8 t5, .int .u8 t6, .int .u8 t7, .int .i64 num, .slice A n c, .int .i64 till] 41)).alloc (.cells #[.int .u8 0, .int .u8 0, .int .u8 0, .int .u8 0, .int .u8 0, .int .u8 0, .int .u8 0, .int .u8 0, .int .i64 0, .slice none 0 0, .int .i64 0] 33)) (w.heap.size + 1) 33 #[.int .u8 0, .int .u8 0, .int .u8 0, .int .u8 0, .int .u8 0, .int .u8 0, .int .u8 0, .int .u8 0, .int .i64 0, .slice none 0 0, .int .i64 0] := by have hh := Blk.new (w.alloc (.cells #[.int .u8 t0, .int .u8 t1, .int .u8 t2, .int .u8 t3, .int .u8 t4, .int .u8 t5, .int .u8 t6, .int .u8 t7, .int .i64 num, .slice A n c, .int .i64 till] 41)) 33 #[.int .u8 0, .int .u8 0, .int .u8 0, .int .u8 0, .int .u8 0, .int .u8 0, .int .u8 0, .int .u8 0, .int .i64 0, .slice none 0 0, .int .i64 0]; simpa using hh
  have hsz : ((w.alloc (.cells #[.int .u8 t0, .int .u8 t1, .int .u8 t2, .int .u8 t3, .int .u8 t4, .int .u8 t5, .int .u8 t6, .int .u8 t7, .int .i64 num, .slice A n c, .int .i64 till] 41)).alloc (.cells #[.int .u8 0, .int .u8 0, .int .u8 0, .int .u8 0, .int .u8 0, .int .u8 0, .int .u8 0, .int .u8 0, .int .i64 0, .slice none 0 0, .int .i64 0] 33)).heap.size = w.heap.size + 1 + 1 := by simp
  generalize ((w.alloc (.cells #[.int .u8 t0, .int .u8 t1, .int .u8 t2, .int .u8 t3, .int .u8 t4, .int .u8 t5, .int .u8 t6, .int .u8 t7, .int .i64 num, .slice A n c, .int .i64 till] 41)).alloc (.cells #[.int .u8 0, .int .u8 0, .int .u8 0, .int .u8 0, .int .u8 0, .int .u8 0, .int .u8 0, .int .u8 0, .int .i64 0, .slice none 0 0, .int .i64 0] 33)) = W0 at *
  have q := held11 x0.drew
  have q1 := held11 (x0.alloc (.cells #[] 3)).drew
  have HZ := Lib.hid hsz
  have x0l := x0.lt
  have y0l := y0.lt
  clear hsz
  go_region_held3 (fun w' => w'.cell? ⟨w.heap.size, 0, none⟩ = some (.int .u8 t0) ∧ w'.cell? ⟨w.heap.size, 1, none⟩ = some (.int .u8 t1) ∧ w'.cell? ⟨w.heap.size, 2, none⟩ = some (.int .u8 t2) ∧ w'.cell? ⟨w.heap.size, 3, none⟩ = some (.int .u8 t3) ∧ w'.cell? ⟨w.heap.size, 4, none⟩ = some (.int .u8 t4) ∧ w'.cell? ⟨w.heap.size, 5, none⟩ = some (.int .u8 t5) ∧ w'.cell? ⟨w.heap.size, 6, none⟩ = some (.int .u8 t6) ∧ w'.cell? ⟨w.heap.size, 7, none⟩ = some (.int .u8 t7) ∧ w'.cell? ⟨w.heap.size, 8, none⟩ = some (.int .i64 num) ∧ w'.cell? ⟨w.heap.size, 9, none⟩ = some (.slice A n c) ∧ w'.cell? ⟨w.heap.size, 10, none⟩ = some (.int .i64 till))
    (first | (with_reducible exact q) | (with_reducible exact q1) | (with_reducible exact q4) | exact held11 (((kept11 _ _ _ _ _ _ _ _ _ _ _ _ _).block _ x4l (by omega)).trans x4))
    (first
      | (refine step_append_any _ (by rfl) (.tmp 7) (.tmp 9) _ (by rfl) W0.heap.size 3 i0 _ 1 8 Try.underlying22 hi0 hz0 hz1 hz2 rfl (by omega) (.slice (some ⟨W0.heap.size, 0, none⟩) 0 0) 0 [] (by rfl) (own_empty (by exact (Blk.new _ _ _).drew) (Nat.le_refl _)) w.heap.size A n c (adds.map (Value.int .i64)) (by rfl) (Reads.below (B := w.heap.size) HR.out (by exact (f0.alloc f0.size _).drew)) (ints_one adds) (by unfold maxLen; omega) (by omega) (by simp) ?_; intro v4 w4 own4 g4 at4; have f4 : Below W0.heap.size W0 w4 := (((Below.refl _ W0).alloc (Nat.le_refl _) _).drew).grown g4 (by simp) (by simp [Value.ownBlock]); have x4 := x0.below f4 x0.lt; have y4 := y0.below f4 y0.lt; have q4 := held11 x4; have own5 : w4.ownsRow W0.heap.size 3 1 v4 n (adds.map (Value.int .i64)) := (by simpa only [Nat.zero_add, List.nil_append] using own4); obtain ⟨A5, c5, rfl⟩ := own_slice own5; clear g4 at4 own4; obtain ⟨a0, a1, a2, a3, a4, a5, a6, a7, a8, a9, a10⟩ := held11 y4; have z0 := y4.frozen 0; have z1 := y4.frozen 1; have z2 := y4.frozen 2; have z3 := y4.frozen 3; have z4 := y4.frozen 4; have z5 := y4.frozen 5; have z6 := y4.frozen 6; have z7 := y4.frozen 7; have z8 := y4.frozen 8; have z9 := y4.frozen 9; have z10 := y4.frozen 10; have x4l := x4.lt))
  go_wp2_with fail
  refine bodyPost_ret (v := .agg #[.int .u8 t0, .int .u8 t1, .int .u8 t2, .int .u8 t3, .int .u8 t4, .int .u8 t5, .int .u8 t6, .int .u8 t7, .int .i64 num, .slice A5 n c5, .int .i64 till]) (by simp [results, Try.results14, go_sem, a0, a1, a2, a3, a4, a5, a6, a7, a8, a9, a10]) rfl ?_
  clear a0 a1 a2 a3 a4 a5 a6 a7 a8 a9 a10 z0 z1 z2 z3 z4 z5 z6 z7 z8 z9 z10 q q1 q4
  have rd := Reads.of_own own5
  have hform : n ≤ c5 ∧ c5 ≤ 9223372036854775807 ∧ (0 < n → ∀ ad, A5 = some ad → W0.heap.size ≤ ad.block) := by
    rcases own5.2 with ⟨e, e2⟩ | ⟨g', cap, cur, e, hg', _, h1, h2, _⟩
    · injection e with e3 e4 e5
      subst e3 e5
      exact ⟨by omega, by omega, fun _ ad h => by cases h⟩
    · injection e with e3 e4 e5
      subst e3 e5
      unfold maxLen at h2
      exact ⟨h1, by omega, fun _ ad h => by injection h with h; subst h; exact hg'⟩
  have f5 : Below w.heap.size w w4 := f0.trans (f4.mono f0.size)
  have fin : ∀ W9, Kept (fun q => q = w.heap.size + 1) w4 W9 → Toed w t0 t1 t2 t3 t4 t5 t6 t7 num adds till (.returned (.agg #[.int .u8 t0, .int .u8 t1, .int .u8 t2, .int .u8 t3, .int .u8 t4, .int .u8 t5, .int .u8 t6, .int .u8 t7, .int .i64 num, .slice A5 n c5, .int .i64 till])) W9 := by
    intro W9 kk
    have hl := HL.out
    refine ⟨A5, c5, by rw [← hl], ?_, by rw [← hl]; exact hform.1, hform.2.1, f5.trans (kk.to_below f5.size (fun q hq => by omega))⟩
    rw [← hl]
    refine ⟨rd.1, fun hn0 => ?_⟩
    obtain ⟨ad, e, hb, hc⟩ := rd.2 hn0
    have hge := hform.2.2 hn0 ad e
    have hz := HZ.out
    exact ⟨ad, e, Nat.lt_of_lt_of_le hb kk.size, fun j u hu => (kk.cell (by rw [block_of_add]; exact hb) (by rw [block_of_add]; omega)).trans (hc j u hu)⟩
  exact fin _ (kept11 _ _ _ _ _ _ _ _ _ _ _ _ _)
end Go.Proofs.Ytdbffjipoiphpaa
