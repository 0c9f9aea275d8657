/-
  TopupDigests: the law's walk.
-/
import Derived.Test.YtdbffjipoiphpaaT33
import Derived.Test.YtdbffjipoiphpaaTOpen
import Derived.Test.YtdbffjipoiphpaaArr
import Derived.Deep.MidRow
import Derived.Deep.CutBlock
namespace Go.Proofs.Ytdbffjipoiphpaa
open Go.RowKit

/-- A raise with adds of its own, a row of the call's own. -/
def ToedO (w : World) (t0 t1 t2 t3 t4 t5 t6 t7 num : Int) (adds : List Int) (till : Int) (e : Ending) (w' : World) : Prop := ∃ A c, e = .returned (.agg #[.int .u8 t0, .int .u8 t1, .int .u8 t2, .int .u8 t3, .int .u8 t4, .int .u8 t5, .int .u8 t6, .int .u8 t7, .int .i64 num, .slice A adds.length c, .int .i64 till]) ∧ RI w' A adds.length adds ∧ adds.length ≤ c ∧ c ≤ 9223372036854775807 ∧ Below w.heap.size w w' ∧ w'.ownsRow (w.heap.size + 2) 3 1 (.slice A adds.length c) adds.length (adds.map (Value.int .i64))
set_option maxHeartbeats 1000000 in
set_option maxRecDepth 100000 in
theorem to_own (t0 t1 t2 t3 t4 t5 t6 t7 num till : Int) (A : Option Addr) (n c : Nat) (adds : List Int) (w : World) (hr : RI w A n adds) (hn : n ≤ 10) :
    Calls Try.prog 14 #[.agg #[.int .u8 t0, .int .u8 t1, .int .u8 t2, .int .u8 t3, .int .u8 t4, .int .u8 t5, .int .u8 t6, .int .u8 t7, .int .i64 num, .slice A n c, .int .i64 till]] w (ToedO w t0 t1 t2 t3 t4 t5 t6 t7 num adds till) := by
  obtain ⟨i0, hi0, hz0, hz1, hz2⟩ := info_parts info_int
  have HL := Lib.hid hr.len
  have HR := Lib.hid hr
  clear hr
  go_enter Try.func14, Try.ntmps14
  go_wp2_with fail
  have x0 := (Blk.new w 41 #[.int .u8 t0, .int .u8 t1, .int .u8 t2, .int .u8 t3, .int .u8 t4, .int .u8 t5, .int .u8 t6, .int .u8 t7, .int .i64 num, .slice A n c, .int .i64 till]).alloc (.cells #[.int .u8 0, .int .u8 0, .int .u8 0, .int .u8 0, .int .u8 0, .int .u8 0, .int .u8 0, .int .u8 0, .int .i64 0, .slice none 0 0, .int .i64 0] 33)
  have f0 : Below w.heap.size w ((w.alloc (.cells #[.int .u8 t0, .int .u8 t1, .int .u8 t2, .int .u8 t3, .int .u8 t4, .int .u8 t5, .int .u8 t6, .int .u8 t7, .int .i64 num, .slice A n c, .int .i64 till] 41)).alloc (.cells #[.int .u8 0, .int .u8 0, .int .u8 0, .int .u8 0, .int .u8 0, .int .u8 0, .int .u8 0, .int .u8 0, .int .i64 0, .slice none 0 0, .int .i64 0] 33)) := ((Below.refl _ w).al _).al _
  have y0 : Blk ((w.alloc (.cells #[.int .u8 t0, .int .u8 t1, .int .u8 t2, .int .u8 t3, .int .u8 t4, .int .u8 t5, .int .u8 t6, .int .u8 t7, .int .i64 num, .slice A n c, .int .i64 till] 41)).alloc (.cells #[.int .u8 0, .int .u8 0, .int .u8 0, .int .u8 0, .int .u8 0, .int .u8 0, .int .u8 0, .int .u8 0, .int .i64 0, .slice none 0 0, .int .i64 0] 33)) (w.heap.size + 1) 33 #[.int .u8 0, .int .u8 0, .int .u8 0, .int .u8 0, .int .u8 0, .int .u8 0, .int .u8 0, .int .u8 0, .int .i64 0, .slice none 0 0, .int .i64 0] := by have hh := Blk.new (w.alloc (.cells #[.int .u8 t0, .int .u8 t1, .int .u8 t2, .int .u8 t3, .int .u8 t4, .int .u8 t5, .int .u8 t6, .int .u8 t7, .int .i64 num, .slice A n c, .int .i64 till] 41)) 33 #[.int .u8 0, .int .u8 0, .int .u8 0, .int .u8 0, .int .u8 0, .int .u8 0, .int .u8 0, .int .u8 0, .int .i64 0, .slice none 0 0, .int .i64 0]; simpa using hh
  have hsz : ((w.alloc (.cells #[.int .u8 t0, .int .u8 t1, .int .u8 t2, .int .u8 t3, .int .u8 t4, .int .u8 t5, .int .u8 t6, .int .u8 t7, .int .i64 num, .slice A n c, .int .i64 till] 41)).alloc (.cells #[.int .u8 0, .int .u8 0, .int .u8 0, .int .u8 0, .int .u8 0, .int .u8 0, .int .u8 0, .int .u8 0, .int .i64 0, .slice none 0 0, .int .i64 0] 33)).heap.size = w.heap.size + 1 + 1 := by simp
  generalize ((w.alloc (.cells #[.int .u8 t0, .int .u8 t1, .int .u8 t2, .int .u8 t3, .int .u8 t4, .int .u8 t5, .int .u8 t6, .int .u8 t7, .int .i64 num, .slice A n c, .int .i64 till] 41)).alloc (.cells #[.int .u8 0, .int .u8 0, .int .u8 0, .int .u8 0, .int .u8 0, .int .u8 0, .int .u8 0, .int .u8 0, .int .i64 0, .slice none 0 0, .int .i64 0] 33)) = W0 at *
  have q := held11 x0.drew
  have q1 := held11 (x0.alloc (.cells #[] 3)).drew
  have HZ := Lib.hid hsz
  have x0l := x0.lt
  have y0l := y0.lt
  clear hsz
  go_region_held3 (fun w' => w'.cell? ⟨w.heap.size, 0, none⟩ = some (.int .u8 t0) ∧ w'.cell? ⟨w.heap.size, 1, none⟩ = some (.int .u8 t1) ∧ w'.cell? ⟨w.heap.size, 2, none⟩ = some (.int .u8 t2) ∧ w'.cell? ⟨w.heap.size, 3, none⟩ = some (.int .u8 t3) ∧ w'.cell? ⟨w.heap.size, 4, none⟩ = some (.int .u8 t4) ∧ w'.cell? ⟨w.heap.size, 5, none⟩ = some (.int .u8 t5) ∧ w'.cell? ⟨w.heap.size, 6, none⟩ = some (.int .u8 t6) ∧ w'.cell? ⟨w.heap.size, 7, none⟩ = some (.int .u8 t7) ∧ w'.cell? ⟨w.heap.size, 8, none⟩ = some (.int .i64 num) ∧ w'.cell? ⟨w.heap.size, 9, none⟩ = some (.slice A n c) ∧ w'.cell? ⟨w.heap.size, 10, none⟩ = some (.int .i64 till))
    (first | (with_reducible exact q) | (with_reducible exact q1) | (with_reducible exact q4) | exact held11 (((kept11 _ _ _ _ _ _ _ _ _ _ _ _ _).block _ x4l (by omega)).trans x4))
    (first
      | (refine step_append_any _ (by rfl) (.tmp 7) (.tmp 9) _ (by rfl) W0.heap.size 3 i0 _ 1 8 Try.underlying22 hi0 hz0 hz1 hz2 rfl (by omega) (.slice (some ⟨W0.heap.size, 0, none⟩) 0 0) 0 [] (by rfl) (own_empty (by exact (Blk.new _ _ _).drew) (Nat.le_refl _)) w.heap.size A n c (adds.map (Value.int .i64)) (by rfl) (Reads.below (B := w.heap.size) HR.out (by exact (f0.alloc f0.size _).drew)) (ints_one adds) (by unfold maxLen; omega) (by omega) (by simp) ?_; intro v4 w4 own4 g4 at4; have f4 : Below W0.heap.size W0 w4 := (((Below.refl _ W0).alloc (Nat.le_refl _) _).drew).grown g4 (by simp) (by simp [Value.ownBlock]); have x4 := x0.below f4 x0.lt; have y4 := y0.below f4 y0.lt; have q4 := held11 x4; have own5 : w4.ownsRow W0.heap.size 3 1 v4 n (adds.map (Value.int .i64)) := (by simpa only [Nat.zero_add, List.nil_append] using own4); obtain ⟨A5, c5, rfl⟩ := own_slice own5; clear g4 at4 own4; obtain ⟨a0, a1, a2, a3, a4, a5, a6, a7, a8, a9, a10⟩ := held11 y4; have z0 := y4.frozen 0; have z1 := y4.frozen 1; have z2 := y4.frozen 2; have z3 := y4.frozen 3; have z4 := y4.frozen 4; have z5 := y4.frozen 5; have z6 := y4.frozen 6; have z7 := y4.frozen 7; have z8 := y4.frozen 8; have z9 := y4.frozen 9; have z10 := y4.frozen 10; have x4l := x4.lt))
  go_wp2_with fail
  refine bodyPost_ret (v := .agg #[.int .u8 t0, .int .u8 t1, .int .u8 t2, .int .u8 t3, .int .u8 t4, .int .u8 t5, .int .u8 t6, .int .u8 t7, .int .i64 num, .slice A5 n c5, .int .i64 till]) (by simp [results, Try.results14, go_sem, a0, a1, a2, a3, a4, a5, a6, a7, a8, a9, a10]) rfl ?_
  clear a0 a1 a2 a3 a4 a5 a6 a7 a8 a9 a10 z0 z1 z2 z3 z4 z5 z6 z7 z8 z9 z10 q q1 q4
  have rd := Reads.of_own own5
  have hform : n ≤ c5 ∧ c5 ≤ 9223372036854775807 ∧ (0 < n → ∀ ad, A5 = some ad → W0.heap.size ≤ ad.block) := by
    rcases own5.2 with ⟨e, e2⟩ | ⟨g', cap, cur, e, hg', _, h1, h2, _⟩
    · injection e with e3 e4 e5
      subst e3 e5
      exact ⟨by omega, by omega, fun _ ad h => by cases h⟩
    · injection e with e3 e4 e5
      subst e3 e5
      unfold maxLen at h2
      exact ⟨h1, by omega, fun _ ad h => by injection h with h; subst h; exact hg'⟩
  have f5 : Below w.heap.size w w4 := f0.trans (f4.mono f0.size)
  have fin : ∀ W9, Kept (fun q => q = w.heap.size + 1) w4 W9 → ToedO w t0 t1 t2 t3 t4 t5 t6 t7 num adds till (.returned (.agg #[.int .u8 t0, .int .u8 t1, .int .u8 t2, .int .u8 t3, .int .u8 t4, .int .u8 t5, .int .u8 t6, .int .u8 t7, .int .i64 num, .slice A5 n c5, .int .i64 till])) W9 := by
    intro W9 kk
    have hl := HL.out
    refine ⟨A5, c5, by rw [← hl], ?_, by rw [← hl]; exact hform.1, hform.2.1, f5.trans (kk.to_below f5.size (fun q hq => by omega)), ?_⟩
    rotate_left
    · rw [← hl]
      have hz := HZ.out
      refine ⟨own5.1, ?_⟩
      rcases own5.2 with h2 | ⟨g', cap, cur, hv, hg, hh, rr⟩
      · exact .inl h2
      · have hlt : g' < w4.heap.size := Blk.lt (t := 3) (cs := cur) hh
        exact .inr ⟨g', cap, cur, hv, by omega, (kk.block g' hlt (by omega)).trans hh, rr⟩
    rw [← hl]
    refine ⟨rd.1, fun hn0 => ?_⟩
    obtain ⟨ad, e, hb, hc⟩ := rd.2 hn0
    have hge := hform.2.2 hn0 ad e
    have hz := HZ.out
    exact ⟨ad, e, Nat.lt_of_lt_of_le hb kk.size, fun j u hu => (kk.cell (by rw [block_of_add]; exact hb) (by rw [block_of_add]; omega)).trans (hc j u hu)⟩
  exact fin _ (kept11 _ _ _ _ _ _ _ _ _ _ _ _ _)

theorem info_dg : (Try.prog.info? 5).map (·.size) = some 1 := by kernel_rfl
theorem eq_dv (d : Nat → Int) (W : World) : (Op.equalIn 10000 31 (dv d) (dv d)).run Try.prog W = .ok true W := by
  obtain ⟨i, hi, _⟩ := Option.map_eq_some_iff.1 info_dg
  have := run_equal_row W 9999 Try.underlying31 hi (by kernel_rfl) (by kernel_rfl) (Value.int .u8) (fun a b => by rw [run_equalIn_int W 9998 _ _ _ a b Try.underlying5]; congr 1) [d 0, d 1, d 2, d 3, d 4, d 5, d 6, d 7] [d 0, d 1, d 2, d 3, d 4, d 5, d 6, d 7] rfl rfl
  simpa using this

/-- Eleven stores over a block of eleven cells. -/
theorem Blk.put11 {w : World} {g : Nat} {t : TypeId} {c0 c1 c2 c3 c4 c5 c6 c7 c8 c9 c10 : Value} (h : Blk w g t #[c0, c1, c2, c3, c4, c5, c6, c7, c8, c9, c10]) (v0 v1 v2 v3 v4 v5 v6 v7 v8 v9 v10 : Value) :
    Blk (((((((((((w.setCell ⟨g, 0, none⟩ v0).setCell ⟨g, 1, none⟩ v1).setCell ⟨g, 2, none⟩ v2).setCell ⟨g, 3, none⟩ v3).setCell ⟨g, 4, none⟩ v4).setCell ⟨g, 5, none⟩ v5).setCell ⟨g, 6, none⟩ v6).setCell ⟨g, 7, none⟩ v7).setCell ⟨g, 8, none⟩ v8).setCell ⟨g, 9, none⟩ v9).setCell ⟨g, 10, none⟩ v10) g t #[v0, v1, v2, v3, v4, v5, v6, v7, v8, v9, v10] := by
  have h0 : Blk _ g t #[v0, c1, c2, c3, c4, c5, c6, c7, c8, c9, c10] := h.set_ 0 v0
  have h1 : Blk _ g t #[v0, v1, c2, c3, c4, c5, c6, c7, c8, c9, c10] := h0.set_ 1 v1
  have h2 : Blk _ g t #[v0, v1, v2, c3, c4, c5, c6, c7, c8, c9, c10] := h1.set_ 2 v2
  have h3 : Blk _ g t #[v0, v1, v2, v3, c4, c5, c6, c7, c8, c9, c10] := h2.set_ 3 v3
  have h4 : Blk _ g t #[v0, v1, v2, v3, v4, c5, c6, c7, c8, c9, c10] := h3.set_ 4 v4
  have h5 : Blk _ g t #[v0, v1, v2, v3, v4, v5, c6, c7, c8, c9, c10] := h4.set_ 5 v5
  have h6 : Blk _ g t #[v0, v1, v2, v3, v4, v5, v6, c7, c8, c9, c10] := h5.set_ 6 v6
  have h7 : Blk _ g t #[v0, v1, v2, v3, v4, v5, v6, v7, c8, c9, c10] := h6.set_ 7 v7
  have h8 : Blk _ g t #[v0, v1, v2, v3, v4, v5, v6, v7, v8, c9, c10] := h7.set_ 8 v8
  have h9 : Blk _ g t #[v0, v1, v2, v3, v4, v5, v6, v7, v8, v9, c10] := h8.set_ 9 v9
  have h10 : Blk _ g t #[v0, v1, v2, v3, v4, v5, v6, v7, v8, v9, v10] := h9.set_ 10 v10
  exact h10
theorem Blk.put8 {w : World} {g : Nat} {t : TypeId} {c0 c1 c2 c3 c4 c5 c6 c7 c8 c9 c10 : Value} (h : Blk w g t #[c0, c1, c2, c3, c4, c5, c6, c7, c8, c9, c10]) (v0 v1 v2 v3 v4 v5 v6 v7 : Value) :
    Blk ((((((((w.setCell ⟨g, 0, none⟩ v0).setCell ⟨g, 1, none⟩ v1).setCell ⟨g, 2, none⟩ v2).setCell ⟨g, 3, none⟩ v3).setCell ⟨g, 4, none⟩ v4).setCell ⟨g, 5, none⟩ v5).setCell ⟨g, 6, none⟩ v6).setCell ⟨g, 7, none⟩ v7) g t #[v0, v1, v2, v3, v4, v5, v6, v7, c8, c9, c10] := by
  have h0 : Blk _ g t #[v0, c1, c2, c3, c4, c5, c6, c7, c8, c9, c10] := h.set_ 0 v0
  have h1 : Blk _ g t #[v0, v1, c2, c3, c4, c5, c6, c7, c8, c9, c10] := h0.set_ 1 v1
  have h2 : Blk _ g t #[v0, v1, v2, c3, c4, c5, c6, c7, c8, c9, c10] := h1.set_ 2 v2
  have h3 : Blk _ g t #[v0, v1, v2, v3, c4, c5, c6, c7, c8, c9, c10] := h2.set_ 3 v3
  have h4 : Blk _ g t #[v0, v1, v2, v3, v4, c5, c6, c7, c8, c9, c10] := h3.set_ 4 v4
  have h5 : Blk _ g t #[v0, v1, v2, v3, v4, v5, c6, c7, c8, c9, c10] := h4.set_ 5 v5
  have h6 : Blk _ g t #[v0, v1, v2, v3, v4, v5, v6, c7, c8, c9, c10] := h5.set_ 6 v6
  have h7 : Blk _ g t #[v0, v1, v2, v3, v4, v5, v6, v7, c8, c9, c10] := h6.set_ 7 v7
  exact h7
theorem Blk.free11 {w : World} {g : Nat} {t : TypeId} {cs : Array Value} (h : Blk w g t cs) : w.frozen? ⟨g, 0, none⟩ = false ∧ w.frozen? ⟨g, 1, none⟩ = false ∧ w.frozen? ⟨g, 2, none⟩ = false ∧ w.frozen? ⟨g, 3, none⟩ = false ∧ w.frozen? ⟨g, 4, none⟩ = false ∧ w.frozen? ⟨g, 5, none⟩ = false ∧ w.frozen? ⟨g, 6, none⟩ = false ∧ w.frozen? ⟨g, 7, none⟩ = false ∧ w.frozen? ⟨g, 8, none⟩ = false ∧ w.frozen? ⟨g, 9, none⟩ = false ∧ w.frozen? ⟨g, 10, none⟩ = false :=
  ⟨h.frozen 0, h.frozen 1, h.frozen 2, h.frozen 3, h.frozen 4, h.frozen 5, h.frozen 6, h.frozen 7, h.frozen 8, h.frozen 9, h.frozen 10⟩

theorem own_kept {S : Nat → Prop} {w w' : World} {base size n : Nat} {e : TypeId} {v : Value} {xs : List Value} (h : w.ownsRow base e size v n xs) (hk : Kept S w w') (hs : ∀ k, base ≤ k → ¬ S k) : w'.ownsRow base e size v n xs := by
  refine ⟨h.1, ?_⟩
  rcases h.2 with h2 | ⟨g', cap, cur, hv, hg, hh, rr⟩
  · exact .inl h2
  · have hlt : g' < w.heap.size := Blk.lt (t := e) (cs := cur) hh
    exact .inr ⟨g', cap, cur, hv, hg, (hk.block g' hlt (hs g' hg)).trans hh, rr⟩
def I64 (x : Int) : Prop := -9223372036854775808 ≤ x ∧ x ≤ 9223372036854775807
/-- A raise in block g. -/
structure Rz (w : World) (g : Nat) (d : Nat → Int) (nm : Int) (A : Option Addr) (n c : Nat) (till : Int) (adds : List Int) (W : World) : Prop where
  blk : Blk W g 33 (rvC d nm A n c till)
  row : RI W A n adds
  by_ : By d
  nm_ : I64 nm
  till_ : I64 till
  all : ∀ x ∈ adds, I64 x
  lo : w.heap.size ≤ g
  fr : Below w.heap.size w W
theorem Rz.then_ {w : World} {g : Nat} {d : Nat → Int} {nm : Int} {A : Option Addr} {n c : Nat} {till : Int} {adds : List Int} {W W' : World} (h : Rz w g d nm A n c till adds W) (hb : Below W.heap.size W W') : Rz w g d nm A n c till adds W' :=
  ⟨h.blk.below hb h.blk.lt, h.row.below hb, h.by_, h.nm_, h.till_, h.all, h.lo, h.fr.then_ hb⟩

theorem info_raise : (Try.prog.info? 33).map (·.size) = some 11 := by kernel_rfl
theorem of_small (t0 t1 t2 t3 t4 t5 t6 t7 num till : Int) (A : Option Addr) (n c : Nat) (w : World) (h10 : n ≤ 10) (hn : n ≤ c) :
    Calls Try.prog 15 #[.agg #[.int .u8 t0, .int .u8 t1, .int .u8 t2, .int .u8 t3, .int .u8 t4, .int .u8 t5, .int .u8 t6, .int .u8 t7, .int .i64 num, .slice A n c, .int .i64 till]] w fun e w' => e = .returned (.agg #[.int .u8 t0, .int .u8 t1, .int .u8 t2, .int .u8 t3, .int .u8 t4, .int .u8 t5, .int .u8 t6, .int .u8 t7, .int .i64 num, .slice A n c, .int .i64 till]) ∧ Below w.heap.size w w' := by
  refine (of_any t0 t1 t2 t3 t4 t5 t6 t7 num till A n c w hn).mono ?_
  rintro e w' ⟨rfl, hb⟩
  rw [show min n 10 = n from by omega]
  exact ⟨rfl, hb⟩

theorem own_apart {w : World} {base size n g : Nat} {e t : TypeId} {v : Value} {xs : List Value} {C : Array Value} (h : w.ownsRow base e size v n xs) (hg : Blk w g t C) (hne : e ≠ t) : v.ownBlock ≠ some g := by
  rcases h.2 with ⟨rfl, _⟩ | ⟨g', cap, cur, rfl, _, hh, _⟩
  · simp [Value.ownBlock]
  · intro he
    have : g' = g := by simpa [Value.ownBlock] using he
    subst this
    unfold Blk at hg
    rw [hg] at hh
    injection hh with hh
    injection hh with _ ht
    exact hne ht.symm
theorem own_kept_ne {w w' : World} {base size n g : Nat} {e t : TypeId} {v : Value} {xs : List Value} {C : Array Value} (h : w.ownsRow base e size v n xs) (hg : Blk w g t C) (hne : e ≠ t) (hk : Kept (fun q => q = g) w w') : w'.ownsRow base e size v n xs := by
  have hap := own_apart h hg hne
  refine ⟨h.1, ?_⟩
  rcases h.2 with h2 | ⟨g', cap, cur, rfl, hgb, hh, rr⟩
  · exact .inl h2
  · have hlt : g' < w.heap.size := Blk.lt (t := e) (cs := cur) hh
    exact .inr ⟨g', cap, cur, rfl, hgb, (hk.block g' hlt (fun e => hap (by simp [Value.ownBlock, e]))).trans hh, rr⟩
theorem Rz.put {w : World} {g base : Nat} {d d' : Nat → Int} {nm nm' : Int} {A : Option Addr} {n c : Nat} {till till' : Int} {adds : List Int} {W W' : World} (h : Rz w g d nm A n c till adds W) (ho : W.ownsRow base 3 1 (.slice A n c) n (adds.map (Value.int .i64)))
    (hk : Kept (fun q => q = g) W W') (hb : Blk W' g 33 (rvC d' nm' A n c till')) (hd : By d') (hnm : I64 nm') (htl : I64 till') : Rz w g d' nm' A n c till' adds W' := by
  have hlo := h.lo
  exact ⟨hb, Reads.of_own (own_kept_ne ho h.blk (by decide) hk), hd, hnm, htl, h.all, h.lo, h.fr.trans (hk.to_below h.fr.size (fun k hk e => by omega))⟩
/-- A table of one byte. -/
def tabOf (x : Int) (i : Nat) : Int := if i = 0 then x % 256 else 0
theorem tabOf_by (x : Int) : By (tabOf x) := fun i => by unfold tabOf; split <;> omega

set_option maxHeartbeats 4000000 in
set_option maxRecDepth 100000 in
theorem digests_walk (d : Nat → Int) (nm till at_ by_ : Int) (A : Option Addr) (n c : Nat) (adds : List Int) (w : World) (hd : By d) (hnm : I64 nm) (htl : I64 till) (hby : I64 by_) (hr : RI w A n adds) (hc : n ≤ c) (ha : ∀ x ∈ adds, I64 x) :
    Calls Try.prog 8 #[.agg (rvC d nm A n c till), .int .i64 at_, .int .i64 by_] w (Tells w true) := by
  have hm10 : min n 10 ≤ 10 := by omega
  have hmc : min n 10 ≤ c := by omega
  have hr1 : RI w A (min n 10) (adds.take (min n 10)) := by
    have := RV.upto hr (k := min n 10) (by omega)
    unfold RI
    rw [List.map_take]
    exact this
  have ha1 : ∀ x ∈ adds.take (min n 10), I64 x := fun x hx => ha x (List.mem_of_mem_take hx)
  have hl1 := hr1.len
  generalize adds.take (min n 10) = xs at *
  obtain ⟨m, hm⟩ : ∃ m, m = min n 10 := ⟨_, rfl⟩
  rw [← hm] at hm10 hmc hr1 hl1
  have HM := Lib.hid hm
  have HR := Lib.hid hr1
  have HA := Lib.hid ha1
  have HL := Lib.hid hl1
  clear hm hr hr1 ha ha1 hl1
  go_enter Try.func8, Try.ntmps8
  go_wp2_with fail
  refine (of_any _ _ _ _ _ _ _ _ _ _ A n c _ hc).mono ?_
  rintro e w1 ⟨rfl, b1⟩
  rw [← HM.out]
  have y1 := (Blk.new w 33 (rvC d nm A n c till)).below b1 (by simp)
  have f1 := ((Below.refl _ w).al (.cells (rvC d nm A n c till) 33)).then_ b1
  clear b1
  go_wp2_with fail
  refine (to_own _ _ _ _ _ _ _ _ _ _ A m c xs _ (HR.out.below f1) hm10).mono ?_
  rintro e w2 ⟨A2, c2, rfl, _, h2, h2', b2, r2⟩
  have y2 := y1.below b2 y1.lt
  have f2 := f1.then_ b2
  rw [← HL.out] at r2 h2 ⊢
  have hlt := y2.lt
  have z2 := f2.size
  have hk11 := kept11 w.heap.size w2 (.int .u8 (d 0)) (.int .u8 (d 1)) (.int .u8 (d 2)) (.int .u8 (d 3)) (.int .u8 (d 4)) (.int .u8 (d 5)) (.int .u8 (d 6)) (.int .u8 (d 7)) (.int .i64 nm) (.slice A2 m c2) (.int .i64 till)
  have y3 := y2.put11 (.int .u8 (d 0)) (.int .u8 (d 1)) (.int .u8 (d 2)) (.int .u8 (d 3)) (.int .u8 (d 4)) (.int .u8 (d 5)) (.int .u8 (d 6)) (.int .u8 (d 7)) (.int .i64 nm) (.slice A2 m c2) (.int .i64 till)
  obtain ⟨k0, k1, k2, k3, k4, k5, k6, k7, k8, k9, k10⟩ := held11 y2
  obtain ⟨q0, q1, q2, q3, q4, q5, q6, q7, q8, q9, q10⟩ := y2.free11
  clear y1 b2
  go_upto_region 2 with fail
  have z1 := f1.size
  have R3 : Rz w w.heap.size d nm A2 m c2 till xs _ := ⟨y3, Reads.of_own (own_kept r2 hk11 (fun k hk e => by omega)), hd, hnm, htl, HA.out, Nat.le_refl _, f2.trans (hk11.to_below f2.size (fun k hk e => by omega))⟩
  clear k0 k1 k2 k3 k4 k5 k6 k7 k8 k9 k10 q0 q1 q2 q3 q4 q5 q6 q7 q8 q9 q10 hk11 y2 r2 y3
  generalize (((((((((((w2.setCell ⟨w.heap.size, 0, none⟩ (.int .u8 (d 0))).setCell ⟨w.heap.size, 1, none⟩ (.int .u8 (d 1))).setCell ⟨w.heap.size, 2, none⟩ (.int .u8 (d 2))).setCell ⟨w.heap.size, 3, none⟩ (.int .u8 (d 3))).setCell ⟨w.heap.size, 4, none⟩ (.int .u8 (d 4))).setCell ⟨w.heap.size, 5, none⟩ (.int .u8 (d 5))).setCell ⟨w.heap.size, 6, none⟩ (.int .u8 (d 6))).setCell ⟨w.heap.size, 7, none⟩ (.int .u8 (d 7))).setCell ⟨w.heap.size, 8, none⟩ (.int .i64 nm)).setCell ⟨w.heap.size, 9, none⟩ (.slice A2 m c2)).setCell ⟨w.heap.size, 10, none⟩ (.int .i64 till)) = W3 at *
  obtain ⟨D, hD⟩ : ∃ D, Hid (hashOf (rbytes d nm xs till) = D) := ⟨_, rfl⟩
  have heq := eq_dv D
  obtain ⟨cs, hC⟩ : ∃ cs : List Value, Hid (rvC d nm A2 m c2 till = cs.toArray) := ⟨(rvC d nm A2 m c2 till).toList, rfl⟩
  have hci : (Try.prog.info? 33).map (·.size) = some cs.length := by
    have h := congrArg Array.size hC.out
    have h2 : cs.length = 11 := by simpa using h.symm
    rw [h2]
    exact info_raise
  have FD := (Below.refl W3.heap.size W3).drew
  have RC := Lib.hid (R3.then_ FD)
  have dg : ∀ W, Rz w w.heap.size d nm A2 m c2 till xs W → Calls Try.prog 25 #[.agg cs.toArray] W fun e w' => e = .returned (dv D) ∧ Below W.heap.size W w' := fun W h => by rw [← hC.out, ← hD.out]; exact digest_any d nm till A2 m c2 xs _ hd hnm htl h.row (by omega) HA.out
  have rg : ∀ W, Rz w w.heap.size d nm A2 m c2 till xs W → Calls Try.prog 26 #[.agg cs.toArray] W fun e w' => e = .returned (dv D) ∧ Below W.heap.size W w' := fun W h => by rw [← hC.out, ← hD.out]; exact refDigest_any d nm till A2 m c2 xs _ hd hnm htl h.row (by omega) HA.out
  have og : ∀ W, Calls Try.prog 15 #[.agg cs.toArray] W fun e w' => e = .returned (.agg cs.toArray) ∧ Below W.heap.size W w' := fun W => by rw [← hC.out]; exact of_small (d 0) (d 1) (d 2) (d 3) (d 4) (d 5) (d 6) (d 7) nm till A2 m c2 _ hm10 h2
  have lg : ∀ W, Rz w w.heap.size d nm A2 m c2 till xs W → W.rangeAt w.heap.size 0 cs := fun W h => by
    intro j v hj
    rw [Nat.zero_add, h.blk.cell j, hC.out]
    simpa using hj
  have DG := Lib.hid dg
  have RG := Lib.hid rg
  have OG := Lib.hid og
  have LG := Lib.hid lg
  clear R3 FD f1 f2 dg rg og lg
  go_cut [16] (fun v wc => v = .bool false ∧ Hid (Rz w w.heap.size d nm A2 m c2 till xs wc))
  case first =>
    as_aux_lemma =>
      refine wp_region_noPanic ?_
      refine wp_region_held_drew (S := fun w' => w'.rangeAt w.heap.size 0 cs) (by kernel_rfl) (LG.out _ RC.out) (fun hHeld => ?_)
      refine wpAnyH_take (i := 0) (oi := ⟨some 11, Op.load 33 (.tmp 3), 33, "law.go:273", #[], none⟩) (v := .agg cs.toArray) rfl (by kernel_rfl) (by kernel_rfl) (by kernel_rfl) (fun _ _ _ h => h) (yieldsIf_load_mid (by rfl) 33 (.tmp 3) rfl w.heap.size 0 (by rfl) cs _ (fun _ h => h) Try.underlying33 rfl hci) hHeld ?_
      try simp only [Act.put, List.setIfInBounds_toArray, List.set_cons_zero, List.set_cons_succ]
      refine wpAnyH_take (i := 2) (oi := ⟨some 13, Op.load 33 (.tmp 3), 33, "law.go:273", #[], none⟩) (v := .agg cs.toArray) rfl (by kernel_rfl) (by kernel_rfl) (by kernel_rfl) (fun _ _ _ h => h) (yieldsIf_load_mid (by rfl) 33 (.tmp 3) rfl w.heap.size 0 (by rfl) cs _ (fun _ h => h) Try.underlying33 rfl hci) hHeld ?_
      try simp only [Act.put, List.setIfInBounds_toArray, List.set_cons_zero, List.set_cons_succ]
      refine wpAnyH_ready (rs := [1]) (by kernel_rfl) (by simp) ?_
      refine AllReadyH.cons (o := ⟨some 12, Op.call { callee := .value (.func 25), args := #[.tmp 11], argTypes := #[33] }, 31, "law.go:273", #[{ on := 0, ground := .data }], none⟩) rfl (fun K hK => ?_) AllReadyH.nil
      go_simp
      refine (DG.out _ RC.out).mono ?_
      rintro e x1 ⟨rfl, bb⟩
      have RC := Lib.hid (RC.out.then_ bb)
      clear bb
      go_wp2_with fail
      refine hK.out _ _ (LG.out _ RC.out) (fun hHeld => ?_)
      clear hK K
      try simp only [Act.put, List.setIfInBounds_toArray, List.set_cons_zero, List.set_cons_succ]
      refine wpAnyH_ready (rs := [3]) (by kernel_rfl) (by simp) ?_
      refine AllReadyH.cons (o := ⟨some 14, Op.call { callee := .value (.func 15), args := #[.tmp 13], argTypes := #[33] }, 41, "law.go:273", #[{ on := 2, ground := .data }, { on := 1, ground := .chain }], none⟩) rfl (fun K hK => ?_) AllReadyH.nil
      go_simp
      refine (OG.out _).mono ?_
      rintro e x2 ⟨rfl, bb⟩
      have RC := Lib.hid (RC.out.then_ bb)
      clear bb
      go_wp2_with fail
      refine hK.out _ _ (LG.out _ RC.out) (fun hHeld => ?_)
      clear hK K
      try simp only [Act.put, List.setIfInBounds_toArray, List.set_cons_zero, List.set_cons_succ]
      refine wpAnyH_ready (rs := [4]) (by kernel_rfl) (by simp) ?_
      refine AllReadyH.cons (o := ⟨some 15, Op.call { callee := .value (.func 26), args := #[.tmp 14], argTypes := #[41] }, 30, "law.go:273", #[{ on := 3, ground := .data }, { on := 3, ground := .chain }], none⟩) rfl (fun K hK => ?_) AllReadyH.nil
      go_simp
      refine (RG.out _ RC.out).mono ?_
      rintro e x3 ⟨rfl, bb⟩
      have RC := Lib.hid (RC.out.then_ bb)
      clear bb
      go_wp2_with fail
      refine hK.out _ _ (LG.out _ RC.out) (fun hHeld => ?_)
      clear hK K
      try simp only [Act.put, List.setIfInBounds_toArray, List.set_cons_zero, List.set_cons_succ]
      refine wpAnyH_ready (rs := [5]) (by kernel_rfl) (by simp) ?_
      refine AllReadyH.cons (o := ⟨some 16, Op.binOp .neq 31 (.tmp 12) (.tmp 15) 31, 4, "law.go:273", #[{ on := 1, ground := .data }, { on := 4, ground := .data }], none⟩) rfl (fun K hK => ?_) AllReadyH.nil
      go_simp
      refine hK.out _ _ (LG.out _ RC.out) (fun hHeld => ?_)
      clear hK K
      try simp only [Act.put, List.setIfInBounds_toArray, List.set_cons_zero, List.set_cons_succ]
      refine wpAnyH_done (by kernel_rfl) ?_ _
      refine NoPanic.normal ?_
      go_wp2_with fail
      go_meet
      case rel => exact ⟨rfl, RC.out⟩
  case rest =>
    obtain ⟨rfl, R4⟩ := hcut
    clear heq DG RG OG LG RC hC hD hci
    obtain ⟨k0, k1, k2, k3, k4, k5, k6, k7, k8, k9, k10⟩ := held11 R4.out.blk
    go_wp2_with fail
    refine (of_small _ _ _ _ _ _ _ _ _ _ A2 m c2 _ hm10 h2).mono ?_
    rintro e w5 ⟨rfl, b5⟩
    have R5 := Lib.hid (R4.out.then_ b5)
    clear k0 k1 k2 k3 k4 k5 k6 k7 k8 k9 k10 R4 b5
    go_wp2_with fail
    refine (to_own _ _ _ _ _ _ _ _ _ _ A2 m c2 xs _ R5.out.row hm10).mono ?_
    rintro e w6 ⟨A6, c6, rfl, _, h6, h6', b6, r6⟩
    have R6 := Lib.hid (R5.out.then_ b6)
    rw [← HL.out] at r6 h6 ⊢
    have z5 : w.heap.size ≤ w5.heap.size := R5.out.fr.size
    have z6 : w5.heap.size ≤ w6.heap.size := b6.size
    clear R5 b6
    go_upto_block 0 with fail
    have o7 := r6.alloc (.cells (rvC d nm A6 m c6 till) 33)
    have R7 : Hid (Rz w w6.heap.size d nm A6 m c6 till xs (w6.alloc (.cells (rvC d nm A6 m c6 till) 33))) := ⟨Blk.new _ _ _, Reads.of_own o7, hd, hnm, htl, HA.out, by omega, R6.out.fr.al _⟩
    have O7 := Lib.hid o7
    have z7 : (w6.alloc (.cells (rvC d nm A6 m c6 till) 33)).heap.size = w6.heap.size + 1 := by simp
    have l7 : w6.heap.size < (w6.alloc (.cells (rvC d nm A6 m c6 till) 33)).heap.size := by omega
    generalize w6.alloc (.cells (rvC d nm A6 m c6 till) 33) = W7 at *
    obtain ⟨g, hg⟩ : ∃ g, g = w6.heap.size := ⟨_, rfl⟩
    rw [← hg] at R7 l7 z6 ⊢
    clear z7 hg r6 o7 R6
    obtain ⟨z, hz, hz0, hz3⟩ : ∃ z : Int, (IntKind.u64.wrap at_).tmod 4 = z ∧ 0 ≤ z ∧ z ≤ 3 := ⟨_, rfl, by rw [IntKind.wrap_u64, Int.tmod_eq_emod_of_nonneg (by omega)]; omega, by rw [IntKind.wrap_u64, Int.tmod_eq_emod_of_nonneg (by omega)]; omega⟩
    rw [hz]
    clear hz
    go_cut [7] (fun p wc => ∃ g d' nm' A' n' c' till' ys, p = .pointer (some ⟨g, 0, none⟩) ∧ n' ≤ 20 ∧ Hid (Rz w g d' nm' A' n' c' till' ys wc))
    case first =>
      have hz : z = 0 ∨ z = 1 ∨ z = 2 ∨ z = 3 := by omega
      rcases hz with rfl | rfl | rfl | rfl
      · have k8 : W7.cell? ⟨g, 8, none⟩ = some (.int .i64 nm) := R7.out.blk.cell 8
        have q8 := R7.out.blk.frozen 8
        go_wp2_with fail
        go_meet
        case rel => exact ⟨g, d, by_, A6, m, c6, till, xs, rfl, by omega, R7.out.put O7.out ((Kept.refl (fun q => q = g) W7).setCell (p := ⟨g, 8, none⟩) (fun _ => rfl) _) (R7.out.blk.set_ 8 _) hd hby htl⟩
      · have k10 : W7.cell? ⟨g, 10, none⟩ = some (.int .i64 till) := R7.out.blk.cell 10
        have q10 := R7.out.blk.frozen 10
        go_wp2_with fail
        go_meet
        case rel => exact ⟨g, d, nm, A6, m, c6, by_, xs, rfl, by omega, R7.out.put O7.out ((Kept.refl (fun q => q = g) W7).setCell (p := ⟨g, 10, none⟩) (fun _ => rfl) _) (R7.out.blk.set_ 10 _) hd hnm hby⟩
      · obtain ⟨k0, k1, k2, k3, k4, k5, k6, k7, k8, k9, k10⟩ := held11 R7.out.blk
        obtain ⟨q0, q1, q2, q3, q4, q5, q6, q7, q8, q9, q10⟩ := R7.out.blk.free11
        go_wp2_with fail
        go_meet
        case rel => exact ⟨g, tabOf by_, nm, A6, m, c6, till, xs, rfl, by omega, R7.out.put O7.out ((((((((((Kept.refl (fun q => q = g) W7).setCell (p := ⟨g, 0, none⟩) (fun _ => rfl) _).setCell (p := ⟨g, 1, none⟩) (fun _ => rfl) _).setCell (p := ⟨g, 2, none⟩) (fun _ => rfl) _).setCell (p := ⟨g, 3, none⟩) (fun _ => rfl) _).setCell (p := ⟨g, 4, none⟩) (fun _ => rfl) _).setCell (p := ⟨g, 5, none⟩) (fun _ => rfl) _).setCell (p := ⟨g, 6, none⟩) (fun _ => rfl) _).setCell (p := ⟨g, 7, none⟩) (fun _ => rfl) _)) (R7.out.blk.put8 _ _ _ _ _ _ _ _) (tabOf_by by_) hnm htl⟩
      · have k9 : W7.cell? ⟨g, 9, none⟩ = some (.slice A6 m c6) := R7.out.blk.cell 9
        have hap := own_apart O7.out R7.out.blk (by decide)
        have HAP := Lib.hid hap
        clear hap
        have B7 := Lib.hid (R7.out.blk.alloc (.cells #[.int .i64 by_] 3))
        obtain ⟨i0, hi0, hz0, hz1, hz2⟩ := info_parts info_int
        have rd : Reads (W7.alloc (.cells #[.int .i64 by_] 3)) (W7.heap.size + 1) 1 (some ⟨W7.heap.size, 0, none⟩) 1 [.int .i64 by_] := by
          refine ⟨rfl, fun _ => ⟨_, rfl, by simp, fun j u hu => ?_⟩⟩
          match j, hu with
          | 0, hu =>
            simp at hu
            subst hu
            exact (Blk.new W7 _ _).cell 0
        have RD := Lib.hid rd
        clear rd
        have z8 : w5.heap.size + 2 ≤ W7.heap.size + 1 := by have := O7.out; omega
        go_wp2_with (first | (at_builtin; refine wpList_append_any _ rfl (.tmp 40) (.tmp 42) 22 rfl (w5.heap.size + 2) 3 i0 _ 1 8 Try.underlying22 hi0 hz0 hz1 hz2 rfl (by omega) (.slice A6 m c6) m (xs.map (Value.int .i64)) rfl (O7.out.alloc _) _ _ 1 1 [.int .i64 by_] rfl RD.out (by simp [Value.oneCell']) (by unfold maxLen; omega) (by omega) (by simp; omega) ?_; intro v8 w8 o8 g8 at8; obtain ⟨A8, c8, rfl⟩ := own_slice o8; have B8 := Lib.hid (B7.out.grown g8 (fun e => HAP.out e.symm)); have k9' : w8.cell? ⟨g, 9, none⟩ = some (.slice A6 m c6) := B8.out.cell 9; have q9' := B8.out.frozen 9; have O8 := Lib.hid o8; have G8 := Lib.hid g8; clear o8 g8 at8))
        go_meet
        have hbase : ∀ k, (Value.slice A6 m c6).ownBlock = some k → w.heap.size ≤ k := by
          intro k hk
          rcases O7.out.2 with ⟨h1, _⟩ | ⟨g', cap, cur, h1, hgb, _⟩
          · rw [h1] at hk; simp [Value.ownBlock] at hk
          · rw [h1] at hk
            simp [Value.ownBlock] at hk
            omega
        have f8 : Below w.heap.size w w8 := (R7.out.fr.al _).grown G8.out (by have := R7.out.fr.size; simp; omega) hbase
        have kA : Kept (fun q => q = g) w8 (w8.setCell ⟨g, 9, none⟩ (.slice A8 (m + 1) c8)) := (Kept.refl (fun q => q = g) w8).setCell (p := ⟨g, 9, none⟩) (fun _ => rfl) _
        have o9 : w8.ownsRow (w5.heap.size + 2) 3 1 (.slice A8 (m + 1) c8) (m + 1) ((xs ++ [by_]).map (Value.int .i64)) := by have := O8.out; simpa using this
        have hlo := R7.out.lo
        case rel => exact ⟨g, d, nm, A8, m + 1, c8, till, xs ++ [by_], rfl, by omega, ⟨B8.out.set_ 9 _, Reads.of_own (own_kept_ne o9 B8.out (by decide) kA), hd, hnm, htl, (fun x hx => by
            rcases List.mem_append.1 hx with h | h
            · exact HA.out x h
            · simp at h
              subst h
              exact hby), hlo, f8.trans (kA.to_below f8.size (fun q hq e => by omega))⟩⟩
    case rest =>
      obtain ⟨g', d', nm', A', n', c', till', ys, rfl, hn20, R9⟩ := hcut
      clear R7 O7
      obtain ⟨D', hD⟩ : ∃ D', Hid (hashOf (rbytes d' nm' ys till') = D') := ⟨_, rfl⟩
      have heq := eq_dv D'
      have dg : ∀ W, Rz w g' d' nm' A' n' c' till' ys W → Calls Try.prog 25 #[.agg (rvC d' nm' A' n' c' till')] W fun e w' => e = .returned (dv D') ∧ Below W.heap.size W w' := fun W h => by rw [← hD.out]; exact digest_any d' nm' till' A' n' c' ys _ h.by_ h.nm_ h.till_ h.row hn20 h.all
      have rg : ∀ W, Rz w g' d' nm' A' n' c' till' ys W → Calls Try.prog 26 #[.agg (rvC d' nm' A' n' c' till')] W fun e w' => e = .returned (dv D') ∧ Below W.heap.size W w' := fun W h => by rw [← hD.out]; exact refDigest_any d' nm' till' A' n' c' ys _ h.by_ h.nm_ h.till_ h.row hn20 h.all
      have DG := Lib.hid dg
      have RG := Lib.hid rg
      have RC := Lib.hid (R9.out.then_ (Below.refl _ _).drew)
      clear dg rg R9 hD
      go_wp2_with fail
      go_region_held3 (fun w' => w'.cell? ⟨g', 0, none⟩ = some (.int .u8 (d' 0)) ∧ w'.cell? ⟨g', 1, none⟩ = some (.int .u8 (d' 1)) ∧ w'.cell? ⟨g', 2, none⟩ = some (.int .u8 (d' 2)) ∧ w'.cell? ⟨g', 3, none⟩ = some (.int .u8 (d' 3)) ∧ w'.cell? ⟨g', 4, none⟩ = some (.int .u8 (d' 4)) ∧ w'.cell? ⟨g', 5, none⟩ = some (.int .u8 (d' 5)) ∧ w'.cell? ⟨g', 6, none⟩ = some (.int .u8 (d' 6)) ∧ w'.cell? ⟨g', 7, none⟩ = some (.int .u8 (d' 7)) ∧ w'.cell? ⟨g', 8, none⟩ = some (.int .i64 nm') ∧ w'.cell? ⟨g', 9, none⟩ = some (.slice A' n' c') ∧ w'.cell? ⟨g', 10, none⟩ = some (.int .i64 till')) (exact held11 RC.out.blk)
        (first
          | (go_at_call 10; refine (known_any _).mono ?_; rintro e x0 ⟨rfl, bb⟩; have RC := Lib.hid (RC.out.then_ bb); clear bb)
          | (go_at_call 25; refine (DG.out _ RC.out).mono ?_; rintro e x1 ⟨rfl, bb⟩; have RC := Lib.hid (RC.out.then_ bb); clear bb)
          | (go_at_call 26; refine (RG.out _ RC.out).mono ?_; rintro e x3 ⟨rfl, bb⟩; have RC := Lib.hid (RC.out.then_ bb); clear bb))
      all_goals
        go_wp2_with fail
        go_ret
        exact ⟨rfl, RC.out.fr⟩

theorem digests_raise (cs : Array Value) (at_ by_ : Int) (w : World) (h : RaiseC w w.heap.size cs.toList) (hby : I64 by_) :
    Calls Try.prog 8 #[.agg cs, .int .i64 at_, .int .i64 by_] w (Tells w true) := by
  obtain ⟨t0, t1, t2, t3, t4, t5, t6, t7, nm, till, A, n, c, adds, hcs, hc, _, hr, w0, w1, w2, w3⟩ := h
  obtain ⟨l⟩ := cs
  simp only at hcs
  subst hcs
  have e := digests_walk (fun i => [t0, t1, t2, t3, t4, t5, t6, t7].getD i 0) nm till at_ by_ A n c adds w (fun i => by
    have key : ∀ z ∈ [t0, t1, t2, t3, t4, t5, t6, t7], 0 ≤ z ∧ z ≤ 255 := fun z hz => bounds_u8 (w0 z hz)
    show 0 ≤ [t0, t1, t2, t3, t4, t5, t6, t7].getD i 0 ∧ [t0, t1, t2, t3, t4, t5, t6, t7].getD i 0 ≤ 255
    rcases Nat.lt_or_ge i 8 with h8 | h8
    · rw [List.getD_eq_getElem?_getD, List.getElem?_eq_getElem (by simpa using h8)]
      exact key _ (List.getElem_mem _)
    · rw [List.getD_eq_getElem?_getD, List.getElem?_eq_none (by simpa using h8)]
      exact ⟨by simp, by simp⟩) (range_i64 w1) (range_i64 w2) hby hr hc (fun x hx => range_i64 (w3 x hx))
  exact e
end Go.Proofs.Ytdbffjipoiphpaa
