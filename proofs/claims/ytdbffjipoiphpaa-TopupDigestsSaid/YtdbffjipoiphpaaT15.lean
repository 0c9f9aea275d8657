/-
  package topup: Open.
-/
import Derived.Test.YtdbffjipoiphpaaT14
import Derived.Laws.MakeOwn
import Derived.Laws.Entries
import Derived.OwnWalk
namespace Go.Proofs.Ytdbffjipoiphpaa
open Go.RowKit

theorem run_make_rowN {P : Program} (t e : TypeId) (i : TypeInfo) (z : Value) (ht : P.underlying t = some (.slice e)) (hi : P.info? e = some i) (hz : i.zero = some z)
    (kl kc : IntKind) (n c : Nat) (hnc : n ≤ c) (hbytes : i.bytes * c ≤ 281474976710656) (h63 : c ≤ 9223372036854775807) (w : World) :
    (Instr.makeSlice t (.int kl (n : Int)) (.int kc (c : Int))).run P w = .ok (.slice (some ⟨w.heap.size, 0, none⟩) n c) (w.alloc (.cells (madeCells z.cells (c * i.size)) e)) := by
  have hb : (i.bytes : Int) * (c : Int) ≤ 281474976710656 := by
    have h : ((i.bytes * c : Nat) : Int) ≤ 281474976710656 := by omega
    rwa [Int.natCast_mul] at h
  have hr := run_make (P := P) w t e i z ht hi hz kl kc n c (by omega) (by omega) hb (by omega)
  simp only [Int.toNat_natCast] at hr
  exact hr
theorem info_int : (Try.prog.info? 3).map (fun i => (i.zero, i.size, i.bytes)) = some (some (.int .i64 0), 1, 8) := by kernel_rfl
/-- What make gives. -/
def zeros (n : Nat) : Obj := .cells (madeCells (Value.int .i64 0).cells (n * 1)) 3
theorem run_make_ints (n : Nat) (hn : n ≤ 1000) (W : World) : (Instr.makeSlice 22 (.int .i64 (n : Int)) (.int .i64 (n : Int))).run Try.prog W = .ok (.slice (some ⟨W.heap.size, 0, none⟩) n n) (W.alloc (zeros n)) := by
  obtain ⟨i0, hi, hz0, hz1, hz2⟩ := info_parts info_int
  have := run_make_rowN (P := Try.prog) 22 3 i0 _ Try.underlying22 hi hz0 .i64 .i64 n n (Nat.le_refl _) (by rw [hz2]; omega) (by omega) W
  rw [hz1] at this
  exact this
theorem zeros_own (W : World) (n : Nat) (hn : n ≤ 1000) : IOwn (W.alloc (zeros n)) W.heap.size n (List.replicate n 0) := by
  refine ⟨_, Blk.new _ _ _, ?_, by simp, by unfold maxLen; omega, ?_⟩
  · simp [madeCells, Value.cells]
  · refine List.ext_getElem (by simp [madeCells]) (fun i h1 h2 => ?_)
    simp [madeCells, Value.cells, Nat.mod_one]

theorem kept_set {g o : Nat} {w w' : World} {v : Value} (h : Kept (fun q => q = g) w w') : Kept (fun q => q = g) w (w'.setCell ⟨g, o, none⟩ v) := h.setCell (p := ⟨g, o, none⟩) (fun _ => rfl) v
/-- What each has laid. -/
def givenL (x : Wt) (n : Nat) : List Int := (List.range n).map (gives x)
/-- The same, so far. -/
def givenTo (x : Wt) (n k : Nat) : List Int := (List.range k).map (gives x) ++ List.replicate (n - k) 0
theorem givenTo_zero (x : Wt) (n : Nat) : givenTo x n 0 = List.replicate n 0 := by simp [givenTo]
theorem givenTo_all (x : Wt) (n : Nat) : givenTo x n n = givenL x n := by simp [givenTo, givenL]
theorem givenTo_len (x : Wt) (n k : Nat) (h : k ≤ n) : (givenTo x n k).length = n := by simp [givenTo]; omega
theorem givenTo_succ (x : Wt) (n k : Nat) (h : k < n) : (givenTo x n k).set k (gives x k) = givenTo x n (k + 1) := by
  unfold givenTo
  rw [List.set_append_right _ _ (by simp), show n - k = (n - (k + 1)) + 1 from by omega, List.replicate_succ, List.range_succ, List.map_append]
  simp

/-- The cells of a raise. -/
def rcells (x : Wt) (A : Option Addr) (ca : Nat) : List Value := x.tab.map (Value.int .u8) ++ [.int .i64 x.num, .slice A x.adds.length ca, .int .i64 x.till]
/-- What Open gives of a raise that waits. -/
def Opened (w : World) (x : Wt) (n : Nat) (e : Ending) (w' : World) : Prop := ∃ ga ca gl,
  e = .returned (.tuple #[.agg (rcells x (some ⟨ga, 0, none⟩) ca).toArray, .slice (some ⟨gl, 0, none⟩) n n, .bool true]) ∧
  IOwn w' ga ca x.adds ∧ IOwn w' gl n (givenL x n) ∧ w.heap.size ≤ ga ∧ w.heap.size ≤ gl ∧ ga ≠ gl ∧ Below w.heap.size w w'

set_option maxHeartbeats 1000000 in
set_option maxRecDepth 100000 in
theorem open_none (S : Nat → Prop) (g gs cs : Nat) (wp : Option Addr) (b : Bk) (w : World) (hB : BAt w S g gs cs wp b) (hw : b.wt = none) :
    Calls Try.prog 12 #[.pointer (some ⟨g, 0, none⟩)] w fun e w' => e = .returned (.tuple #[.agg #[.int .u8 0, .int .u8 0, .int .u8 0, .int .u8 0, .int .u8 0, .int .u8 0, .int .u8 0, .int .u8 0, .int .i64 0, .slice none 0 0, .int .i64 0], .slice none 0 0, .bool false]) ∧ Below w.heap.size w w' := by
  have hp := hB.none_ hw
  subst hp
  have q2 : w.cell? ⟨g, 2, none⟩ = some (.pointer none) := hB.blk.cell 2
  have hgl := hB.blk.lt
  clear hw
  go_enter Try.func12, Try.ntmps12
  go_wp2_with fail
  exact bodyPost_ret (v := .tuple #[.agg #[.int .u8 0, .int .u8 0, .int .u8 0, .int .u8 0, .int .u8 0, .int .u8 0, .int .u8 0, .int .u8 0, .int .i64 0, .slice none 0 0, .int .i64 0], .slice none 0 0, .bool false]) (by simp [results, Try.results12, go_sem]) rfl ⟨rfl, (Below.refl _ _).al _⟩

set_option maxHeartbeats 1000000 in
set_option maxRecDepth 100000 in
theorem open_some (S : Nat → Prop) (g gs cs : Nat) (wp : Option Addr) (b : Bk) (x : Wt) (w : World) (hB : BAt w S g gs cs wp b) (hw : b.wt = some x) :
    Calls Try.prog 12 #[.pointer (some ⟨g, 0, none⟩)] w (Opened w x b.stakes.length) := by
  obtain ⟨gw, ga, ca, rfl, hxw, n1, n2, n3, n4⟩ := hB.some_ x hw
  have hal := (hB.ok.adds x hw).1
  have hn8 := hB.ok.few
  have HAL := Lib.hid hal
  clear hal hw
  obtain ⟨n, hn⟩ : ∃ n, n = b.stakes.length := ⟨_, rfl⟩
  rw [← hn] at HAL hn8 ⊢
  have q2 : w.cell? ⟨g, 2, none⟩ = some (.pointer (some ⟨gw, 0, none⟩)) := hB.blk.cell 2
  have hgl := hB.blk.lt
  have hmk := run_make_ints n (by omega)
  go_enter Try.func12, Try.ntmps12
  go_wp2_with fail
  have fa : Below w.heap.size w (w.alloc (.cells #[.int .u8 0, .int .u8 0, .int .u8 0, .int .u8 0, .int .u8 0, .int .u8 0, .int .u8 0, .int .u8 0, .int .i64 0, .slice none 0 0, .int .i64 0] 33)) := (Below.refl _ w).al _
  have nb := Blk.new w 33 #[.int .u8 0, .int .u8 0, .int .u8 0, .int .u8 0, .int .u8 0, .int .u8 0, .int .u8 0, .int .u8 0, .int .i64 0, .slice none 0 0, .int .i64 0]
  refine (wclone_some S gw ga ca x _ (hxw.kept (Kept.of_below (S := fun _ => False) fa) (fun _ _ h => h))).mono ?_
  rintro e w1 ⟨gw1, ga1, ca1, rfl, x1, hw1, ha1, b1⟩
  have nb1 := nb.below b1 (by simp)
  have f1 := fa.then_ b1
  have B1 := hB.below f1
  have q0 : w1.cell? ⟨g, 0, none⟩ = some (.slice (some ⟨gs, 0, none⟩) n cs) := by rw [hn]; exact B1.blk.cell 0
  have HN := Lib.hid hn
  simp at hw1 ha1
  clear nb fa b1 q2 hn
  go_wp2_with fail
  obtain ⟨gl, hgl0⟩ : ∃ gl, gl = w1.heap.size := ⟨_, rfl⟩
  have own0 := zeros_own w1 n (by omega)
  rw [← hgl0] at own0 ⊢
  have k0 : Below w1.heap.size w1 (w1.alloc (zeros n)) := (Below.refl _ w1).al _
  have x2 := x1.kept (Kept.of_below (S := fun _ => False) k0) (fun _ _ h => h)
  have nb2 := nb1.below k0 nb1.lt
  have f2 := f1.then_ k0
  have l1 := x1.blk.lt
  have l2 := x1.adds.lt
  have l3 := nb1.lt
  have hne1 : gw1 ≠ gl := by omega
  have hne2 : ga1 ≠ gl := by omega
  have hne3 : w.heap.size ≠ gl := by omega
  have hge : w.heap.size ≤ gl := by omega
  clear k0 x1 nb1 f1 B1 q0 hgl0 l1 l2 l3 hmk
  generalize w1.alloc (zeros n) = w2 at *
  go_loopw [7, 31] (fun _ i wr => ∃ k : Nat, k ≤ n ∧ i = .int .i64 k ∧ IOwn wr gl n (givenTo x n k) ∧ WAt wr (fun q => q = gw1 ∨ q = ga1) gw1 ga1 ca1 x ∧ Blk wr w.heap.size 33 #[.int .u8 0, .int .u8 0, .int .u8 0, .int .u8 0, .int .u8 0, .int .u8 0, .int .u8 0, .int .u8 0, .int .i64 0, .slice none 0 0, .int .i64 0] ∧ Below w.heap.size w wr) (fun _ i _ => n - (intOf i).toNat)
  case atStart => exact ⟨0, by omega, rfl, by rw [givenTo_zero]; exact own0, x2, nb2, f2⟩
  case round =>
    obtain ⟨k, hk, rfl, ow, xr, nr, fr⟩ := hrel
    by_cases hlt : k < n
    · have hka : k < x.adds.length := by rw [HAL.out]; exact hlt
      have hlen := givenTo_len x n k (by omega)
      obtain ⟨v0, ck⟩ : ∃ v0 : Int, wr.cell? ⟨gl, k, none⟩ = some (.int .i64 v0) := ⟨_, ow.cell (i := k) (by rw [hlen]; exact hlt)⟩
      have fk := ow.frozen k
      have ow' := ow.set_ k (gives x k)
      rw [givenTo_succ x n k hlt] at ow'
      have kk : Kept (fun q => q = gl) wr (wr.setCell ⟨gl, k, none⟩ (.int .i64 (gives x k))) := (Kept.refl (fun q => q = gl) wr).setCell (fun _ => rfl) _
      clear hlen
      go_wp2_with fail
      refine (given_any _ gw1 ga1 ca1 x k _ xr hka).mono ?_
      rintro e w' ⟨rfl, rfl⟩
      generalize gives x k = gv at *
      go_wp2_with fail
      go_roundw
      case rel => exact ⟨k + 1, by omega, by go_num, ow', xr.kept kk (fun q hq => by rcases hq with hq | hq <;> omega), (kk.block _ nr.lt hne3).trans nr, fr.trans (kk.to_below fr.size (fun q hq => by omega))⟩
      case measure => simp [intOf]; omega
    · obtain rfl : k = n := by omega
      rw [givenTo_all] at ow
      obtain ⟨t0, t1, t2, t3, t4, t5, t6, t7, ht⟩ := eight xr.tab
      have T0 := xr.tab_ (i := 0) (by omega)
      have T1 := xr.tab_ (i := 1) (by omega)
      have T2 := xr.tab_ (i := 2) (by omega)
      have T3 := xr.tab_ (i := 3) (by omega)
      have T4 := xr.tab_ (i := 4) (by omega)
      have T5 := xr.tab_ (i := 5) (by omega)
      have T6 := xr.tab_ (i := 6) (by omega)
      have T7 := xr.tab_ (i := 7) (by omega)
      simp only [ht] at T0 T1 T2 T3 T4 T5 T6 T7
      simp at T0 T1 T2 T3 T4 T5 T6 T7
      have T8 := xr.num_
      have T9 := xr.adds_
      have T10 := xr.till_
      have HT := Lib.hid ht
      clear ht
      have y0 := nr.cell 0
      have y1 := nr.cell 1
      have y2 := nr.cell 2
      have y3 := nr.cell 3
      have y4 := nr.cell 4
      have y5 := nr.cell 5
      have y6 := nr.cell 6
      have y7 := nr.cell 7
      have y8 := nr.cell 8
      have y9 := nr.cell 9
      have y10 := nr.cell 10
      simp at y0 y1 y2 y3 y4 y5 y6 y7 y8 y9 y10
      have z0 := nr.frozen 0
      have z1 := nr.frozen 1
      have z2 := nr.frozen 2
      have z3 := nr.frozen 3
      have z4 := nr.frozen 4
      have z5 := nr.frozen 5
      have z6 := nr.frozen 6
      have z7 := nr.frozen 7
      have z8 := nr.frozen 8
      have z9 := nr.frozen 9
      have z10 := nr.frozen 10
      go_wp2_with fail
      refine bodyPost_ret (v := .tuple #[.agg #[.int .u8 t0, .int .u8 t1, .int .u8 t2, .int .u8 t3, .int .u8 t4, .int .u8 t5, .int .u8 t6, .int .u8 t7, .int .i64 x.num, .slice (some ⟨ga1, 0, none⟩) x.adds.length ca1, .int .i64 x.till], .slice (some ⟨gl, 0, none⟩) k k, .bool true]) (by simp [results, Try.results12, go_sem, y0, y1, y2, y3, y4, y5, y6, y7, y8, y9, y10]) rfl ?_
      clear T0 T1 T2 T3 T4 T5 T6 T7 T8 T9 T10 y0 y1 y2 y3 y4 y5 y6 y7 y8 y9 y10 z0 z1 z2 z3 z4 z5 z6 z7 z8 z9 z10
      have he : (rcells x (some ⟨ga1, 0, none⟩) ca1).toArray = #[.int .u8 t0, .int .u8 t1, .int .u8 t2, .int .u8 t3, .int .u8 t4, .int .u8 t5, .int .u8 t6, .int .u8 t7, .int .i64 x.num, .slice (some ⟨ga1, 0, none⟩) x.adds.length ca1, .int .i64 x.till] := by unfold rcells; rw [HT.out]; rfl
      have fin : ∀ W9, Kept (fun q => q = w.heap.size) wr W9 → Opened w x k (.returned (.tuple #[.agg #[.int .u8 t0, .int .u8 t1, .int .u8 t2, .int .u8 t3, .int .u8 t4, .int .u8 t5, .int .u8 t6, .int .u8 t7, .int .i64 x.num, .slice (some ⟨ga1, 0, none⟩) x.adds.length ca1, .int .i64 x.till], .slice (some ⟨gl, 0, none⟩) k k, .bool true])) W9 :=
        fun W9 kk => ⟨ga1, ca1, gl, by rw [he], xr.adds.kept kk (by omega), ow.kept kk (by omega), by omega, hge, hne2, fr.trans (kk.to_below fr.size (fun q hq => by omega))⟩
      refine fin _ ?_
      iterate 11 (refine kept_set ?_)
      exact Kept.refl _ _
end Go.Proofs.Ytdbffjipoiphpaa
