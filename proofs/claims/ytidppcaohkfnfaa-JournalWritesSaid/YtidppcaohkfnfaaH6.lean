
/-
  packages hash and baizeref02: the digest of bytes.
-/
import Derived.Test.YtidppcaohkfnfaaH5
namespace Go.Proofs.Ytidppcaohkfnfaa
open Go.RowKit

theorem bytesS_eq (s : S4) (l : List UInt8) (n : Nat) (h : n = l.length) : bytesS s l = inS (inS (wordsTo l s (n / 8)) (num8 (word l (n / 8)))) n := by
  subst h
  rfl

set_option maxHeartbeats 1000000 in
set_option maxRecDepth 100000 in
theorem bytesH_any (g t : Nat) (s : S4) (A : Option Addr) (n c : Nat) (l : List UInt8) (w : World) (hb : Blk w g t (sc s)) (hr : RIn (fun k => k ≠ g) w A n l) (hc : n ≤ c) (hn : c ≤ 9223372036854775807) :
    Calls Try.prog 64 #[.pointer (some ⟨g, 0, none⟩), .slice A n c] w fun e w' => e = .returned (.tuple #[]) ∧ Blk w' g t (sc (bytesS s l)) ∧ Kept (fun k => k = g) w w' := by
  have HE := Lib.hid (bytesS_eq s l n hr.1)
  go_enter Try.func64, Try.ntmps64
  go_wp2_with fail
  refine (whole_any g t s A n c l w hb hr hc hn).mono ?_
  rintro e w1 ⟨rfl, hb1, k1⟩
  go_wp2_with fail
  refine (end_any g t _ A n c l w1 hb1 (hr.kept k1 (fun _ h => h)) hc hn).mono ?_
  rintro e w2 ⟨rfl, hb2, k2⟩
  go_wp2_with fail
  go_end0
  exact ⟨rfl, by rw [HE.out]; exact hb2, k1.trans k2⟩

set_option maxHeartbeats 1000000 in
set_option maxRecDepth 100000 in
theorem begin_any (k : Int) (w : World) :
    Calls Try.prog 63 #[.int .u64 k] w fun e w' => e = .returned (sv (beg k)) ∧ Below w.heap.size w w' := by
  go_enter Try.func63, Try.ntmps63
  go_wp2_with fail
  exact bodyPost_ret (v := sv (beg k)) (by simp [results, Try.results63, go_sem, beg]) rfl ⟨rfl, (Below.refl _ w).al _⟩
set_option maxHeartbeats 1000000 in
set_option maxRecDepth 100000 in
theorem refBegin_any (k : Int) (w : World) :
    Calls Try.prog 60 #[.int .u64 k] w fun e w' => e = .returned (sv (beg k)) ∧ Below w.heap.size w w' := by
  go_enter Try.func60, Try.ntmps60
  go_wp2_with fail
  exact bodyPost_ret (v := sv (beg k)) (by simp [results, Try.results60, go_sem, beg]) rfl ⟨rfl, (Below.refl _ w).al _⟩

set_option maxHeartbeats 1000000 in
set_option maxRecDepth 100000 in
theorem hashOf_any (A : Option Addr) (n c : Nat) (l : List UInt8) (w : World) (hr : RB w A n l) (hc : n ≤ c) (hn : c ≤ 9223372036854775807) :
    Calls Try.prog 49 #[.slice A n c] w fun e w' => e = .returned (dv (hashOf l)) ∧ Below w.heap.size w w' := by
  go_enter Try.func49, Try.ntmps49
  go_wp2_with fail
  have y0 := Blk.new w 88 zero8
  have f0 := (Below.refl _ w).al (.cells zero8 88)
  refine (begin_any _ _).mono ?_
  rintro e w1 ⟨rfl, b1⟩
  have y1 := y0.below b1 y0.lt
  have f1 := f0.then_ b1
  have z1 := y1.lt
  clear y0 f0 b1
  go_wp2_with fail
  have x2 := Blk.new w1 107 (sc (beg 1))
  have f2 : Below w.heap.size w (w1.alloc (.cells (sc (beg 1)) 107)) := f1.al _
  have y2 := y1.alloc (.cells (sc (beg 1)) 107)
  have r2 : RIn (fun k => k ≠ w1.heap.size) (w1.alloc (.cells (sc (beg 1)) 107)) A n l := by
    refine ⟨hr.len, fun h0 => ?_⟩
    obtain ⟨ad, e, hb, hcell⟩ := hr.2 h0
    have hs := f1.size
    exact ⟨ad, e, by show ad.block ≠ _; omega, Nat.lt_of_lt_of_le hb f2.size, fun j u hu => (f2.cell (by rw [block_of_add]; exact hb)).trans (hcell j u hu)⟩
  refine (bytesH_any w1.heap.size _ (beg 1) A n c l _ x2 r2 hc hn).mono ?_
  rintro e w3 ⟨rfl, x3, k3⟩
  have y3 := y2.kept k3 (fun h => by omega)
  have f3 : Below w.heap.size w w3 := f2.trans (k3.to_below f2.size (fun k hk h => by omega))
  have y3l := y3.lt
  clear x2 y2 r2 f2 k3 f1 y1
  go_wp2_with fail
  refine (gives_any w1.heap.size _ _ w3 x3).mono ?_
  rintro e w4 ⟨rfl, b4⟩
  have f4 := f3.then_ b4
  obtain ⟨⟨k0, k1, k2, k3, k4, k5, k6, k7⟩, q0, q1, q2, q3, q4, q5, q6, q7⟩ := (y3.below b4 y3l).eight
  go_wp2_with fail
  refine bodyPost_ret (v := dv (hashOf l)) (by simp [results, Try.results49, go_sem, hashOf, k0, k1, k2, k3, k4, k5, k6, k7]) rfl ⟨rfl, ?_⟩
  exact Below.set8 f4 (Nat.le_refl _) _ _ _ _ _ _ _ _

/-- Two blocks of a walk of the reference. -/
theorem blk_two (w : World) (t u : TypeId) (C D : Array Value) : Blk ((w.alloc (.cells C t)).alloc (.cells D u)) w.heap.size t C ∧ Blk ((w.alloc (.cells C t)).alloc (.cells D u)) (w.heap.size + 1) u D := by
  refine ⟨(Blk.new w t C).alloc _, ?_⟩
  have := Blk.new (w.alloc (.cells C t)) u D
  simpa using this

set_option maxHeartbeats 1000000 in
set_option maxRecDepth 100000 in
theorem refIn_any (s : S4) (n : Int) (w : World) :
    Calls Try.prog 73 #[sv s, .int .u64 n] w fun e w' => e = .returned (sv (inS s n)) ∧ Below w.heap.size w w' := by
  go_enter Try.func73, Try.ntmps73
  go_wp2_with fail
  rw [show bits .xor .u64 s.a n = xr s.a n from rfl]
  have y0 := (blk_two w 103 103 (sc ⟨xr s.a n, s.b, s.c, s.d⟩) #[.int .u64 0, .int .u64 0, .int .u64 0, .int .u64 0]).2
  have f0 : Below w.heap.size w ((w.alloc (.cells (sc ⟨xr s.a n, s.b, s.c, s.d⟩) 103)).alloc (.cells #[.int .u64 0, .int .u64 0, .int .u64 0, .int .u64 0] 103)) := ((Below.refl _ w).al _).al _
  refine (refStir_any ⟨xr s.a n, s.b, s.c, s.d⟩ _).mono ?_
  rintro e w1 ⟨rfl, b1⟩
  have f1 := f0.then_ b1
  have y1 := y0.below b1 y0.lt
  obtain ⟨k0, k1, k2, k3⟩ := y1.four
  have q0 := y1.frozen 0
  have q1 := y1.frozen 1
  have q2 := y1.frozen 2
  have q3 := y1.frozen 3
  go_wp2_with fail
  refine bodyPost_ret (v := sv (inS s n)) (by simp [results, Try.results73, go_sem, inS, k0, k1, k2, k3]) rfl ⟨rfl, ?_⟩
  exact (((f1.setCell (by simp) _).setCell (by simp) _).setCell (by simp) _).setCell (by simp) _

set_option maxHeartbeats 1000000 in
set_option maxRecDepth 100000 in
theorem refOut_any (s : S4) (w : World) :
    Calls Try.prog 58 #[sv s] w fun e w' => e = .returned (dv (outS s)) ∧ Below w.heap.size w w' := by
  have hr := xr_range s.a s.c
  go_enter Try.func58, Try.ntmps58
  go_wp2_with fail
  rw [show bits .xor .u64 s.a s.c = xr s.a s.c from rfl]
  have y0 := (blk_two w 103 82 (sc s) zero8).2
  have f0 : Below w.heap.size w ((w.alloc (.cells (sc s) 103)).alloc (.cells zero8 82)) := ((Below.refl _ w).al _).al _
  refine (refFromNum_any (xr s.a s.c) _ hr.1 hr.2).mono ?_
  rintro e w1 ⟨rfl, b1⟩
  have f1 := f0.then_ b1
  obtain ⟨⟨k0, k1, k2, k3, k4, k5, k6, k7⟩, q0, q1, q2, q3, q4, q5, q6, q7⟩ := (y0.below b1 y0.lt).eight
  go_wp2_with fail
  refine bodyPost_ret (v := dv (outS s)) (by simp [results, Try.results58, go_sem, outS, k0, k1, k2, k3, k4, k5, k6, k7]) rfl ⟨rfl, ?_⟩
  exact Below.set8 f1 (by simp) _ _ _ _ _ _ _ _
end Go.Proofs.Ytidppcaohkfnfaa
