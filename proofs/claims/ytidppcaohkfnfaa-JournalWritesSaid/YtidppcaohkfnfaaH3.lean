
/-
  packages hash and baizeref02: a number is taken in.
-/
import Derived.Test.YtidppcaohkfnfaaH2
import Derived.StillTailTactics
namespace Go.Proofs.Ytidppcaohkfnfaa
open Go.RowKit

/-- A state, in an array. -/
abbrev sv (s : S4) : Value := .agg #[.int .u64 s.a, .int .u64 s.b, .int .u64 s.c, .int .u64 s.d]
/-- A state's cells. -/
abbrev sc (s : S4) : Array Value := #[.int .u64 s.a, .int .u64 s.b, .int .u64 s.c, .int .u64 s.d]
/-- A number is taken in. -/
def inS (s : S4) (n : Int) : S4 := stirS ⟨xr s.a n, s.b, s.c, s.d⟩

theorem Blk.four {w : World} {g : Nat} {t : TypeId} {c0 c1 c2 c3 : Value} (h : Blk w g t #[c0, c1, c2, c3]) :
    w.cell? ⟨g, 0, none⟩ = some c0 ∧ w.cell? ⟨g, 1, none⟩ = some c1 ∧ w.cell? ⟨g, 2, none⟩ = some c2 ∧ w.cell? ⟨g, 3, none⟩ = some c3 := ⟨h.cell 0, h.cell 1, h.cell 2, h.cell 3⟩

set_option maxHeartbeats 1000000 in
set_option maxRecDepth 100000 in
theorem take_any (g t : Nat) (s : S4) (n : Int) (w : World) (hb : Blk w g t (sc s)) :
    Calls Try.prog 80 #[.pointer (some ⟨g, 0, none⟩), .int .u64 n] w fun e w' => e = .returned (.tuple #[]) ∧ Blk w' g t (sc (inS s n)) ∧ Kept (fun k => k = g) w w' := by
  have c0 : w.cell? ⟨g, 0, none⟩ = some (.int .u64 s.a) := hb.cell 0
  have f0 := hb.frozen 0
  go_enter Try.func80, Try.ntmps80
  go_wp2
  go_still_tail 8, (by kernel_rfl)
  change wpList _ _ _ _ _ w.drew
  have k1 : Kept (fun k => k = g) w (w.setCell ⟨g, 0, none⟩ (.int .u64 (xr s.a n))).drew := ((Kept.refl (fun k => k = g) w).setCell (p := ⟨g, 0, none⟩) (fun _ => rfl) _).drew
  have b1 : Blk (w.setCell ⟨g, 0, none⟩ (.int .u64 (xr s.a n))).drew g t (sc ⟨xr s.a n, s.b, s.c, s.d⟩) := (hb.set_ 0 _).drew
  go_wp2_with fail
  rw [show bits .xor .u64 s.a n = xr s.a n from rfl]
  generalize (w.setCell ⟨g, 0, none⟩ (.int .u64 (xr s.a n))).drew = w1 at *
  refine (stir_any g t _ w1 b1).mono ?_
  rintro e w2 ⟨rfl, b2, k2⟩
  go_wp2_with fail
  go_end0
  exact ⟨rfl, b2, k1.trans k2⟩

/-- A state of the reference in block g, what is new below it. -/
structure St (w : World) (g : Nat) (s : S4) (wr : World) : Prop where
  own : Blk wr g 103 (sc s)
  res : Blk wr (g + 1) 103 #[.int .u64 0, .int .u64 0, .int .u64 0, .int .u64 0]
  lo : w.heap.size ≤ g
  fr : Below w.heap.size w wr
theorem St.set_ {w wr : World} {g : Nat} {s s' : S4} (h : St w g s wr) (i : Nat) (u : Value) (hs : (sc s).setIfInBounds i u = sc s') : St w g s' (wr.setCell ⟨g, i, none⟩ u) := by
  refine ⟨?_, h.res.far (by simp) _, h.lo, h.fr.setCell h.lo _⟩
  have := h.own.set_ i u
  rw [hs] at this
  exact this

set_option maxHeartbeats 4000000 in
set_option maxRecDepth 100000 in
theorem refStir_any (s : S4) (w : World) :
    Calls Try.prog 79 #[sv s] w fun e w' => e = .returned (sv (stirS s)) ∧ Below w.heap.size w w' := by
  go_enter Try.func79, Try.ntmps79
  go_wp2
  have x0 := (Blk.new w 103 (sc s)).alloc (.cells #[.int .u64 0, .int .u64 0, .int .u64 0, .int .u64 0] 103)
  have y0 : Blk ((w.alloc (.cells (sc s) 103)).alloc (.cells #[.int .u64 0, .int .u64 0, .int .u64 0, .int .u64 0] 103)) (w.heap.size + 1) 103 #[.int .u64 0, .int .u64 0, .int .u64 0, .int .u64 0] := by
    have := Blk.new (w.alloc (.cells (sc s) 103)) 103 #[.int .u64 0, .int .u64 0, .int .u64 0, .int .u64 0]
    simpa using this
  have z0 : Below w.heap.size w ((w.alloc (.cells (sc s) 103)).alloc (.cells #[.int .u64 0, .int .u64 0, .int .u64 0, .int .u64 0] 103)) := ((Below.refl _ w).al _).al _
  generalize ((w.alloc (.cells (sc s) 103)).alloc (.cells #[.int .u64 0, .int .u64 0, .int .u64 0, .int .u64 0] 103)) = W at *
  go_loopw [3] (fun i wr => ∃ k : Nat, k ≤ 6 ∧ i = .int .u64 (k + 1) ∧ St w w.heap.size (stirTo k s) wr) (fun i _ => 7 - (intOf i).toNat)
  case atStart => exact ⟨0, by omega, rfl, ⟨x0, y0, Nat.le_refl _, z0⟩⟩
  case round =>
    clear x0 y0 z0
    obtain ⟨k, hk, rfl, st⟩ := hrel
    by_cases hlt : k < 6
    · have HS : Hid (stirTo (k + 1) s = rnd ((k : Int) + 1) (stirTo k s)) := rfl
      generalize stirTo k s = s' at *
      obtain ⟨c0, c1, c2, c3⟩ := st.own.four
      have f0 := st.own.frozen 0
      have f1 := st.own.frozen 1
      have f2 := st.own.frozen 2
      have f3 := st.own.frozen 3
      go_wp2_with fail
      refine (left32 _ _).mono ?_
      rintro e w' ⟨rfl, rfl⟩
      rw [show (bits BinOp.xor IntKind.u64 (IntKind.u64.wrap (s'.a + s'.b)) ((k : Int) + 1)) = rndA ((k : Int) + 1) s' from rfl]
      rw [show (rot 4294967296 4294967296 (bits BinOp.xor IntKind.u64 s'.d (rndA ((k : Int) + 1) s'))) = rndD ((k : Int) + 1) s' from rfl]
      have st1 := st.set_ (s' := ⟨rndA ((k : Int) + 1) s', s'.b, s'.c, s'.d⟩) 0 (.int .u64 (rndA ((k : Int) + 1) s')) rfl
      generalize wr.setCell ⟨w.heap.size, 0, none⟩ (.int .u64 (rndA ((k : Int) + 1) s')) = W1 at *
      clear c0 c1 c2 c3 f0 f1 f2 f3 st
      obtain ⟨c0, c1, c2, c3⟩ := st1.own.four
      have f0 := st1.own.frozen 0
      have f1 := st1.own.frozen 1
      have f2 := st1.own.frozen 2
      have f3 := st1.own.frozen 3
      go_wp2_with fail
      refine (left24 _ _).mono ?_
      rintro e w' ⟨rfl, rfl⟩
      rw [show (IntKind.u64.wrap (s'.c + rndD ((k : Int) + 1) s')) = rndC ((k : Int) + 1) s' from rfl]
      rw [show (rot 16777216 1099511627776 (bits BinOp.xor IntKind.u64 s'.b (rndC ((k : Int) + 1) s'))) = rndB ((k : Int) + 1) s' from rfl]
      have st2 := (st1.set_ (s' := ⟨rndA ((k : Int) + 1) s', s'.b, s'.c, rndD ((k : Int) + 1) s'⟩) 3 (.int .u64 (rndD ((k : Int) + 1) s')) rfl).set_ (s' := ⟨rndA ((k : Int) + 1) s', s'.b, rndC ((k : Int) + 1) s', rndD ((k : Int) + 1) s'⟩) 2 (.int .u64 (rndC ((k : Int) + 1) s')) rfl
      generalize (W1.setCell ⟨w.heap.size, 3, none⟩ (.int .u64 (rndD ((k : Int) + 1) s'))).setCell ⟨w.heap.size, 2, none⟩ (.int .u64 (rndC ((k : Int) + 1) s')) = W2 at *
      clear c0 c1 c2 c3 f0 f1 f2 f3 st1
      obtain ⟨c0, c1, c2, c3⟩ := st2.own.four
      have f0 := st2.own.frozen 0
      have f1 := st2.own.frozen 1
      have f2 := st2.own.frozen 2
      have f3 := st2.own.frozen 3
      go_wp2_with fail
      refine (left16 _ _).mono ?_
      rintro e w' ⟨rfl, rfl⟩
      rw [show (IntKind.u64.wrap (rndA ((k : Int) + 1) s' + rndB ((k : Int) + 1) s')) = rndA2 ((k : Int) + 1) s' from rfl]
      rw [show (rot 65536 281474976710656 (bits BinOp.xor IntKind.u64 (rndD ((k : Int) + 1) s') (rndA2 ((k : Int) + 1) s'))) = rndD2 ((k : Int) + 1) s' from rfl]
      have st3 := (st2.set_ (s' := ⟨rndA ((k : Int) + 1) s', rndB ((k : Int) + 1) s', rndC ((k : Int) + 1) s', rndD ((k : Int) + 1) s'⟩) 1 (.int .u64 (rndB ((k : Int) + 1) s')) rfl).set_ (s' := ⟨rndA2 ((k : Int) + 1) s', rndB ((k : Int) + 1) s', rndC ((k : Int) + 1) s', rndD ((k : Int) + 1) s'⟩) 0 (.int .u64 (rndA2 ((k : Int) + 1) s')) rfl
      generalize (W2.setCell ⟨w.heap.size, 1, none⟩ (.int .u64 (rndB ((k : Int) + 1) s'))).setCell ⟨w.heap.size, 0, none⟩ (.int .u64 (rndA2 ((k : Int) + 1) s')) = W3 at *
      clear c0 c1 c2 c3 f0 f1 f2 f3 st2
      obtain ⟨c0, c1, c2, c3⟩ := st3.own.four
      have f0 := st3.own.frozen 0
      have f1 := st3.own.frozen 1
      have f2 := st3.own.frozen 2
      have f3 := st3.own.frozen 3
      go_wp2_with fail
      refine (left63 _ _).mono ?_
      rintro e w' ⟨rfl, rfl⟩
      rw [show (IntKind.u64.wrap (rndC ((k : Int) + 1) s' + rndD2 ((k : Int) + 1) s')) = rndC2 ((k : Int) + 1) s' from rfl]
      rw [show (rot 9223372036854775808 2 (bits BinOp.xor IntKind.u64 (rndB ((k : Int) + 1) s') (rndC2 ((k : Int) + 1) s'))) = rndB2 ((k : Int) + 1) s' from rfl]
      have st4 := ((st3.set_ (s' := ⟨rndA2 ((k : Int) + 1) s', rndB ((k : Int) + 1) s', rndC ((k : Int) + 1) s', rndD2 ((k : Int) + 1) s'⟩) 3 (.int .u64 (rndD2 ((k : Int) + 1) s')) rfl).set_ (s' := ⟨rndA2 ((k : Int) + 1) s', rndB ((k : Int) + 1) s', rndC2 ((k : Int) + 1) s', rndD2 ((k : Int) + 1) s'⟩) 2 (.int .u64 (rndC2 ((k : Int) + 1) s')) rfl)
      generalize (W3.setCell ⟨w.heap.size, 3, none⟩ (.int .u64 (rndD2 ((k : Int) + 1) s'))).setCell ⟨w.heap.size, 2, none⟩ (.int .u64 (rndC2 ((k : Int) + 1) s')) = W4 at *
      clear c0 c1 c2 c3 f0 f1 f2 f3 st3
      obtain ⟨c0, c1, c2, c3⟩ := st4.own.four
      have f1 := st4.own.frozen 1
      have st5 := st4.set_ (s' := rnd ((k : Int) + 1) s') 1 (.int .u64 (rndB2 ((k : Int) + 1) s')) rfl
      rw [← HS.out] at st5
      have HT := Lib.hid st5
      clear st5 st4
      go_wp2_with fail
      go_roundw
      case rel => exact ⟨k + 1, by omega, by go_num, HT.out⟩
      case measure => simp [intOf]; omega
    · obtain rfl : k = 6 := by omega
      have hs : stirTo 6 s = stirS s := rfl
      rw [hs] at st
      obtain ⟨s', hs'⟩ : ∃ s', stirS s = s' := ⟨_, rfl⟩
      rw [hs'] at st
      have HS := Lib.hid hs'
      clear hs hs'
      obtain ⟨c0, c1, c2, c3⟩ := st.own.four
      obtain ⟨d0, d1, d2, d3⟩ := st.res.four
      have f0 := st.res.frozen 0
      have f1 := st.res.frozen 1
      have f2 := st.res.frozen 2
      have f3 := st.res.frozen 3
      have hlo := st.lo
      go_wp2_with fail
      refine bodyPost_ret (v := sv s') (by simp [results, Try.results79, go_sem, d0, d1, d2, d3]) rfl ⟨by rw [HS.out], ?_⟩
      exact (((st.fr.setCell (by simp) _).setCell (by simp) _).setCell (by simp) _).setCell (by simp) _
end Go.Proofs.Ytidppcaohkfnfaa
