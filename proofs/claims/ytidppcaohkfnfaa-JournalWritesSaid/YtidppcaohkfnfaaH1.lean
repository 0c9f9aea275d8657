
/-
  packages hash and baizeref02: states of four words, and how they are stirred.
-/
import Derived.Test.YtidppcaohkfnfaaKept
import Derived.Test.YtidppcaohkfnfaaProg
import Derived.WalkMore
import Derived.Laws.BitsAllLaws
import Derived.Deep.DeepCutAuto
import Derived.Deep.RegionHeld3
namespace Go.Proofs.Ytidppcaohkfnfaa
open Go.RowKit

/-- Two words, by each bit. -/
def xr (a b : Int) : Int := bits .xor .u64 a b
/-- Two words together. -/
def ad (a b : Int) : Int := IntKind.u64.wrap (a + b)
/-- A word turned left: p is 2 to the power, q is 2 to what is left of 64. -/
def rot (p q x : Int) : Int := bits .or .u64 (IntKind.u64.wrap (x * p)) (x / q)

theorem and_32 : bits .and .u64 32 63 = 32 := by decide
theorem and_24 : bits .and .u64 24 63 = 24 := by decide
theorem and_16 : bits .and .u64 16 63 = 16 := by decide
theorem and_63 : bits .and .u64 63 63 = 63 := by decide

set_option maxRecDepth 100000 in
theorem rot32 (x : Int) (w : World) : Calls Try.prog 84 #[.int .u64 x, .int .i64 32] w fun e w' => e = .returned (.int .u64 (rot 4294967296 4294967296 x)) ∧ w = w' := by
  have h := and_32
  go_enter Try.func84, Try.ntmps84
  go_wp2
  go_ret
  exact ⟨rfl, rfl⟩
set_option maxRecDepth 100000 in
theorem rot24 (x : Int) (w : World) : Calls Try.prog 84 #[.int .u64 x, .int .i64 24] w fun e w' => e = .returned (.int .u64 (rot 16777216 1099511627776 x)) ∧ w = w' := by
  have h := and_24
  go_enter Try.func84, Try.ntmps84
  go_wp2
  go_ret
  exact ⟨rfl, rfl⟩
set_option maxRecDepth 100000 in
theorem rot16 (x : Int) (w : World) : Calls Try.prog 84 #[.int .u64 x, .int .i64 16] w fun e w' => e = .returned (.int .u64 (rot 65536 281474976710656 x)) ∧ w = w' := by
  have h := and_16
  go_enter Try.func84, Try.ntmps84
  go_wp2
  go_ret
  exact ⟨rfl, rfl⟩
set_option maxRecDepth 100000 in
theorem rot63 (x : Int) (w : World) : Calls Try.prog 84 #[.int .u64 x, .int .i64 63] w fun e w' => e = .returned (.int .u64 (rot 9223372036854775808 2 x)) ∧ w = w' := by
  have h := and_63
  go_enter Try.func84, Try.ntmps84
  go_wp2
  go_ret
  exact ⟨rfl, rfl⟩
set_option maxRecDepth 100000 in
theorem left32 (x : Int) (w : World) : Calls Try.prog 82 #[.int .u64 x, .int .u64 32] w fun e w' => e = .returned (.int .u64 (rot 4294967296 4294967296 x)) ∧ w = w' := by
  go_enter Try.func82, Try.ntmps82
  go_wp2
  go_ret
  exact ⟨rfl, rfl⟩
set_option maxRecDepth 100000 in
theorem left24 (x : Int) (w : World) : Calls Try.prog 82 #[.int .u64 x, .int .u64 24] w fun e w' => e = .returned (.int .u64 (rot 16777216 1099511627776 x)) ∧ w = w' := by
  go_enter Try.func82, Try.ntmps82
  go_wp2
  go_ret
  exact ⟨rfl, rfl⟩
set_option maxRecDepth 100000 in
theorem left16 (x : Int) (w : World) : Calls Try.prog 82 #[.int .u64 x, .int .u64 16] w fun e w' => e = .returned (.int .u64 (rot 65536 281474976710656 x)) ∧ w = w' := by
  go_enter Try.func82, Try.ntmps82
  go_wp2
  go_ret
  exact ⟨rfl, rfl⟩
set_option maxRecDepth 100000 in
theorem left63 (x : Int) (w : World) : Calls Try.prog 82 #[.int .u64 x, .int .u64 63] w fun e w' => e = .returned (.int .u64 (rot 9223372036854775808 2 x)) ∧ w = w' := by
  go_enter Try.func82, Try.ntmps82
  go_wp2
  go_ret
  exact ⟨rfl, rfl⟩

/-- A state. -/
structure S4 where
  a : Int
  b : Int
  c : Int
  d : Int
def r32 (x : Int) : Int := rot 4294967296 4294967296 x
def r24 (x : Int) : Int := rot 16777216 1099511627776 x
def r16 (x : Int) : Int := rot 65536 281474976710656 x
def r63 (x : Int) : Int := rot 9223372036854775808 2 x
def rndA (r : Int) (s : S4) : Int := xr (ad s.a s.b) r
def rndD (r : Int) (s : S4) : Int := r32 (xr s.d (rndA r s))
def rndC (r : Int) (s : S4) : Int := ad s.c (rndD r s)
def rndB (r : Int) (s : S4) : Int := r24 (xr s.b (rndC r s))
def rndA2 (r : Int) (s : S4) : Int := ad (rndA r s) (rndB r s)
def rndD2 (r : Int) (s : S4) : Int := r16 (xr (rndD r s) (rndA2 r s))
def rndC2 (r : Int) (s : S4) : Int := ad (rndC r s) (rndD2 r s)
def rndB2 (r : Int) (s : S4) : Int := r63 (xr (rndB r s) (rndC2 r s))
/-- A round. -/
def rnd (r : Int) (s : S4) : S4 := ⟨rndA2 r s, rndB2 r s, rndC2 r s, rndD2 r s⟩
def stirTo : Nat → S4 → S4
  | 0, s => s
  | k + 1, s => rnd ((k : Int) + 1) (stirTo k s)
/-- Six rounds. -/
def stirS (s : S4) : S4 := stirTo 6 s

set_option maxHeartbeats 1000000 in
set_option maxRecDepth 100000 in
theorem stir_any (g t : Nat) (s : S4) (w : World) (hb : Blk w g t #[.int .u64 s.a, .int .u64 s.b, .int .u64 s.c, .int .u64 s.d]) :
    Calls Try.prog 83 #[.pointer (some ⟨g, 0, none⟩)] w fun e w' => e = .returned (.tuple #[]) ∧ Blk w' g t #[.int .u64 (stirS s).a, .int .u64 (stirS s).b, .int .u64 (stirS s).c, .int .u64 (stirS s).d] ∧ Kept (fun k => k = g) w w' := by
  have c0 : w.cell? ⟨g, 0, none⟩ = some (.int .u64 s.a) := hb.cell 0
  have c1 : w.cell? ⟨g, 1, none⟩ = some (.int .u64 s.b) := hb.cell 1
  have c2 : w.cell? ⟨g, 2, none⟩ = some (.int .u64 s.c) := hb.cell 2
  have c3 : w.cell? ⟨g, 3, none⟩ = some (.int .u64 s.d) := hb.cell 3
  go_enter Try.func83, Try.ntmps83
  go_wp2
  go_quiet (fail)
  go_wp2
  clear c0 c1 c2 c3
  go_loop [2, 3, 4, 5, 23] (fun v2 v3 v4 v5 i => ∃ k : Nat, k ≤ 6 ∧ i = .int .u64 k ∧ v2 = .int .u64 (stirTo k s).a ∧ v3 = .int .u64 (stirTo k s).b ∧ v4 = .int .u64 (stirTo k s).c ∧ v5 = .int .u64 (stirTo k s).d) (fun _ _ _ _ i => 6 - (intOf i).toNat)
  case atStart => exact ⟨0, by omega, rfl, rfl, rfl, rfl, rfl⟩
  case round =>
    obtain ⟨k, hk, rfl, rfl, rfl, rfl, rfl⟩ := hrel
    by_cases hlt : k < 6
    · have HS : Hid (stirTo (k + 1) s = rnd ((k : Int) + 1) (stirTo k s)) := rfl
      generalize stirTo k s = s' at *
      go_wp2_with fail
      refine (rot32 _ _).mono ?_
      rintro e w' ⟨rfl, rfl⟩
      rw [show (bits BinOp.xor IntKind.u64 (IntKind.u64.wrap (s'.a + s'.b)) ((k : Int) + 1)) = rndA ((k : Int) + 1) s' from rfl]
      rw [show (rot 4294967296 4294967296 (bits BinOp.xor IntKind.u64 s'.d (rndA ((k : Int) + 1) s'))) = rndD ((k : Int) + 1) s' from rfl]
      go_wp2_with fail
      refine (rot24 _ _).mono ?_
      rintro e w' ⟨rfl, rfl⟩
      rw [show (IntKind.u64.wrap (s'.c + rndD ((k : Int) + 1) s')) = rndC ((k : Int) + 1) s' from rfl]
      rw [show (rot 16777216 1099511627776 (bits BinOp.xor IntKind.u64 s'.b (rndC ((k : Int) + 1) s'))) = rndB ((k : Int) + 1) s' from rfl]
      go_wp2_with fail
      refine (rot16 _ _).mono ?_
      rintro e w' ⟨rfl, rfl⟩
      rw [show (IntKind.u64.wrap (rndA ((k : Int) + 1) s' + rndB ((k : Int) + 1) s')) = rndA2 ((k : Int) + 1) s' from rfl]
      rw [show (rot 65536 281474976710656 (bits BinOp.xor IntKind.u64 (rndD ((k : Int) + 1) s') (rndA2 ((k : Int) + 1) s'))) = rndD2 ((k : Int) + 1) s' from rfl]
      go_wp2_with fail
      refine (rot63 _ _).mono ?_
      rintro e w' ⟨rfl, rfl⟩
      rw [show (IntKind.u64.wrap (rndC ((k : Int) + 1) s' + rndD2 ((k : Int) + 1) s')) = rndC2 ((k : Int) + 1) s' from rfl]
      rw [show (rot 9223372036854775808 2 (bits BinOp.xor IntKind.u64 (rndB ((k : Int) + 1) s') (rndC2 ((k : Int) + 1) s'))) = rndB2 ((k : Int) + 1) s' from rfl]
      go_wp2_with fail
      go_round
      case rel => exact ⟨k + 1, by omega, by go_num, by rw [HS.out]; rfl, by rw [HS.out]; rfl, by rw [HS.out]; rfl, by rw [HS.out]; rfl⟩
      case measure => simp [intOf]; omega
    · obtain rfl : k = 6 := by omega
      have hs : stirTo 6 s = stirS s := rfl
      rw [hs]
      have c0 : (w.drewN nq).cell? ⟨g, 0, none⟩ = some (.int .u64 s.a) := (hb.drewN nq).cell 0
      have c1 : (w.drewN nq).cell? ⟨g, 1, none⟩ = some (.int .u64 s.b) := (hb.drewN nq).cell 1
      have c2 : (w.drewN nq).cell? ⟨g, 2, none⟩ = some (.int .u64 s.c) := (hb.drewN nq).cell 2
      have c3 : (w.drewN nq).cell? ⟨g, 3, none⟩ = some (.int .u64 s.d) := (hb.drewN nq).cell 3
      have f0 := hb.frozen 0
      have f1 := hb.frozen 1
      have f2 := hb.frozen 2
      have f3 := hb.frozen 3
      obtain ⟨s', hs'⟩ : ∃ s', stirS s = s' := ⟨_, rfl⟩
      rw [hs']
      have HS := Lib.hid hs'
      clear hs' hs
      go_wp2_with fail
      go_end0
      refine ⟨rfl, ?_, ?_⟩
      rw [HS.out]
      · exact ((((hb.drewN nq).set_ 0 _).set_ 1 _).set_ 2 _).set_ 3 _
      · exact (((((Kept.refl (fun k => k = g) w).drewN nq).setCell (p := ⟨g, 0, none⟩) (fun _ => rfl) _).setCell (p := ⟨g, 1, none⟩) (fun _ => rfl) _).setCell (p := ⟨g, 2, none⟩) (fun _ => rfl) _).setCell (p := ⟨g, 3, none⟩) (fun _ => rfl) _
end Go.Proofs.Ytidppcaohkfnfaa
