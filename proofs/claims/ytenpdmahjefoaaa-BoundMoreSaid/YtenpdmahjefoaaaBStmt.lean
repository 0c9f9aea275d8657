/-
  package bound: stmt.
-/
import Derived.Test.YtenpdmahjefoaaaBBlock
import Derived.Deep.RegionHeld3
namespace Go.Proofs.Ytenpdmahjefoaaa
open Go.RowKit

/-- The cells of a statement. -/
abbrev scells (kind lo hi : Int) (nm : ByteArray) (A0 A1 A2 : Option Addr) (l0 l1 l2 c0 c1 c2 : Nat) : Array Value :=
  #[.int .i64 kind, .string nm, .slice A0 l0 c0, .int .i64 lo, .int .i64 hi, .slice A1 l1 c1, .slice A2 l2 c2]

set_option maxHeartbeats 2000000 in
set_option maxRecDepth 100000 in
/-- A statement that is neither 'if' nor 'for'. -/
theorem stmt_known (n : Nat) (kind lo hi : Int) (nm : ByteArray) (A0 A1 A2 : Option Addr) (l0 l1 l2 c0 c1 c2 : Nat) (i own : Nat) (parts : Bool) (es : List Nat) (r1 r2 : Nat) (w : World) (hm : MapIs w r1 tabE 3) (hm2 : MapIs w r2 tabS 10)
    (hel : Els w w.heap.size 4 (EC w w.heap.size n) A0 l0 es) (k2 : (kind == 2) = false) (k3 : (kind == 3) = false)
    (hf : Instr.findNow (.int .i64) (.int .i64 kind) tabS.toList 0 = some (some (i, .agg #[.int .i64 own, .bool parts]))) (ho : own ≤ 100) :
    Calls Try.prog 26 #[ctr r1 r2, .agg (scells kind lo hi nm A0 A1 A2 l0 l1 l2 c0 c1 c2)] w
      fun e w' => e = .returned (.int .i64 (capT (own + if parts then es.sum else 0) : Nat)) ∧ Below w.heap.size w w' := by
  have hlk : ∀ o1 o2, (Instr.lookup 44 (.map (some r2)) (.int .i64 kind) true).run Try.prog ((w.alloc o1).alloc o2) = .ok (.tuple #[.agg #[.int .i64 own, .bool parts], .bool true]) ((w.alloc o1).alloc o2) :=
    fun o1 o2 => run_lookup_known Try.underlying44 Try.underlying3 (hm2.below (((Below.refl _ _).al o1).al o2)) hf
  unfold ctr scells
  go_enter Try.func26, Try.ntmps26
  go_wp2_with fail
  clear hlk
  refine (sum_any _ _).mono ?_
  rintro e w1 ⟨b, rfl, hb1, hlb, hbel1⟩
  obtain ⟨hx, hy, hz, hbw⟩ := blks3 hbel1
  simp at hlb
  clear hbel1
  have x0 : w1.cell? ⟨w.heap.size, 0, none⟩ = some (.map (some r1)) := hx.cell 0
  have x1 : w1.cell? ⟨w.heap.size, 1, none⟩ = some (.map (some r2)) := hx.cell 1
  have y0 : w1.cell? ⟨w.heap.size + 1, 0, none⟩ = some (.int .i64 kind) := hy.cell 0
  have y2 : w1.cell? ⟨w.heap.size + 1, 2, none⟩ = some (.slice A0 l0 c0) := hy.cell 2
  have z1 : w1.cell? ⟨w.heap.size + 1 + 1, 1, none⟩ = some (.bool parts) := hz.cell 1
  cases parts
  · go_wp2_with fail
    refine (sum1_any own 0 b _ hb1 (by omega) (by omega)).mono ?_
    rintro e w2 ⟨rfl, hb2, hk2⟩
    go_wp2_with fail
    go_ret
    exact ⟨by simp, hbw.trans (hk2.to_below hbw.size (fun k hk => by omega))⟩
  · go_wp2_with fail
    have hb1' : Blk w1 b 3 #[.int .i64 (capT own : Int)] := by rw [capT_small (by omega)]; exact hb1
    refine (all_any n (expr_any n) r1 r2 b own w.heap.size A0 l0 c0 es _ (hm.below hbw) hb1' (by omega) (hel.keep hbw (Nat.le_refl _) (EC.keep hbw (Nat.le_refl _) n))).mono ?_
    rintro e w2 ⟨rfl, hb2, hk2⟩
    have y0' : w2.cell? ⟨w.heap.size + 1, 0, none⟩ = some (.int .i64 kind) := (hk2.cell hy.lt (by show ¬ w.heap.size + 1 = b; omega)).trans y0
    go_wp2_with fail
    refine (sum1_any _ 0 b _ hb2 (capT_le _) (by omega)).mono ?_
    rintro e w3 ⟨rfl, hb3, hk3⟩
    go_wp2_with fail
    go_ret
    exact ⟨by simp [capT_cap], hbw.trans ((hk2.trans hk3).to_below hbw.size (fun k hk => by omega))⟩
end Go.Proofs.Ytenpdmahjefoaaa
