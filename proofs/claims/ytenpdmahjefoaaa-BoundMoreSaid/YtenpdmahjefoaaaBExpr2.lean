/-
  package bound: expr.
-/
import Derived.Test.YtenpdmahjefoaaaBExpr
namespace Go.Proofs.Ytenpdmahjefoaaa
open Go.RowKit

theorem cost_zero (w : World) : (zeroValue 54).run Try.prog w = .ok (.agg #[.int .i64 0, .bool false]) w := by kernel_rfl

set_option maxHeartbeats 2000000 in
set_option maxRecDepth 100000 in
theorem expr_known (n : Nat) (HE : ExprOk n) (op N : Int) (nm : ByteArray) (A : Option Addr) (len cap i own : Nat) (parts : Bool) (ks : List Nat) (r1 r2 : Nat) (w : World) (hm : MapIs w r1 tabE 3) (hel : Els w w.heap.size 4 (EC w w.heap.size n) A len ks)
    (hf : Instr.findNow (.int .i64) (.int .i64 op) tabE.toList 0 = some (some (i, .agg #[.int .i64 own, .bool parts]))) (ho : own ≤ 100) :
    Calls Try.prog 22 #[ctr r1 r2, .agg #[.int .i64 op, .int .i64 N, .string nm, .slice A len cap]] w
      fun e w' => e = .returned (.int .i64 (capT (own + if parts then ks.sum else 0) : Nat)) ∧ Below w.heap.size w w' := by
  have HE' := Lib.hid HE
  have hlk : ∀ o1 o2, (Instr.lookup 44 (.map (some r1)) (.int .i64 op) true).run Try.prog ((w.alloc o1).alloc o2) = .ok (.tuple #[.agg #[.int .i64 own, .bool parts], .bool true]) ((w.alloc o1).alloc o2) :=
    fun o1 o2 => run_lookup_known Try.underlying44 Try.underlying3 (hm.below (((Below.refl _ _).al o1).al o2)) hf
  clear HE
  unfold ctr
  go_enter Try.func22, Try.ntmps22
  go_wp2_with fail
  clear hlk
  refine (sum_any _ _).mono ?_
  rintro e w1 ⟨b, rfl, hb1, hlb, hbel1⟩
  obtain ⟨hx, hy, hz, hbw⟩ := blks3 hbel1
  simp at hlb
  clear hbel1
  have x0 : w1.cell? ⟨w.heap.size, 0, none⟩ = some (.map (some r1)) := hx.cell 0
  have x1 : w1.cell? ⟨w.heap.size, 1, none⟩ = some (.map (some r2)) := hx.cell 1
  have y3 : w1.cell? ⟨w.heap.size + 1, 3, none⟩ = some (.slice A len cap) := hy.cell 3
  have z1 : w1.cell? ⟨w.heap.size + 1 + 1, 1, none⟩ = some (.bool parts) := hz.cell 1
  cases parts
  · go_wp2_with fail
    refine (sum1_any own 0 b _ hb1 (by omega) (by omega)).mono ?_
    rintro e w2 ⟨rfl, hb2, hk2⟩
    go_wp2_with fail
    go_ret
    exact ⟨by simp, hbw.trans (hk2.to_below hbw.size (fun k hk => by omega))⟩
  · go_wp2_with fail
    have hb1' : Blk w1 b 3 #[.int .i64 (capT own : Int)] := by rw [capT_small (by omega)]; exact hb1
    refine (all_any n HE'.out r1 r2 b own w.heap.size A len cap ks _ (hm.below hbw) hb1' (by omega) (hel.keep hbw (Nat.le_refl _) (EC.keep hbw (Nat.le_refl _) n))).mono ?_
    rintro e w2 ⟨rfl, hb2, hk2⟩
    go_wp2_with fail
    refine (sum1_any _ 0 b _ hb2 (capT_le _) (by omega)).mono ?_
    rintro e w3 ⟨rfl, hb3, hk3⟩
    go_wp2_with fail
    go_ret
    exact ⟨by simp [capT_cap], hbw.trans ((hk2.trans hk3).to_below hbw.size (fun k hk => by omega))⟩

set_option maxHeartbeats 2000000 in
set_option maxRecDepth 100000 in
theorem expr_missing (n : Nat) (HE : ExprOk n) (op N : Int) (nm : ByteArray) (A : Option Addr) (len cap : Nat) (ks : List Nat) (r1 r2 : Nat) (w : World) (hm : MapIs w r1 tabE 3) (hel : Els w w.heap.size 4 (EC w w.heap.size n) A len ks)
    (hf : Instr.findNow (.int .i64) (.int .i64 op) tabE.toList 0 = some none) :
    Calls Try.prog 22 #[ctr r1 r2, .agg #[.int .i64 op, .int .i64 N, .string nm, .slice A len cap]] w
      fun e w' => e = .returned (.int .i64 (capT (2 + ks.sum) : Nat)) ∧ Below w.heap.size w w' := by
  have HE' := Lib.hid HE
  have hlk : ∀ o1 o2, (Instr.lookup 44 (.map (some r1)) (.int .i64 op) true).run Try.prog ((w.alloc o1).alloc o2) = .ok (.tuple #[.agg #[.int .i64 0, .bool false], .bool false]) ((w.alloc o1).alloc o2) :=
    fun o1 o2 => run_lookup_missing Try.underlying44 Try.underlying3 (hm.below (((Below.refl _ _).al o1).al o2)) hf (cost_zero _)
  clear HE
  unfold ctr
  go_enter Try.func22, Try.ntmps22
  go_wp2_with fail
  clear hlk
  refine (sum_any _ _).mono ?_
  rintro e w1 ⟨b, rfl, hb1, hlb, hbel1⟩
  obtain ⟨hx, hy, hz, hbw⟩ := blks3 hbel1
  simp at hlb
  clear hbel1
  have x0 : w1.cell? ⟨w.heap.size, 0, none⟩ = some (.map (some r1)) := hx.cell 0
  have x1 : w1.cell? ⟨w.heap.size, 1, none⟩ = some (.map (some r2)) := hx.cell 1
  have y3 : w1.cell? ⟨w.heap.size + 1, 3, none⟩ = some (.slice A len cap) := hy.cell 3
  have z1 : w1.cell? ⟨w.heap.size + 1 + 1, 1, none⟩ = some (.bool true) := hz.cell 1
  go_wp2_with fail
  have hb1' : Blk w1 b 3 #[.int .i64 (capT 2 : Int)] := hb1
  refine (all_any n HE'.out r1 r2 b 2 w.heap.size A len cap ks _ (hm.below hbw) hb1' (by omega) (hel.keep hbw (Nat.le_refl _) (EC.keep hbw (Nat.le_refl _) n))).mono ?_
  rintro e w2 ⟨rfl, hb2, hk2⟩
  go_wp2_with fail
  refine (sum1_any _ 0 b _ hb2 (capT_le _) (by omega)).mono ?_
  rintro e w3 ⟨rfl, hb3, hk3⟩
  go_wp2_with fail
  go_ret
  exact ⟨by simp [capT_cap], hbw.trans ((hk2.trans hk3).to_below hbw.size (fun k hk => by omega))⟩

theorem same_not (op c : Int) (h : op ≠ c) : Instr.sameNow (.int .i64) (.int .i64 op) (.int .i64 c) = some false := by simp [Instr.sameNow, h]
theorem find_none (op : Int) (h0 : op ≠ 0) (h1 : op ≠ 1) (h2 : op ≠ 2) : Instr.findNow (.int .i64) (.int .i64 op) tabE.toList 0 = some none := by
  simp [tabE, Instr.findNow, same_not op 0 h0, same_not op 1 h1, same_not op 2 h2]

theorem expr_any : ∀ n, ExprOk n := by
  intro n
  induction n with
  | zero => intro cs k r1 r2 w h _; exact absurd h id
  | succ n ih =>
    intro cs k r1 r2 w h hm
    obtain ⟨op, N, nm, A, len, cap, ks, rfl, hel, rfl⟩ := h
    by_cases h0 : op = 0
    · subst h0
      exact expr_known n ih 0 N nm A len cap 0 1 false ks r1 r2 w hm hel rfl (by omega)
    by_cases h1 : op = 1
    · subst h1
      exact expr_known n ih 1 N nm A len cap 1 1 false ks r1 r2 w hm hel rfl (by omega)
    by_cases h2 : op = 2
    · subst h2
      exact expr_known n ih 2 N nm A len cap 2 6 true ks r1 r2 w hm hel rfl (by omega)
    have := expr_missing n ih op N nm A len cap ks r1 r2 w hm hel (find_none op h0 h1 h2)
    rw [costE, if_neg (by omega), if_neg h2]
    exact this
end Go.Proofs.Ytenpdmahjefoaaa
