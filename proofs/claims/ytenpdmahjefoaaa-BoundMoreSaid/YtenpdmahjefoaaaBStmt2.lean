/-
  package bound: stmt, of no kind and 'for'.
-/
import Derived.Test.YtenpdmahjefoaaaBStmt
namespace Go.Proofs.Ytenpdmahjefoaaa
open Go.RowKit

theorem wrap_mul {f cl : Nat} (h : (f + 1) * (4 + cl) ≤ 65537 * 65541) : wrap64 (((f : Int) + 1) * (4 + (cl : Int))) = (((f + 1) * (4 + cl) : Nat) : Int) := by
  have e : ((f : Int) + 1) * (4 + (cl : Int)) = (((f + 1) * (4 + cl) : Nat) : Int) := by simp
  rw [e]
  generalize (f + 1) * (4 + cl) = m at h
  unfold wrap64
  omega
theorem sub_wrap {lo hi : Int} {f : Nat} (h : lo ≤ hi) (h1 : -9223372036854775808 ≤ lo) (h2 : hi ≤ 9223372036854775807) (hf : hi - lo = (f : Int)) : IntKind.u64.wrap (IntKind.u64.wrap hi - IntKind.u64.wrap lo) = (f : Int) := by
  simp only [IntKind.wrap_u64]
  omega

set_option maxHeartbeats 2000000 in
set_option maxRecDepth 100000 in
/-- A statement of no kind. -/
theorem stmt_missing (kind lo hi : Int) (nm : ByteArray) (A0 A1 A2 : Option Addr) (l0 l1 l2 c0 c1 c2 : Nat) (r1 r2 : Nat) (w : World) (hm2 : MapIs w r2 tabS 10)
    (k2 : (kind == 2) = false) (k3 : (kind == 3) = false)
    (hf : Instr.findNow (.int .i64) (.int .i64 kind) tabS.toList 0 = some none) :
    Calls Try.prog 26 #[ctr r1 r2, .agg (scells kind lo hi nm A0 A1 A2 l0 l1 l2 c0 c1 c2)] w
      fun e w' => e = .returned (.int .i64 (1 : Nat)) ∧ Below w.heap.size w w' := by
  have hlk : ∀ o1 o2, (Instr.lookup 44 (.map (some r2)) (.int .i64 kind) true).run Try.prog ((w.alloc o1).alloc o2) = .ok (.tuple #[.agg #[.int .i64 0, .bool false], .bool false]) ((w.alloc o1).alloc o2) :=
    fun o1 o2 => run_lookup_missing Try.underlying44 Try.underlying3 (hm2.below (((Below.refl _ _).al o1).al o2)) hf (cost_zero _)
  unfold ctr scells
  go_enter Try.func26, Try.ntmps26
  go_wp2_with fail
  clear hlk
  refine (sum_any _ _).mono ?_
  rintro e w1 ⟨b, rfl, hb1, hlb, hbel1⟩
  obtain ⟨hx, hy, hz, hbw⟩ := blks3 hbel1
  simp at hlb
  clear hbel1
  have x0 : w1.cell? ⟨w.heap.size, 0, none⟩ = some (.map (some r1)) := hx.cell 0
  have x1 : w1.cell? ⟨w.heap.size, 1, none⟩ = some (.map (some r2)) := hx.cell 1
  have y0 : w1.cell? ⟨w.heap.size + 1, 0, none⟩ = some (.int .i64 kind) := hy.cell 0
  have y2 : w1.cell? ⟨w.heap.size + 1, 2, none⟩ = some (.slice A0 l0 c0) := hy.cell 2
  have z1 : w1.cell? ⟨w.heap.size + 1 + 1, 1, none⟩ = some (.bool false) := hz.cell 1
  go_wp2_with fail
  refine (sum1_any 1 0 b _ hb1 (by omega) (by omega)).mono ?_
  rintro e w2 ⟨rfl, hb2, hk2⟩
  go_wp2_with fail
  go_ret
  exact ⟨by simp [capT], hbw.trans (hk2.to_below hbw.size (fun k hk => by omega))⟩

set_option maxHeartbeats 2000000 in
set_option maxRecDepth 100000 in
/-- A 'for'. -/
theorem stmt_for (n : Nat) (lo hi : Int) (nm : ByteArray) (A0 A1 A2 : Option Addr) (l0 l1 l2 c0 c1 c2 : Nat) (ls : List Nat) (r1 r2 : Nat) (w : World) (hm : MapIs w r1 tabE 3) (hm2 : MapIs w r2 tabS 10)
    (HB : BlockOk n) (hel : Els w w.heap.size 7 (SC w w.heap.size n) A1 l1 ls) (r : -9223372036854775808 ≤ lo ∧ lo ≤ 9223372036854775807 ∧ -9223372036854775808 ≤ hi ∧ hi ≤ 9223372036854775807) :
    Calls Try.prog 26 #[ctr r1 r2, .agg (scells 3 lo hi nm A0 A1 A2 l0 l1 l2 c0 c1 c2)] w
      fun e w' => e = .returned (.int .i64 (capT (3 + rnds lo hi * (4 + capT ls.sum)) : Nat)) ∧ Below w.heap.size w w' := by
  have HB' := Lib.hid HB
  clear HB
  obtain ⟨rl1, rl2, rh1, rh2⟩ := r
  have hlk : ∀ o1 o2, (Instr.lookup 44 (.map (some r2)) (.int .i64 3) true).run Try.prog ((w.alloc o1).alloc o2) = .ok (.tuple #[.agg #[.int .i64 3, .bool false], .bool true]) ((w.alloc o1).alloc o2) :=
    fun o1 o2 => run_lookup_known Try.underlying44 Try.underlying3 (hm2.below (((Below.refl _ _).al o1).al o2)) (i := 3) rfl
  unfold ctr scells
  go_enter Try.func26, Try.ntmps26
  go_wp2_with fail
  clear hlk
  refine (sum_any _ _).mono ?_
  rintro e w1 ⟨b, rfl, hb1, hlb, hbel1⟩
  obtain ⟨hx, hy, hz, hbw⟩ := blks3 hbel1
  simp at hlb
  clear hbel1
  have x0 : w1.cell? ⟨w.heap.size, 0, none⟩ = some (.map (some r1)) := hx.cell 0
  have x1 : w1.cell? ⟨w.heap.size, 1, none⟩ = some (.map (some r2)) := hx.cell 1
  have y0 : w1.cell? ⟨w.heap.size + 1, 0, none⟩ = some (.int .i64 3) := hy.cell 0
  have y3 : w1.cell? ⟨w.heap.size + 1, 3, none⟩ = some (.int .i64 lo) := hy.cell 3
  have y4 : w1.cell? ⟨w.heap.size + 1, 4, none⟩ = some (.int .i64 hi) := hy.cell 4
  have y5 : w1.cell? ⟨w.heap.size + 1, 5, none⟩ = some (.slice A1 l1 c1) := hy.cell 5
  have z1 : w1.cell? ⟨w.heap.size + 1 + 1, 1, none⟩ = some (.bool false) := hz.cell 1
  by_cases hlh : lo ≤ hi
  · have HR : Hid (rnds lo hi = min (hi - lo).toNat 65536 + 1) := by rw [Hid, rnds, if_pos hlh]
    obtain ⟨f, hf⟩ : ∃ f : Nat, hi - lo = (f : Int) := ⟨(hi - lo).toNat, by omega⟩
    have hw : IntKind.u64.wrap (IntKind.u64.wrap hi - IntKind.u64.wrap lo) = (f : Int) := sub_wrap hlh rl1 rh2 hf
    rw [hf, Int.toNat_natCast] at HR
    have HF := Lib.hid hf
    clear hf
    by_cases hbig : (f : Int) ≤ 65536
    · go_wp2_with fail
      refine (HB'.out A1 l1 c1 ls r1 r2 _ (hel.keep hbw hbw.size (SC.keep hbw hbw.size n)) (hm.below hbw) (hm2.below hbw)).mono ?_
      rintro e w2 ⟨rfl, hb2⟩
      have hcl := capT_le ls.sum
      obtain ⟨cl, HCL⟩ : ∃ cl, Hid (capT ls.sum = cl) := ⟨_, rfl⟩
      rw [HCL.out] at hcl ⊢
      have hml : Hid ((f + 1) * (4 + cl) ≤ 65537 * 65541) := Nat.mul_le_mul (by omega) (by omega)
      have hb1' : Blk w2 b 3 #[.int .i64 ((3 : Nat) : Int)] := hb1.below hb2 hb1.lt
      go_wp2_with fail
      rw [show wrap64 (((f : Int) + 1) * (4 + (cl : Int))) = (((f + 1) * (4 + cl) : Nat) : Int) from wrap_mul hml.out]
      refine (sum1_any 3 _ b _ hb1' (by omega) (by have := hml.out; omega)).mono ?_
      rintro e w3 ⟨rfl, hb3, hk3⟩
      go_wp2_with fail
      refine (sum1_any _ 0 b _ hb3 (capT_le _) (by omega)).mono ?_
      rintro e w4 ⟨rfl, hb4, hk4⟩
      go_wp2_with fail
      go_ret
      have E : capT (capT (3 + (f + 1) * (4 + cl)) + 0) = capT (3 + rnds lo hi * (4 + capT ls.sum)) := by rw [HCL.out, HR.out, Nat.min_eq_left (by omega), Nat.add_zero, capT_cap]
      have hbw2 := hbw.trans (hb2.mono hbw.size)
      exact ⟨by rw [← E]; rfl, hbw2.trans ((hk3.trans hk4).to_below hbw2.size (fun k hk => by omega))⟩
    · go_wp2_with fail
      refine (HB'.out A1 l1 c1 ls r1 r2 _ (hel.keep hbw hbw.size (SC.keep hbw hbw.size n)) (hm.below hbw) (hm2.below hbw)).mono ?_
      rintro e w2 ⟨rfl, hb2⟩
      have hcl := capT_le ls.sum
      obtain ⟨cl, HCL⟩ : ∃ cl, Hid (capT ls.sum = cl) := ⟨_, rfl⟩
      rw [HCL.out] at hcl ⊢
      have hml : Hid ((65536 + 1) * (4 + cl) ≤ 65537 * 65541) := by rw [Hid]; omega
      have hb1' : Blk w2 b 3 #[.int .i64 ((3 : Nat) : Int)] := hb1.below hb2 hb1.lt
      go_wp2_with fail
      rw [show (65537 * (4 + (cl : Int))) = (((65536 + 1) * (4 + cl) : Nat) : Int) from by omega]
      refine (sum1_any 3 _ b _ hb1' (by omega) (by have := hml.out; omega)).mono ?_
      rintro e w3 ⟨rfl, hb3, hk3⟩
      go_wp2_with fail
      refine (sum1_any _ 0 b _ hb3 (capT_le _) (by omega)).mono ?_
      rintro e w4 ⟨rfl, hb4, hk4⟩
      go_wp2_with fail
      go_ret
      have E : capT (capT (3 + (65536 + 1) * (4 + cl)) + 0) = capT (3 + rnds lo hi * (4 + capT ls.sum)) := by rw [HCL.out, HR.out, Nat.min_eq_right (by omega), Nat.add_zero, capT_cap]
      have hbw2 := hbw.trans (hb2.mono hbw.size)
      exact ⟨by rw [← E]; rfl, hbw2.trans ((hk3.trans hk4).to_below hbw2.size (fun k hk => by omega))⟩
  · have HR : Hid (rnds lo hi = 0) := by rw [Hid, rnds, if_neg hlh]
    go_wp2_with fail
    refine (sum1_any 3 0 b _ hb1 (by omega) (by omega)).mono ?_
    rintro e w2 ⟨rfl, hb2, hk2⟩
    go_wp2_with fail
    go_ret
    have E : capT (3 + 0) = capT (3 + rnds lo hi * (4 + capT ls.sum)) := by rw [HR.out]; simp
    exact ⟨by rw [← E]; rfl, hbw.trans (hk2.to_below hbw.size (fun k hk => by omega))⟩
end Go.Proofs.Ytenpdmahjefoaaa
