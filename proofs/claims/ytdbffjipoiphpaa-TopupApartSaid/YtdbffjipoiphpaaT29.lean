/-
  package topup: banks that differ in who has laid aren't the same.
-/
import Derived.Test.YtdbffjipoiphpaaT28
namespace Go.Proofs.Ytdbffjipoiphpaa
open Go.RowKit

theorem info_b : (Try.prog.info? 4).map (·.size) = some 1 := by kernel_rfl
theorem run_eq_bools (xs ys : List Bool) (hx : xs.length = 8) (hy : ys.length = 8) (W : World) : (Op.equalIn 10000 75 (.agg (xs.map Value.bool).toArray) (.agg (ys.map Value.bool).toArray)).run Try.prog W = .ok (decide (xs = ys)) W := by
  obtain ⟨i, hi, _⟩ := Option.map_eq_some_iff.1 info_b
  refine run_equal_row W 9999 Try.underlying75 hi (by kernel_rfl) (by kernel_rfl) Value.bool (fun a b => ?_) xs ys hx hy
  cases a <;> cases b <;> kernel_rfl
theorem run_eq_dig (xs ys : List Int) (hx : xs.length = 8) (hy : ys.length = 8) (W : World) : (Op.equalIn 10000 31 (.agg (xs.map (Value.int .u8)).toArray) (.agg (ys.map (Value.int .u8)).toArray)).run Try.prog W = .ok (decide (xs = ys)) W := by
  obtain ⟨i, hi, _⟩ := Option.map_eq_some_iff.1 info_u8
  exact run_equal_row W 9999 Try.underlying31 hi (by kernel_rfl) (by kernel_rfl) (Value.int .u8) (fun a b => by rw [run_equalIn_int W 9998 _ _ _ a b Try.underlying5]; congr 1) xs ys hx hy
theorem eql_quiet {g1 g2 c1 c2 n : Nat} {xs : List Int} {w : World} (h1 : IOwn w g1 c1 xs) (h2 : IOwn w g2 c2 xs) (hn : xs.length = n) (h8 : n ≤ 8) (q : Nat) :
    Calls Try.prog 55 #[.slice (some ⟨g1, 0, none⟩) n c1, .slice (some ⟨g2, 0, none⟩) n c2] (w.drewN q) fun e w'' => e = .returned (.bool true) ∧ ∃ m, w'' = w.drewN m := eql_same h1 h2 hn h8 q

/-- The cells of a raise that waits, of a table and marks written out. -/
theorem WAt.eights {w : World} {S : Nat → Prop} {gw ga ca : Nat} {x : Wt} {t0 t1 t2 t3 t4 t5 t6 t7 : Int} {l0 l1 l2 l3 l4 l5 l6 l7 : Bool} (h : WAt w S gw ga ca x) (ht : x.tab = [t0, t1, t2, t3, t4, t5, t6, t7]) (hl : x.laid = [l0, l1, l2, l3, l4, l5, l6, l7]) :
    (w.cell? ⟨gw, 0, none⟩ = some (.int .u8 t0) ∧ w.cell? ⟨gw, 1, none⟩ = some (.int .u8 t1) ∧ w.cell? ⟨gw, 2, none⟩ = some (.int .u8 t2) ∧ w.cell? ⟨gw, 3, none⟩ = some (.int .u8 t3) ∧ w.cell? ⟨gw, 4, none⟩ = some (.int .u8 t4) ∧ w.cell? ⟨gw, 5, none⟩ = some (.int .u8 t5) ∧ w.cell? ⟨gw, 6, none⟩ = some (.int .u8 t6) ∧ w.cell? ⟨gw, 7, none⟩ = some (.int .u8 t7)) ∧
    (w.cell? ⟨gw, 11, none⟩ = some (.bool l0) ∧ w.cell? ⟨gw, 12, none⟩ = some (.bool l1) ∧ w.cell? ⟨gw, 13, none⟩ = some (.bool l2) ∧ w.cell? ⟨gw, 14, none⟩ = some (.bool l3) ∧ w.cell? ⟨gw, 15, none⟩ = some (.bool l4) ∧ w.cell? ⟨gw, 16, none⟩ = some (.bool l5) ∧ w.cell? ⟨gw, 17, none⟩ = some (.bool l6) ∧ w.cell? ⟨gw, 18, none⟩ = some (.bool l7)) := by
  have hc := h.cell
  unfold wcells at hc
  rw [ht, hl] at hc
  exact ⟨⟨hc 0, hc 1, hc 2, hc 3, hc 4, hc 5, hc 6, hc 7⟩, hc 11, hc 12, hc 13, hc 14, hc 15, hc 16, hc 17, hc 18⟩

set_option maxHeartbeats 2000000 in
set_option maxRecDepth 100000 in
theorem wsame_laid (S T : Nat → Prop) (gw ga ca hw ha da : Nat) (x y : Wt) (w : World) (hx : WAt w S gw ga ca x) (hy : WAt w T hw ha da y) (h1 : y.tab = x.tab) (h2 : y.num = x.num) (h3 : y.adds = x.adds) (h4 : y.till = x.till) (h5 : x.laid ≠ y.laid) :
    Calls Try.prog 56 #[.pointer (some ⟨gw, 0, none⟩), .pointer (some ⟨hw, 0, none⟩)] w fun e w'' => e = .returned (.bool false) ∧ ∃ m, w'' = w.drewN m := by
  obtain ⟨t0, t1, t2, t3, t4, t5, t6, t7, ht⟩ := eight hx.tab
  obtain ⟨l0, l1, l2, l3, l4, l5, l6, l7, hl⟩ := eight hx.laid
  obtain ⟨m0, m1, m2, m3, m4, m5, m6, m7, hm⟩ := eight hy.laid
  obtain ⟨⟨a0, a1, a2, a3, a4, a5, a6, a7⟩, b0, b1, b2, b3, b4, b5, b6, b7⟩ := hx.eights ht hl
  obtain ⟨⟨c0, c1, c2, c3, c4, c5, c6, c7⟩, d0, d1, d2, d3, d4, d5, d6, d7⟩ := hy.eights (h1.trans ht) hm
  have e8 := hx.num_
  have e9 := hx.adds_
  have e10 := hx.till_
  have f8 := hy.num_
  have f9 := hy.adds_
  have f10 := hy.till_
  rw [h2] at f8
  rw [h3] at f9
  rw [h4] at f10
  have hn := hx.few
  have i1 := hx.adds
  have i2 := hy.adds
  rw [h3] at i2
  obtain ⟨n, hnn⟩ : ∃ n, x.adds.length = n := ⟨_, rfl⟩
  rw [hnn] at e9 f9 hn
  have HE := Lib.hid (fun q => eql_quiet i1 i2 hnn hn q)
  have hq1 : ∀ W, (Op.equalIn 10000 31 (.agg #[.int .u8 t0, .int .u8 t1, .int .u8 t2, .int .u8 t3, .int .u8 t4, .int .u8 t5, .int .u8 t6, .int .u8 t7]) (.agg #[.int .u8 t0, .int .u8 t1, .int .u8 t2, .int .u8 t3, .int .u8 t4, .int .u8 t5, .int .u8 t6, .int .u8 t7])).run Try.prog W = .ok true W := fun W => by
    have := run_eq_dig [t0, t1, t2, t3, t4, t5, t6, t7] [t0, t1, t2, t3, t4, t5, t6, t7] rfl rfl W
    rwa [decide_eq_true rfl] at this
  have hq2 : ∀ W, (Op.equalIn 10000 75 (.agg #[.bool l0, .bool l1, .bool l2, .bool l3, .bool l4, .bool l5, .bool l6, .bool l7]) (.agg #[.bool m0, .bool m1, .bool m2, .bool m3, .bool m4, .bool m5, .bool m6, .bool m7])).run Try.prog W = .ok false W := fun W => by
    have := run_eq_bools [l0, l1, l2, l3, l4, l5, l6, l7] [m0, m1, m2, m3, m4, m5, m6, m7] rfl rfl W
    rwa [decide_eq_false (fun e => h5 (by rw [hl, hm, e]))] at this
  generalize x.num = nu at *
  generalize x.till = ti at *
  have hnu : (nu == nu) = true := by simp
  have hti : (ti == ti) = true := by simp
  clear h1 h2 h3 h4 h5 ht hl hm hnn i1 i2 hx hy
  go_enter Try.func56, Try.ntmps56
  go_wp2_with fail
  go_quiet ((go_at_call 55; exact HE.out _))
  go_wp2_with fail
  go_ret
  exact ⟨rfl, _, rfl⟩

theorem wsame_laid_q (S T : Nat → Prop) (gw ga ca hw ha da : Nat) (x y : Wt) (w : World) (hx : WAt w S gw ga ca x) (hy : WAt w T hw ha da y) (h1 : y.tab = x.tab) (h2 : y.num = x.num) (h3 : y.adds = x.adds) (h4 : y.till = x.till) (h5 : x.laid ≠ y.laid) (q : Nat) :
    Calls Try.prog 56 #[.pointer (some ⟨gw, 0, none⟩), .pointer (some ⟨hw, 0, none⟩)] (w.drewN q) fun e w'' => e = .returned (.bool false) ∧ ∃ m, w'' = w.drewN m :=
  (wsame_laid S T gw ga ca hw ha da x y (w.drewN q) (hx.kept ((Kept.refl (fun _ => False) w).drewN q) (fun _ _ h => h)) (hy.kept ((Kept.refl (fun _ => False) w).drewN q) (fun _ _ h => h)) h1 h2 h3 h4 h5).mono fun _ _ ⟨he, m, hm⟩ => ⟨he, q + m, by rw [hm, World.drewN_drewN]⟩

set_option maxHeartbeats 2000000 in
set_option maxRecDepth 100000 in
theorem same_laid (S T : Nat → Prop) (g gs cs h hs ds : Nat) (wp tp : Option Addr) (b c : Bk) (x y : Wt) (w : World) (hB : BAt w S g gs cs wp b) (hC : BAt w T h hs ds tp c) (hw : b.wt = some x) (hv : c.wt = some y) (k1 : c.stakes = b.stakes) (k2 : c.last = b.last)
    (h1 : y.tab = x.tab) (h2 : y.num = x.num) (h3 : y.adds = x.adds) (h4 : y.till = x.till) (h5 : x.laid ≠ y.laid) :
    Calls Try.prog 22 #[.pointer (some ⟨g, 0, none⟩), .pointer (some ⟨h, 0, none⟩)] w (Tells w false) := by
  obtain ⟨gw, ga, ca, rfl, hx, _⟩ := hB.some_ x hw
  obtain ⟨hw', ha, da, rfl, hy, _⟩ := hC.some_ y hv
  have b0 : w.cell? ⟨g, 0, none⟩ = some (.slice (some ⟨gs, 0, none⟩) b.stakes.length cs) := hB.blk.cell 0
  have b1 : w.cell? ⟨g, 1, none⟩ = some (.int .i64 b.last) := hB.blk.cell 1
  have b2 : w.cell? ⟨g, 2, none⟩ = some (.pointer (some ⟨gw, 0, none⟩)) := hB.blk.cell 2
  have d0 : w.cell? ⟨h, 0, none⟩ = some (.slice (some ⟨hs, 0, none⟩) c.stakes.length ds) := hC.blk.cell 0
  have d1 : w.cell? ⟨h, 1, none⟩ = some (.int .i64 c.last) := hC.blk.cell 1
  have d2 : w.cell? ⟨h, 2, none⟩ = some (.pointer (some ⟨hw', 0, none⟩)) := hC.blk.cell 2
  have i1 := hB.stakes
  have i2 := hC.stakes
  have h8 := hB.ok.few
  rw [k1] at d0 i2
  rw [k2] at d1
  obtain ⟨n, hn⟩ : ∃ n, b.stakes.length = n := ⟨_, rfl⟩
  rw [hn] at b0 d0 h8
  have HN := Lib.hid hn
  clear hn
  generalize b.last = la at *
  have hla : (la == la) = true := by simp
  have HE := Lib.hid (fun q => eql_same i1 i2 HN.out h8 q)
  have HW := Lib.hid (fun q => wsame_laid_q S T gw ga ca hw' ha da x y w hx hy h1 h2 h3 h4 h5 q)
  clear i1 i2 h1 h2 h3 h4 h5 k1 k2 hx hy hw hv
  go_enter Try.func22, Try.ntmps22
  go_wp2_with fail
  go_quiet ((first
    | (go_at_call 55; exact HE.out _)
    | (go_at_call 56; exact HW.out _)))
  go_wp2_with fail
  go_ret
  exact ⟨rfl, below_drewN (Below.refl _ _) _⟩
end Go.Proofs.Ytdbffjipoiphpaa
