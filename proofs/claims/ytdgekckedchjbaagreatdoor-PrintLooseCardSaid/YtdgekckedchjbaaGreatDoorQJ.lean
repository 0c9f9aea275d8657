
/-
  The parser of programs: a statement. (Printed by wip/tools/gens27.py.)
-/
import Derived.Test.YtdgekckedchjbaaGreatDoorQI
import Derived.Deep.RegionHeld3
namespace Go.Proofs.YtdgekckedchjbaaGreatDoor
open Go.RowKit

theorem elsg_blk2 {base : Nat} {w : World} {t : TypeId} {b : Nat} {cs ds : List Value} {x y : Ex} (hb : Blk w b t (List.toArray (cs ++ ds))) (hl : cs.length = 4) (hl2 : ds.length = 4) (hB : base ≤ b) (h : QE (fun k => base ≤ k) w cs x) (h2 : QE (fun k => base ≤ k) w ds y) : ElsG (fun k => base ≤ k) w 4 1000000 (QE (fun k => base ≤ k) w) (some ⟨b, 0, none⟩) 2 [x, y] := by
  have ho : w.ownsRow base t 4 (.slice (some ⟨b, 0, none⟩) 2 2) 2 (cs ++ ds) := ⟨by simp [hl, hl2], .inr ⟨b, 2, List.toArray (cs ++ ds), rfl, hB, hb, Nat.le_refl _, by unfold maxLen; omega, by simp [hl, hl2], by rw [List.take_of_length_le (by simp [hl, hl2])]⟩⟩
  refine elsg_own (Q := QE) ho (by omega) rfl fun i hi => ?_
  match i, hi with
  | 0, _ =>
    rw [Nat.zero_mul, List.drop_zero, List.take_append_of_le_length (by omega), List.take_of_length_le (by omega)]
    exact h
  | 1, _ =>
    rw [Nat.one_mul, List.drop_append_of_le_length (by omega), List.drop_of_length_le (by omega), List.nil_append, List.take_of_length_le (by omega)]
    exact h2
  | i + 2, hi => simp at hi; omega
set_option maxHeartbeats 4000000 in
set_option maxRecDepth 100000 in
theorem stmt_pay (g c : Nat) (A : Option Addr) (m : Nat → Nat) (ts : List Tk) (d : Nat) (dp : Int) (hd : dp + ((d + 1 : Nat) : Int) = 16) (h0 : 0 ≤ dp) (i : Nat) (w : World) (h : Par w g A c m ts i dp 0) (t : Tk) (ht : ts[i]? = some t) (hk : t.kind = 3) (hx : t.text = [112, 97, 121]) :
    Calls Tryz.prog 92 #[.pointer (some ⟨g, 0, none⟩)] w (StepTo w g c A m ts dp (stmtD (d + 1) (ts.drop i)) (IsEl (QS (d + 1)) w.heap.size) ShSt) := by
  have f0 : Below w.heap.size w (w.alloc (.cells #[.int .i64 0, .string ⟨#[]⟩, .slice none 0 0, .int .i64 0, .int .i64 0, .slice none 0 0, .slice none 0 0] 95)) := (Below.refl _ w).al _
  have x0 := Blk.new w 95 #[.int .i64 0, .string ⟨#[]⟩, .slice none 0 0, .int .i64 0, .int .i64 0, .slice none 0 0, .slice none 0 0]
  have hgl := h.blk.lt
  have HH := Lib.hid h
  have PB0 := Lib.hid (h.below f0)
  have XB0 := Lib.hid x0
  have z0 : (w.alloc (.cells #[.int .i64 0, .string ⟨#[]⟩, .slice none 0 0, .int .i64 0, .int .i64 0, .slice none 0 0, .slice none 0 0] 95)).heap.size = w.heap.size + 1 := by simp
  have KB0 := Lib.hid (Kept.of_below (S := fun z => z = g) f0)
  have hdd : dp < 16 := by omega
  have N1 : Hid (∀ w', Par w' g A c m ts i dp 0 → Calls Tryz.prog 53 #[.pointer (some ⟨g, 0, none⟩), .int .i64 1] w' (Still w' (.bool false))) := fun w' h' => by
    have := next_any g c A m ts i dp 0 1 w' h' t ht
    rwa [show nextB t 0 1 = false from by simp [nextB, hk]] at this
  have TK : Hid (∀ w', Par w' g A c m ts i dp 0 → Calls Tryz.prog 87 #[.pointer (some ⟨g, 0, none⟩), .int .i64 3] w' (ParTo w' g c A m ts dp (tkVal t) (i + 1) 0)) := fun w' h' => by
    have := take_any g c A m ts i dp 0 3 w' h' t ht (by decide)
    rwa [show nextB t 0 3 = true from by simp [nextB, hk]] at this
  have EX := Lib.hid (fun i er w h => exprP_any g c A m ts i dp er w h)
  have GO : stmtD (d + 1) (ts.drop i) = stP payP ts (i + 1) 0 := by
    rw [drop_tok ht, stmt_word d t _ hk, hx]
    rw [if_neg (by decide)]
    rw [if_neg (by decide)]
    rw [if_neg (by decide)]
    rw [if_neg (by decide)]
    rw [if_neg (by decide)]
    rw [if_neg (by decide)]
    rw [if_pos rfl]
    unfold stP
    rw [if_pos rfl]
  rw [GO, pay_st]
  have e0 : ((str t.text).toList == [105, 102]) = false := (str_eqL _ _).trans (by rw [hx]; decide)
  have e1 : ((str t.text).toList == [102, 111, 114]) = false := (str_eqL _ _).trans (by rw [hx]; decide)
  have e2 : ((str t.text).toList == [114, 101, 102, 117, 115, 101]) = false := (str_eqL _ _).trans (by rw [hx]; decide)
  have e3 : ((str t.text).toList == [114, 111, 108, 108]) = false := (str_eqL _ _).trans (by rw [hx]; decide)
  have e4 : ((str t.text).toList == [115, 101, 97, 116]) = false := (str_eqL _ _).trans (by rw [hx]; decide)
  have e5 : ((str t.text).toList == [111, 118, 101, 114]) = false := (str_eqL _ _).trans (by rw [hx]; decide)
  have e6 : ((str t.text).toList == [112, 97, 121]) = true := (str_eqL _ _).trans (by rw [hx]; decide)
  clear h f0 x0 GO ht hk hx
  go_enter Tryz.func92, Tryz.ntmps92
  go_upto_region 1 with fail
  generalize w.alloc (.cells #[.int .i64 0, .string ⟨#[]⟩, .slice none 0 0, .int .i64 0, .int .i64 0, .slice none 0 0, .slice none 0 0] 95) = WB at *
  have bp := PB0.out.blk
  unfold parCells at bp
  have c2 : WB.cell? ⟨g, 2, none⟩ = some (.int .i64 dp) := bp.cell 2
  clear bp
  go_wp2_with fail
  refine (N1.out _ PB0.out).mono ?_
  rintro e wq ⟨rfl, q, rfl⟩
  have P0' := Lib.hid (PB0.out.drewN q)
  have X0' := Lib.hid (XB0.out.drewN q)
  have K0' := Lib.hid (KB0.out.drewN q)
  have zq : (WB.drewN q).heap.size = WB.heap.size := rfl
  clear PB0 XB0 KB0 c2
  generalize WB.drewN q = WC at *
  go_wp2_with fail
  refine (TK.out _ P0'.out).mono ?_
  rintro e W0 ⟨rfl, pt, kt⟩
  have P0 := Lib.hid pt
  have X0 := Lib.hid (X0'.out.kept kt (by omega))
  have K0 := Lib.hid (K0'.out.then_ kt (fun _ _ e => e))
  have zt := kt.size
  clear pt kt P0' X0' K0' N1 TK
  go_wp2_with fail
  rw [run_fieldTk1]
  go_wp2_with fail
  refine (EX.out (i + 1) 0 W0 P0.out).mono ?_
  rintro e w1 ⟨v1, rfl, k1, ⟨op1, N1, nm1, B1, l1, q1, rfl⟩, i1, er1, p1, ps1⟩
  have z1 := k1.size
  have X1 := Lib.hid (X0.out.kept k1 (by omega))
  have K1 := Lib.hid (K0.out.then_ k1 (fun _ _ e => e))
  have P1 := Lib.hid p1
  have PS1 := Lib.hid ps1
  have J1 := Lib.hid k1
  clear p1 k1 ps1 K0 P0 X0
  go_upto_region 29 with fail
  have f2 : Below w1.heap.size w1 (w1.alloc (.cells #[.int .i64 op1, .int .i64 N1, .string nm1, .slice B1 l1 q1] 40)) := (Below.refl _ _).al _
  have Y2 := Lib.hid (Blk.new w1 40 #[.int .i64 op1, .int .i64 N1, .string nm1, .slice B1 l1 q1])
  have P2 := Lib.hid (P1.out.below f2)
  have X2 := Lib.hid (X1.out.below f2 X1.out.lt)
  have K2 := Lib.hid (K1.out.then_ (Kept.of_below (S := fun z => z = g) f2) (fun _ _ e => e))
  have J2 := Lib.hid (Kept.of_below (S := fun z => z = g) f2)
  have z2 : (w1.alloc (.cells #[.int .i64 op1, .int .i64 N1, .string nm1, .slice B1 l1 q1] 40)).heap.size = w1.heap.size + 1 := by simp
  have xl2 := X1.out.lt
  clear f2 K1 P1 X1
  generalize w1.alloc (.cells #[.int .i64 op1, .int .i64 N1, .string nm1, .slice B1 l1 q1] 40) = W2 at *
  have PD := Lib.hid (P2.out.below (Below.refl _ W2).drew)
  have CL := Lib.hid (EX.out i1 er1 W2.drew PD.out)
  have zd : W2.drew.heap.size = W2.heap.size := rfl
  have YD := Lib.hid Y2.out.drew
  have XD := Lib.hid X2.out.drew
  have qq : W2.drew.cell? ⟨w1.heap.size, 0, none⟩ = some (.int .i64 op1) ∧ W2.drew.cell? ⟨w1.heap.size, 1, none⟩ = some (.int .i64 N1) ∧ W2.drew.cell? ⟨w1.heap.size, 2, none⟩ = some (.string nm1) ∧ W2.drew.cell? ⟨w1.heap.size, 3, none⟩ = some (.slice B1 l1 q1) := ⟨YD.out.cell 0, YD.out.cell 1, YD.out.cell 2, YD.out.cell 3⟩
  have QQ : Hid (∀ w', Blk w' (w1.heap.size) 40 #[.int .i64 op1, .int .i64 N1, .string nm1, .slice B1 l1 q1] → w'.cell? ⟨w1.heap.size, 0, none⟩ = some (.int .i64 op1) ∧ w'.cell? ⟨w1.heap.size, 1, none⟩ = some (.int .i64 N1) ∧ w'.cell? ⟨w1.heap.size, 2, none⟩ = some (.string nm1) ∧ w'.cell? ⟨w1.heap.size, 3, none⟩ = some (.slice B1 l1 q1)) := fun w' h => ⟨h.cell 0, h.cell 1, h.cell 2, h.cell 3⟩
  go_region_held3 (fun w' => w'.cell? ⟨w1.heap.size, 0, none⟩ = some (.int .i64 op1) ∧ w'.cell? ⟨w1.heap.size, 1, none⟩ = some (.int .i64 N1) ∧ w'.cell? ⟨w1.heap.size, 2, none⟩ = some (.string nm1) ∧ w'.cell? ⟨w1.heap.size, 3, none⟩ = some (.slice B1 l1 q1)) (first | (with_reducible exact qq) | (with_reducible exact QQ.out _ y3) | (with_reducible exact QQ.out _ yz) | (with_reducible exact QQ.out _ (yz.kept (Kept.put7 _ _ _ _ _ _ _ _ _) (by omega))))
    (first
      | (go_at_call 40; (with_reducible refine CL.out.mono ?_); rintro e w3 ⟨v3, rfl, k3, ⟨op3, N3, nm3, B3, l3, q3, rfl⟩, i3, er3, p3, ps3⟩; have y3 := YD.out.kept k3 (by omega); have x3 := XD.out.kept k3 (by omega); have z3 := k3.size; have yz := y3.alloc (.cells #[.int .i64 op1, .int .i64 N1, .string nm1, .slice B1 l1 q1, .int .i64 op3, .int .i64 N3, .string nm3, .slice B3 l3 q3] 40); have xz := x3.alloc (.cells #[.int .i64 op1, .int .i64 N1, .string nm1, .slice B1 l1 q1, .int .i64 op3, .int .i64 N3, .string nm3, .slice B3 l3 q3] 40); have pc0 : (w3.alloc (.cells #[.int .i64 op1, .int .i64 N1, .string nm1, .slice B1 l1 q1, .int .i64 op3, .int .i64 N3, .string nm3, .slice B3 l3 q3] 40)).cell? ⟨w.heap.size, 0, none⟩ = some (.int .i64 0) := xz.cell 0; have pt0 := xz.frozen 0; have pc1 : (w3.alloc (.cells #[.int .i64 op1, .int .i64 N1, .string nm1, .slice B1 l1 q1, .int .i64 op3, .int .i64 N3, .string nm3, .slice B3 l3 q3] 40)).cell? ⟨w.heap.size, 1, none⟩ = some (.string ⟨#[]⟩) := xz.cell 1; have pt1 := xz.frozen 1; have pc2 : (w3.alloc (.cells #[.int .i64 op1, .int .i64 N1, .string nm1, .slice B1 l1 q1, .int .i64 op3, .int .i64 N3, .string nm3, .slice B3 l3 q3] 40)).cell? ⟨w.heap.size, 2, none⟩ = some (.slice none 0 0) := xz.cell 2; have pt2 := xz.frozen 2; have pc3 : (w3.alloc (.cells #[.int .i64 op1, .int .i64 N1, .string nm1, .slice B1 l1 q1, .int .i64 op3, .int .i64 N3, .string nm3, .slice B3 l3 q3] 40)).cell? ⟨w.heap.size, 3, none⟩ = some (.int .i64 0) := xz.cell 3; have pt3 := xz.frozen 3; have pc4 : (w3.alloc (.cells #[.int .i64 op1, .int .i64 N1, .string nm1, .slice B1 l1 q1, .int .i64 op3, .int .i64 N3, .string nm3, .slice B3 l3 q3] 40)).cell? ⟨w.heap.size, 4, none⟩ = some (.int .i64 0) := xz.cell 4; have pt4 := xz.frozen 4; have pc5 : (w3.alloc (.cells #[.int .i64 op1, .int .i64 N1, .string nm1, .slice B1 l1 q1, .int .i64 op3, .int .i64 N3, .string nm3, .slice B3 l3 q3] 40)).cell? ⟨w.heap.size, 5, none⟩ = some (.slice none 0 0) := xz.cell 5; have pt5 := xz.frozen 5; have pc6 : (w3.alloc (.cells #[.int .i64 op1, .int .i64 N1, .string nm1, .slice B1 l1 q1, .int .i64 op3, .int .i64 N3, .string nm3, .slice B3 l3 q3] 40)).cell? ⟨w.heap.size, 6, none⟩ = some (.slice none 0 0) := xz.cell 6; have pt6 := xz.frozen 6; have XZ := Lib.hid xz; clear xz x3; have KN := Lib.hid k3; have PN := Lib.hid p3; have PSN := Lib.hid ps3; clear k3 p3 ps3)
      | fail)
  have f3 : Below w3.heap.size w3 (w3.alloc (.cells #[.int .i64 op1, .int .i64 N1, .string nm1, .slice B1 l1 q1, .int .i64 op3, .int .i64 N3, .string nm3, .slice B3 l3 q3] 40)) := (Below.refl _ _).al _
  have BN := Lib.hid (Blk.new w3 40 #[.int .i64 op1, .int .i64 N1, .string nm1, .slice B1 l1 q1, .int .i64 op3, .int .i64 N3, .string nm3, .slice B3 l3 q3])
  have P3 := Lib.hid (PN.out.below f3)
  have K3 := Lib.hid (((K2.out.drew).then_ KN.out (fun _ _ e => e)).then_ (Kept.of_below (S := fun z => z = g) f3) (fun _ _ e => e))
  have JD := Lib.hid ((Kept.refl (fun z => z = g) W2).drew)
  have JA := Lib.hid (Kept.of_below (S := fun z => z = g) f3)
  have zA : (w3.alloc (.cells #[.int .i64 op1, .int .i64 N1, .string nm1, .slice B1 l1 q1, .int .i64 op3, .int .i64 N3, .string nm3, .slice B3 l3 q3] 40)).heap.size = w3.heap.size + 1 := by simp
  have PSZ := Lib.hid (PS1.out.then_ PSN.out)
  clear f3
  go_wp2_with fail
  clear pc0 pc1 pc2 pc3 pc4 pc5 pc6 pt0 pt1 pt2 pt3 pt4 pt5 pt6
  have hx := XZ.out
  have sc0 : (w3.alloc (.cells #[.int .i64 op1, .int .i64 N1, .string nm1, .slice B1 l1 q1, .int .i64 op3, .int .i64 N3, .string nm3, .slice B3 l3 q3] 40)).cell? ⟨w.heap.size, 0, none⟩ = some (.int .i64 0) := hx.cell 0
  have sc1 : (w3.alloc (.cells #[.int .i64 op1, .int .i64 N1, .string nm1, .slice B1 l1 q1, .int .i64 op3, .int .i64 N3, .string nm3, .slice B3 l3 q3] 40)).cell? ⟨w.heap.size, 1, none⟩ = some (.string ⟨#[]⟩) := hx.cell 1
  have sc2 : (w3.alloc (.cells #[.int .i64 op1, .int .i64 N1, .string nm1, .slice B1 l1 q1, .int .i64 op3, .int .i64 N3, .string nm3, .slice B3 l3 q3] 40)).cell? ⟨w.heap.size, 2, none⟩ = some (.slice none 0 0) := hx.cell 2
  have sc3 : (w3.alloc (.cells #[.int .i64 op1, .int .i64 N1, .string nm1, .slice B1 l1 q1, .int .i64 op3, .int .i64 N3, .string nm3, .slice B3 l3 q3] 40)).cell? ⟨w.heap.size, 3, none⟩ = some (.int .i64 0) := hx.cell 3
  have sc4 : (w3.alloc (.cells #[.int .i64 op1, .int .i64 N1, .string nm1, .slice B1 l1 q1, .int .i64 op3, .int .i64 N3, .string nm3, .slice B3 l3 q3] 40)).cell? ⟨w.heap.size, 4, none⟩ = some (.int .i64 0) := hx.cell 4
  have sc5 : (w3.alloc (.cells #[.int .i64 op1, .int .i64 N1, .string nm1, .slice B1 l1 q1, .int .i64 op3, .int .i64 N3, .string nm3, .slice B3 l3 q3] 40)).cell? ⟨w.heap.size, 5, none⟩ = some (.slice none 0 0) := hx.cell 5
  have sc6 : (w3.alloc (.cells #[.int .i64 op1, .int .i64 N1, .string nm1, .slice B1 l1 q1, .int .i64 op3, .int .i64 N3, .string nm3, .slice B3 l3 q3] 40)).cell? ⟨w.heap.size, 6, none⟩ = some (.slice none 0 0) := hx.cell 6
  have tc0 := hx.frozen 0
  have tc1 := hx.frozen 1
  have tc2 := hx.frozen 2
  have tc3 := hx.frozen 3
  have tc4 := hx.frozen 4
  have tc5 := hx.frozen 5
  have tc6 := hx.frozen 6
  skip
  have X9 := hx.put7 (.int .i64 8) (.string ⟨#[]⟩) (.slice (some ⟨w3.heap.size, 0, none⟩) 2 2) (.int .i64 0) (.int .i64 0) (.slice none 0 0) (.slice none 0 0)
  have k9 := Kept.put7 (w3.alloc (.cells #[.int .i64 op1, .int .i64 N1, .string nm1, .slice B1 l1 q1, .int .i64 op3, .int .i64 N3, .string nm3, .slice B3 l3 q3] 40)) w.heap.size (.int .i64 8) (.string ⟨#[]⟩) (.slice (some ⟨w3.heap.size, 0, none⟩) 2 2) (.int .i64 0) (.int .i64 0) (.slice none 0 0) (.slice none 0 0)
  generalize (((((((w3.alloc (.cells #[.int .i64 op1, .int .i64 N1, .string nm1, .slice B1 l1 q1, .int .i64 op3, .int .i64 N3, .string nm3, .slice B3 l3 q3] 40)).setCell ⟨w.heap.size, 0, none⟩ (.int .i64 8)).setCell ⟨w.heap.size, 1, none⟩ (.string ⟨#[]⟩)).setCell ⟨w.heap.size, 2, none⟩ (.slice (some ⟨w3.heap.size, 0, none⟩) 2 2)).setCell ⟨w.heap.size, 3, none⟩ (.int .i64 0)).setCell ⟨w.heap.size, 4, none⟩ (.int .i64 0)).setCell ⟨w.heap.size, 5, none⟩ (.slice none 0 0)).setCell ⟨w.heap.size, 6, none⟩ (.slice none 0 0) = W9 at *
  clear sc0 sc1 sc2 sc3 sc4 sc5 sc6
  have sc0 : W9.cell? ⟨w.heap.size, 0, none⟩ = some (.int .i64 8) := X9.cell 0
  have sc1 : W9.cell? ⟨w.heap.size, 1, none⟩ = some (.string ⟨#[]⟩) := X9.cell 1
  have sc2 : W9.cell? ⟨w.heap.size, 2, none⟩ = some (.slice (some ⟨w3.heap.size, 0, none⟩) 2 2) := X9.cell 2
  have sc3 : W9.cell? ⟨w.heap.size, 3, none⟩ = some (.int .i64 0) := X9.cell 3
  have sc4 : W9.cell? ⟨w.heap.size, 4, none⟩ = some (.int .i64 0) := X9.cell 4
  have sc5 : W9.cell? ⟨w.heap.size, 5, none⟩ = some (.slice none 0 0) := X9.cell 5
  have sc6 : W9.cell? ⟨w.heap.size, 6, none⟩ = some (.slice none 0 0) := X9.cell 6
  have KK : Kept (fun z => z = g) w W9 := K3.out.then_ k9 (fun z hz e => by omega)
  have TA : Hid (Kept (fun z => z < W0.heap.size ∨ w1.heap.size ≤ z) w1 W9) := ((J2.out.mono (T := (fun z => z < W0.heap.size ∨ w1.heap.size ≤ z)) (fun z hz e => by omega)).then_ ((JD.out.mono (T := (fun z => z < W0.heap.size ∨ w1.heap.size ≤ z)) (fun z hz e => by omega)).then_ ((KN.out.mono (T := (fun z => z < W0.heap.size ∨ w1.heap.size ≤ z)) (fun z hz e => by omega)).then_ ((JA.out.mono (T := (fun z => z < W0.heap.size ∨ w1.heap.size ≤ z)) (fun z hz e => by omega)).then_ (k9.mono (T := (fun z => z < W0.heap.size ∨ w1.heap.size ≤ z)) (fun z hz e => by omega)) (fun _ _ e => e.imp (fun e => e) (fun e => e))) (fun _ _ e => e.imp (fun e => e) (fun e => e))) (fun _ _ e => e.imp (fun e => e) (fun e => e))) (fun _ _ e => e.imp (fun e => e) (fun e => e)))
  have TC : Hid (Kept (fun z => z < W2.drew.heap.size ∨ w3.heap.size ≤ z) w3 W9) := ((JA.out.mono (T := (fun z => z < W2.drew.heap.size ∨ w3.heap.size ≤ z)) (fun z hz e => by omega)).then_ (k9.mono (T := (fun z => z < W2.drew.heap.size ∨ w3.heap.size ≤ z)) (fun z hz e => by omega)) (fun _ _ e => e.imp (fun e => e) (fun e => e)))
  have TB : Hid (Kept (fun z => z < w3.heap.size ∨ w3.heap.size + 1 ≤ z) (w3.alloc (.cells #[.int .i64 op1, .int .i64 N1, .string nm1, .slice B1 l1 q1, .int .i64 op3, .int .i64 N3, .string nm3, .slice B3 l3 q3] 40)) W9) := (k9.mono (T := (fun z => z < w3.heap.size ∨ w3.heap.size + 1 ≤ z)) (fun z hz e => by omega))
  refine bodyPost_ret (v := .agg #[.int .i64 8, .string ⟨#[]⟩, .slice (some ⟨w3.heap.size, 0, none⟩) 2 2, .int .i64 0, .int .i64 0, .slice none 0 0, .slice none 0 0]) (by simp [results, Tryz.results92, go_sem, sc0, sc1, sc2, sc3, sc4, sc5, sc6]) rfl ⟨_, rfl, KK, ⟨_, _, _, _, _, _, _, _, _, _, _, _, _, rfl⟩, i3, er3, HH.out.put P3.out.at_ (P3.out.blk.kept k9 (by omega)) KK, PSZ.out.map _ ?_⟩
  rintro ⟨x1, x2⟩ ⟨h1, h2⟩
  exact ⟨_, rfl, _, _, _, none, 0, 0, none, 0, 0, rfl, elsg_blk2 (cs := [.int .i64 op1, .int .i64 N1, .string nm1, .slice B1 l1 q1]) (ds := [.int .i64 op3, .int .i64 N3, .string nm3, .slice B3 l3 q3]) (BN.out.kept TB.out (fun e => by omega)) rfl rfl (by omega) ((h1.kept QE_kept (by omega) TA.out (fun k _ hk e => by omega)).cells (cs := [.int .i64 op1, .int .i64 N1, .string nm1, .slice B1 l1 q1])) ((h2.kept QE_kept (by omega) TC.out (fun k _ hk e => by omega)).cells (cs := [.int .i64 op3, .int .i64 N3, .string nm3, .slice B3 l3 q3])), ElsG.none_ _ _ _ _ _ _, ElsG.none_ _ _ _ _ _ _⟩
set_option maxHeartbeats 4000000 in
set_option maxRecDepth 100000 in
theorem stmt_assign (g c : Nat) (A : Option Addr) (m : Nat → Nat) (ts : List Tk) (d : Nat) (dp : Int) (hd : dp + ((d + 1 : Nat) : Int) = 16) (h0 : 0 ≤ dp) (i : Nat) (w : World) (h : Par w g A c m ts i dp 0) (t : Tk) (ht : ts[i]? = some t) (hk : t.kind = 1) :
    Calls Tryz.prog 92 #[.pointer (some ⟨g, 0, none⟩)] w (StepTo w g c A m ts dp (stmtD (d + 1) (ts.drop i)) (IsEl (QS (d + 1)) w.heap.size) ShSt) := by
  have f0 : Below w.heap.size w (w.alloc (.cells #[.int .i64 0, .string ⟨#[]⟩, .slice none 0 0, .int .i64 0, .int .i64 0, .slice none 0 0, .slice none 0 0] 95)) := (Below.refl _ w).al _
  have x0 := Blk.new w 95 #[.int .i64 0, .string ⟨#[]⟩, .slice none 0 0, .int .i64 0, .int .i64 0, .slice none 0 0, .slice none 0 0]
  have hgl := h.blk.lt
  have HH := Lib.hid h
  have PB0 := Lib.hid (h.below f0)
  have XB0 := Lib.hid x0
  have z0 : (w.alloc (.cells #[.int .i64 0, .string ⟨#[]⟩, .slice none 0 0, .int .i64 0, .int .i64 0, .slice none 0 0, .slice none 0 0] 95)).heap.size = w.heap.size + 1 := by simp
  have KB0 := Lib.hid (Kept.of_below (S := fun z => z = g) f0)
  have hdd : dp < 16 := by omega
  have N1 : Hid (∀ w', Par w' g A c m ts i dp 0 → Calls Tryz.prog 53 #[.pointer (some ⟨g, 0, none⟩), .int .i64 1] w' (Still w' (.bool true))) := fun w' h' => by
    have := next_any g c A m ts i dp 0 1 w' h' t ht
    rwa [show nextB t 0 1 = true from by simp [nextB, hk]] at this
  have AS := Lib.hid (fun i er w h => assign_any g c A m ts i dp er w h)
  have GO : stmtD (d + 1) (ts.drop i) = stP assignP ts i 0 := by
    rw [stmt_name d _ (by rw [drop_tok ht]; simp [kindT, hk])]
    unfold stP
    rw [if_pos rfl]
  rw [GO]
  clear h f0 x0 GO ht hk
  go_enter Tryz.func92, Tryz.ntmps92
  go_upto_region 1 with fail
  generalize w.alloc (.cells #[.int .i64 0, .string ⟨#[]⟩, .slice none 0 0, .int .i64 0, .int .i64 0, .slice none 0 0, .slice none 0 0] 95) = WB at *
  have bp := PB0.out.blk
  unfold parCells at bp
  have c2 : WB.cell? ⟨g, 2, none⟩ = some (.int .i64 dp) := bp.cell 2
  clear bp
  go_wp2_with fail
  refine (N1.out _ PB0.out).mono ?_
  rintro e wq ⟨rfl, q, rfl⟩
  have P0 := Lib.hid (PB0.out.drewN q)
  have X0 := Lib.hid (XB0.out.drewN q)
  have K0 := Lib.hid (KB0.out.drewN q)
  have zq : (WB.drewN q).heap.size = WB.heap.size := rfl
  clear PB0 XB0 KB0 c2
  generalize WB.drewN q = W0 at *
  go_wp2_with fail
  refine (AS.out i 0 W0 P0.out).mono ?_
  rintro e w1 ⟨v1, rfl, k1, ⟨kd1, nm1, Aa1, la1, ca1, lo1, hi1, Ab1, lb1, cb1, Ac1, lc1, cc1, rfl⟩, i1, er1, p1, ps1⟩
  have z1 := k1.size
  have X1 := Lib.hid (X0.out.kept k1 (by omega))
  have K1 := Lib.hid (K0.out.then_ k1 (fun _ _ e => e))
  have P1 := Lib.hid p1
  have PS1 := Lib.hid ps1
  have J1 := Lib.hid k1
  clear p1 k1 ps1 K0 P0 X0
  have hx := X1.out
  have sc0 : w1.cell? ⟨w.heap.size, 0, none⟩ = some (.int .i64 0) := hx.cell 0
  have sc1 : w1.cell? ⟨w.heap.size, 1, none⟩ = some (.string ⟨#[]⟩) := hx.cell 1
  have sc2 : w1.cell? ⟨w.heap.size, 2, none⟩ = some (.slice none 0 0) := hx.cell 2
  have sc3 : w1.cell? ⟨w.heap.size, 3, none⟩ = some (.int .i64 0) := hx.cell 3
  have sc4 : w1.cell? ⟨w.heap.size, 4, none⟩ = some (.int .i64 0) := hx.cell 4
  have sc5 : w1.cell? ⟨w.heap.size, 5, none⟩ = some (.slice none 0 0) := hx.cell 5
  have sc6 : w1.cell? ⟨w.heap.size, 6, none⟩ = some (.slice none 0 0) := hx.cell 6
  have tc0 := hx.frozen 0
  have tc1 := hx.frozen 1
  have tc2 := hx.frozen 2
  have tc3 := hx.frozen 3
  have tc4 := hx.frozen 4
  have tc5 := hx.frozen 5
  have tc6 := hx.frozen 6
  go_wp2_with fail
  have X9 := hx.put7 (.int .i64 kd1) (.string nm1) (.slice Aa1 la1 ca1) (.int .i64 lo1) (.int .i64 hi1) (.slice Ab1 lb1 cb1) (.slice Ac1 lc1 cc1)
  have k9 := Kept.put7 w1 w.heap.size (.int .i64 kd1) (.string nm1) (.slice Aa1 la1 ca1) (.int .i64 lo1) (.int .i64 hi1) (.slice Ab1 lb1 cb1) (.slice Ac1 lc1 cc1)
  generalize ((((((w1.setCell ⟨w.heap.size, 0, none⟩ (.int .i64 kd1)).setCell ⟨w.heap.size, 1, none⟩ (.string nm1)).setCell ⟨w.heap.size, 2, none⟩ (.slice Aa1 la1 ca1)).setCell ⟨w.heap.size, 3, none⟩ (.int .i64 lo1)).setCell ⟨w.heap.size, 4, none⟩ (.int .i64 hi1)).setCell ⟨w.heap.size, 5, none⟩ (.slice Ab1 lb1 cb1)).setCell ⟨w.heap.size, 6, none⟩ (.slice Ac1 lc1 cc1) = W9 at *
  clear sc0 sc1 sc2 sc3 sc4 sc5 sc6
  have sc0 : W9.cell? ⟨w.heap.size, 0, none⟩ = some (.int .i64 kd1) := X9.cell 0
  have sc1 : W9.cell? ⟨w.heap.size, 1, none⟩ = some (.string nm1) := X9.cell 1
  have sc2 : W9.cell? ⟨w.heap.size, 2, none⟩ = some (.slice Aa1 la1 ca1) := X9.cell 2
  have sc3 : W9.cell? ⟨w.heap.size, 3, none⟩ = some (.int .i64 lo1) := X9.cell 3
  have sc4 : W9.cell? ⟨w.heap.size, 4, none⟩ = some (.int .i64 hi1) := X9.cell 4
  have sc5 : W9.cell? ⟨w.heap.size, 5, none⟩ = some (.slice Ab1 lb1 cb1) := X9.cell 5
  have sc6 : W9.cell? ⟨w.heap.size, 6, none⟩ = some (.slice Ac1 lc1 cc1) := X9.cell 6
  have KK : Kept (fun z => z = g) w W9 := K1.out.then_ k9 (fun z hz e => by omega)
  have TA : Hid (Kept (fun z => z < W0.heap.size ∨ w1.heap.size ≤ z) w1 W9) := (k9.mono (T := (fun z => z < W0.heap.size ∨ w1.heap.size ≤ z)) (fun z hz e => by omega))
  refine bodyPost_ret (v := .agg #[.int .i64 kd1, .string nm1, .slice Aa1 la1 ca1, .int .i64 lo1, .int .i64 hi1, .slice Ab1 lb1 cb1, .slice Ac1 lc1 cc1]) (by simp [results, Tryz.results92, go_sem, sc0, sc1, sc2, sc3, sc4, sc5, sc6]) rfl ⟨_, rfl, KK, ⟨_, _, _, _, _, _, _, _, _, _, _, _, _, rfl⟩, i1, er1, HH.out.put P1.out.at_ (P1.out.blk.kept k9 (by omega)) KK, PS1.out.mono (fun a ha => by obtain ⟨cs, hc, hq⟩ := ha.kept (QS_kept 1) (b' := w.heap.size) (by omega) TA.out (fun k _ hk e => by omega); exact ⟨cs, hc, SE.deeper (by omega) hq⟩)⟩
set_option maxHeartbeats 4000000 in
set_option maxRecDepth 100000 in
theorem stmt_deep (g c : Nat) (A : Option Addr) (m : Nat → Nat) (ts : List Tk) (dp : Int) (hd : dp = 16) (i : Nat) (w : World) (h : Par w g A c m ts i dp 0) :
    Calls Tryz.prog 92 #[.pointer (some ⟨g, 0, none⟩)] w (StepTo w g c A m ts dp (stmtD 0 (ts.drop i)) (IsEl (QS 0) w.heap.size) ShSt) := by
  have f0 : Below w.heap.size w (w.alloc (.cells #[.int .i64 0, .string ⟨#[]⟩, .slice none 0 0, .int .i64 0, .int .i64 0, .slice none 0 0, .slice none 0 0] 95)) := (Below.refl _ w).al _
  have x0 := Blk.new w 95 #[.int .i64 0, .string ⟨#[]⟩, .slice none 0 0, .int .i64 0, .int .i64 0, .slice none 0 0, .slice none 0 0]
  have hgl := h.blk.lt
  have HH := Lib.hid h
  have PB0 := Lib.hid (h.below f0)
  have XB0 := Lib.hid x0
  have z0 : (w.alloc (.cells #[.int .i64 0, .string ⟨#[]⟩, .slice none 0 0, .int .i64 0, .int .i64 0, .slice none 0 0, .slice none 0 0] 95)).heap.size = w.heap.size + 1 := by simp
  have KB0 := Lib.hid (Kept.of_below (S := fun z => z = g) f0)
  have hdd : (16 : Int) ≤ dp := by omega
  clear h f0 x0 hd
  go_enter Tryz.func92, Tryz.ntmps92
  go_upto_region 1 with fail
  generalize w.alloc (.cells #[.int .i64 0, .string ⟨#[]⟩, .slice none 0 0, .int .i64 0, .int .i64 0, .slice none 0 0, .slice none 0 0] 95) = WB at *
  have bp := PB0.out.blk
  unfold parCells at bp
  have c2 : WB.cell? ⟨g, 2, none⟩ = some (.int .i64 dp) := bp.cell 2
  have c8 : WB.cell? ⟨g, 4 + 4, none⟩ = some (.int .i64 0) := bp.cell 8
  have c8' : WB.cell? ⟨g, 8, none⟩ = some (.int .i64 0) := bp.cell 8
  have f8 : WB.frozen? ⟨g, 8, none⟩ = false := bp.frozen 8
  clear bp
  go_upto_region 3 with fail
  have k1 := (Kept.refl (fun z => z = g) WB).setCell (p := ⟨g, 8, none⟩) (fun _ => rfl) (.int .i64 25)
  have b1 : Blk (WB.setCell ⟨g, 8, none⟩ (.int .i64 25)) g 119 (parCells A ts.length c m i dp 25) := PB0.out.blk.set_ 8 _
  have K0 := Lib.hid (KB0.out.then_ k1 (fun _ _ e => e))
  have P0 := Lib.hid (HH.out.put PB0.out.at_ b1 K0.out)
  have X0 := Lib.hid (XB0.out.kept k1 (by omega))
  clear c2 c8 c8' f8 k1 b1 PB0 XB0 KB0
  generalize WB.setCell ⟨g, 8, none⟩ (.int .i64 25) = W0 at *
  have PSR : Hid (PsAt ts i 25 (stmtD 0 (ts.drop i)) (fun _ => False)) := ⟨rfl, rfl, by decide⟩
  have hx := X0.out
  have sc0 : W0.cell? ⟨w.heap.size, 0, none⟩ = some (.int .i64 0) := hx.cell 0
  have sc1 : W0.cell? ⟨w.heap.size, 1, none⟩ = some (.string ⟨#[]⟩) := hx.cell 1
  have sc2 : W0.cell? ⟨w.heap.size, 2, none⟩ = some (.slice none 0 0) := hx.cell 2
  have sc3 : W0.cell? ⟨w.heap.size, 3, none⟩ = some (.int .i64 0) := hx.cell 3
  have sc4 : W0.cell? ⟨w.heap.size, 4, none⟩ = some (.int .i64 0) := hx.cell 4
  have sc5 : W0.cell? ⟨w.heap.size, 5, none⟩ = some (.slice none 0 0) := hx.cell 5
  have sc6 : W0.cell? ⟨w.heap.size, 6, none⟩ = some (.slice none 0 0) := hx.cell 6
  have tc0 := hx.frozen 0
  have tc1 := hx.frozen 1
  have tc2 := hx.frozen 2
  have tc3 := hx.frozen 3
  have tc4 := hx.frozen 4
  have tc5 := hx.frozen 5
  have tc6 := hx.frozen 6
  go_wp2_with fail
  have X9 := hx.put7 (.int .i64 0) (.string ⟨#[]⟩) (.slice none 0 0) (.int .i64 0) (.int .i64 0) (.slice none 0 0) (.slice none 0 0)
  have k9 := Kept.put7 W0 w.heap.size (.int .i64 0) (.string ⟨#[]⟩) (.slice none 0 0) (.int .i64 0) (.int .i64 0) (.slice none 0 0) (.slice none 0 0)
  generalize ((((((W0.setCell ⟨w.heap.size, 0, none⟩ (.int .i64 0)).setCell ⟨w.heap.size, 1, none⟩ (.string ⟨#[]⟩)).setCell ⟨w.heap.size, 2, none⟩ (.slice none 0 0)).setCell ⟨w.heap.size, 3, none⟩ (.int .i64 0)).setCell ⟨w.heap.size, 4, none⟩ (.int .i64 0)).setCell ⟨w.heap.size, 5, none⟩ (.slice none 0 0)).setCell ⟨w.heap.size, 6, none⟩ (.slice none 0 0) = W9 at *
  clear sc0 sc1 sc2 sc3 sc4 sc5 sc6
  have sc0 : W9.cell? ⟨w.heap.size, 0, none⟩ = some (.int .i64 0) := X9.cell 0
  have sc1 : W9.cell? ⟨w.heap.size, 1, none⟩ = some (.string ⟨#[]⟩) := X9.cell 1
  have sc2 : W9.cell? ⟨w.heap.size, 2, none⟩ = some (.slice none 0 0) := X9.cell 2
  have sc3 : W9.cell? ⟨w.heap.size, 3, none⟩ = some (.int .i64 0) := X9.cell 3
  have sc4 : W9.cell? ⟨w.heap.size, 4, none⟩ = some (.int .i64 0) := X9.cell 4
  have sc5 : W9.cell? ⟨w.heap.size, 5, none⟩ = some (.slice none 0 0) := X9.cell 5
  have sc6 : W9.cell? ⟨w.heap.size, 6, none⟩ = some (.slice none 0 0) := X9.cell 6
  have KK : Kept (fun z => z = g) w W9 := K0.out.then_ k9 (fun z hz e => by omega)
  refine bodyPost_ret (v := .agg #[.int .i64 0, .string ⟨#[]⟩, .slice none 0 0, .int .i64 0, .int .i64 0, .slice none 0 0, .slice none 0 0]) (by simp [results, Tryz.results92, go_sem, sc0, sc1, sc2, sc3, sc4, sc5, sc6]) rfl ⟨_, rfl, KK, ⟨_, _, _, _, _, _, _, _, _, _, _, _, _, rfl⟩, i, 25, HH.out.put P0.out.at_ (P0.out.blk.kept k9 (by omega)) KK, PSR.out.mono (fun _ h => h.elim)⟩
theorem stmt_all (g c : Nat) (A : Option Addr) (m : Nat → Nat) (ts : List Tk) : ∀ d, StmtOk g c A m ts d
  | 0 => fun dp i w hd _ h _ => stmt_deep g c A m ts dp (by omega) i w h
  | d + 1 => fun dp i w hd h0 h hb => by
    have H := stmt_all g c A m ts d
    obtain ⟨t, ht⟩ := ParS.at_some h.at_
    rw [drop_tok ht] at hb
    simp only [beginsT, beginW, Bool.or_eq_true, Bool.and_eq_true, decide_eq_true_eq, List.mem_cons, List.not_mem_nil, or_false] at hb
    rcases hb with hk | ⟨hk, hx⟩
    · exact stmt_assign g c A m ts d dp hd h0 i w h t ht hk
    · rcases hx with hx | hx | hx | hx | hx | hx | hx | hx
      · exact stmt_if g c A m ts d H dp hd h0 i w h t ht hk hx
      · exact stmt_for g c A m ts d H dp hd h0 i w h t ht hk hx
      · exact stmt_refuse g c A m ts d dp hd h0 i w h t ht hk hx
      · exact stmt_roll g c A m ts d dp hd h0 i w h t ht hk hx
      · exact stmt_seat g c A m ts d dp hd h0 i w h t ht hk hx
      · exact stmt_over g c A m ts d dp hd h0 i w h t ht hk hx
      · exact stmt_pay g c A m ts d dp hd h0 i w h t ht hk hx
      · exact stmt_rest g c A m ts d dp hd h0 i w h t ht hk hx
end Go.Proofs.YtdgekckedchjbaaGreatDoor
