
/-
  The parser of programs: variables and parameters. (Printed by wip/tools/gens22.py.) The parser of programs: each step takes tokens; the statements of a statement, and of a part. The parser of programs: the parameters of play. Cells of one expression; an owned row of trees is a slice.
-/
import Derived.Test.YtdgekckedchjbaaGreatDoorQG
import Derived.Test.YtdgekckedchjbaaGreatDoorQD
import Derived.Test.YtdgekckedchjbaaGreatDoorQB
import Derived.IntWalk
import Derived.Deep.RegionHeld3
namespace Go.Proofs.YtdgekckedchjbaaGreatDoor
open Go.RowKit

theorem PS.bind_eta {α : Type} (p : PS α) : (p.bind fun a r => .ok a r) = p := by cases p <;> rfl
theorem parameter_st  (ts : List Tk) (i : Nat) (er : Int) : stP parameterP ts i er = (((stP nameP ts i er).bind fun a r => (signedP r).bind fun b r => .ok (a, b) r).bind fun a r => (signedP r).bind fun b r => .ok (a, b) r).bind fun x r => .ok ((fun x : (List UInt8 × Int) × Int => (⟨x.1.1, 0, x.1.2, x.2⟩ : Va)) x) r := by
  by_cases he : er = 0
  · unfold stP
    rw [if_pos he, if_pos he]
    unfold parameterP
    simp only [PS.bind_assoc, PS.ok_bind]
    all_goals rfl
  · unfold stP
    rw [if_neg he, if_neg he]
    rfl
set_option maxHeartbeats 4000000 in
set_option maxRecDepth 100000 in
theorem parameter_any (g c : Nat) (A : Option Addr) (m : Nat → Nat) (ts : List Tk) (i : Nat) (dp er : Int) (w : World) (h : Par w g A c m ts i dp er) :
    Calls Tryz.prog 93 #[.pointer (some ⟨g, 0, none⟩)] w (StepTo w g c A m ts dp (stP parameterP ts i er) (IsEl QV w.heap.size) ShV) := by
  have f0 : Below w.heap.size w (w.alloc (.cells #[.string ⟨#[]⟩, .int .i64 0, .int .i64 0, .int .i64 0] 89)) := (Below.refl _ w).al _
  have x0 := Blk.new w 89 #[.string ⟨#[]⟩, .int .i64 0, .int .i64 0, .int .i64 0]
  have hgl := h.blk.lt
  have HH := Lib.hid h
  have P0 := Lib.hid (h.below f0)
  have F0 := Lib.hid f0
  have X0 := Lib.hid x0
  have z0 : (w.alloc (.cells #[.string ⟨#[]⟩, .int .i64 0, .int .i64 0, .int .i64 0] 89)).heap.size = w.heap.size + 1 := by simp
  have K0 := Lib.hid (Kept.of_below (S := fun z => z = g) f0)
  have NM := Lib.hid (fun i er w h => pname_any g c A m ts i dp er w h)
  have SG := Lib.hid (fun i er w h => signed_any g c A m ts i dp er w h)
  rw [parameter_st]
  clear h f0 x0
  go_enter Tryz.func93, Tryz.ntmps93
  go_wp2_with fail
  generalize w.alloc (.cells #[.string ⟨#[]⟩, .int .i64 0, .int .i64 0, .int .i64 0] 89) = W0 at *
  refine (NM.out i er W0 P0.out).mono ?_
  rintro e w1 ⟨v1, rfl, k1, ⟨s1, rfl⟩, i1, er1, p1, ps1⟩
  have z1 := k1.size
  have X1 := Lib.hid (X0.out.kept k1 (by omega))
  have K1 := Lib.hid (K0.out.then_ k1 (fun _ _ e => e))
  have P1 := Lib.hid p1
  have PS1 := Lib.hid ps1
  have J1 := Lib.hid k1
  clear p1 k1 ps1 K0 P0 X0
  go_wp2_with fail
  have f2 : Below w1.heap.size w1 (w1.alloc (.cells #[.string s1, .int .i64 0, .int .i64 0, .int .i64 0] 89)) := (Below.refl _ _).al _
  have Y2 := Lib.hid (Blk.new w1 89 #[.string s1, .int .i64 0, .int .i64 0, .int .i64 0])
  have P2 := Lib.hid (P1.out.below f2)
  have X2 := Lib.hid (X1.out.below f2 X1.out.lt)
  have K2 := Lib.hid (K1.out.then_ (Kept.of_below (S := fun z => z = g) f2) (fun _ _ e => e))
  have J2 := Lib.hid (Kept.of_below (S := fun z => z = g) f2)
  have z2 : (w1.alloc (.cells #[.string s1, .int .i64 0, .int .i64 0, .int .i64 0] 89)).heap.size = w1.heap.size + 1 := by simp
  have xl2 := X1.out.lt
  clear f2 K1 P1 X1
  generalize w1.alloc (.cells #[.string s1, .int .i64 0, .int .i64 0, .int .i64 0] 89) = W2 at *
  refine (SG.out i1 er1 W2 P2.out).mono ?_
  rintro e w3 ⟨v3, rfl, k3, ⟨n3, rfl⟩, i3, er3, p3, ps3⟩
  have z3 := k3.size
  have X3 := Lib.hid (X2.out.kept k3 (by omega))
  have Y3 := Lib.hid (Y2.out.kept k3 (by omega))
  have K3 := Lib.hid (K2.out.then_ k3 (fun _ _ e => e))
  have P3 := Lib.hid p3
  have PS3 := Lib.hid (PS1.out.then_ ps3)
  have J3 := Lib.hid k3
  clear p3 k3 ps3 K2 P2 X2 Y2 PS1
  have fz : w3.frozen? ⟨w1.heap.size, 2, none⟩ = false := Y3.out.frozen 2
  have ez : w3.cell? ⟨w1.heap.size, 2, none⟩ = some (.int .i64 0) := Y3.out.cell 2
  go_wp2_with fail
  have k4 := (Kept.refl (fun z => z = w1.heap.size) w3).setCell (p := ⟨w1.heap.size, 2, none⟩) (fun _ => rfl) (.int .i64 n3)
  have Y4 : Hid (Blk (w3.setCell ⟨w1.heap.size, 2, none⟩ (.int .i64 n3)) (w1.heap.size) 89 #[.string s1, .int .i64 0, .int .i64 n3, .int .i64 0]) := Y3.out.set_ 2 (.int .i64 n3)
  have X4 := Lib.hid (X3.out.kept k4 (by omega))
  have K4 := Lib.hid (K3.out.then_ k4 (fun z hz e => by omega))
  have P4 := Lib.hid (HH.out.put P3.out.at_ (P3.out.blk.kept k4 (by omega)) K4.out)
  have J4 := Lib.hid k4
  have z4 := k4.size
  clear k4 Y3 X3 K3 P3
  generalize w3.setCell ⟨w1.heap.size, 2, none⟩ (.int .i64 n3) = W4 at *
  clear fz ez
  refine (SG.out i3 er3 W4 P4.out).mono ?_
  rintro e w5 ⟨v5, rfl, k5, ⟨n5, rfl⟩, i5, er5, p5, ps5⟩
  have z5 := k5.size
  have X5 := Lib.hid (X4.out.kept k5 (by omega))
  have Y5 := Lib.hid (Y4.out.kept k5 (by omega))
  have K5 := Lib.hid (K4.out.then_ k5 (fun _ _ e => e))
  have P5 := Lib.hid p5
  have PS5 := Lib.hid (PS3.out.then_ ps5)
  have J5 := Lib.hid k5
  clear p5 k5 ps5 K4 P4 X4 Y4 PS3
  have fz : w5.frozen? ⟨w1.heap.size, 3, none⟩ = false := Y5.out.frozen 3
  have ez : w5.cell? ⟨w1.heap.size, 3, none⟩ = some (.int .i64 0) := Y5.out.cell 3
  go_upto_region 4 with fail
  have k6 := (Kept.refl (fun z => z = w1.heap.size) w5).setCell (p := ⟨w1.heap.size, 3, none⟩) (fun _ => rfl) (.int .i64 n5)
  have Y6 : Hid (Blk (w5.setCell ⟨w1.heap.size, 3, none⟩ (.int .i64 n5)) (w1.heap.size) 89 #[.string s1, .int .i64 0, .int .i64 n3, .int .i64 n5]) := Y5.out.set_ 3 (.int .i64 n5)
  have X6 := Lib.hid (X5.out.kept k6 (by omega))
  have K6 := Lib.hid (K5.out.then_ k6 (fun z hz e => by omega))
  have P6 := Lib.hid (HH.out.put P5.out.at_ (P5.out.blk.kept k6 (by omega)) K6.out)
  have J6 := Lib.hid k6
  have z6 := k6.size
  clear k6 Y5 X5 K5 P5
  generalize w5.setCell ⟨w1.heap.size, 3, none⟩ (.int .i64 n5) = W6 at *
  clear fz ez
  have qc0 : W6.cell? ⟨w1.heap.size, 0, none⟩ = some (.string s1) := Y6.out.cell 0
  have qc1 : W6.cell? ⟨w1.heap.size, 1, none⟩ = some (.int .i64 0) := Y6.out.cell 1
  have qc2 : W6.cell? ⟨w1.heap.size, 2, none⟩ = some (.int .i64 n3) := Y6.out.cell 2
  have qc3 : W6.cell? ⟨w1.heap.size, 3, none⟩ = some (.int .i64 n5) := Y6.out.cell 3
  have hx := X6.out
  have sc0 : W6.cell? ⟨w.heap.size, 0, none⟩ = some (.string ⟨#[]⟩) := hx.cell 0
  have sc1 : W6.cell? ⟨w.heap.size, 1, none⟩ = some (.int .i64 0) := hx.cell 1
  have sc2 : W6.cell? ⟨w.heap.size, 2, none⟩ = some (.int .i64 0) := hx.cell 2
  have sc3 : W6.cell? ⟨w.heap.size, 3, none⟩ = some (.int .i64 0) := hx.cell 3
  have tc0 := hx.frozen 0
  have tc1 := hx.frozen 1
  have tc2 := hx.frozen 2
  have tc3 := hx.frozen 3
  go_wp2_with fail
  have X9 := hx.put4 (.string s1) (.int .i64 0) (.int .i64 n3) (.int .i64 n5)
  have k9 := Kept.put4 W6 w.heap.size (.string s1) (.int .i64 0) (.int .i64 n3) (.int .i64 n5)
  generalize (((W6.setCell ⟨w.heap.size, 0, none⟩ (.string s1)).setCell ⟨w.heap.size, 1, none⟩ (.int .i64 0)).setCell ⟨w.heap.size, 2, none⟩ (.int .i64 n3)).setCell ⟨w.heap.size, 3, none⟩ (.int .i64 n5) = W9 at *
  clear sc0 sc1 sc2 sc3 qc0 qc1 qc2 qc3
  have sc0 : W9.cell? ⟨w.heap.size, 0, none⟩ = some (.string s1) := X9.cell 0
  have sc1 : W9.cell? ⟨w.heap.size, 1, none⟩ = some (.int .i64 0) := X9.cell 1
  have sc2 : W9.cell? ⟨w.heap.size, 2, none⟩ = some (.int .i64 n3) := X9.cell 2
  have sc3 : W9.cell? ⟨w.heap.size, 3, none⟩ = some (.int .i64 n5) := X9.cell 3
  have KK : Kept (fun z => z = g) w W9 := K6.out.then_ k9 (fun z hz e => by omega)
  refine bodyPost_ret (v := .agg #[.string s1, .int .i64 0, .int .i64 n3, .int .i64 n5]) (by simp [results, Tryz.results93, go_sem, sc0, sc1, sc2, sc3]) rfl ⟨_, rfl, KK, ⟨_, _, _, _, rfl⟩, i5, er5, HH.out.put P6.out.at_ (P6.out.blk.kept k9 (by omega)) KK, PS5.out.map (fun x => (⟨x.1.1, 0, x.1.2, x.2⟩ : Va)) ?_⟩
  rintro ⟨⟨a1, a2⟩, a3⟩ ⟨⟨h1, h2⟩, h3⟩
  injection h1 with h1
  injection h2 with _ h2
  injection h3 with _ h3
  refine ⟨_, rfl, ?_⟩
  show _ = vaCells _
  rw [h1, h2, h3]
  rfl
theorem another_st  (ts : List Tk) (i : Nat) (er : Int) : stP anotherP ts i er = ((stP (mustP [44]) ts i er).bind fun a r => (parameterP r).bind fun b r => .ok (a, b) r).bind fun x r => .ok ((fun x : Unit × Va => x.2) x) r := by
  by_cases he : er = 0
  · unfold stP
    rw [if_pos he, if_pos he]
    unfold anotherP
    simp only [PS.bind_assoc, PS.ok_bind, PS.bind_eta]
    all_goals rfl
  · unfold stP
    rw [if_neg he, if_neg he]
    rfl
set_option maxHeartbeats 4000000 in
set_option maxRecDepth 100000 in
theorem another_any (g c : Nat) (A : Option Addr) (m : Nat → Nat) (ts : List Tk) (i : Nat) (dp er : Int) (w : World) (h : Par w g A c m ts i dp er) :
    Calls Tryz.prog 95 #[.pointer (some ⟨g, 0, none⟩)] w (StepTo w g c A m ts dp (stP anotherP ts i er) (IsEl QV w.heap.size) ShV) := by
  have f0 : Below w.heap.size w (w.alloc (.cells #[.string ⟨#[]⟩, .int .i64 0, .int .i64 0, .int .i64 0] 89)) := (Below.refl _ w).al _
  have x0 := Blk.new w 89 #[.string ⟨#[]⟩, .int .i64 0, .int .i64 0, .int .i64 0]
  have hgl := h.blk.lt
  have HH := Lib.hid h
  have P0 := Lib.hid (h.below f0)
  have F0 := Lib.hid f0
  have X0 := Lib.hid x0
  have z0 : (w.alloc (.cells #[.string ⟨#[]⟩, .int .i64 0, .int .i64 0, .int .i64 0] 89)).heap.size = w.heap.size + 1 := by simp
  have K0 := Lib.hid (Kept.of_below (S := fun z => z = g) f0)
  have MU := Lib.hid (fun i er w h => must_step g c A m ts i dp er [44] w h)
  have PA := Lib.hid (fun i er w h => parameter_any g c A m ts i dp er w h)
  rw [another_st]
  clear h f0 x0
  go_enter Tryz.func95, Tryz.ntmps95
  go_wp2_with fail
  generalize w.alloc (.cells #[.string ⟨#[]⟩, .int .i64 0, .int .i64 0, .int .i64 0] 89) = W0 at *
  refine (MU.out i er W0 P0.out).mono ?_
  rintro e w1 ⟨v1, rfl, k1, rfl, i1, er1, p1, ps1⟩
  have z1 := k1.size
  have X1 := Lib.hid (X0.out.kept k1 (by omega))
  have K1 := Lib.hid (K0.out.then_ k1 (fun _ _ e => e))
  have P1 := Lib.hid p1
  have PS1 := Lib.hid ps1
  have J1 := Lib.hid k1
  clear p1 k1 ps1 K0 P0 X0
  go_wp2_with fail
  refine (PA.out i1 er1 w1 P1.out).mono ?_
  rintro e w2 ⟨v2, rfl, k2, ⟨s2, a2, b2, d2, rfl⟩, i2, er2, p2, ps2⟩
  have z2 := k2.size
  have X2 := Lib.hid (X1.out.kept k2 (by omega))
  have K2 := Lib.hid (K1.out.then_ k2 (fun _ _ e => e))
  have P2 := Lib.hid p2
  have PS2 := Lib.hid (PS1.out.then_ ps2)
  have J2 := Lib.hid k2
  clear p2 k2 ps2 K1 P1 X1 PS1
  have hx := X2.out
  have sc0 : w2.cell? ⟨w.heap.size, 0, none⟩ = some (.string ⟨#[]⟩) := hx.cell 0
  have sc1 : w2.cell? ⟨w.heap.size, 1, none⟩ = some (.int .i64 0) := hx.cell 1
  have sc2 : w2.cell? ⟨w.heap.size, 2, none⟩ = some (.int .i64 0) := hx.cell 2
  have sc3 : w2.cell? ⟨w.heap.size, 3, none⟩ = some (.int .i64 0) := hx.cell 3
  have tc0 := hx.frozen 0
  have tc1 := hx.frozen 1
  have tc2 := hx.frozen 2
  have tc3 := hx.frozen 3
  go_wp2_with fail
  have X9 := hx.put4 (.string s2) (.int .i64 a2) (.int .i64 b2) (.int .i64 d2)
  have k9 := Kept.put4 w2 w.heap.size (.string s2) (.int .i64 a2) (.int .i64 b2) (.int .i64 d2)
  generalize (((w2.setCell ⟨w.heap.size, 0, none⟩ (.string s2)).setCell ⟨w.heap.size, 1, none⟩ (.int .i64 a2)).setCell ⟨w.heap.size, 2, none⟩ (.int .i64 b2)).setCell ⟨w.heap.size, 3, none⟩ (.int .i64 d2) = W9 at *
  clear sc0 sc1 sc2 sc3
  have sc0 : W9.cell? ⟨w.heap.size, 0, none⟩ = some (.string s2) := X9.cell 0
  have sc1 : W9.cell? ⟨w.heap.size, 1, none⟩ = some (.int .i64 a2) := X9.cell 1
  have sc2 : W9.cell? ⟨w.heap.size, 2, none⟩ = some (.int .i64 b2) := X9.cell 2
  have sc3 : W9.cell? ⟨w.heap.size, 3, none⟩ = some (.int .i64 d2) := X9.cell 3
  have KK : Kept (fun z => z = g) w W9 := K2.out.then_ k9 (fun z hz e => by omega)
  refine bodyPost_ret (v := .agg #[.string s2, .int .i64 a2, .int .i64 b2, .int .i64 d2]) (by simp [results, Tryz.results95, go_sem, sc0, sc1, sc2, sc3]) rfl ⟨_, rfl, KK, ⟨_, _, _, _, rfl⟩, i2, er2, HH.out.put P2.out.at_ (P2.out.blk.kept k9 (by omega)) KK, PS2.out.map (fun x => x.2) ?_⟩
  rintro ⟨a1, a2⟩ ⟨h1, h2⟩
  exact h2.kept QV_kept (by omega) k9 (fun z _ hz e => by omega)
/-- A variable's size, where there is one. -/
def szP (r : List Tk) : PS Int := if hasT [91] r then (numP r.tail).bind fun n r => (mustP [93] r).bind fun _ r => .ok n r else .ok 0 r
def szT (r : List Tk) : PS Int := (numP r).bind fun n r => (mustP [93] r).bind fun _ r => .ok n r
theorem szT_st  (ts : List Tk) (i : Nat) (er : Int) : stP szT ts i er = ((stP numP ts i er).bind fun a r => ((mustP [93]) r).bind fun b r => .ok (a, b) r).bind fun x r => .ok ((fun x : Int × Unit => x.1) x) r := by
  by_cases he : er = 0
  · unfold stP
    rw [if_pos he, if_pos he]
    unfold szT
    simp only [PS.bind_assoc, PS.ok_bind]
    all_goals rfl
  · unfold stP
    rw [if_neg he, if_neg he]
    rfl
theorem variable_st  (ts : List Tk) (i : Nat) (er : Int) : stP variableP ts i er = (((((stP (mustP [118, 97, 114]) ts i er).bind fun a r => (nameP r).bind fun b r => .ok (a, b) r).bind fun a r => (szP r).bind fun b r => .ok (a, b) r).bind fun a r => (signedP r).bind fun b r => .ok (a, b) r).bind fun a r => (signedP r).bind fun b r => .ok (a, b) r).bind fun x r => .ok ((fun x : (((Unit × List UInt8) × Int) × Int) × Int => (⟨x.1.1.1.2, x.1.1.2, x.1.2, x.2⟩ : Va)) x) r := by
  by_cases he : er = 0
  · unfold stP
    rw [if_pos he, if_pos he]
    unfold variableP
    simp only [PS.bind_assoc, PS.ok_bind]
    all_goals rfl
  · unfold stP
    rw [if_neg he, if_neg he]
    rfl
set_option maxHeartbeats 4000000 in
set_option maxRecDepth 100000 in
theorem variable_any (g c : Nat) (A : Option Addr) (m : Nat → Nat) (ts : List Tk) (i : Nat) (dp er : Int) (w : World) (h : Par w g A c m ts i dp er) :
    Calls Tryz.prog 62 #[.pointer (some ⟨g, 0, none⟩)] w (StepTo w g c A m ts dp (stP variableP ts i er) (IsEl QV w.heap.size) ShV) := by
  have f0 : Below w.heap.size w (w.alloc (.cells #[.string ⟨#[]⟩, .int .i64 0, .int .i64 0, .int .i64 0] 89)) := (Below.refl _ w).al _
  have x0 := Blk.new w 89 #[.string ⟨#[]⟩, .int .i64 0, .int .i64 0, .int .i64 0]
  have hgl := h.blk.lt
  have HH := Lib.hid h
  have P0 := Lib.hid (h.below f0)
  have F0 := Lib.hid f0
  have X0 := Lib.hid x0
  have z0 : (w.alloc (.cells #[.string ⟨#[]⟩, .int .i64 0, .int .i64 0, .int .i64 0] 89)).heap.size = w.heap.size + 1 := by simp
  have K0 := Lib.hid (Kept.of_below (S := fun z => z = g) f0)
  have MU := Lib.hid (fun i er w h => must_step g c A m ts i dp er [118, 97, 114] w h)
  have MC := Lib.hid (fun i er w h => must_step g c A m ts i dp er [93] w h)
  have NM := Lib.hid (fun i er w h => pname_any g c A m ts i dp er w h)
  have SG := Lib.hid (fun i er w h => signed_any g c A m ts i dp er w h)
  have NU := Lib.hid (fun i er w h => pnumber_any g c A m ts i dp er w h)
  rw [variable_st]
  clear h f0 x0
  go_enter Tryz.func62, Tryz.ntmps62
  go_wp2_with fail
  generalize w.alloc (.cells #[.string ⟨#[]⟩, .int .i64 0, .int .i64 0, .int .i64 0] 89) = W0 at *
  refine (MU.out i er W0 P0.out).mono ?_
  rintro e w1 ⟨v1, rfl, k1, rfl, i1, er1, p1, ps1⟩
  have z1 := k1.size
  have X1 := Lib.hid (X0.out.kept k1 (by omega))
  have K1 := Lib.hid (K0.out.then_ k1 (fun _ _ e => e))
  have P1 := Lib.hid p1
  have PS1 := Lib.hid ps1
  have J1 := Lib.hid k1
  clear p1 k1 ps1 K0 P0 X0
  go_wp2_with fail
  refine (NM.out i1 er1 w1 P1.out).mono ?_
  rintro e w2 ⟨v2, rfl, k2, ⟨s2, rfl⟩, i2, er2, p2, ps2⟩
  have z2 := k2.size
  have X2 := Lib.hid (X1.out.kept k2 (by omega))
  have K2 := Lib.hid (K1.out.then_ k2 (fun _ _ e => e))
  have P2 := Lib.hid p2
  have PS2 := Lib.hid (PS1.out.then_ ps2)
  have J2 := Lib.hid k2
  clear p2 k2 ps2 K1 P1 X1 PS1
  go_wp2_with fail
  have f3 : Below w2.heap.size w2 (w2.alloc (.cells #[.string s2, .int .i64 0, .int .i64 0, .int .i64 0] 89)) := (Below.refl _ _).al _
  have Y3 := Lib.hid (Blk.new w2 89 #[.string s2, .int .i64 0, .int .i64 0, .int .i64 0])
  have P3 := Lib.hid (P2.out.below f3)
  have X3 := Lib.hid (X2.out.below f3 X2.out.lt)
  have K3 := Lib.hid (K2.out.then_ (Kept.of_below (S := fun z => z = g) f3) (fun _ _ e => e))
  have J3 := Lib.hid (Kept.of_below (S := fun z => z = g) f3)
  have z3 : (w2.alloc (.cells #[.string s2, .int .i64 0, .int .i64 0, .int .i64 0] 89)).heap.size = w2.heap.size + 1 := by simp
  have xl3 := X2.out.lt
  clear f3 K2 P2 X2
  generalize w2.alloc (.cells #[.string s2, .int .i64 0, .int .i64 0, .int .i64 0] 89) = W3 at *
  obtain ⟨t', ht'⟩ := ParS.at_some P3.out.at_
  have SK := Lib.hid (skip_any g c A m ts i2 dp er2 [91] W3 P3.out t' ht')
  have PT := Lib.hid (stP_skip (er := er2) ht' [91] szP szT (fun r => .ok 0 r) (fun r => rfl))
  obtain ⟨bb, hbb⟩ : ∃ b, hasB t' er2 [91] = b := ⟨_, rfl⟩
  rw [hbb] at SK PT
  clear hbb ht'
  cases bb
  · have PTT := Lib.hid (PT.out.2 rfl)
    refine SK.out.mono ?_
    rintro e w4 ⟨rfl, p4, k4⟩
    have P4 : Hid (Par w4 g A c m ts (i2) dp er2) := p4
    have z4 := k4.size
    have X4 := Lib.hid (X3.out.kept k4 (by omega))
    have Y4 := Lib.hid (Y3.out.kept k4 (by omega))
    have K4 := Lib.hid (K3.out.then_ k4 (fun _ _ e => e))
    clear p4 k4 SK K3 P3 X3 Y3
    have PSs : PsAt ts i2 er2 (stP szP ts i2 er2) (fun a => IsN w4 a (.int .i64 0)) := by
      rw [PTT.out]
      exact PsAt.st rfl
    have PS4x := Lib.hid (PS2.out.then_ PSs)
    clear PS2 PSs
    go_wp2_with fail
    refine (SG.out i2 er2 w4 P4.out).mono ?_
    rintro e w5 ⟨v5, rfl, k5, ⟨n5, rfl⟩, i5, er5, p5, ps5⟩
    have z5 := k5.size
    have X5 := Lib.hid (X4.out.kept k5 (by omega))
    have Y5 := Lib.hid (Y4.out.kept k5 (by omega))
    have K5 := Lib.hid (K4.out.then_ k5 (fun _ _ e => e))
    have P5 := Lib.hid p5
    have PS5 := Lib.hid (PS4x.out.then_ ps5)
    have J5 := Lib.hid k5
    clear p5 k5 ps5 K4 P4 X4 Y4 PS4x
    have fz : w5.frozen? ⟨w2.heap.size, 2, none⟩ = false := Y5.out.frozen 2
    have ez : w5.cell? ⟨w2.heap.size, 2, none⟩ = some (.int .i64 0) := Y5.out.cell 2
    go_wp2_with fail
    have k6 := (Kept.refl (fun z => z = w2.heap.size) w5).setCell (p := ⟨w2.heap.size, 2, none⟩) (fun _ => rfl) (.int .i64 n5)
    have Y6 : Hid (Blk (w5.setCell ⟨w2.heap.size, 2, none⟩ (.int .i64 n5)) (w2.heap.size) 89 #[.string s2, .int .i64 0, .int .i64 n5, .int .i64 0]) := Y5.out.set_ 2 (.int .i64 n5)
    have X6 := Lib.hid (X5.out.kept k6 (by omega))
    have K6 := Lib.hid (K5.out.then_ k6 (fun z hz e => by omega))
    have P6 := Lib.hid (HH.out.put P5.out.at_ (P5.out.blk.kept k6 (by omega)) K6.out)
    have J6 := Lib.hid k6
    have z6 := k6.size
    clear k6 Y5 X5 K5 P5
    generalize w5.setCell ⟨w2.heap.size, 2, none⟩ (.int .i64 n5) = W6 at *
    clear fz ez
    refine (SG.out i5 er5 W6 P6.out).mono ?_
    rintro e w7 ⟨v7, rfl, k7, ⟨n7, rfl⟩, i7, er7, p7, ps7⟩
    have z7 := k7.size
    have X7 := Lib.hid (X6.out.kept k7 (by omega))
    have Y7 := Lib.hid (Y6.out.kept k7 (by omega))
    have K7 := Lib.hid (K6.out.then_ k7 (fun _ _ e => e))
    have P7 := Lib.hid p7
    have PS7 := Lib.hid (PS5.out.then_ ps7)
    have J7 := Lib.hid k7
    clear p7 k7 ps7 K6 P6 X6 Y6 PS5
    have fz : w7.frozen? ⟨w2.heap.size, 3, none⟩ = false := Y7.out.frozen 3
    have ez : w7.cell? ⟨w2.heap.size, 3, none⟩ = some (.int .i64 0) := Y7.out.cell 3
    go_upto_region 8 with fail
    have k8 := (Kept.refl (fun z => z = w2.heap.size) w7).setCell (p := ⟨w2.heap.size, 3, none⟩) (fun _ => rfl) (.int .i64 n7)
    have Y8 : Hid (Blk (w7.setCell ⟨w2.heap.size, 3, none⟩ (.int .i64 n7)) (w2.heap.size) 89 #[.string s2, .int .i64 0, .int .i64 n5, .int .i64 n7]) := Y7.out.set_ 3 (.int .i64 n7)
    have X8 := Lib.hid (X7.out.kept k8 (by omega))
    have K8 := Lib.hid (K7.out.then_ k8 (fun z hz e => by omega))
    have P8 := Lib.hid (HH.out.put P7.out.at_ (P7.out.blk.kept k8 (by omega)) K8.out)
    have J8 := Lib.hid k8
    have z8 := k8.size
    clear k8 Y7 X7 K7 P7
    generalize w7.setCell ⟨w2.heap.size, 3, none⟩ (.int .i64 n7) = W8 at *
    clear fz ez
    have qc0 : W8.cell? ⟨w2.heap.size, 0, none⟩ = some (.string s2) := Y8.out.cell 0
    have qc1 : W8.cell? ⟨w2.heap.size, 1, none⟩ = some (.int .i64 0) := Y8.out.cell 1
    have qc2 : W8.cell? ⟨w2.heap.size, 2, none⟩ = some (.int .i64 n5) := Y8.out.cell 2
    have qc3 : W8.cell? ⟨w2.heap.size, 3, none⟩ = some (.int .i64 n7) := Y8.out.cell 3
    have hx := X8.out
    have sc0 : W8.cell? ⟨w.heap.size, 0, none⟩ = some (.string ⟨#[]⟩) := hx.cell 0
    have sc1 : W8.cell? ⟨w.heap.size, 1, none⟩ = some (.int .i64 0) := hx.cell 1
    have sc2 : W8.cell? ⟨w.heap.size, 2, none⟩ = some (.int .i64 0) := hx.cell 2
    have sc3 : W8.cell? ⟨w.heap.size, 3, none⟩ = some (.int .i64 0) := hx.cell 3
    have tc0 := hx.frozen 0
    have tc1 := hx.frozen 1
    have tc2 := hx.frozen 2
    have tc3 := hx.frozen 3
    go_wp2_with fail
    have X9 := hx.put4 (.string s2) (.int .i64 0) (.int .i64 n5) (.int .i64 n7)
    have k9 := Kept.put4 W8 w.heap.size (.string s2) (.int .i64 0) (.int .i64 n5) (.int .i64 n7)
    generalize (((W8.setCell ⟨w.heap.size, 0, none⟩ (.string s2)).setCell ⟨w.heap.size, 1, none⟩ (.int .i64 0)).setCell ⟨w.heap.size, 2, none⟩ (.int .i64 n5)).setCell ⟨w.heap.size, 3, none⟩ (.int .i64 n7) = W9 at *
    clear sc0 sc1 sc2 sc3 qc0 qc1 qc2 qc3
    have sc0 : W9.cell? ⟨w.heap.size, 0, none⟩ = some (.string s2) := X9.cell 0
    have sc1 : W9.cell? ⟨w.heap.size, 1, none⟩ = some (.int .i64 0) := X9.cell 1
    have sc2 : W9.cell? ⟨w.heap.size, 2, none⟩ = some (.int .i64 n5) := X9.cell 2
    have sc3 : W9.cell? ⟨w.heap.size, 3, none⟩ = some (.int .i64 n7) := X9.cell 3
    have KK : Kept (fun z => z = g) w W9 := K8.out.then_ k9 (fun z hz e => by omega)
    refine bodyPost_ret (v := .agg #[.string s2, .int .i64 0, .int .i64 n5, .int .i64 n7]) (by simp [results, Tryz.results62, go_sem, sc0, sc1, sc2, sc3]) rfl ⟨_, rfl, KK, ⟨_, _, _, _, rfl⟩, i7, er7, HH.out.put P8.out.at_ (P8.out.blk.kept k9 (by omega)) KK, PS7.out.map (fun x => (⟨x.1.1.1.2, x.1.1.2, x.1.2, x.2⟩ : Va)) ?_⟩
    rintro ⟨⟨⟨⟨a0, a1⟩, a2⟩, a3⟩, a4⟩ ⟨⟨⟨⟨-, h1⟩, h2⟩, h3⟩, h4⟩
    injection h1 with h1
    injection h2 with _ h2
    injection h3 with _ h3
    injection h4 with _ h4
    refine ⟨_, rfl, ?_⟩
    show _ = vaCells _
    rw [h1, h2, h3, h4]
    rfl
  · have PTT := Lib.hid (PT.out.1 rfl)
    refine SK.out.mono ?_
    rintro e w4 ⟨rfl, p4, k4⟩
    have P4 : Hid (Par w4 g A c m ts (i2 + 1) dp er2) := p4
    have z4 := k4.size
    have X4 := Lib.hid (X3.out.kept k4 (by omega))
    have Y4 := Lib.hid (Y3.out.kept k4 (by omega))
    have K4 := Lib.hid (K3.out.then_ k4 (fun _ _ e => e))
    clear p4 k4 SK K3 P3 X3 Y3
    go_wp2_with fail
    refine (NU.out (i2 + 1) er2 w4 P4.out).mono ?_
    rintro e w5 ⟨v5, rfl, k5, ⟨n5, rfl⟩, i5, er5, p5, ps5⟩
    have z5 := k5.size
    have X5 := Lib.hid (X4.out.kept k5 (by omega))
    have Y5 := Lib.hid (Y4.out.kept k5 (by omega))
    have K5 := Lib.hid (K4.out.then_ k5 (fun _ _ e => e))
    have P5 := Lib.hid p5
    have PS5 := Lib.hid ps5
    have J5 := Lib.hid k5
    clear p5 k5 ps5 K4 P4 X4 Y4
    have fz : w5.frozen? ⟨w2.heap.size, 1, none⟩ = false := Y5.out.frozen 1
    have ez : w5.cell? ⟨w2.heap.size, 1, none⟩ = some (.int .i64 0) := Y5.out.cell 1
    go_wp2_with fail
    have k6 := (Kept.refl (fun z => z = w2.heap.size) w5).setCell (p := ⟨w2.heap.size, 1, none⟩) (fun _ => rfl) (.int .i64 n5)
    have Y6 : Hid (Blk (w5.setCell ⟨w2.heap.size, 1, none⟩ (.int .i64 n5)) (w2.heap.size) 89 #[.string s2, .int .i64 n5, .int .i64 0, .int .i64 0]) := Y5.out.set_ 1 (.int .i64 n5)
    have X6 := Lib.hid (X5.out.kept k6 (by omega))
    have K6 := Lib.hid (K5.out.then_ k6 (fun z hz e => by omega))
    have P6 := Lib.hid (HH.out.put P5.out.at_ (P5.out.blk.kept k6 (by omega)) K6.out)
    have J6 := Lib.hid k6
    have z6 := k6.size
    clear k6 Y5 X5 K5 P5
    generalize w5.setCell ⟨w2.heap.size, 1, none⟩ (.int .i64 n5) = W6 at *
    clear fz ez
    refine (MC.out i5 er5 W6 P6.out).mono ?_
    rintro e w7 ⟨v7, rfl, k7, rfl, i7, er7, p7, ps7⟩
    have z7 := k7.size
    have X7 := Lib.hid (X6.out.kept k7 (by omega))
    have Y7 := Lib.hid (Y6.out.kept k7 (by omega))
    have K7 := Lib.hid (K6.out.then_ k7 (fun _ _ e => e))
    have P7 := Lib.hid p7
    have PS7 := Lib.hid (PS5.out.then_ ps7)
    have J7 := Lib.hid k7
    clear p7 k7 ps7 K6 P6 X6 Y6 PS5
    have PSs : PsAt ts i7 er7 (stP szP ts i2 er2) (fun a => IsN w7 a (.int .i64 n5)) := by
      rw [PTT.out.2, szT_st]
      exact PS7.out.map (Q' := fun a => IsN w7 a (.int .i64 n5)) (fun x : Int × Unit => x.1) (fun a h => h.1)
    have PS7x := Lib.hid (PS2.out.then_ PSs)
    clear PS7 PSs
    go_wp2_with fail
    refine (SG.out i7 er7 w7 P7.out).mono ?_
    rintro e w8 ⟨v8, rfl, k8, ⟨n8, rfl⟩, i8, er8, p8, ps8⟩
    have z8 := k8.size
    have X8 := Lib.hid (X7.out.kept k8 (by omega))
    have Y8 := Lib.hid (Y7.out.kept k8 (by omega))
    have K8 := Lib.hid (K7.out.then_ k8 (fun _ _ e => e))
    have P8 := Lib.hid p8
    have PS8 := Lib.hid (PS7x.out.then_ ps8)
    have J8 := Lib.hid k8
    clear p8 k8 ps8 K7 P7 X7 Y7 PS7x
    have fz : w8.frozen? ⟨w2.heap.size, 2, none⟩ = false := Y8.out.frozen 2
    have ez : w8.cell? ⟨w2.heap.size, 2, none⟩ = some (.int .i64 0) := Y8.out.cell 2
    go_wp2_with fail
    have k9 := (Kept.refl (fun z => z = w2.heap.size) w8).setCell (p := ⟨w2.heap.size, 2, none⟩) (fun _ => rfl) (.int .i64 n8)
    have Y9 : Hid (Blk (w8.setCell ⟨w2.heap.size, 2, none⟩ (.int .i64 n8)) (w2.heap.size) 89 #[.string s2, .int .i64 n5, .int .i64 n8, .int .i64 0]) := Y8.out.set_ 2 (.int .i64 n8)
    have X9 := Lib.hid (X8.out.kept k9 (by omega))
    have K9 := Lib.hid (K8.out.then_ k9 (fun z hz e => by omega))
    have P9 := Lib.hid (HH.out.put P8.out.at_ (P8.out.blk.kept k9 (by omega)) K9.out)
    have J9 := Lib.hid k9
    have z9 := k9.size
    clear k9 Y8 X8 K8 P8
    generalize w8.setCell ⟨w2.heap.size, 2, none⟩ (.int .i64 n8) = W9 at *
    clear fz ez
    refine (SG.out i8 er8 W9 P9.out).mono ?_
    rintro e w10 ⟨v10, rfl, k10, ⟨n10, rfl⟩, i10, er10, p10, ps10⟩
    have z10 := k10.size
    have X10 := Lib.hid (X9.out.kept k10 (by omega))
    have Y10 := Lib.hid (Y9.out.kept k10 (by omega))
    have K10 := Lib.hid (K9.out.then_ k10 (fun _ _ e => e))
    have P10 := Lib.hid p10
    have PS10 := Lib.hid (PS8.out.then_ ps10)
    have J10 := Lib.hid k10
    clear p10 k10 ps10 K9 P9 X9 Y9 PS8
    have fz : w10.frozen? ⟨w2.heap.size, 3, none⟩ = false := Y10.out.frozen 3
    have ez : w10.cell? ⟨w2.heap.size, 3, none⟩ = some (.int .i64 0) := Y10.out.cell 3
    go_upto_region 8 with fail
    have k11 := (Kept.refl (fun z => z = w2.heap.size) w10).setCell (p := ⟨w2.heap.size, 3, none⟩) (fun _ => rfl) (.int .i64 n10)
    have Y11 : Hid (Blk (w10.setCell ⟨w2.heap.size, 3, none⟩ (.int .i64 n10)) (w2.heap.size) 89 #[.string s2, .int .i64 n5, .int .i64 n8, .int .i64 n10]) := Y10.out.set_ 3 (.int .i64 n10)
    have X11 := Lib.hid (X10.out.kept k11 (by omega))
    have K11 := Lib.hid (K10.out.then_ k11 (fun z hz e => by omega))
    have P11 := Lib.hid (HH.out.put P10.out.at_ (P10.out.blk.kept k11 (by omega)) K11.out)
    have J11 := Lib.hid k11
    have z11 := k11.size
    clear k11 Y10 X10 K10 P10
    generalize w10.setCell ⟨w2.heap.size, 3, none⟩ (.int .i64 n10) = W11 at *
    clear fz ez
    have qc0 : W11.cell? ⟨w2.heap.size, 0, none⟩ = some (.string s2) := Y11.out.cell 0
    have qc1 : W11.cell? ⟨w2.heap.size, 1, none⟩ = some (.int .i64 n5) := Y11.out.cell 1
    have qc2 : W11.cell? ⟨w2.heap.size, 2, none⟩ = some (.int .i64 n8) := Y11.out.cell 2
    have qc3 : W11.cell? ⟨w2.heap.size, 3, none⟩ = some (.int .i64 n10) := Y11.out.cell 3
    have hx := X11.out
    have sc0 : W11.cell? ⟨w.heap.size, 0, none⟩ = some (.string ⟨#[]⟩) := hx.cell 0
    have sc1 : W11.cell? ⟨w.heap.size, 1, none⟩ = some (.int .i64 0) := hx.cell 1
    have sc2 : W11.cell? ⟨w.heap.size, 2, none⟩ = some (.int .i64 0) := hx.cell 2
    have sc3 : W11.cell? ⟨w.heap.size, 3, none⟩ = some (.int .i64 0) := hx.cell 3
    have tc0 := hx.frozen 0
    have tc1 := hx.frozen 1
    have tc2 := hx.frozen 2
    have tc3 := hx.frozen 3
    go_wp2_with fail
    have X9 := hx.put4 (.string s2) (.int .i64 n5) (.int .i64 n8) (.int .i64 n10)
    have k9 := Kept.put4 W11 w.heap.size (.string s2) (.int .i64 n5) (.int .i64 n8) (.int .i64 n10)
    generalize (((W11.setCell ⟨w.heap.size, 0, none⟩ (.string s2)).setCell ⟨w.heap.size, 1, none⟩ (.int .i64 n5)).setCell ⟨w.heap.size, 2, none⟩ (.int .i64 n8)).setCell ⟨w.heap.size, 3, none⟩ (.int .i64 n10) = W9 at *
    clear sc0 sc1 sc2 sc3 qc0 qc1 qc2 qc3
    have sc0 : W9.cell? ⟨w.heap.size, 0, none⟩ = some (.string s2) := X9.cell 0
    have sc1 : W9.cell? ⟨w.heap.size, 1, none⟩ = some (.int .i64 n5) := X9.cell 1
    have sc2 : W9.cell? ⟨w.heap.size, 2, none⟩ = some (.int .i64 n8) := X9.cell 2
    have sc3 : W9.cell? ⟨w.heap.size, 3, none⟩ = some (.int .i64 n10) := X9.cell 3
    have KK : Kept (fun z => z = g) w W9 := K11.out.then_ k9 (fun z hz e => by omega)
    refine bodyPost_ret (v := .agg #[.string s2, .int .i64 n5, .int .i64 n8, .int .i64 n10]) (by simp [results, Tryz.results62, go_sem, sc0, sc1, sc2, sc3]) rfl ⟨_, rfl, KK, ⟨_, _, _, _, rfl⟩, i10, er10, HH.out.put P11.out.at_ (P11.out.blk.kept k9 (by omega)) KK, PS10.out.map (fun x => (⟨x.1.1.1.2, x.1.1.2, x.1.2, x.2⟩ : Va)) ?_⟩
    rintro ⟨⟨⟨⟨a0, a1⟩, a2⟩, a3⟩, a4⟩ ⟨⟨⟨⟨-, h1⟩, h2⟩, h3⟩, h4⟩
    injection h1 with h1
    injection h2 with _ h2
    injection h3 with _ h3
    injection h4 with _ h4
    refine ⟨_, rfl, ?_⟩
    show _ = vaCells _
    rw [h1, h2, h3, h4]
    rfl
end Go.Proofs.YtdgekckedchjbaaGreatDoor
namespace Go.Proofs.YtdgekckedchjbaaGreatDoor
open Go.RowKit

/-- It takes none back. -/
def LeP {α : Type} (f : List Tk → PS α) : Prop := ∀ r a r', f r = .ok a r' → r'.length ≤ r.length
theorem EatsP.le {α : Type} {f : List Tk → PS α} (h : EatsP f) : LeP f := fun r a r' e => Nat.le_of_lt (h r a r' e)
theorem LeP.ok {α : Type} (a : α) : LeP (fun r => PS.ok a r) := fun _ _ _ h => by
  injection h with _ h
  rw [h]
  exact Nat.le_refl _
theorem EatsP.bind {α β : Type} {p : List Tk → PS α} {f : α → List Tk → PS β} (hp : EatsP p) (hf : ∀ a, LeP (f a)) : EatsP fun r => (p r).bind fun a r => f a r := fun r b r' h => by
  simp only at h
  cases hq : p r with
  | ok a r1 =>
    rw [hq] at h
    exact Nat.lt_of_le_of_lt (hf a _ _ _ h) (hp _ _ _ hq)
  | bad r1 e =>
    rw [hq] at h
    cases h
theorem LeP.bind {α β : Type} {p : List Tk → PS α} {f : α → List Tk → PS β} (hp : LeP p) (hf : ∀ a, LeP (f a)) : LeP fun r => (p r).bind fun a r => f a r := fun r b r' h => by
  simp only at h
  cases hq : p r with
  | ok a r1 =>
    rw [hq] at h
    exact Nat.le_trans (hf a _ _ _ h) (hp _ _ _ hq)
  | bad r1 e =>
    rw [hq] at h
    cases h
theorem LeP.ite {α : Type} (c : List Tk → Prop) [∀ r, Decidable (c r)] {f g : List Tk → PS α} (hf : LeP f) (hg : LeP g) : LeP fun r => if c r then f r else g r := fun r a r' h => by
  simp only at h
  split at h
  · exact hf _ _ _ h
  · exact hg _ _ _ h
theorem EatsP.ite {α : Type} (c : List Tk → Prop) [∀ r, Decidable (c r)] {f g : List Tk → PS α} (hf : EatsP f) (hg : EatsP g) : EatsP fun r => if c r then f r else g r := fun r a r' h => by
  simp only at h
  split at h
  · exact hf _ _ _ h
  · exact hg _ _ _ h
theorem LeP.tail {α : Type} {f : List Tk → PS α} (hf : LeP f) : LeP fun r => f r.tail := fun r a r' h => Nat.le_trans (hf _ _ _ h) (by simp)
theorem EatsP.tail {α : Type} {f : List Tk → PS α} (hf : EatsP f) : EatsP fun r => f r.tail := fun r a r' h => Nat.lt_of_lt_of_le (hf _ _ _ h) (by simp)
theorem must_eats (x : List UInt8) : EatsP (mustP x) := fun r a r' h => by
  unfold mustP at h
  split at h
  · rename_i hx
    injection h with _ h
    subst h
    cases r with
    | nil => simp [hasT] at hx
    | cons t r => simp
  · cases h
theorem take_eats (k : Int) : EatsP (takeP k) := fun r a r' h => by
  cases r with
  | nil => cases h
  | cons t r =>
    simp only [takeP] at h
    split at h
    · injection h with _ h
      subst h
      simp
    · cases h
theorem name_eats : EatsP nameP := EatsP.bind (take_eats 1) fun _ => LeP.ok _
theorem word_eats : EatsP wordP := EatsP.bind (take_eats 3) fun _ => LeP.ok _
theorem num_eats : EatsP numP := EatsP.bind (take_eats 2) fun _ => LeP.ok _
theorem signed_eats : EatsP signedP := EatsP.ite (fun r => hasT [45] r = true) (EatsP.tail (f := fun r => (numP r).bind fun n r => PS.ok (IntKind.i64.wrap (-n)) r) (EatsP.bind num_eats fun _ => LeP.ok _)) num_eats
theorem expr_eats : EatsP exprP := fun r a r' h => by
  unfold exprP at h
  cases hj : joinL (plainD 16) 5 r with
  | ok x r1 =>
    rw [hj] at h
    injection h with _ h
    subst h
    exact joinL_eats (plainD_eats 16) 5 _ _ _ hj
  | bad r1 e =>
    rw [hj] at h
    cases h
theorem list_le {α : Type} {more : List Tk → Bool} {one : List Tk → PS α} (ho : LeP one) : ∀ (f : Nat) (acc : List α), LeP (listP more one f acc)
  | 0, acc => LeP.ok acc
  | f + 1, acc => fun r a r' h => by
    simp only [listP] at h
    split at h
    · cases hq : one r with
      | ok b r1 =>
        rw [hq] at h
        exact Nat.le_trans (list_le ho f _ _ _ _ h) (ho _ _ _ hq)
      | bad r1 e =>
        rw [hq] at h
        cases h
    · injection h with _ h
      rw [h]
      exact Nat.le_refl _
theorem listL_le {α : Type} {more : List Tk → Bool} {one : List Tk → PS α} (ho : LeP one) (acc : List α) : LeP fun r => listP more one r.length acc r := fun _ _ _ h => list_le ho _ _ _ _ _ h
theorem assign_eats : EatsP assignP := EatsP.bind name_eats fun nm => LeP.ite (fun r => hasT [91] r = true)
  (LeP.tail (f := fun r => (exprP r).bind fun e r => (mustP [93] r).bind fun _ r => (mustP [61] r).bind fun _ r => (exprP r).bind fun e2 r => PS.ok (St.mk 1 nm [e, e2] 0 0 [] []) r)
    (LeP.bind expr_eats.le fun _ => LeP.bind (must_eats _).le fun _ => LeP.bind (must_eats _).le fun _ => LeP.bind expr_eats.le fun _ => LeP.ok _))
  (LeP.bind (must_eats _).le fun _ => LeP.bind expr_eats.le fun _ => LeP.ok _)
theorem LeP.if_ {α : Type} (c : Prop) [Decidable c] {f g : List Tk → PS α} (hf : LeP f) (hg : LeP g) : LeP fun r => if c then f r else g r := LeP.ite (fun _ => c) hf hg
theorem stmt_eats : ∀ d, EatsP (stmtD d)
  | 0 => fun r a r' h => by cases h
  | d + 1 => by
    have ih : LeP fun r => listP beginsT (stmtD d) r.length [] r := listL_le (stmt_eats d).le []
    refine EatsP.ite (fun r => kindT 1 r = true) assign_eats (EatsP.bind word_eats fun _ => LeP.if_ _
      (LeP.bind expr_eats.le fun _ => LeP.bind (must_eats _).le fun _ => LeP.bind ih fun _ => LeP.bind (LeP.ite (fun r => hasT _ r = true) (LeP.tail (f := fun r => listP beginsT (stmtD d) r.length [] r) ih) (LeP.ok [])) fun _ => LeP.bind (must_eats _).le fun _ => LeP.ok _)
      (LeP.if_ _ (LeP.bind name_eats.le fun _ => LeP.bind signed_eats.le fun _ => LeP.bind signed_eats.le fun _ => LeP.bind (must_eats _).le fun _ => LeP.bind ih fun _ => LeP.bind (must_eats _).le fun _ => LeP.ok _)
      (LeP.if_ _ (LeP.ok _) (LeP.if_ _ (LeP.bind name_eats.le fun _ => LeP.bind num_eats.le fun _ => LeP.ok _)
      (LeP.if_ _ (LeP.bind expr_eats.le fun _ => LeP.ok _) (LeP.if_ _ (LeP.ok _) (LeP.if_ _ (LeP.bind expr_eats.le fun _ => LeP.bind expr_eats.le fun _ => LeP.ok _) (LeP.bind expr_eats.le fun _ => LeP.ok _))))))))
theorem parameter_eats : EatsP parameterP := EatsP.bind name_eats fun _ => LeP.bind signed_eats.le fun _ => LeP.bind signed_eats.le fun _ => LeP.ok _
theorem another_eats : EatsP anotherP := EatsP.bind (must_eats _) fun _ => parameter_eats.le
theorem variable_eats : EatsP variableP := EatsP.bind (must_eats _) fun _ => LeP.bind name_eats.le fun _ =>
  LeP.bind (LeP.ite (fun r => hasT [91] r = true) (LeP.tail (f := fun r => (numP r).bind fun n r => (mustP [93] r).bind fun _ r => PS.ok n r) (LeP.bind num_eats.le fun _ => LeP.bind (must_eats _).le fun _ => LeP.ok _)) (LeP.ok 0)) fun _ =>
  LeP.bind signed_eats.le fun _ => LeP.bind signed_eats.le fun _ => LeP.ok _

/-- What is asked of statement, within which there may stand d more. -/
def StmtOk (g c : Nat) (A : Option Addr) (m : Nat → Nat) (ts : List Tk) (d : Nat) : Prop := ∀ (dp : Int) (i : Nat) (w : World), dp + (d : Int) = 16 → 0 ≤ dp → Par w g A c m ts i dp 0 → beginsT (ts.drop i) = true →
  Calls Tryz.prog 92 #[.pointer (some ⟨g, 0, none⟩)] w (StepTo w g c A m ts dp (stmtD d (ts.drop i)) (IsEl (QS d) w.heap.size) ShSt)
def innerP (d : Nat) (r : List Tk) : PS (List St) := listP beginsT (stmtD d) r.length [] r
theorem list_stmts (g c : Nat) (A : Option Addr) (m : Nat → Nat) (ts : List Tk) (d : Nat) (H : StmtOk g c A m ts d) (dp : Int) (hd : dp + (d : Int) = 16) (h0 : 0 ≤ dp) (i : Nat) (er : Int) (w : World) (h : Par w g A c m ts i dp er) :
    Calls Tryz.prog 90 #[.func (.func 91) #[.pointer (some ⟨g, 0, none⟩)] #[], .func (.func 92) #[.pointer (some ⟨g, 0, none⟩)] #[]] w
      (StepTo w g c A m ts dp (stP (innerP d) ts i er) (IsRow 7 (QS d) w.heap.size) ShL) := by
  refine (listS_any d g c A m ts dp (stmtD d) (fun b w a v => IsEl (QS d) b w a v) (stmt_eats d) ?_ (fun i w h hb => H dp i w hd h0 h hb) i er w h).mono ?_
  · rintro b w a kind nm A1 l1 c1 lo hi A2 l2 c2 A3 l3 c3 ⟨cs, hcs, hq⟩
    have : cs = [.int .i64 kind, .string nm, .slice A1 l1 c1, .int .i64 lo, .int .i64 hi, .slice A2 l2 c2, .slice A3 l3 c3] := by
      injection hcs with hcs
      have := congrArg Array.toList hcs
      simpa using this.symm
    rw [this] at hq
    exact hq
  · rintro e w1 ⟨v, rfl, k, sh, r⟩
    exact ⟨v, rfl, k, sh.shl, r⟩
theorem Par.depth {w w' : World} {g c : Nat} {A : Option Addr} {m : Nat → Nat} {ts : List Tk} {i : Nat} {dp er : Int} (h : Par w g A c m ts i dp er) (d2 : Int) {i2 : Nat} {er2 d1 : Int} (h2 : Par w' g A c m ts i2 d1 er2) (hk : Kept (fun z => z = g) w w') :
    Par (w'.setCell ⟨g, 2, none⟩ (.int .i64 d2)) g A c m ts i2 d2 er2 ∧ Kept (fun z => z = g) w (w'.setCell ⟨g, 2, none⟩ (.int .i64 d2)) := by
  have k := hk.setCell (p := ⟨g, 2, none⟩) (fun _ => rfl) (.int .i64 d2)
  exact ⟨⟨h.st.kept k (fun _ _ e => e), h2.blk.set_ 2 _, h2.at_⟩, k⟩
set_option maxHeartbeats 2000000 in
set_option maxRecDepth 100000 in
theorem pinner_any (g c : Nat) (A : Option Addr) (m : Nat → Nat) (ts : List Tk) (d : Nat) (H : StmtOk g c A m ts d) (dp : Int) (hd : dp + 1 + (d : Int) = 16) (h0 : 0 ≤ dp) (i : Nat) (er : Int) (w : World) (h : Par w g A c m ts i dp er) :
    Calls Tryz.prog 131 #[.pointer (some ⟨g, 0, none⟩)] w (StepTo w g c A m ts dp (stP (innerP d) ts i er) (IsRow 7 (QS d) w.heap.size) ShL) := by
  have HH := Lib.hid h
  have hgl := h.blk.lt
  have bp := h.blk
  unfold parCells at bp
  have c2 : w.cell? ⟨g, 2, none⟩ = some (.int .i64 dp) := bp.cell 2
  have f2 : w.frozen? ⟨g, 2, none⟩ = false := bp.frozen 2
  have LS := Lib.hid (fun i er w h => list_stmts g c A m ts d H (dp + 1) hd (by omega) i er w h)
  have w1 : IntKind.i64.wrap (dp + 1) = dp + 1 := IntWalk.i64_in _ ⟨by omega, by omega⟩
  have w2 : IntKind.i64.wrap (dp + 1 - 1) = dp := IntWalk.i64_in _ ⟨by omega, by omega⟩ |>.trans (by omega)
  clear h bp H
  go_enter Tryz.func131, Tryz.ntmps131
  go_wp2_with fail
  obtain ⟨p1, k1⟩ := HH.out.depth (dp + 1) HH.out (Kept.refl _ w)
  have P1 := Lib.hid p1
  have K1 := Lib.hid k1
  have z1 := k1.size
  clear p1 k1 c2 f2
  generalize w.setCell ⟨g, 2, none⟩ (.int .i64 (dp + 1)) = W1 at *
  refine (LS.out i er W1 P1.out).mono ?_
  rintro e w3 ⟨v, rfl, k3, ⟨A3, n3, c3, rfl⟩, i3, er3, p3, ps3⟩
  have K3 := Lib.hid (K1.out.then_ k3 (fun _ _ e => e))
  have P3 := Lib.hid p3
  have PS3 := Lib.hid ps3
  have bp := p3.blk
  unfold parCells at bp
  have c2 : w3.cell? ⟨g, 2, none⟩ = some (.int .i64 (dp + 1)) := bp.cell 2
  have f2 : w3.frozen? ⟨g, 2, none⟩ = false := bp.frozen 2
  have z3 := k3.size
  clear bp p3 k3 ps3
  go_wp2_with fail
  obtain ⟨p4, k4⟩ := HH.out.depth dp P3.out K3.out
  have k5 := (Kept.refl (fun z => z = g) w3).setCell (p := ⟨g, 2, none⟩) (fun _ => rfl) (.int .i64 dp)
  generalize w3.setCell ⟨g, 2, none⟩ (.int .i64 dp) = W4 at *
  go_ret
  exact ⟨_, rfl, k4, ⟨_, _, _, rfl⟩, i3, er3, p4, PS3.out.mono fun l hl => hl.kept (QS_kept d) (by omega) k5 (fun z _ hz e => by omega)⟩
theorem part_st (ts : List Tk) (i : Nat) (er : Int) : stP partP ts i er = ((stP (innerP 16) ts i er).bind fun a r => (mustP [101, 110, 100] r).bind fun b r => .ok (a, b) r).bind fun x r => .ok ((fun x : List St × Unit => x.1) x) r := by
  by_cases he : er = 0
  · unfold stP
    rw [if_pos he, if_pos he]
    unfold partP
    simp only [PS.bind_assoc, PS.ok_bind]
    rfl
  · unfold stP
    rw [if_neg he, if_neg he]
    rfl
set_option maxHeartbeats 2000000 in
set_option maxRecDepth 100000 in
theorem part_any (g c : Nat) (A : Option Addr) (m : Nat → Nat) (ts : List Tk) (H : StmtOk g c A m ts 16) (i : Nat) (er : Int) (w : World) (h : Par w g A c m ts i 0 er) :
    Calls Tryz.prog 63 #[.pointer (some ⟨g, 0, none⟩)] w (StepTo w g c A m ts 0 (stP partP ts i er) (IsRow 7 (QS 16) w.heap.size) ShL) := by
  have P0 := Lib.hid h
  have hgl := h.blk.lt
  have LS := Lib.hid (fun i er w h => list_stmts g c A m ts 16 H 0 (by omega) (by omega) i er w h)
  have MU := Lib.hid (fun i er w h => must_step g c A m ts i 0 er [101, 110, 100] w h)
  rw [part_st]
  clear h H
  go_enter Tryz.func63, Tryz.ntmps63
  go_wp2_with fail
  refine (LS.out i er w P0.out).mono ?_
  rintro e w1 ⟨v, rfl, k1, ⟨A1, n1, c1, rfl⟩, i1, er1, p1, ps1⟩
  have K1 := Lib.hid k1
  have P1 := Lib.hid p1
  have PS1 := Lib.hid ps1
  have z1 := k1.size
  clear k1 p1 ps1
  go_wp2_with fail
  refine (MU.out i1 er1 w1 P1.out).mono ?_
  rintro e w2 ⟨v, rfl, k2, rfl, i2, er2, p2, ps2⟩
  have PS2 := Lib.hid (PS1.out.then_ ps2)
  have K2 := Lib.hid k2
  have P2 := Lib.hid p2
  clear k2 p2 ps2
  go_wp2_with fail
  go_ret
  exact ⟨_, rfl, K1.out.then_ K2.out (fun _ _ e => e), ⟨_, _, _, rfl⟩, i2, er2, P2.out, PS2.out.map (fun x => x.1) fun l hl => hl.1.kept (QS_kept 16) (Nat.le_refl _) K2.out (fun z _ hz e => by omega)⟩
end Go.Proofs.YtdgekckedchjbaaGreatDoor
namespace Go.Proofs.YtdgekckedchjbaaGreatDoor
open Go.RowKit

theorem listP_acc {α : Type} (more : List Tk → Bool) (one : List Tk → PS α) : ∀ (f : Nat) (acc : List α) (r : List Tk), listP more one f acc r = (listP more one f [] r).bind fun l r => .ok (acc ++ l) r
  | 0, acc, r => by simp [listP, PS.bind]
  | f + 1, acc, r => by
    simp only [listP]
    split
    · cases one r with
      | ok a r1 =>
        simp only [PS.ok_bind]
        rw [listP_acc more one f (acc ++ [a]), listP_acc more one f ([] ++ [a]), PS.bind_assoc]
        simp [PS.ok_bind]
      | bad r1 e => rfl
    · simp [PS.bind]
def moreC (r : List Tk) : PS (List Va) := listP (hasT [44]) anotherP r.length [] r
def paramsT (r : List Tk) : PS (List Va) := (parameterP r).bind fun v r => (moreC r).bind fun l r => .ok (v :: l) r
theorem paramsP_T (r : List Tk) : paramsP r = if kindT 1 r = false then .ok [] r else if behindT r = false then .ok [] r else paramsT r := by
  unfold paramsP paramsT moreC
  congr 2
  congr 1
  funext v r
  rw [listP_acc]
  rfl
theorem paramsT_st (ts : List Tk) (i : Nat) (er : Int) : stP paramsT ts i er = ((stP parameterP ts i er).bind fun a r => (moreC r).bind fun b r => .ok (a, b) r).bind fun x r => .ok ((fun x : Va × List Va => x.1 :: x.2) x) r := by
  by_cases he : er = 0
  · unfold stP
    rw [if_pos he, if_pos he]
    unfold paramsT
    simp only [PS.bind_assoc, PS.ok_bind]
  · unfold stP
    rw [if_neg he, if_neg he]
    rfl
theorem list_commas (g c : Nat) (A : Option Addr) (m : Nat → Nat) (ts : List Tk) (dp : Int) (i : Nat) (er : Int) (w : World) (h : Par w g A c m ts i dp er) :
    Calls Tryz.prog 60 #[.func (.func 94) #[.pointer (some ⟨g, 0, none⟩)] #[], .func (.func 95) #[.pointer (some ⟨g, 0, none⟩)] #[]] w
      (StepTo w g c A m ts dp (stP moreC ts i er) (IsRow 4 QV w.heap.size) (ShR 4)) := by
  refine listC_any g c A m ts dp anotherP (fun b w a v => IsEl QV b w a v) another_eats ?_ (fun i w h _ => ?_) i er w h
  · rintro b w a s a1 b1 c1 ⟨cs, hcs, hq⟩
    have : cs = [.string s, .int .i64 a1, .int .i64 b1, .int .i64 c1] := by
      injection hcs with hcs
      have := congrArg Array.toList hcs
      simpa using this.symm
    rw [this] at hq
    exact hq
  · have := another_any g c A m ts i dp 0 w h
    unfold stP at this
    rwa [if_pos rfl] at this
theorem list_vars (g c : Nat) (A : Option Addr) (m : Nat → Nat) (ts : List Tk) (dp : Int) (i : Nat) (er : Int) (w : World) (h : Par w g A c m ts i dp er) :
    Calls Tryz.prog 60 #[.func (.func 61) #[.pointer (some ⟨g, 0, none⟩)] #[], .func (.func 62) #[.pointer (some ⟨g, 0, none⟩)] #[]] w
      (StepTo w g c A m ts dp (stP (fun r => listP (hasT [118, 97, 114]) variableP r.length [] r) ts i er) (IsRow 4 QV w.heap.size) (ShR 4)) := by
  refine listV_any g c A m ts dp variableP (fun b w a v => IsEl QV b w a v) variable_eats ?_ (fun i w h _ => ?_) i er w h
  · rintro b w a s a1 b1 c1 ⟨cs, hcs, hq⟩
    have : cs = [.string s, .int .i64 a1, .int .i64 b1, .int .i64 c1] := by
      injection hcs with hcs
      have := congrArg Array.toList hcs
      simpa using this.symm
    rw [this] at hq
    exact hq
  · have := variable_any g c A m ts i dp 0 w h
    unfold stP at this
    rwa [if_pos rfl] at this
theorem list_ints (g c : Nat) (A : Option Addr) (m : Nat → Nat) (ts : List Tk) (dp : Int) (i : Nat) (er : Int) (w : World) (h : Par w g A c m ts i dp er) :
    Calls Tryz.prog 58 #[.func (.func 59) #[.pointer (some ⟨g, 0, none⟩)] #[], .func (.func 57) #[.pointer (some ⟨g, 0, none⟩)] #[]] w
      (StepTo w g c A m ts dp (stP (fun r => listP (kindT 2) numP r.length [] r) ts i er) (IsRow 1 QI w.heap.size) (ShR 1)) := by
  refine listI_any g c A m ts dp numP (fun _ w a v => IsN w a v) num_eats ?_ (fun i w h _ => ?_) i er w h
  · intro b w a n h
    have h' : Value.int .i64 n = .int .i64 a := h
    injection h' with _ h'
    show [Value.int .i64 n] = [.int .i64 a]
    rw [h']
  · have := pnumber_any g c A m ts i dp 0 w h
    unfold stP at this
    rwa [if_pos rfl] at this
theorem behind_B {ts : List Tk} {i : Nat} {t2 : Tk} (ht2 : ts[i + 1]? = some t2) : behindT (ts.drop i) = (decide (t2.kind = 2) || decide (t2.text = [45])) := by
  unfold behindT
  rw [List.tail_drop, drop_tok ht2]
theorem own_one {w : World} {b : Nat} {t : TypeId} {cs : List Value} {s base : Nat} (h : Blk w b t (List.toArray cs)) (hs : cs.length = s) (hb : base ≤ b) : w.ownsRow base t s (.slice (some ⟨b, 0, none⟩) 1 1) 1 cs := by
  refine ⟨by simp [hs], .inr ⟨b, 1, List.toArray cs, rfl, hb, h, ?_⟩⟩
  refine ⟨Nat.le_refl _, by unfold maxLen; omega, by simp [hs], by simp [← hs]⟩
set_option maxHeartbeats 4000000 in
set_option maxRecDepth 100000 in
theorem parameters_any (g c : Nat) (A : Option Addr) (m : Nat → Nat) (ts : List Tk) (i : Nat) (dp er : Int) (w : World) (h : Par w g A c m ts i dp er) :
    Calls Tryz.prog 64 #[.pointer (some ⟨g, 0, none⟩)] w (StepTo w g c A m ts dp (stP paramsP ts i er) (IsRow 4 QV w.heap.size) ShL) := by
  obtain ⟨t, ht⟩ := ParS.at_some h.at_
  have N1 := Lib.hid (next_any g c A m ts i dp er 1 w h t ht)
  have NB : Hid (nextB t er 1 = stB (kindT 1) ts i er) := nextB_st ht 1
  obtain ⟨b, hb⟩ : ∃ b, nextB t er 1 = b := ⟨_, rfl⟩
  rw [hb] at N1 NB
  have HB := Lib.hid hb
  have HH := Lib.hid h
  have hgl := h.blk.lt
  clear hb
  obtain ⟨goal, hgo⟩ : ∃ p, stP paramsP ts i er = p := ⟨_, rfl⟩
  rw [hgo]
  have GO := Lib.hid hgo
  have NIL : Hid (stB (kindT 1) ts i er = false ∨ behindT (ts.drop i) = false → PsAt ts i er goal (fun l => IsRow 4 QV w.heap.size w l (.slice none 0 0))) := by
    intro hk
    rw [← hgo]
    unfold stP
    split
    · rename_i he
      subst he
      have e1 : paramsP (ts.drop i) = .ok [] (ts.drop i) := by
        unfold paramsP
        rcases hk with hk | hk
        · unfold stB at hk
          rw [if_pos (by simpa using hk)]
        · rw [if_pos hk]
          split <;> rfl
      rw [e1]
      exact ⟨rfl, rfl, none, 0, 0, rfl, ElsG.none_ _ _ _ _ _ _⟩
    · rename_i he
      exact ⟨rfl, rfl, he⟩
  clear hgo
  cases b
  · clear h
    go_enter Tryz.func64, Tryz.ntmps64
    go_wp2_with fail
    refine N1.out.mono ?_
    rintro e w1 ⟨rfl, q, rfl⟩
    go_wp2_with fail
    go_ret
    exact ⟨_, rfl, (Kept.refl _ w).drewN q, ⟨_, _, _, rfl⟩, i, er, HH.out.drewN q, (NIL.out (.inl NB.out.symm)).mono fun l hl => hl.kept QV_kept (Nat.le_refl _) ((Kept.refl (fun _ => False) w).drewN q) (fun _ _ _ h => h)⟩
  · obtain ⟨rfl, hk1⟩ : er = 0 ∧ t.kind = 1 := by
      have := HB.out
      unfold nextB at this
      simpa using this
    have hm := h.st.more ht (.inl (by rw [hk1]; decide))
    obtain ⟨t2, ht2⟩ : ∃ t2, ts[i + 1]? = some t2 := ⟨_, List.getElem?_eq_getElem hm⟩
    obtain ⟨bk, o, hA, hbk, hbg, q0, q1, q2, q3, q4⟩ := h.st.tok ht2
    have lim := h.st.lim
    have bp := h.blk
    unfold parCells at bp
    rw [hA] at bp
    obtain ⟨n, hn⟩ : ∃ n, ts.length = n := ⟨_, rfl⟩
    rw [hn] at bp hm lim
    have HN := Lib.hid hn
    have PAR := Lib.hid (fun i er w h => parameter_any g c A m ts i dp er w h)
    have LC := Lib.hid (fun i er w h => list_commas g c A m ts dp i er w h)
    have BB := Lib.hid (behind_B (i := i) ht2)
    have TT2 : Hid (stP paramsP ts i 0 = if behindT (ts.drop i) = false then .ok [] (ts.drop i) else stP paramsT ts i 0) := by
      unfold stP
      rw [if_pos rfl, if_pos rfl, paramsP_T]
      have : kindT 1 (ts.drop i) = true := by
        have := NB.out.symm
        unfold stB at this
        simpa using this
      rw [if_neg (by rw [this]; decide)]
      rfl
    clear h hn ht ht2 hk1 HB hA NB
    go_enter Tryz.func64, Tryz.ntmps64
    go_wp2_with fail
    refine N1.out.mono ?_
    rintro e w1 ⟨rfl, q, rfl⟩
    have P1 := Lib.hid (HH.out.drewN q)
    have K1 := Lib.hid ((Kept.refl (fun z => z = g) w).drewN q)
    have zq : (w.drewN q).heap.size = w.heap.size := rfl
    have c0 : (w.drewN q).cell? ⟨g, 0, none⟩ = some (.slice (some ⟨bk, o, none⟩) n c) := bp.cell 0
    have c1 : (w.drewN q).cell? ⟨g, 1, none⟩ = some (.int .i64 i) := bp.cell 1
    have q0 : (w.drewN q).cell? ⟨bk, o + (i + 1) * 5, none⟩ = some (.int .i64 t2.kind) := q0
    have q1 : (w.drewN q).cell? ⟨bk, o + (i + 1) * 5 + 1, none⟩ = some (.string (str t2.text)) := q1
    have q2 : (w.drewN q).cell? ⟨bk, o + (i + 1) * 5 + 2, none⟩ = some (.int .i64 t2.n) := q2
    have q3 : (w.drewN q).cell? ⟨bk, o + (i + 1) * 5 + 3, none⟩ = some (.int .i64 t2.line) := q3
    have q4 : (w.drewN q).cell? ⟨bk, o + (i + 1) * 5 + 4, none⟩ = some (.int .i64 t2.col) := q4
    have g1 : (0 : Int) ≤ (i : Int) + 1 := by omega
    have g2 : (i : Int) + 1 < (n : Int) := by omega
    have g3 : ((i : Int) + 1).toNat = i + 1 := by omega
    have g4 : IntKind.i64.wrap ((i : Int) + 1) = (i : Int) + 1 := IntWalk.i64_in _ ⟨by omega, by omega⟩
    clear bp N1
    generalize w.drewN q = w1 at *
    go_upto_region 3 with fail
    go_region
    have f2 : Below w1.heap.size w1 ((w1.alloc (.cells #[.int .i64 t2.kind, .string (str t2.text), .int .i64 t2.n, .int .i64 t2.line, .int .i64 t2.col] 122)).drew) := ((Below.refl _ w1).al _).drew
    have b2 : Blk ((w1.alloc (.cells #[.int .i64 t2.kind, .string (str t2.text), .int .i64 t2.n, .int .i64 t2.line, .int .i64 t2.col] 122)).drew) w1.heap.size 122 #[.int .i64 t2.kind, .string (str t2.text), .int .i64 t2.n, .int .i64 t2.line, .int .i64 t2.col] := (Blk.new w1 _ _).drew
    have P2 := Lib.hid (P1.out.below f2)
    have K2 := Lib.hid (K1.out.then_ (Kept.of_below (S := fun z => z = g) f2) (fun _ _ e => e))
    have z2 := f2.size
    rw [zq] at b2
    have e0 : (w1.alloc (.cells #[.int .i64 t2.kind, .string (str t2.text), .int .i64 t2.n, .int .i64 t2.line, .int .i64 t2.col] 122)).drew.cell? ⟨w.heap.size, 0, none⟩ = some (.int .i64 t2.kind) := b2.cell 0
    have e1 : (w1.alloc (.cells #[.int .i64 t2.kind, .string (str t2.text), .int .i64 t2.n, .int .i64 t2.line, .int .i64 t2.col] 122)).drew.cell? ⟨w.heap.size, 1, none⟩ = some (.string (str t2.text)) := b2.cell 1
    clear P1 K1 q0 q1 q2 q3 q4 c0 c1 f2 b2
    generalize (w1.alloc (.cells #[.int .i64 t2.kind, .string (str t2.text), .int .i64 t2.n, .int .i64 t2.line, .int .i64 t2.col] 122)).drew = W2 at *
    have s1 : ((str t2.text).toList == [45]) = decide (t2.text = [45]) := str_eqL _ _
    have BB2 := Lib.hid BB.out
    generalize decide (t2.text = [45]) = bt at *
    have hcase : (¬ t2.kind = 2 ∧ bt = false) ∨ (t2.kind = 2 ∨ (¬ t2.kind = 2 ∧ bt = true)) := by
      by_cases h2 : t2.kind = 2
      · exact .inr (.inl h2)
      · cases bt
        · exact .inl ⟨h2, rfl⟩
        · exact .inr (.inr ⟨h2, rfl⟩)
    rcases hcase with ⟨h2, rfl⟩ | hcase
    · have s2 : (t2.kind == 2) = false := by simp [h2]
      have NP := Lib.hid (NIL.out (.inr (by rw [BB.out]; simp [h2])))
      go_wp2_with fail
      go_ret
      exact ⟨_, rfl, K2.out, ⟨_, _, _, rfl⟩, i, 0, P2.out, NP.out.mono fun l hl => hl.kept QV_kept (Nat.le_refl _) K2.out (fun z hz h e => by omega)⟩
    · have GT : Hid (goal = stP paramsT ts i 0) := by
        rw [Hid, ← GO.out, TT2.out, if_neg (by rw [BB.out]; rcases hcase with h | ⟨_, h⟩ <;> simp [h])]
      have GG := GT.out
      rw [paramsT_st] at GG
      clear GO NIL TT2 BB2 GT
      subst GG
      obtain ⟨i0, hi0, hz0, hz1, hz2⟩ := info_parts info_listC
      rcases hcase with h2 | ⟨h2, rfl⟩
      all_goals
        have s2 : (t2.kind == 2) = decide (t2.kind = 2) := rfl
        rw [show decide (t2.kind = 2) = _ from by first | exact decide_eq_true h2 | exact decide_eq_false h2] at s2
        go_wp2_with fail
        refine (PAR.out i 0 W2 P2.out).mono ?_
        rintro e w3 ⟨v3, rfl, k3, ⟨s3, a3, b3, d3, rfl⟩, i3, er3, p3, ps3⟩
        have B4 := Lib.hid (Blk.new w3 89 #[.string s3, .int .i64 a3, .int .i64 b3, .int .i64 d3])
        have f4 : Below w3.heap.size w3 (w3.alloc (.cells #[.string s3, .int .i64 a3, .int .i64 b3, .int .i64 d3] 89)) := (Below.refl _ w3).al _
        have P4 := Lib.hid (p3.below f4)
        have PS3 := Lib.hid ps3
        have K3 := Lib.hid (K2.out.then_ k3 (fun _ _ e => e))
        have K4 := Lib.hid (K3.out.then_ (Kept.of_below (S := fun z => z = g) f4) (fun _ _ e => e))
        have z3 := k3.size
        have z4 : (w3.alloc (.cells #[.string s3, .int .i64 a3, .int .i64 b3, .int .i64 d3] 89)).heap.size = w3.heap.size + 1 := by simp
        clear p3 ps3 k3 f4 P2 K2 e0 e1 s1 s2
        go_upto_region 7 with fail
        generalize w3.alloc (.cells #[.string s3, .int .i64 a3, .int .i64 b3, .int .i64 d3] 89) = W4 at *
        have CL := Lib.hid (LC.out i3 er3 W4 P4.out)
        go_wp2_with fail
        refine CL.out.mono ?_
        rintro e w5 ⟨v5, rfl, k5, ⟨A5, n5, c5, xs5, rfl, rd5, on5, lm5⟩, i5, er5, p5, ps5⟩
        have K5 := Lib.hid (K4.out.then_ k5 (fun _ _ e => e))
        have P5 := Lib.hid p5
        have PS5 := Lib.hid (PS3.out.then_ ps5)
        have RD5 := Lib.hid rd5
        have ON5 := Lib.hid on5
        have z5 := k5.size
        have o5 := Lib.hid (own_keptS (own_one (base := w.heap.size) (s := 4) B4.out rfl (by omega)) k5 (fun z hz e => by
          have hz := Option.some.inj hz
          simp only at hz
          omega))
        clear p5 ps5 k5 rd5 on5 CL K4 P4 PS3
        go_wp2_with (at_builtin; refine wpList_append_any _ rfl (.tmp 30) (.tmp 35) 45 rfl w.heap.size 89 i0 _ 4 40 Tryz.underlying45 hi0 hz0 hz1 hz2 rfl (by omega) _ 1 [.string s3, .int .i64 a3, .int .i64 b3, .int .i64 d3] rfl o5.out _ _ n5 c5 xs5 rfl RD5.out ON5.out (by unfold maxLen; omega) (by omega) (by omega) ?_; intro v8 w8 o8 g8 at8)
        have K8 : Kept (fun z => z = w3.heap.size) w5 w8 := Kept.of_grown g8 (fun z e => by
          have e := Option.some.inj e
          simp only at e
          omega)
        have KK : Kept (fun z => z = g) w w8 := K5.out.then_ K8 (fun z hz e => by omega)
        obtain ⟨A8, c8, rfl, hb8⟩ := own_is o8
        have O8 := Lib.hid o8
        have G8 := Lib.hid g8
        have AT8 := Lib.hid at8
        clear o8 g8 at8
        go_ret
        refine ⟨_, rfl, KK, ⟨_, _, _, rfl⟩, i5, er5, HH.out.put P5.out.at_ (P5.out.blk.kept K8 (by omega)) KK, PS5.out.map (fun x => x.1 :: x.2) ?_⟩
        rintro ⟨a1, l⟩ ⟨⟨cs1, hcs1, h1⟩, A', n', c', hv, xs', hr, -, hM, hlen, hels⟩
        injection hv with hv1 hv2 hv3
        subst hv1
        subst hv2
        subst hv3
        have hxs := hr.same RD5.out
        subst hxs
        have hc : cs1 = [.string s3, .int .i64 a3, .int .i64 b3, .int .i64 d3] := by
          injection hcs1 with hcs1
          have := congrArg Array.toList hcs1
          simpa using this.symm
        subst hc
        have hlen : l.length = n5 := hlen
        show IsRow 4 QV w.heap.size w8 (a1 :: l) (.slice A8 (1 + n5) c8)
        refine OwnA.row (t := 89) (l := a1 :: l) QV_kept (OwnA.cat (Q := QV) (w := w5) (w' := w8) (l := [a1]) (l2 := l) (D := fun _ => False) (v := .slice (some ⟨w3.heap.size, 0, none⟩) 1 1) QV_kept (by rw [show [a1].length + l.length = 1 + n5 from by rw [hlen]; rfl]; exact O8.out) rfl (by rw [hlen]; exact hr.1) (by intro u hu; simp only [List.mem_cons, List.not_mem_nil, or_false] at hu; rcases hu with rfl | rfl | rfl | rfl <;> rfl) ON5.out ?_ (K8.mono fun z _ e => .inr (by rw [e]; rfl)) ?_ (fun i hi => hels i hi) (fun _ _ h => h.elim)) (by simp only [List.length_cons]; omega)
        · intro i hi
          obtain rfl : i = 0 := by simpa using hi
          exact h1
        · intro k hk hne e
          rcases AT8.out with h | h
          · exact hne (h ▸ e)
          · rw [h] at e
            have e := Option.some.inj e
            omega
end Go.Proofs.YtdgekckedchjbaaGreatDoor
namespace Go.Proofs.YtdgekckedchjbaaGreatDoor
open Go.RowKit

theorem info_rexpr : (Tryz.prog.info? 24).map (fun i => (i.zero, i.size, i.bytes)) = some (some (.agg #[.int .i64 0, .int .i64 0, .string ByteArray.empty, .slice none 0 0]), 4, 56) := by kernel_rfl
theorem reads4 (W : World) (t : TypeId) (a b c d : Value) : Reads (W.alloc (.cells #[a, b, c, d] t)) (W.heap.size + 1) 4 (some ⟨W.heap.size, 0, none⟩) 1 [a, b, c, d] := by
  refine ⟨rfl, fun _ => ⟨_, rfl, by simp, fun j u hu => ?_⟩⟩
  rw [Addr.add_lit, Nat.zero_add, (Blk.new W t #[a, b, c, d]).cell j]
  simpa using hu
theorem one4 (op N : Int) (nm : ByteArray) (A : Option Addr) (l c : Nat) : ∀ u ∈ [Value.int .i64 op, .int .i64 N, .string nm, .slice A l c], u.oneCell' = true := by
  intro u hu
  simp only [List.mem_cons, List.not_mem_nil, or_false] at hu
  rcases hu with rfl | rfl | rfl | rfl <;> rfl
theorem OwnG.slice {w : World} {base : Nat} {t : TypeId} {M n : Nat} {v : Value} {l : List Gx} (h : OwnG w base t M n v l) : ∃ A c, v = .slice A l.length c := by
  obtain ⟨ys, h1, _, _⟩ := h
  obtain ⟨A, c, hv, _⟩ := own_is h1
  exact ⟨A, c, hv⟩
end Go.Proofs.YtdgekckedchjbaaGreatDoor
