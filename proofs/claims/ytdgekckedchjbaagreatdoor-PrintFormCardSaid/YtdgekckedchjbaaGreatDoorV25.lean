
/-
  What a parse gives, for the laws on texts; PrintTwice. (Printed by wip/tools/genv25.py.)
-/
import Derived.Test.YtdgekckedchjbaaGreatDoorV24
namespace Go.Proofs.YtdgekckedchjbaaGreatDoor
open Go.RowKit

def zeroP : Px := ⟨[], 0, [], [], [], [], [], [], [], [], []⟩
/-- A program's cells, and whether they are a text's. -/
theorem parsed {b : Nat} {l : List UInt8} {cs : List Value} {L C E : Int} {w : World} (h : ExOutP b (progO l) cs L C E w) : ∃ p, PX 16 (fun k => b ≤ k) w cs p ∧ ((E = 0 ∧ ∃ x, progO l = .ok x ∧ p = x.px) ∨ (E ≠ 0 ∧ ∀ x, progO l ≠ .ok x)) := by
  cases hq : progO l with
  | ok x =>
    rw [hq] at h
    obtain ⟨h1, _, _, h2⟩ := h
    exact ⟨x.px, h2.px (progO_ev hq).fit, .inl ⟨h1, x, rfl, rfl⟩⟩
  | bad L' C' E' =>
    rw [hq] at h
    obtain ⟨_, _, _, h1, h2⟩ := h
    refine ⟨zeroP, ?_, .inr ⟨h1, fun x e => by cases e⟩⟩
    rw [h2]
    exact ⟨⟨Nat.zero_le _, Nat.zero_le _, FitN.zero, by simp [zeroP], by simp [zeroP], by simp [zeroP]⟩, _, _, _, _, _, _, _, _, rfl, RowD.nil_ _ _ _ _, RowD.nil_ _ _ _ _, RowD.nil_ _ _ _ _, RowD.nil_ _ _ _ _, RowD.nil_ _ _ _ _, RowD.nil_ _ _ _ _, RowD.nil_ _ _ _ _, RowD.nil_ _ _ _ _⟩

set_option maxHeartbeats 8000000 in
set_option maxRecDepth 100000 in
theorem printTwice_walk (base : Nat) (s : ByteArray) (w : World) (hT : Tabs base w) (hP : TabP base w) (hb : base ≤ w.heap.size) (hs : s.size ≤ 9223372036854775807) :
    Calls Tryz.prog 5 #[.string s] w (Tells w true) := by
  have TB := Lib.hid hT
  have TP := Lib.hid hP
  have HB := Lib.hid hb
  clear hT hP hb
  by_cases hlen : 3000 < s.size
  · have hl : (3000 : Int) < (s.size : Int) := by omega
    go_enter Tryz.func5, Tryz.ntmps5
    have TD := Lib.hid (told_any base w TB.out HB.out)
    go_wp2_with fail
    refine TD.out.mono ?_
    rintro e wt ⟨rfl, bt⟩
    go_wp2_with fail
    go_ret
    exact ⟨rfl, (Below.refl w.heap.size w).trans (bt.mono (Below.refl w.heap.size w).size)⟩
  have hl : ¬ (3000 : Int) < (s.size : Int) := by omega
  go_enter Tryz.func5, Tryz.ntmps5
  have PA1 := Lib.hid (Parse_any s w (TB.out).sp (by omega))
  go_wp2_with fail
  refine PA1.out.mono ?_
  rintro e wp1 ⟨nm1, seats1, sil1, B11, m11, d11, B12, m12, d12, B13, m13, d13, B14, m14, d14, B15, m15, d15, B16, m16, d16, B17, m17, d17, B18, m18, d18, L1, C1, E1, rfl, bp1, hp1⟩
  obtain ⟨px1, hx1, hc1⟩ := parsed hp1
  have fa1 : Below w.heap.size w ((wp1.alloc (.cells #[.string nm1, .int .i64 seats1, .slice B11 m11 d11, .slice B12 m12 d12, .slice B13 m13 d13, .slice B14 m14 d14, .slice B15 m15 d15, .slice B16 m16 d16, .string sil1, .slice B17 m17 d17, .slice B18 m18 d18] 48)).alloc (.cells #[.int .i64 L1, .int .i64 C1] 50)) := (bp1.al _).al _
  obtain ⟨yb1, _⟩ := two_new wp1 48 50 #[.string nm1, .int .i64 seats1, .slice B11 m11 d11, .slice B12 m12 d12, .slice B13 m13 d13, .slice B14 m14 d14, .slice B15 m15 d15, .slice B16 m16 d16, .string sil1, .slice B17 m17 d17, .slice B18 m18 d18] #[.int .i64 L1, .int .i64 C1]
  have YB1 := Lib.hid yb1
  have HX1 := Lib.hid (hx1.stay (((Below.refl _ wp1).al (.cells #[.string nm1, .int .i64 seats1, .slice B11 m11 d11, .slice B12 m12 d12, .slice B13 m13 d13, .slice B14 m14 d14, .slice B15 m15 d15, .slice B16 m16 d16, .string sil1, .slice B17 m17 d17, .slice B18 m18 d18] 48)).al (.cells #[.int .i64 L1, .int .i64 C1] 50)))
  have HC1 := Lib.hid hc1
  have Fa1 := Lib.hid ((Below.refl w.heap.size w).trans ((fa1).mono (Below.refl w.heap.size w).size))
  have TBa1 := Lib.hid ((TB.out).below (fa1) HB.out)
  have TPa1 := Lib.hid ((TP.out).low ((fa1).mono HB.out))
  have HBa1 := Lib.hid (Nat.le_trans HB.out (fa1).size)
  clear bp1 hp1 hx1 hc1 yb1 PA1 fa1
  go_upto_region 4 with fail
  generalize (wp1.alloc (.cells #[.string nm1, .int .i64 seats1, .slice B11 m11 d11, .slice B12 m12 d12, .slice B13 m13 d13, .slice B14 m14 d14, .slice B15 m15 d15, .slice B16 m16 d16, .string sil1, .slice B17 m17 d17, .slice B18 m18 d18] 48)).alloc (.cells #[.int .i64 L1, .int .i64 C1] 50) = W1 at *
  have s0 : W1.cell? ⟨wp1.heap.size, 0, none⟩ = some (.string nm1) := YB1.out.cell 0
  have s1 : W1.cell? ⟨wp1.heap.size, 1, none⟩ = some (.int .i64 seats1) := YB1.out.cell 1
  have s2 : W1.cell? ⟨wp1.heap.size, 2, none⟩ = some (.slice B11 m11 d11) := YB1.out.cell 2
  have s3 : W1.cell? ⟨wp1.heap.size, 3, none⟩ = some (.slice B12 m12 d12) := YB1.out.cell 3
  have s4 : W1.cell? ⟨wp1.heap.size, 4, none⟩ = some (.slice B13 m13 d13) := YB1.out.cell 4
  have s5 : W1.cell? ⟨wp1.heap.size, 5, none⟩ = some (.slice B14 m14 d14) := YB1.out.cell 5
  have s6 : W1.cell? ⟨wp1.heap.size, 6, none⟩ = some (.slice B15 m15 d15) := YB1.out.cell 6
  have s7 : W1.cell? ⟨wp1.heap.size, 7, none⟩ = some (.slice B16 m16 d16) := YB1.out.cell 7
  have s8 : W1.cell? ⟨wp1.heap.size, 8, none⟩ = some (.string sil1) := YB1.out.cell 8
  have s9 : W1.cell? ⟨wp1.heap.size, 9, none⟩ = some (.slice B17 m17 d17) := YB1.out.cell 9
  have s10 : W1.cell? ⟨wp1.heap.size, 10, none⟩ = some (.slice B18 m18 d18) := YB1.out.cell 10
  have PR1 := Lib.hid (Print_any base _ nm1 sil1 seats1 B11 m11 d11 B12 m12 d12 B13 m13 d13 B14 m14 d14 B15 m15 d15 B16 m16 d16 B17 m17 d17 B18 m18 d18 px1 W1 TBa1.out TPa1.out HBa1.out HX1.out)
  go_wp2_with fail
  refine PR1.out.mono ?_
  rintro e V1 ⟨bq1, h1⟩
  have Fq1 := Lib.hid (Fa1.out.trans ((bq1).mono Fa1.out.size))
  have TBq1 := Lib.hid ((TBa1.out).below (bq1) HBa1.out)
  have TPq1 := Lib.hid ((TPa1.out).low ((bq1).mono HBa1.out))
  have HBq1 := Lib.hid (Nat.le_trans HBa1.out (bq1).size)
  clear PR1 bq1 s0 s1 s2 s3 s4 s5 s6 s7 s8 s9 s10
  rcases HC1.out with ⟨hE1, x, hx, hpx⟩ | ⟨hE1, hno⟩
  · subst hE1
    have HXX := Lib.hid hx
    have HPX := Lib.hid hpx
    clear hx hpx
    rcases h1 with ⟨t, ht, rfl⟩ | ⟨hno, rfl⟩
    · have HT1 := Lib.hid ht
      obtain ⟨T, hT⟩ : ∃ y, y = str t := ⟨_, rfl⟩
      rw [← hT]
      have HTT := Lib.hid hT
      have hTs : T.size ≤ 65536 := by rw [hT, str_size]; exact ht.2.1
      have HTL : Hid (T.data.toList = t) := by rw [hT]; exact str_list _
      clear hT ht
      have PA2 := Lib.hid (Parse_any T V1 (TBq1.out).sp hTs)
      go_wp2_with fail
      refine PA2.out.mono ?_
      rintro e wp2 ⟨nm2, seats2, sil2, B21, m21, d21, B22, m22, d22, B23, m23, d23, B24, m24, d24, B25, m25, d25, B26, m26, d26, B27, m27, d27, B28, m28, d28, L2, C2, E2, rfl, bp2, hp2⟩
      obtain ⟨px2, hx2, hc2⟩ := parsed hp2
      have fa2 : Below V1.heap.size V1 ((wp2.alloc (.cells #[.string nm2, .int .i64 seats2, .slice B21 m21 d21, .slice B22 m22 d22, .slice B23 m23 d23, .slice B24 m24 d24, .slice B25 m25 d25, .slice B26 m26 d26, .string sil2, .slice B27 m27 d27, .slice B28 m28 d28] 48)).alloc (.cells #[.int .i64 L2, .int .i64 C2] 50)) := (bp2.al _).al _
      obtain ⟨yb2, _⟩ := two_new wp2 48 50 #[.string nm2, .int .i64 seats2, .slice B21 m21 d21, .slice B22 m22 d22, .slice B23 m23 d23, .slice B24 m24 d24, .slice B25 m25 d25, .slice B26 m26 d26, .string sil2, .slice B27 m27 d27, .slice B28 m28 d28] #[.int .i64 L2, .int .i64 C2]
      have YB2 := Lib.hid yb2
      have HX2 := Lib.hid (hx2.stay (((Below.refl _ wp2).al (.cells #[.string nm2, .int .i64 seats2, .slice B21 m21 d21, .slice B22 m22 d22, .slice B23 m23 d23, .slice B24 m24 d24, .slice B25 m25 d25, .slice B26 m26 d26, .string sil2, .slice B27 m27 d27, .slice B28 m28 d28] 48)).al (.cells #[.int .i64 L2, .int .i64 C2] 50)))
      have HC2 := Lib.hid hc2
      have Fa2 := Lib.hid (Fq1.out.trans ((fa2).mono Fq1.out.size))
      have TBa2 := Lib.hid ((TBq1.out).below (fa2) HBq1.out)
      have TPa2 := Lib.hid ((TPq1.out).low ((fa2).mono HBq1.out))
      have HBa2 := Lib.hid (Nat.le_trans HBq1.out (fa2).size)
      clear bp2 hp2 hx2 hc2 yb2 PA2 fa2
      go_upto_region 8 with fail
      generalize (wp2.alloc (.cells #[.string nm2, .int .i64 seats2, .slice B21 m21 d21, .slice B22 m22 d22, .slice B23 m23 d23, .slice B24 m24 d24, .slice B25 m25 d25, .slice B26 m26 d26, .string sil2, .slice B27 m27 d27, .slice B28 m28 d28] 48)).alloc (.cells #[.int .i64 L2, .int .i64 C2] 50) = W2 at *
      obtain ⟨y, hy, hyx⟩ := HT1.out.2.2
      rw [HTL.out, hy] at HC2
      rcases HC2.out with ⟨hE2, x2, hx2, hpx2⟩ | ⟨hE2, hno⟩
      rotate_left
      · exact absurd rfl (hno y)
      subst hE2
      have hpp : px2 = px1 := by
        injection hx2 with hx2
        subst hx2
        rw [hpx2, hyx]
      subst hpp
      clear HC2 hx2 hpx2
      have s0 : W2.cell? ⟨wp2.heap.size, 0, none⟩ = some (.string nm2) := YB2.out.cell 0
      have s1 : W2.cell? ⟨wp2.heap.size, 1, none⟩ = some (.int .i64 seats2) := YB2.out.cell 1
      have s2 : W2.cell? ⟨wp2.heap.size, 2, none⟩ = some (.slice B21 m21 d21) := YB2.out.cell 2
      have s3 : W2.cell? ⟨wp2.heap.size, 3, none⟩ = some (.slice B22 m22 d22) := YB2.out.cell 3
      have s4 : W2.cell? ⟨wp2.heap.size, 4, none⟩ = some (.slice B23 m23 d23) := YB2.out.cell 4
      have s5 : W2.cell? ⟨wp2.heap.size, 5, none⟩ = some (.slice B24 m24 d24) := YB2.out.cell 5
      have s6 : W2.cell? ⟨wp2.heap.size, 6, none⟩ = some (.slice B25 m25 d25) := YB2.out.cell 6
      have s7 : W2.cell? ⟨wp2.heap.size, 7, none⟩ = some (.slice B26 m26 d26) := YB2.out.cell 7
      have s8 : W2.cell? ⟨wp2.heap.size, 8, none⟩ = some (.string sil2) := YB2.out.cell 8
      have s9 : W2.cell? ⟨wp2.heap.size, 9, none⟩ = some (.slice B27 m27 d27) := YB2.out.cell 9
      have s10 : W2.cell? ⟨wp2.heap.size, 10, none⟩ = some (.slice B28 m28 d28) := YB2.out.cell 10
      have PR2 := Lib.hid (Print_any base _ nm2 sil2 seats2 B21 m21 d21 B22 m22 d22 B23 m23 d23 B24 m24 d24 B25 m25 d25 B26 m26 d26 B27 m27 d27 B28 m28 d28 px2 W2 TBa2.out TPa2.out HBa2.out HX2.out)
      go_wp2_with fail
      refine PR2.out.mono ?_
      rintro e V2 ⟨bq2, h2⟩
      have Fq2 := Lib.hid (Fa2.out.trans ((bq2).mono Fa2.out.size))
      have TBq2 := Lib.hid ((TBa2.out).below (bq2) HBa2.out)
      have TPq2 := Lib.hid ((TPa2.out).low ((bq2).mono HBa2.out))
      have HBq2 := Lib.hid (Nat.le_trans HBa2.out (bq2).size)
      clear PR2 bq2 s0 s1 s2 s3 s4 s5 s6 s7 s8 s9 s10
      rcases h2 with ⟨u, hu, rfl⟩ | ⟨hno, rfl⟩
      rotate_left
      · exact absurd HT1.out (hno t)
      obtain rfl := hu.one HT1.out
      rw [← HTT.out]
      have TD := Lib.hid (told_any base V2 TBq2.out HBq2.out)
      go_wp2_with fail
      refine TD.out.mono ?_
      rintro e wt ⟨rfl, bt⟩
      go_wp2_with fail
      go_ret
      exact ⟨rfl, Fq2.out.trans (bt.mono Fq2.out.size)⟩
    · have TD := Lib.hid (told_any base V1 TBq1.out HBq1.out)
      go_wp2_with fail
      refine TD.out.mono ?_
      rintro e wt ⟨rfl, bt⟩
      go_wp2_with fail
      go_ret
      exact ⟨rfl, Fq1.out.trans (bt.mono Fq1.out.size)⟩
  · rcases h1 with ⟨t, ht, rfl⟩ | ⟨hno1, rfl⟩
    · have TD := Lib.hid (told_any base V1 TBq1.out HBq1.out)
      go_wp2_with fail
      refine TD.out.mono ?_
      rintro e wt ⟨rfl, bt⟩
      go_wp2_with fail
      go_ret
      exact ⟨rfl, Fq1.out.trans (bt.mono Fq1.out.size)⟩
    · have TD := Lib.hid (told_any base V1 TBq1.out HBq1.out)
      go_wp2_with fail
      refine TD.out.mono ?_
      rintro e wt ⟨rfl, bt⟩
      go_wp2_with fail
      go_ret
      exact ⟨rfl, Fq1.out.trans (bt.mono Fq1.out.size)⟩
end Go.Proofs.YtdgekckedchjbaaGreatDoor
