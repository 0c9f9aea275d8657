
/-
  PrintExprs: the text of any expression: the walk. (Printed by wip/tools/genw5.py.)
-/
import Derived.Test.YtdgekckedchjbaaGreatDoorV24
import Derived.Test.YtdgekckedchjbaaGreatDoorDB
import Derived.Test.YtdgekckedchjbaaGreatDoorN1
import Derived.Test.YtdgekckedchjbaaGreatDoorN2
import Derived.Deep.RegionHeld3
import Derived.Deep.DeepCutAuto
namespace Go.Proofs.YtdgekckedchjbaaGreatDoor
open Go.RowKit

theorem ht_one {T : ByteArray} {g : Gx} {t u : List UInt8} (h : T = str t) (ht : ExprIs g t) (hu : ExprIs g u) : str u = T := by
  rw [h, ht.one hu]
set_option maxHeartbeats 8000000 in
set_option maxRecDepth 100000 in
theorem printExprs_walk (base n : Nat) (op N : Int) (nm : ByteArray) (A : Option Addr) (l c : Nat) (g : Gx) (w : World) (hT : Tabs base w) (hb : base ≤ w.heap.size) (hG : GC (fun _ => True) w 2513169434843 n [.int .i64 op, .int .i64 N, .string nm, .slice A l c] g) (hF : FitG n g) (hW : g.wgt ≤ 1048576) :
    Calls Tryz.prog 3 #[.agg #[.int .i64 op, .int .i64 N, .string nm, .slice A l c]] w (Tells w true) := by
  have TB := Lib.hid hT
  have HB := Lib.hid hb
  have HW := Lib.hid hW
  clear hW
  have c1 : Blk (w.alloc (.cells #[.int .i64 op, .int .i64 N, .string nm, .slice A l c] 24)) w.heap.size 24 #[.int .i64 op, .int .i64 N, .string nm, .slice A l c] := Blk.new w _ _
  have f1 : Below w.heap.size w (w.alloc (.cells #[.int .i64 op, .int .i64 N, .string nm, .slice A l c] 24)) := (Below.refl _ w).al _
  have G1 := Lib.hid (hG.below f1)
  have C1 := Lib.hid c1
  have HF := Lib.hid hF
  have F1 := Lib.hid ((Below.refl w.heap.size w).trans ((f1).mono (Below.refl w.heap.size w).size))
  have TB1 := Lib.hid ((TB.out).below (f1) HB.out)
  have HB1 := Lib.hid (Nat.le_trans HB.out (f1).size)
  clear hT hb hG hF
  go_enter Tryz.func3, Tryz.ntmps3
  go_upto_region 1 with fail
  generalize w.alloc (.cells #[.int .i64 op, .int .i64 N, .string nm, .slice A l c] 24) = W1 at *
  clear c1 f1
  have q0 := C1.out.cell 0
  have q1 := C1.out.cell 1
  have q2 := C1.out.cell 2
  have q3 := C1.out.cell 3
  have DP := Lib.hid (deep_any 2513169434843 (by omega) n (fun _ => True) op N nm A l c g W1 G1.out)
  go_wp2_with fail
  refine DP.out.mono ?_
  rintro e w2 ⟨m1, rfl, b2⟩
  have C2 := Lib.hid (C1.out.below b2 C1.out.lt)
  have G2 := Lib.hid (G1.out.below b2)
  have F2 := Lib.hid (F1.out.trans ((b2).mono F1.out.size))
  have TB2 := Lib.hid ((TB1.out).below (b2) HB1.out)
  have HB2 := Lib.hid (Nat.le_trans HB1.out (b2).size)
  clear q0 q1 q2 q3 b2 DP
  by_cases h30 : (30 : Int) < m1
  · have TD := Lib.hid (told_any base w2 TB2.out HB2.out)
    go_wp2_with fail
    refine TD.out.mono ?_
    rintro e wt ⟨rfl, bt⟩
    go_wp2_with fail
    go_ret
    exact ⟨rfl, F2.out.trans (bt.mono F2.out.size)⟩
  obtain ⟨x1, x2⟩ := two_new w2 24 29 #[.int .i64 op, .int .i64 N, .string nm, .slice A l c] #[.int .i64 0, .string ⟨#[]⟩, .slice (some ⟨w2.heap.size, 0, none⟩) 1 1, .int .i64 0, .int .i64 0, .slice none 0 0, .slice none 0 0]
  have f3 : Below w2.heap.size w2 ((w2.alloc (.cells #[.int .i64 op, .int .i64 N, .string nm, .slice A l c] 24)).alloc (.cells #[.int .i64 0, .string ⟨#[]⟩, .slice (some ⟨w2.heap.size, 0, none⟩) 1 1, .int .i64 0, .int .i64 0, .slice none 0 0, .slice none 0 0] 29)) := ((Below.refl _ w2).al _).al _
  have C3 := Lib.hid (C2.out.below f3 C2.out.lt)
  have G3 := Lib.hid (G2.out.below f3)
  have SZ := Lib.hid (size_prog 2513169434843 n (by omega) (fun _ => True) (some ⟨w2.heap.size, 0, none⟩) 1 1 [g] (w2.heap.size + 1) _ (els_one (D := fun _ => True) (c1 := [.int .i64 op, .int .i64 N, .string nm, .slice A l c]) (by omega) x1 trivial rfl G3.out) x2)
  have q0 := C2.out.cell 0
  have q1 := C2.out.cell 1
  have q2 := C2.out.cell 2
  have q3 := C2.out.cell 3
  have F3 := Lib.hid (F2.out.trans ((f3).mono F2.out.size))
  have TB3 := Lib.hid ((TB2.out).below (f3) HB2.out)
  have HB3 := Lib.hid (Nat.le_trans HB2.out (f3).size)
  clear x1 x2 f3
  go_wp2_with fail
  refine SZ.out.mono ?_
  rintro e w4 ⟨m2, rfl, b4⟩
  generalize (w2.alloc (.cells #[.int .i64 op, .int .i64 N, .string nm, .slice A l c] 24)).alloc (.cells #[.int .i64 0, .string ⟨#[]⟩, .slice (some ⟨w2.heap.size, 0, none⟩) 1 1, .int .i64 0, .int .i64 0, .slice none 0 0, .slice none 0 0] 29) = w3 at *
  have C4 := Lib.hid (C3.out.below b4 C3.out.lt)
  have G4 := Lib.hid (G3.out.below b4)
  have F4 := Lib.hid (F3.out.trans ((b4).mono F3.out.size))
  have TB4 := Lib.hid ((TB3.out).below (b4) HB3.out)
  have HB4 := Lib.hid (Nat.le_trans HB3.out (b4).size)
  clear q0 q1 q2 q3 b4 SZ
  by_cases h400 : (400 : Int) < m2
  · have TD := Lib.hid (told_any base w4 TB4.out HB4.out)
    go_wp2_with fail
    refine TD.out.mono ?_
    rintro e wt ⟨rfl, bt⟩
    go_wp2_with fail
    go_ret
    exact ⟨rfl, F4.out.trans (bt.mono F4.out.size)⟩
  have q0 := C4.out.cell 0
  have q1 := C4.out.cell 1
  have q2 := C4.out.cell 2
  have q3 := C4.out.cell 3
  have OW := Lib.hid (own_any 2513169434843 (Nat.le_refl _) n (fun _ => True) op N nm A l c g w4 G4.out)
  go_wp2_with fail
  refine OW.out.mono ?_
  rintro e w5 ⟨A5, c5, rfl, b5, g5⟩
  have G5 := Lib.hid g5
  have C5 := Lib.hid (C4.out.below b5 C4.out.lt)
  have GA5 := Lib.hid (G4.out.below b5)
  have F5 := Lib.hid (F4.out.trans ((b5).mono F4.out.size))
  have TB5 := Lib.hid ((TB4.out).below (b5) HB4.out)
  have HB5 := Lib.hid (Nat.le_trans HB4.out (b5).size)
  clear q0 q1 q2 q3 b5 g5 OW
  have PX := Lib.hid (Expr_any base n _ op N nm A5 l c5 g w5 TB5.out HB5.out G5.out HF.out)
  go_wp2_with fail
  refine PX.out.mono ?_
  rintro e V1 ⟨b6, h6⟩
  have C6 := Lib.hid (C5.out.below b6 C5.out.lt)
  have GA6 := Lib.hid (GA5.out.below b6)
  have F6 := Lib.hid (F5.out.trans ((b6).mono F5.out.size))
  have TB6 := Lib.hid ((TB5.out).below (b6) HB5.out)
  have HB6 := Lib.hid (Nat.le_trans HB5.out (b6).size)
  clear b6 PX
  have RX := Lib.hid (refExpr_any n op N nm A l c g V1 GA6.out HF.out HW.out)
  have C6' := C6.out
  have q0 := C6'.cell 0
  have q1 := C6'.cell 1
  have q2 := C6'.cell 2
  have q3 := C6'.cell 3
  rcases h6 with ⟨t, ht, rfl⟩ | ⟨hno, rfl⟩
  · obtain ⟨T, hT⟩ : ∃ y, y = str t := ⟨_, rfl⟩
    rw [← hT]
    have HTT := Lib.hid hT
    have HX := Lib.hid ht
    clear hT ht
    go_wp2_with fail
    refine RX.out.mono ?_
    rintro e V2 ⟨b7, h7⟩
    have F7 := Lib.hid (F6.out.trans ((b7).mono F6.out.size))
    have TB7 := Lib.hid ((TB6.out).below (b7) HB6.out)
    have HB7 := Lib.hid (Nat.le_trans HB6.out (b7).size)
    clear b7 RX q0 q1 q2 q3
    rcases h7 with ⟨u, hu, rfl⟩ | ⟨hno, rfl⟩
    rotate_left
    · exact absurd HX.out (hno t)
    obtain rfl := ht_one HTT.out HX.out hu
    have TD := Lib.hid (told_any base V2 TB7.out HB7.out)
    go_wp2_with fail
    refine TD.out.mono ?_
    rintro e wt ⟨rfl, bt⟩
    go_wp2_with fail
    go_ret
    exact ⟨rfl, F7.out.trans (bt.mono F7.out.size)⟩
  · have HNO := Lib.hid hno
    clear hno
    go_wp2_with fail
    refine RX.out.mono ?_
    rintro e V2 ⟨b7, h7⟩
    have F7 := Lib.hid (F6.out.trans ((b7).mono F6.out.size))
    have TB7 := Lib.hid ((TB6.out).below (b7) HB6.out)
    have HB7 := Lib.hid (Nat.le_trans HB6.out (b7).size)
    clear b7 RX q0 q1 q2 q3
    rcases h7 with ⟨u, hu, rfl⟩ | ⟨hno, rfl⟩
    · exact absurd hu (HNO.out u)
    have TD := Lib.hid (told_any base V2 TB7.out HB7.out)
    go_wp2_with fail
    refine TD.out.mono ?_
    rintro e wt ⟨rfl, bt⟩
    go_wp2_with fail
    go_ret
    exact ⟨rfl, F7.out.trans (bt.mono F7.out.size)⟩
end Go.Proofs.YtdgekckedchjbaaGreatDoor
