
/-
  When two trees are the same: the program's comparing of expressions and of statements, exactly. (Printed by wip/tools/genv17.py.) sameExpr, sameStmt, sameBlock: exactly. (Printed by wip/tools/genv18.py.) slices.Equal at numbers and at variables; syntax.Same at programs: exactly. (Printed by wip/tools/genv19.py.)
-/
import Derived.Test.YtdgekckedchjbaaGreatDoorQL
import Derived.Test.YtdgekckedchjbaaGreatDoorQH
import Derived.Laws.StructEq
import Derived.Deep.QuietTactic
import Derived.BigQuiet
import Derived.Test.YtdgekckedchjbaaGreatDoorQO
namespace Go.Proofs.YtdgekckedchjbaaGreatDoor
open Go.RowKit

/-- A call that tells whether P. -/
def EqTo (w : World) (P : Prop) (e : Ending) (w' : World) : Prop := ∃ b : Bool, e = .returned (.bool b) ∧ (b = true ↔ P) ∧ Below w.heap.size w w'
theorem data_inj {a b : ByteArray} (h : a.data.toList = b.data.toList) : a = b := by
  obtain ⟨⟨a⟩⟩ := a
  obtain ⟨⟨b⟩⟩ := b
  simpa using h
/-- Two lists that agree so far. -/
theorem take_eq_succ {α : Type} {l m : List α} {k : Nat} (hl : k < l.length) (hm : k < m.length) : l.take (k + 1) = m.take (k + 1) ↔ l.take k = m.take k ∧ l[k] = m[k] := by
  rw [List.take_succ_eq_append_getElem hl, List.take_succ_eq_append_getElem hm]
  constructor
  · intro h
    have h1 : (l.take k).length = (m.take k).length := by simp; omega
    obtain ⟨a, b⟩ := List.append_inj h h1
    exact ⟨a, by simpa using b⟩
  · rintro ⟨a, b⟩
    rw [a, b]
set_option maxHeartbeats 4000000 in
set_option maxRecDepth 100000 in
theorem eqfuncE (Q : Cel Gx) (hqk : QKept Q) (hform : ∀ D w cs x, Q D w cs x → ∃ (op N : Int) (nm : ByteArray) (B : Option Addr) (lb cb : Nat), cs = [.int .i64 op, .int .i64 N, .string nm, .slice B lb cb])
    (HS : ∀ D D' W (op N : Int) (nm : ByteArray) (B : Option Addr) (lb cb : Nat) (op2 N2_ : Int) (nm2 : ByteArray) (B2_ : Option Addr) (lb2 cb2 : Nat) x y, Q D W [.int .i64 op, .int .i64 N, .string nm, .slice B lb cb] x → Q D' W [.int .i64 op2, .int .i64 N2_, .string nm2, .slice B2_ lb2 cb2] y → Calls Tryz.prog 109 #[.agg #[.int .i64 op, .int .i64 N, .string nm, .slice B lb cb], .agg #[.int .i64 op2, .int .i64 N2_, .string nm2, .slice B2_ lb2 cb2]] W (EqTo W (x = y)))
    (D D' : Nat → Prop) (A A' : Option Addr) (len len' c c' : Nat) (l m : List Gx) (w : World) (h1 : ElsG D w 4 2513169434843 (Q D w) A len l) (h2 : ElsG D' w 4 2513169434843 (Q D' w) A' len' m) :
    Calls Tryz.prog 108 #[.slice A len c, .slice A' len' c', .func (.func 109) #[] #[]] w (EqTo w (l = m)) := by
  obtain ⟨xs, r1, -, m1, n1, e1⟩ := h1
  obtain ⟨ys, r2, -, m2, n2, e2⟩ := h2
  have R1 := Lib.hid r1
  have R2 := Lib.hid r2
  have N1 := Lib.hid n1
  have N2 := Lib.hid n2
  have E1 := Lib.hid e1
  have E2 := Lib.hid e2
  have HHS := Lib.hid HS
  have HQK := Lib.hid hqk
  have HFM := Lib.hid hform
  clear r1 r2 n1 n2 e1 e2 HS hqk hform
  by_cases hl : len = len'
  · subst hl
    go_enter Tryz.func108, Tryz.ntmps108
    go_wp2_with fail
    go_loopw [17] (fun i wr => ∃ k : Nat, k ≤ len ∧ i = .int .i64 k ∧ Hid (Below w.heap.size w wr ∧ l.take k = m.take k)) (fun i _ => len - (intOf i).toNat)
    case atStart => exact ⟨0, by omega, rfl, Below.refl _ _, rfl⟩
    case round =>
      obtain ⟨k, hk, rfl, hi⟩ := hrel
      by_cases hlt : k < len
      · have hb := hi.out.1
        have hkl : k < l.length := by rw [N1.out]; exact hlt
        have hkm : k < m.length := by rw [N2.out]; exact hlt
        have ec := E1.out k hkl
        have ed := E2.out k hkm
        have HTS := Lib.hid (take_eq_succ hkl hkm)
        generalize l[k] = x at *
        generalize m[k] = y at *
        obtain ⟨op, N, nm, B, lb, cb, hcs⟩ := HFM.out _ _ _ _ ec
        obtain ⟨op2, N2_, nm2, B2_, lb2, cb2, hcs'⟩ := HFM.out _ _ _ _ ed
        rw [hcs] at ec
        rw [hcs'] at ed
        obtain ⟨b1, o1, rfl, hb1, q⟩ := R1.out.chunk (by omega) hlt hcs
        obtain ⟨b2, o2, rfl, hb2, p⟩ := R2.out.chunk (by omega) hlt hcs'
        have q0 := (hb.cell (p := ⟨b1, o1 + k * 4, none⟩) hb1).trans (q 0 _ rfl)
        have p0 := (hb.cell (p := ⟨b2, o2 + k * 4, none⟩) hb2).trans (p 0 _ rfl)
        have q1 := (hb.cell (p := ⟨b1, o1 + k * 4 + 1, none⟩) hb1).trans (q 1 _ rfl)
        have p1 := (hb.cell (p := ⟨b2, o2 + k * 4 + 1, none⟩) hb2).trans (p 1 _ rfl)
        have q2 := (hb.cell (p := ⟨b1, o1 + k * 4 + 2, none⟩) hb1).trans (q 2 _ rfl)
        have p2 := (hb.cell (p := ⟨b2, o2 + k * 4 + 2, none⟩) hb2).trans (p 2 _ rfl)
        have q3 := (hb.cell (p := ⟨b1, o1 + k * 4 + 3, none⟩) hb1).trans (q 3 _ rfl)
        have p3 := (hb.cell (p := ⟨b2, o2 + k * 4 + 3, none⟩) hb2).trans (p 3 _ rfl)
        have f1 : Below wr.heap.size wr (wr.alloc (.cells #[.int .i64 op, .int .i64 N, .string nm, .slice B lb cb] 40)) := (Below.refl _ _).al _
        have X1 := Lib.hid (Blk.new wr 40 #[.int .i64 op, .int .i64 N, .string nm, .slice B lb cb])
        have B1 := Lib.hid (hb.trans (f1.mono hb.size))
        have P1 := Lib.hid (bcell f1)
        have g1 : (0 : Int) ≤ (k : Int) := by omega
        have g2 : (k : Int) < (len : Int) := by omega
        have hz2 : b2 < wr.heap.size := Nat.lt_of_lt_of_le hb2 hb.size
        have EC := Lib.hid (fun W (hW : Below w.heap.size w W) => HQK.out D D (fun _ => False) w W _ x (Kept.of_below hW) (fun _ _ _ h => h) (fun _ _ h => h) ec)
        have ED := Lib.hid (fun W (hW : Below w.heap.size w W) => HQK.out D' D' (fun _ => False) w W _ y (Kept.of_below hW) (fun _ _ _ h => h) (fun _ _ h => h) ed)
        clear q p hcs hcs' ec ed f1 hb
        go_upto_region 6 with fail
        have p0 : (wr.alloc (.cells #[.int .i64 op, .int .i64 N, .string nm, .slice B lb cb] 40)).cell? ⟨b2, o2 + k * 4, none⟩ = some (.int .i64 op2) := (P1.out.1 _ _ hz2).trans p0
        have p1 : (wr.alloc (.cells #[.int .i64 op, .int .i64 N, .string nm, .slice B lb cb] 40)).cell? ⟨b2, o2 + k * 4 + 1, none⟩ = some (.int .i64 N2_) := (P1.out.1 _ _ hz2).trans p1
        have p2 : (wr.alloc (.cells #[.int .i64 op, .int .i64 N, .string nm, .slice B lb cb] 40)).cell? ⟨b2, o2 + k * 4 + 2, none⟩ = some (.string nm2) := (P1.out.1 _ _ hz2).trans p2
        have p3 : (wr.alloc (.cells #[.int .i64 op, .int .i64 N, .string nm, .slice B lb cb] 40)).cell? ⟨b2, o2 + k * 4 + 3, none⟩ = some (.slice B2_ lb2 cb2) := (P1.out.1 _ _ hz2).trans p3
        clear q0 q1 q2 q3 P1
        generalize wr.alloc (.cells #[.int .i64 op, .int .i64 N, .string nm, .slice B lb cb] 40) = W1 at *
        have f2 : Below W1.heap.size W1 (W1.alloc (.cells #[.int .i64 op2, .int .i64 N2_, .string nm2, .slice B2_ lb2 cb2] 40)) := (Below.refl _ _).al _
        have X2 := Lib.hid (X1.out.below f2 X1.out.lt)
        have Y2 := Lib.hid (Blk.new W1 40 #[.int .i64 op2, .int .i64 N2_, .string nm2, .slice B2_ lb2 cb2])
        have B2 := Lib.hid (B1.out.trans (f2.mono B1.out.size))
        clear f2 X1 B1 hz2
        go_upto_region 7 with fail
        clear p0 p1 p2 p3
        generalize W1.alloc (.cells #[.int .i64 op2, .int .i64 N2_, .string nm2, .slice B2_ lb2 cb2] 40) = W2 at *
        have s0 : W2.cell? ⟨wr.heap.size, 0, none⟩ = some (.int .i64 op) := X2.out.cell 0
        have t0 : W2.cell? ⟨W1.heap.size, 0, none⟩ = some (.int .i64 op2) := Y2.out.cell 0
        have s1 : W2.cell? ⟨wr.heap.size, 1, none⟩ = some (.int .i64 N) := X2.out.cell 1
        have t1 : W2.cell? ⟨W1.heap.size, 1, none⟩ = some (.int .i64 N2_) := Y2.out.cell 1
        have s2 : W2.cell? ⟨wr.heap.size, 2, none⟩ = some (.string nm) := X2.out.cell 2
        have t2 : W2.cell? ⟨W1.heap.size, 2, none⟩ = some (.string nm2) := Y2.out.cell 2
        have s3 : W2.cell? ⟨wr.heap.size, 3, none⟩ = some (.slice B lb cb) := X2.out.cell 3
        have t3 : W2.cell? ⟨W1.heap.size, 3, none⟩ = some (.slice B2_ lb2 cb2) := Y2.out.cell 3
        have SM := Lib.hid (HHS.out D D' W2 op N nm B lb cb op2 N2_ nm2 B2_ lb2 cb2 x y (EC.out _ B2.out) (ED.out _ B2.out))
        go_wp2_with fail
        refine SM.out.mono ?_
        rintro e w3 ⟨b, rfl, hbe, b3⟩
        have B3 := Lib.hid (B2.out.trans (b3.mono B2.out.size))
        have HBE := Lib.hid hbe
        clear b3 SM hbe s0 t0 s1 t1 s2 t2 s3 t3
        cases b with
        | true =>
          have NX := Lib.hid (show Below w.heap.size w w3 ∧ l.take (k + 1) = m.take (k + 1) from ⟨B3.out, HTS.out.2 ⟨hi.out.2, HBE.out.1 rfl⟩⟩)
          go_wp2_with fail
          go_roundw
          case rel => exact ⟨k + 1, by omega, by go_num, NX⟩
          case measure => simp [intOf]; omega
        | false =>
          go_wp2_with fail
          go_ret
          refine ⟨false, rfl, ⟨fun e => (by cases e), fun e => ?_⟩, B3.out⟩
          have := (HTS.out.1 (by rw [e])).2
          have := HBE.out.2 this
          cases this
      · obtain rfl : k = len := by omega
        go_wp2_with fail
        go_ret
        refine ⟨true, rfl, ⟨fun _ => ?_, fun _ => rfl⟩, hi.out.1⟩
        have := hi.out.2
        rwa [List.take_of_length_le (Nat.le_of_eq N1.out), List.take_of_length_le (Nat.le_of_eq N2.out)] at this
  · have hl' : ((len : Int) == (len' : Int)) = false := by simp; omega
    have HL := Lib.hid hl
    clear hl
    go_enter Tryz.func108, Tryz.ntmps108
    go_wp2_with fail
    go_ret
    refine ⟨false, rfl, ⟨fun e => (by cases e), fun e => ?_⟩, Below.refl _ _⟩
    exact absurd (by rw [← N1.out, ← N2.out, e]) HL.out


set_option maxHeartbeats 4000000 in
set_option maxRecDepth 100000 in
theorem eqfuncS (Q : Cel Sx) (hqk : QKept Q) (hform : ∀ D w cs x, Q D w cs x → ∃ (kd : Int) (nm : ByteArray) (B1 : Option Addr) (l1 c1 : Nat) (lo hi : Int) (B2 : Option Addr) (l2 c2 : Nat) (B3 : Option Addr) (l3 c3 : Nat), cs = [.int .i64 kd, .string nm, .slice B1 l1 c1, .int .i64 lo, .int .i64 hi, .slice B2 l2 c2, .slice B3 l3 c3])
    (HS : ∀ D D' W (kd : Int) (nm : ByteArray) (B1_ : Option Addr) (lb1 cb1 : Nat) (lo hi_ : Int) (B2_ : Option Addr) (lb2 cb2 : Nat) (B3_ : Option Addr) (lb3 cb3 : Nat) (kd' : Int) (nm' : ByteArray) (C1_ : Option Addr) (lc1 cc1 : Nat) (lo' hi' : Int) (C2_ : Option Addr) (lc2 cc2 : Nat) (C3_ : Option Addr) (lc3 cc3 : Nat) x y, Q D W [.int .i64 kd, .string nm, .slice B1_ lb1 cb1, .int .i64 lo, .int .i64 hi_, .slice B2_ lb2 cb2, .slice B3_ lb3 cb3] x → Q D' W [.int .i64 kd', .string nm', .slice C1_ lc1 cc1, .int .i64 lo', .int .i64 hi', .slice C2_ lc2 cc2, .slice C3_ lc3 cc3] y → Calls Tryz.prog 74 #[.agg #[.int .i64 kd, .string nm, .slice B1_ lb1 cb1, .int .i64 lo, .int .i64 hi_, .slice B2_ lb2 cb2, .slice B3_ lb3 cb3], .agg #[.int .i64 kd', .string nm', .slice C1_ lc1 cc1, .int .i64 lo', .int .i64 hi', .slice C2_ lc2 cc2, .slice C3_ lc3 cc3]] W (EqTo W (x = y)))
    (D D' : Nat → Prop) (A A' : Option Addr) (len len' c c' : Nat) (l m : List Sx) (w : World) (h1 : ElsG D w 7 2513169434843 (Q D w) A len l) (h2 : ElsG D' w 7 2513169434843 (Q D' w) A' len' m) :
    Calls Tryz.prog 73 #[.slice A len c, .slice A' len' c', .func (.func 74) #[] #[]] w (EqTo w (l = m)) := by
  obtain ⟨xs, r1, -, m1, n1, e1⟩ := h1
  obtain ⟨ys, r2, -, m2, n2, e2⟩ := h2
  have R1 := Lib.hid r1
  have R2 := Lib.hid r2
  have N1 := Lib.hid n1
  have N2 := Lib.hid n2
  have E1 := Lib.hid e1
  have E2 := Lib.hid e2
  have HHS := Lib.hid HS
  have HQK := Lib.hid hqk
  have HFM := Lib.hid hform
  clear r1 r2 n1 n2 e1 e2 HS hqk hform
  by_cases hl : len = len'
  · subst hl
    go_enter Tryz.func73, Tryz.ntmps73
    go_wp2_with fail
    go_loopw [17] (fun i wr => ∃ k : Nat, k ≤ len ∧ i = .int .i64 k ∧ Hid (Below w.heap.size w wr ∧ l.take k = m.take k)) (fun i _ => len - (intOf i).toNat)
    case atStart => exact ⟨0, by omega, rfl, Below.refl _ _, rfl⟩
    case round =>
      obtain ⟨k, hk, rfl, hi⟩ := hrel
      by_cases hlt : k < len
      · have hb := hi.out.1
        have hkl : k < l.length := by rw [N1.out]; exact hlt
        have hkm : k < m.length := by rw [N2.out]; exact hlt
        have ec := E1.out k hkl
        have ed := E2.out k hkm
        have HTS := Lib.hid (take_eq_succ hkl hkm)
        generalize l[k] = x at *
        generalize m[k] = y at *
        obtain ⟨kd, nm, B1_, lb1, cb1, lo, hi_, B2_, lb2, cb2, B3_, lb3, cb3, hcs⟩ := HFM.out _ _ _ _ ec
        obtain ⟨kd', nm', C1_, lc1, cc1, lo', hi', C2_, lc2, cc2, C3_, lc3, cc3, hcs'⟩ := HFM.out _ _ _ _ ed
        rw [hcs] at ec
        rw [hcs'] at ed
        obtain ⟨b1, o1, rfl, hb1, q⟩ := R1.out.chunk (by omega) hlt hcs
        obtain ⟨b2, o2, rfl, hb2, p⟩ := R2.out.chunk (by omega) hlt hcs'
        have q0 := (hb.cell (p := ⟨b1, o1 + k * 7, none⟩) hb1).trans (q 0 _ rfl)
        have p0 := (hb.cell (p := ⟨b2, o2 + k * 7, none⟩) hb2).trans (p 0 _ rfl)
        have q1 := (hb.cell (p := ⟨b1, o1 + k * 7 + 1, none⟩) hb1).trans (q 1 _ rfl)
        have p1 := (hb.cell (p := ⟨b2, o2 + k * 7 + 1, none⟩) hb2).trans (p 1 _ rfl)
        have q2 := (hb.cell (p := ⟨b1, o1 + k * 7 + 2, none⟩) hb1).trans (q 2 _ rfl)
        have p2 := (hb.cell (p := ⟨b2, o2 + k * 7 + 2, none⟩) hb2).trans (p 2 _ rfl)
        have q3 := (hb.cell (p := ⟨b1, o1 + k * 7 + 3, none⟩) hb1).trans (q 3 _ rfl)
        have p3 := (hb.cell (p := ⟨b2, o2 + k * 7 + 3, none⟩) hb2).trans (p 3 _ rfl)
        have q4 := (hb.cell (p := ⟨b1, o1 + k * 7 + 4, none⟩) hb1).trans (q 4 _ rfl)
        have p4 := (hb.cell (p := ⟨b2, o2 + k * 7 + 4, none⟩) hb2).trans (p 4 _ rfl)
        have q5 := (hb.cell (p := ⟨b1, o1 + k * 7 + 5, none⟩) hb1).trans (q 5 _ rfl)
        have p5 := (hb.cell (p := ⟨b2, o2 + k * 7 + 5, none⟩) hb2).trans (p 5 _ rfl)
        have q6 := (hb.cell (p := ⟨b1, o1 + k * 7 + 6, none⟩) hb1).trans (q 6 _ rfl)
        have p6 := (hb.cell (p := ⟨b2, o2 + k * 7 + 6, none⟩) hb2).trans (p 6 _ rfl)
        have f1 : Below wr.heap.size wr (wr.alloc (.cells #[.int .i64 kd, .string nm, .slice B1_ lb1 cb1, .int .i64 lo, .int .i64 hi_, .slice B2_ lb2 cb2, .slice B3_ lb3 cb3] 95)) := (Below.refl _ _).al _
        have X1 := Lib.hid (Blk.new wr 95 #[.int .i64 kd, .string nm, .slice B1_ lb1 cb1, .int .i64 lo, .int .i64 hi_, .slice B2_ lb2 cb2, .slice B3_ lb3 cb3])
        have B1 := Lib.hid (hb.trans (f1.mono hb.size))
        have P1 := Lib.hid (bcell f1)
        have g1 : (0 : Int) ≤ (k : Int) := by omega
        have g2 : (k : Int) < (len : Int) := by omega
        have hz2 : b2 < wr.heap.size := Nat.lt_of_lt_of_le hb2 hb.size
        have EC := Lib.hid (fun W (hW : Below w.heap.size w W) => HQK.out D D (fun _ => False) w W _ x (Kept.of_below hW) (fun _ _ _ h => h) (fun _ _ h => h) ec)
        have ED := Lib.hid (fun W (hW : Below w.heap.size w W) => HQK.out D' D' (fun _ => False) w W _ y (Kept.of_below hW) (fun _ _ _ h => h) (fun _ _ h => h) ed)
        clear q p hcs hcs' ec ed f1 hb
        go_upto_region 6 with fail
        have p0 : (wr.alloc (.cells #[.int .i64 kd, .string nm, .slice B1_ lb1 cb1, .int .i64 lo, .int .i64 hi_, .slice B2_ lb2 cb2, .slice B3_ lb3 cb3] 95)).cell? ⟨b2, o2 + k * 7, none⟩ = some (.int .i64 kd') := (P1.out.1 _ _ hz2).trans p0
        have p1 : (wr.alloc (.cells #[.int .i64 kd, .string nm, .slice B1_ lb1 cb1, .int .i64 lo, .int .i64 hi_, .slice B2_ lb2 cb2, .slice B3_ lb3 cb3] 95)).cell? ⟨b2, o2 + k * 7 + 1, none⟩ = some (.string nm') := (P1.out.1 _ _ hz2).trans p1
        have p2 : (wr.alloc (.cells #[.int .i64 kd, .string nm, .slice B1_ lb1 cb1, .int .i64 lo, .int .i64 hi_, .slice B2_ lb2 cb2, .slice B3_ lb3 cb3] 95)).cell? ⟨b2, o2 + k * 7 + 2, none⟩ = some (.slice C1_ lc1 cc1) := (P1.out.1 _ _ hz2).trans p2
        have p3 : (wr.alloc (.cells #[.int .i64 kd, .string nm, .slice B1_ lb1 cb1, .int .i64 lo, .int .i64 hi_, .slice B2_ lb2 cb2, .slice B3_ lb3 cb3] 95)).cell? ⟨b2, o2 + k * 7 + 3, none⟩ = some (.int .i64 lo') := (P1.out.1 _ _ hz2).trans p3
        have p4 : (wr.alloc (.cells #[.int .i64 kd, .string nm, .slice B1_ lb1 cb1, .int .i64 lo, .int .i64 hi_, .slice B2_ lb2 cb2, .slice B3_ lb3 cb3] 95)).cell? ⟨b2, o2 + k * 7 + 4, none⟩ = some (.int .i64 hi') := (P1.out.1 _ _ hz2).trans p4
        have p5 : (wr.alloc (.cells #[.int .i64 kd, .string nm, .slice B1_ lb1 cb1, .int .i64 lo, .int .i64 hi_, .slice B2_ lb2 cb2, .slice B3_ lb3 cb3] 95)).cell? ⟨b2, o2 + k * 7 + 5, none⟩ = some (.slice C2_ lc2 cc2) := (P1.out.1 _ _ hz2).trans p5
        have p6 : (wr.alloc (.cells #[.int .i64 kd, .string nm, .slice B1_ lb1 cb1, .int .i64 lo, .int .i64 hi_, .slice B2_ lb2 cb2, .slice B3_ lb3 cb3] 95)).cell? ⟨b2, o2 + k * 7 + 6, none⟩ = some (.slice C3_ lc3 cc3) := (P1.out.1 _ _ hz2).trans p6
        clear q0 q1 q2 q3 q4 q5 q6 P1
        generalize wr.alloc (.cells #[.int .i64 kd, .string nm, .slice B1_ lb1 cb1, .int .i64 lo, .int .i64 hi_, .slice B2_ lb2 cb2, .slice B3_ lb3 cb3] 95) = W1 at *
        have f2 : Below W1.heap.size W1 (W1.alloc (.cells #[.int .i64 kd', .string nm', .slice C1_ lc1 cc1, .int .i64 lo', .int .i64 hi', .slice C2_ lc2 cc2, .slice C3_ lc3 cc3] 95)) := (Below.refl _ _).al _
        have X2 := Lib.hid (X1.out.below f2 X1.out.lt)
        have Y2 := Lib.hid (Blk.new W1 95 #[.int .i64 kd', .string nm', .slice C1_ lc1 cc1, .int .i64 lo', .int .i64 hi', .slice C2_ lc2 cc2, .slice C3_ lc3 cc3])
        have B2 := Lib.hid (B1.out.trans (f2.mono B1.out.size))
        clear f2 X1 B1 hz2
        go_upto_region 7 with fail
        clear p0 p1 p2 p3 p4 p5 p6
        generalize W1.alloc (.cells #[.int .i64 kd', .string nm', .slice C1_ lc1 cc1, .int .i64 lo', .int .i64 hi', .slice C2_ lc2 cc2, .slice C3_ lc3 cc3] 95) = W2 at *
        have s0 : W2.cell? ⟨wr.heap.size, 0, none⟩ = some (.int .i64 kd) := X2.out.cell 0
        have t0 : W2.cell? ⟨W1.heap.size, 0, none⟩ = some (.int .i64 kd') := Y2.out.cell 0
        have s1 : W2.cell? ⟨wr.heap.size, 1, none⟩ = some (.string nm) := X2.out.cell 1
        have t1 : W2.cell? ⟨W1.heap.size, 1, none⟩ = some (.string nm') := Y2.out.cell 1
        have s2 : W2.cell? ⟨wr.heap.size, 2, none⟩ = some (.slice B1_ lb1 cb1) := X2.out.cell 2
        have t2 : W2.cell? ⟨W1.heap.size, 2, none⟩ = some (.slice C1_ lc1 cc1) := Y2.out.cell 2
        have s3 : W2.cell? ⟨wr.heap.size, 3, none⟩ = some (.int .i64 lo) := X2.out.cell 3
        have t3 : W2.cell? ⟨W1.heap.size, 3, none⟩ = some (.int .i64 lo') := Y2.out.cell 3
        have s4 : W2.cell? ⟨wr.heap.size, 4, none⟩ = some (.int .i64 hi_) := X2.out.cell 4
        have t4 : W2.cell? ⟨W1.heap.size, 4, none⟩ = some (.int .i64 hi') := Y2.out.cell 4
        have s5 : W2.cell? ⟨wr.heap.size, 5, none⟩ = some (.slice B2_ lb2 cb2) := X2.out.cell 5
        have t5 : W2.cell? ⟨W1.heap.size, 5, none⟩ = some (.slice C2_ lc2 cc2) := Y2.out.cell 5
        have s6 : W2.cell? ⟨wr.heap.size, 6, none⟩ = some (.slice B3_ lb3 cb3) := X2.out.cell 6
        have t6 : W2.cell? ⟨W1.heap.size, 6, none⟩ = some (.slice C3_ lc3 cc3) := Y2.out.cell 6
        have SM := Lib.hid (HHS.out D D' W2 kd nm B1_ lb1 cb1 lo hi_ B2_ lb2 cb2 B3_ lb3 cb3 kd' nm' C1_ lc1 cc1 lo' hi' C2_ lc2 cc2 C3_ lc3 cc3 x y (EC.out _ B2.out) (ED.out _ B2.out))
        go_wp2_with fail
        refine SM.out.mono ?_
        rintro e w3 ⟨b, rfl, hbe, b3⟩
        have B3 := Lib.hid (B2.out.trans (b3.mono B2.out.size))
        have HBE := Lib.hid hbe
        clear b3 SM hbe s0 t0 s1 t1 s2 t2 s3 t3 s4 t4 s5 t5 s6 t6
        cases b with
        | true =>
          have NX := Lib.hid (show Below w.heap.size w w3 ∧ l.take (k + 1) = m.take (k + 1) from ⟨B3.out, HTS.out.2 ⟨hi.out.2, HBE.out.1 rfl⟩⟩)
          go_wp2_with fail
          go_roundw
          case rel => exact ⟨k + 1, by omega, by go_num, NX⟩
          case measure => simp [intOf]; omega
        | false =>
          go_wp2_with fail
          go_ret
          refine ⟨false, rfl, ⟨fun e => (by cases e), fun e => ?_⟩, B3.out⟩
          have := (HTS.out.1 (by rw [e])).2
          have := HBE.out.2 this
          cases this
      · obtain rfl : k = len := by omega
        go_wp2_with fail
        go_ret
        refine ⟨true, rfl, ⟨fun _ => ?_, fun _ => rfl⟩, hi.out.1⟩
        have := hi.out.2
        rwa [List.take_of_length_le (Nat.le_of_eq N1.out), List.take_of_length_le (Nat.le_of_eq N2.out)] at this
  · have hl' : ((len : Int) == (len' : Int)) = false := by simp; omega
    have HL := Lib.hid hl
    clear hl
    go_enter Tryz.func73, Tryz.ntmps73
    go_wp2_with fail
    go_ret
    refine ⟨false, rfl, ⟨fun e => (by cases e), fun e => ?_⟩, Below.refl _ _⟩
    exact absurd (by rw [← N1.out, ← N2.out, e]) HL.out
end Go.Proofs.YtdgekckedchjbaaGreatDoor
namespace Go.Proofs.YtdgekckedchjbaaGreatDoor
open Go.RowKit

theorem tls_inj {s t : ByteArray} (h : s.toList = t.toList) : s = t := by
  refine data_inj ?_
  rw [ByteArray.toList_eq, ByteArray.toList_eq] at h
  exact h
theorem str_injB {a b : List UInt8} : str a = str b ↔ a = b := ⟨fun h => str_inj h, fun h => by rw [h]⟩
def SameEOk (n : Nat) : Prop := ∀ (D D' : Nat → Prop) (op N op2 N2 : Int) (nm nm2 : ByteArray) (A B : Option Addr) (la ca lb cb : Nat) (x y : Gx) (w : World), GC D w 2513169434843 n [.int .i64 op, .int .i64 N, .string nm, .slice A la ca] x → GC D' w 2513169434843 n [.int .i64 op2, .int .i64 N2, .string nm2, .slice B lb cb] y →
  Calls Tryz.prog 109 #[.agg #[.int .i64 op, .int .i64 N, .string nm, .slice A la ca], .agg #[.int .i64 op2, .int .i64 N2, .string nm2, .slice B lb cb]] w (EqTo w (x = y))

set_option maxHeartbeats 4000000 in
set_option maxRecDepth 100000 in
theorem same_exprs (n : Nat) (H : SameEOk n) (D D' : Nat → Prop) (A A' : Option Addr) (len len' c c' : Nat) (l m : List Gx) (w : World) (h1 : ElsG D w 4 2513169434843 (GC D w 2513169434843 n) A len l) (h2 : ElsG D' w 4 2513169434843 (GC D' w 2513169434843 n) A' len' m) :
    Calls Tryz.prog 108 #[.slice A len c, .slice A' len' c', .func (.func 109) #[] #[]] w (EqTo w (l = m)) :=
  eqfuncE (fun D w cs x => GC D w 2513169434843 n cs x) (fun _ _ _ _ _ cs x hk hs hE h => GC.kept hk hs hE n cs x h) (fun _ _ _ _ h => h.form) (fun D D' W op N nm B lb cb op2 N2 nm2 B2 lb2 cb2 x y hx hy => H D D' op N op2 N2 nm nm2 B B2 lb cb lb2 cb2 x y W hx hy) D D' A A' len len' c c' l m w h1 h2
set_option maxHeartbeats 4000000 in
set_option maxRecDepth 100000 in
theorem same_estep (n : Nat) (H : SameEOk n) : SameEOk (n + 1) := by
  intro D D' op N op2 N2 nm nm2 A B la ca lb cb x y w hx hy
  obtain ⟨xo, xN, xn, xl⟩ := x
  obtain ⟨yo, yN, yn, yl⟩ := y
  obtain ⟨rfl, rfl, rfl, -, q, hq, hel⟩ := hx.parts_
  obtain ⟨rfl, rfl, rfl, -, q2, hq2, hel2⟩ := hy.parts_
  obtain rfl : q = n := by omega
  obtain rfl : q2 = q := by omega
  have HE1 := Lib.hid hel
  have HE2 := Lib.hid hel2
  have HR := Lib.hid H
  clear hx hy hel hel2 H hq hq2
  obtain ⟨x0, y0⟩ := two_new w 40 40 #[.int .i64 op, .int .i64 N, .string nm, .slice A la ca] #[.int .i64 op2, .int .i64 N2, .string nm2, .slice B lb cb]
  have X0 := Lib.hid x0
  have Y0 := Lib.hid y0
  have F0 := Lib.hid (((Below.refl w.heap.size w).al (.cells #[.int .i64 op, .int .i64 N, .string nm, .slice A la ca] 40)).al (.cells #[.int .i64 op2, .int .i64 N2, .string nm2, .slice B lb cb] 40))
  clear x0 y0
  go_enter Tryz.func109, Tryz.ntmps109
  go_upto_region 1 with fail
  generalize (w.alloc (.cells #[.int .i64 op, .int .i64 N, .string nm, .slice A la ca] 40)).alloc (.cells #[.int .i64 op2, .int .i64 N2, .string nm2, .slice B lb cb] 40) = W0 at *
  have s0 : W0.cell? ⟨w.heap.size, 0, none⟩ = some (.int .i64 op) := X0.out.cell 0
  have t0 : W0.cell? ⟨w.heap.size + 1, 0, none⟩ = some (.int .i64 op2) := Y0.out.cell 0
  have s1 : W0.cell? ⟨w.heap.size, 1, none⟩ = some (.int .i64 N) := X0.out.cell 1
  have t1 : W0.cell? ⟨w.heap.size + 1, 1, none⟩ = some (.int .i64 N2) := Y0.out.cell 1
  have s2 : W0.cell? ⟨w.heap.size, 2, none⟩ = some (.string nm) := X0.out.cell 2
  have t2 : W0.cell? ⟨w.heap.size + 1, 2, none⟩ = some (.string nm2) := Y0.out.cell 2
  have s3 : W0.cell? ⟨w.heap.size, 3, none⟩ = some (.slice A la ca) := X0.out.cell 3
  have t3 : W0.cell? ⟨w.heap.size + 1, 3, none⟩ = some (.slice B lb cb) := Y0.out.cell 3
  by_cases ho : op = op2
  · have ho' : (op == op2) = true := by simp [ho]
    by_cases hN : N = N2
    · have hN' : (N == N2) = true := by simp [hN]
      by_cases hn : nm = nm2
      · have hn' : (nm.toList == nm2.toList) = true := by simp [hn]
        have HEQ := Lib.hid (show op = op2 ∧ N = N2 ∧ nm = nm2 from ⟨ho, hN, hn⟩)
        have CL := Lib.hid (same_exprs q2 HR.out D D' A B la lb ca cb xl yl W0 (HE1.out.below F0.out) (HE2.out.below F0.out))
        clear ho hN hn
        go_wp2_with fail
        refine CL.out.mono ?_
        rintro e w1 ⟨b, rfl, hb, b1⟩
        go_wp2_with fail
        go_ret
        obtain ⟨e1, e2, e3⟩ := HEQ.out
        refine ⟨b, rfl, hb.trans ⟨fun h => by rw [e1, e2, e3, h], fun h => by injection h⟩, F0.out.trans (b1.mono F0.out.size)⟩
      · have hn' : (nm.toList == nm2.toList) = false := by simpa using fun e => hn (tls_inj e)
        have HNE := Lib.hid hn
        clear hn ho hN
        go_wp2_with fail
        go_ret
        exact ⟨false, rfl, ⟨fun e => (by cases e), fun e => absurd (by injection e) HNE.out⟩, F0.out⟩
    · have hN' : (N == N2) = false := by simp [hN]
      have HNE := Lib.hid hN
      clear hN ho
      go_wp2_with fail
      go_ret
      exact ⟨false, rfl, ⟨fun e => (by cases e), fun e => absurd (by injection e) HNE.out⟩, F0.out⟩
  · have ho' : (op == op2) = false := by simp [ho]
    have HNE := Lib.hid ho
    clear ho
    go_wp2_with fail
    go_ret
    exact ⟨false, rfl, ⟨fun e => (by cases e), fun e => absurd (by injection e) HNE.out⟩, F0.out⟩
theorem same_eall : ∀ n, SameEOk n
  | 0 => fun _ _ _ _ _ _ _ _ _ _ _ _ _ _ x _ _ hx _ => absurd hx (by cases x; exact id)
  | n + 1 => same_estep n (same_eall n)
/-- Rows of expressions, each at its own depth. -/
theorem same_ga (D D' : Nat → Prop) (A A' : Option Addr) (len len' c c' : Nat) (l m : List Gx) (w : World) (h1 : ElsG D w 4 2513169434843 (GA D w) A len l) (h2 : ElsG D' w 4 2513169434843 (GA D' w) A' len' m) :
    Calls Tryz.prog 108 #[.slice A len c, .slice A' len' c', .func (.func 109) #[] #[]] w (EqTo w (l = m)) :=
  eqfuncE GA GA_kept (fun _ _ _ _ ⟨_, h, _⟩ => h.form) (fun D D' W op N nm B lb cb op2 N2 nm2 B2 lb2 cb2 x y ⟨n1, hx, _⟩ ⟨n2, hy, _⟩ => same_eall (max n1 n2) D D' op N op2 N2 nm nm2 B B2 lb cb lb2 cb2 x y W (hx.deeper (Nat.le_max_left _ _)) (hy.deeper (Nat.le_max_right _ _))) D D' A A' len len' c c' l m w h1 h2

def SameSOk (n : Nat) : Prop := ∀ (D D' : Nat → Prop) (kd : Int) (nm : ByteArray) (A1 : Option Addr) (l1 c1 : Nat) (lo hi : Int) (A2 : Option Addr) (l2 c2 : Nat) (A3 : Option Addr) (l3 c3 : Nat) (kd' : Int) (nm' : ByteArray) (B1 : Option Addr) (i1 d1 : Nat) (lo' hi' : Int) (B2 : Option Addr) (i2 d2 : Nat) (B3 : Option Addr) (i3 d3 : Nat) (x y : Sx) (w : World),
  XE D w n [.int .i64 kd, .string nm, .slice A1 l1 c1, .int .i64 lo, .int .i64 hi, .slice A2 l2 c2, .slice A3 l3 c3] x → XE D' w n [.int .i64 kd', .string nm', .slice B1 i1 d1, .int .i64 lo', .int .i64 hi', .slice B2 i2 d2, .slice B3 i3 d3] y → Calls Tryz.prog 74 #[.agg #[.int .i64 kd, .string nm, .slice A1 l1 c1, .int .i64 lo, .int .i64 hi, .slice A2 l2 c2, .slice A3 l3 c3], .agg #[.int .i64 kd', .string nm', .slice B1 i1 d1, .int .i64 lo', .int .i64 hi', .slice B2 i2 d2, .slice B3 i3 d3]] w (EqTo w (x = y))
def SameBOk (n : Nat) : Prop := ∀ (D D' : Nat → Prop) (A A' : Option Addr) (len len' c c' : Nat) (l m : List Sx) (w : World), ElsG D w 7 2513169434843 (XE D w n) A len l → ElsG D' w 7 2513169434843 (XE D' w n) A' len' m →
  Calls Tryz.prog 36 #[.slice A len c, .slice A' len' c'] w (EqTo w (l = m))
theorem elsA_below {D : Nat → Prop} {w w' : World} {len : Nat} {A : Option Addr} {l : List Gx} (h : ElsG D w 4 2513169434843 (GA D w) A len l) (hb : Below w.heap.size w w') : ElsG D w' 4 2513169434843 (GA D w') A len l :=
  h.kept (Kept.of_below (S := fun _ => False) hb) (fun _ _ _ h => h) (fun _ _ h => h) (fun cs a h => GA_kept D D _ w w' cs a (Kept.of_below (S := fun _ => False) hb) (fun _ _ _ h => h) (fun _ _ h => h) h)
theorem elsX_below {D : Nat → Prop} {w w' : World} {n len : Nat} {A : Option Addr} {l : List Sx} (h : ElsG D w 7 2513169434843 (XE D w n) A len l) (hb : Below w.heap.size w w') : ElsG D w' 7 2513169434843 (XE D w' n) A len l :=
  h.kept (Kept.of_below (S := fun _ => False) hb) (fun _ _ _ h => h) (fun _ _ h => h) (XE.kept (Kept.of_below (S := fun _ => False) hb) (fun _ _ _ h => h) (fun _ _ h => h) n)
theorem XE.form {D : Nat → Prop} {w : World} {n : Nat} {cs : List Value} {s : Sx} (h : XE D w n cs s) : ∃ (kd : Int) (nm : ByteArray) (B1 : Option Addr) (l1 c1 : Nat) (lo hi : Int) (B2 : Option Addr) (l2 c2 : Nat) (B3 : Option Addr) (l3 c3 : Nat), cs = [.int .i64 kd, .string nm, .slice B1 l1 c1, .int .i64 lo, .int .i64 hi, .slice B2 l2 c2, .slice B3 l3 c3] := by
  cases n with
  | zero => exact absurd h (by cases s; exact id)
  | succ n =>
    obtain ⟨kd, nm, E, lo, hi, L, El⟩ := s
    obtain ⟨A1, l1, c1, A2, l2, c2, A3, l3, c3, h1, _⟩ := h
    exact ⟨kd, str nm, A1, l1, c1, lo, hi, A2, l2, c2, A3, l3, c3, h1⟩
set_option maxHeartbeats 4000000 in
set_option maxRecDepth 100000 in
theorem same_bstep (n : Nat) (H : SameSOk n) : SameBOk n := by
  intro D D' A A' len len' c c' l m w h1 h2
  have CL := Lib.hid (eqfuncS (QX n) (QX_kept n) (fun _ _ _ _ h => XE.form h) (fun D D' W kd nm B1 l1 c1 lo hi B2 l2 c2 B3 l3 c3 kd' nm' C1 i1 d1 lo' hi' C2 i2 d2 C3 i3 d3 x y hx hy => H D D' kd nm B1 l1 c1 lo hi B2 l2 c2 B3 l3 c3 kd' nm' C1 i1 d1 lo' hi' C2 i2 d2 C3 i3 d3 x y W hx hy) D D' A A' len len' c c' l m w h1 h2)
  clear h1 h2 H
  go_enter Tryz.func36, Tryz.ntmps36
  go_wp2_with fail
  refine CL.out.mono ?_
  rintro e w1 ⟨b, rfl, hb, b1⟩
  go_wp2_with fail
  go_ret
  exact ⟨b, rfl, hb, b1⟩
set_option maxHeartbeats 4000000 in
set_option maxRecDepth 100000 in
theorem same_sstep (n : Nat) (H : SameBOk n) : SameSOk (n + 1) := by
  intro D D' kd nm A1 l1 c1 lo hi A2 l2 c2 A3 l3 c3 kd' nm' B1 i1 d1 lo' hi' B2 i2 d2 B3 i3 d3 x y w hx hy
  obtain ⟨k0, n0, E, lo0, hi0, L, El⟩ := x
  obtain ⟨k1, n1, E', lo1, hi1, L', El'⟩ := y
  obtain ⟨_, _, _, _, _, _, _, _, _, hcs, -, hE, hL, hEl⟩ := hx
  obtain ⟨_, _, _, _, _, _, _, _, _, hcs', -, hE', hL', hEl'⟩ := hy
  simp only [List.cons.injEq, Value.int.injEq, Value.string.injEq, Value.slice.injEq, true_and, and_true] at hcs hcs'
  obtain ⟨rfl, hA, ⟨rfl, rfl, rfl⟩, rfl, rfl, ⟨rfl, rfl, rfl⟩, rfl, rfl, rfl⟩ := hcs
  obtain ⟨rfl, hB, ⟨rfl, rfl, rfl⟩, rfl, rfl, ⟨rfl, rfl, rfl⟩, rfl, rfl, rfl⟩ := hcs'
  have HA := Lib.hid hA
  have HB := Lib.hid hB
  have HE1 := Lib.hid hE
  have HE2 := Lib.hid hE'
  have HL1 := Lib.hid hL
  have HL2 := Lib.hid hL'
  have HS1 := Lib.hid hEl
  have HS2 := Lib.hid hEl'
  have HBk := Lib.hid H
  clear hA hB hE hE' hL hL' hEl hEl' H
  obtain ⟨x0, y0⟩ := two_new w 95 95 #[.int .i64 kd, .string nm, .slice A1 l1 c1, .int .i64 lo, .int .i64 hi, .slice A2 l2 c2, .slice A3 l3 c3] #[.int .i64 kd', .string nm', .slice B1 i1 d1, .int .i64 lo', .int .i64 hi', .slice B2 i2 d2, .slice B3 i3 d3]
  have X0 := Lib.hid x0
  have Y0 := Lib.hid y0
  have F0 := Lib.hid (((Below.refl w.heap.size w).al (.cells #[.int .i64 kd, .string nm, .slice A1 l1 c1, .int .i64 lo, .int .i64 hi, .slice A2 l2 c2, .slice A3 l3 c3] 95)).al (.cells #[.int .i64 kd', .string nm', .slice B1 i1 d1, .int .i64 lo', .int .i64 hi', .slice B2 i2 d2, .slice B3 i3 d3] 95))
  clear x0 y0
  go_enter Tryz.func74, Tryz.ntmps74
  go_upto_region 1 with fail
  generalize (w.alloc (.cells #[.int .i64 kd, .string nm, .slice A1 l1 c1, .int .i64 lo, .int .i64 hi, .slice A2 l2 c2, .slice A3 l3 c3] 95)).alloc (.cells #[.int .i64 kd', .string nm', .slice B1 i1 d1, .int .i64 lo', .int .i64 hi', .slice B2 i2 d2, .slice B3 i3 d3] 95) = W0 at *
  have s0 : W0.cell? ⟨w.heap.size, 0, none⟩ = some (.int .i64 kd) := X0.out.cell 0
  have t0 : W0.cell? ⟨w.heap.size + 1, 0, none⟩ = some (.int .i64 kd') := Y0.out.cell 0
  have s1 : W0.cell? ⟨w.heap.size, 1, none⟩ = some (.string nm) := X0.out.cell 1
  have t1 : W0.cell? ⟨w.heap.size + 1, 1, none⟩ = some (.string nm') := Y0.out.cell 1
  have s2 : W0.cell? ⟨w.heap.size, 2, none⟩ = some (.slice A1 l1 c1) := X0.out.cell 2
  have t2 : W0.cell? ⟨w.heap.size + 1, 2, none⟩ = some (.slice B1 i1 d1) := Y0.out.cell 2
  have s3 : W0.cell? ⟨w.heap.size, 3, none⟩ = some (.int .i64 lo) := X0.out.cell 3
  have t3 : W0.cell? ⟨w.heap.size + 1, 3, none⟩ = some (.int .i64 lo') := Y0.out.cell 3
  have s4 : W0.cell? ⟨w.heap.size, 4, none⟩ = some (.int .i64 hi) := X0.out.cell 4
  have t4 : W0.cell? ⟨w.heap.size + 1, 4, none⟩ = some (.int .i64 hi') := Y0.out.cell 4
  have s5 : W0.cell? ⟨w.heap.size, 5, none⟩ = some (.slice A2 l2 c2) := X0.out.cell 5
  have t5 : W0.cell? ⟨w.heap.size + 1, 5, none⟩ = some (.slice B2 i2 d2) := Y0.out.cell 5
  have s6 : W0.cell? ⟨w.heap.size, 6, none⟩ = some (.slice A3 l3 c3) := X0.out.cell 6
  have t6 : W0.cell? ⟨w.heap.size + 1, 6, none⟩ = some (.slice B3 i3 d3) := Y0.out.cell 6
  by_cases h_kd : kd = kd'
  · have g_kd : (kd == kd') = true := by simp [h_kd]
    by_cases h_nm : nm = nm'
    · have g_nm : (nm.toList == nm'.toList) = true := by simp [h_nm]
      by_cases h_lo : lo = lo'
      · have g_lo : (lo == lo') = true := by simp [h_lo]
        by_cases h_hi : hi = hi'
        · have g_hi : (hi == hi') = true := by simp [h_hi]
          have HEQ := Lib.hid (show kd = kd' ∧ nm = nm' ∧ lo = lo' ∧ hi = hi' from ⟨h_kd, h_nm, h_lo, h_hi⟩)
          clear h_kd h_nm h_lo h_hi
          have CE := Lib.hid (same_ga D D' A1 B1 l1 i1 c1 d1 E E' W0 (elsA_below HE1.out F0.out) (elsA_below HE2.out F0.out))
          go_wp2_with fail
          refine CE.out.mono ?_
          rintro e w1 ⟨b, rfl, hb, b1⟩
          have B1_ := Lib.hid (F0.out.trans (b1.mono F0.out.size))
          have HB1 := Lib.hid hb
          have X1 := Lib.hid (X0.out.below b1 X0.out.lt)
          have Y1 := Lib.hid (Y0.out.below b1 Y0.out.lt)
          clear b1 hb CE s0 t0 s1 t1 s2 t2 s3 t3 s4 t4 s5 t5 s6 t6
          have s5 : w1.cell? ⟨w.heap.size, 5, none⟩ = some (.slice A2 l2 c2) := X1.out.cell 5
          have t5 : w1.cell? ⟨w.heap.size + 1, 5, none⟩ = some (.slice B2 i2 d2) := Y1.out.cell 5
          obtain ⟨q1, q2, q3, q4⟩ := HEQ.out
          cases b with
          | false =>
            clear q1 q2 q3 q4
            go_wp2_with fail
            go_ret
            exact ⟨false, rfl, ⟨fun e => (by cases e), fun e => HB1.out.2 (by injection e)⟩, B1_.out⟩
          | true =>
            clear q1 q2 q3 q4
            have C2 := Lib.hid (HBk.out D D' A2 B2 l2 i2 c2 d2 L L' w1 (elsX_below HL1.out B1_.out) (elsX_below HL2.out B1_.out))
            go_wp2_with fail
            refine C2.out.mono ?_
            rintro e w2 ⟨b, rfl, hb, b2⟩
            have B2_ := Lib.hid (B1_.out.trans (b2.mono B1_.out.size))
            have HB2 := Lib.hid hb
            have X2 := Lib.hid (X1.out.below b2 X1.out.lt)
            have Y2 := Lib.hid (Y1.out.below b2 Y1.out.lt)
            clear b2 hb C2 s5 t5
            have s6 : w2.cell? ⟨w.heap.size, 6, none⟩ = some (.slice A3 l3 c3) := X2.out.cell 6
            have t6 : w2.cell? ⟨w.heap.size + 1, 6, none⟩ = some (.slice B3 i3 d3) := Y2.out.cell 6
            cases b with
            | false =>
              go_wp2_with fail
              go_ret
              exact ⟨false, rfl, ⟨fun e => (by cases e), fun e => HB2.out.2 (by injection e)⟩, B2_.out⟩
            | true =>
              have C3 := Lib.hid (HBk.out D D' A3 B3 l3 i3 c3 d3 El El' w2 (elsX_below HS1.out B2_.out) (elsX_below HS2.out B2_.out))
              go_wp2_with fail
              refine C3.out.mono ?_
              rintro e w3 ⟨b, rfl, hb, b3⟩
              go_wp2_with fail
              go_ret
              obtain ⟨q1, q2, q3, q4⟩ := HEQ.out
              refine ⟨b, rfl, hb.trans ⟨fun h => ?_, fun h => by injection h⟩, B2_.out.trans (b3.mono B2_.out.size)⟩
              have q2' : n0 = n1 := str_inj (by rw [← HA.out, ← HB.out, q2])
              rw [q1, q2', q3, q4, HB1.out.1 (by simp), HB2.out.1 (by simp), h]
        · have g_hi : (hi == hi') = false := by simp [h_hi]
          have HNE := Lib.hid h_hi
          clear h_kd h_nm h_lo h_hi
          go_wp2_with fail
          go_ret
          exact ⟨false, rfl, ⟨fun e => (by cases e), fun e => absurd (by injection e) HNE.out⟩, F0.out⟩
      · have g_lo : (lo == lo') = false := by simp [h_lo]
        have HNE := Lib.hid h_lo
        clear h_kd h_nm h_lo
        go_wp2_with fail
        go_ret
        exact ⟨false, rfl, ⟨fun e => (by cases e), fun e => absurd (by injection e) HNE.out⟩, F0.out⟩
    · have g_nm : (nm.toList == nm'.toList) = false := by simpa using fun e => h_nm (tls_inj e)
      have HNE := Lib.hid h_nm
      clear h_kd h_nm
      go_wp2_with fail
      go_ret
      exact ⟨false, rfl, ⟨fun e => (by cases e), fun e => absurd (by rw [HA.out, HB.out]; injection e with _ e; rw [e]) HNE.out⟩, F0.out⟩
  · have g_kd : (kd == kd') = false := by simp [h_kd]
    have HNE := Lib.hid h_kd
    clear h_kd
    go_wp2_with fail
    go_ret
    exact ⟨false, rfl, ⟨fun e => (by cases e), fun e => absurd (by injection e) HNE.out⟩, F0.out⟩
theorem same_sall : ∀ n, SameSOk n
  | 0 => fun _ _ _ _ _ _ _ _ _ _ _ _ _ _ _ _ _ _ _ _ _ _ _ _ _ _ _ _ x _ _ hx _ => absurd hx (by cases x; exact id)
  | n + 1 => same_sstep n (same_bstep n (same_sall n))
theorem same_ball (n : Nat) : SameBOk n := same_bstep n (same_sall n)
end Go.Proofs.YtdgekckedchjbaaGreatDoor
namespace Go.Proofs.YtdgekckedchjbaaGreatDoor
open Go.RowKit


set_option maxHeartbeats 4000000 in
set_option maxRecDepth 100000 in
theorem equal_ints (D D' : Nat → Prop) (A A' : Option Addr) (len len' c c' : Nat) (l m : List Int) (w : World) (h1 : ElsG D w 1 2513169434843 (QI D w) A len l) (h2 : ElsG D' w 1 2513169434843 (QI D' w) A' len' m) :
    Calls Tryz.prog 34 #[.slice A len c, .slice A' len' c'] w (EqTo w (l = m)) := by
  obtain ⟨xs, r1, -, m1, n1, e1⟩ := h1
  obtain ⟨ys, r2, -, m2, n2, e2⟩ := h2
  have R1 := Lib.hid r1
  have R2 := Lib.hid r2
  have N1 := Lib.hid n1
  have N2 := Lib.hid n2
  have E1 := Lib.hid e1
  have E2 := Lib.hid e2
  clear r1 r2 n1 n2 e1 e2
  by_cases hl : len = len'
  · subst hl
    go_enter Tryz.func34, Tryz.ntmps34
    go_wp2_with fail
    go_loopw [13] (fun i wr => ∃ k : Nat, k ≤ len ∧ i = .int .i64 k ∧ Hid (Below w.heap.size w wr ∧ l.take k = m.take k)) (fun i _ => len - (intOf i).toNat)
    case atStart => exact ⟨0, by omega, rfl, Below.refl _ _, rfl⟩
    case round =>
      obtain ⟨k, hk, rfl, hi⟩ := hrel
      by_cases hlt : k < len
      · have hb := hi.out.1
        have hkl : k < l.length := by rw [N1.out]; exact hlt
        have hkm : k < m.length := by rw [N2.out]; exact hlt
        have ec := E1.out k hkl
        have ed := E2.out k hkm
        have HTS := Lib.hid (take_eq_succ hkl hkm)
        generalize l[k] = x at *
        generalize m[k] = y at *
        have hcs : (xs.drop (k * 1)).take 1 = [.int .i64 x] := ec
        have hcs' : (ys.drop (k * 1)).take 1 = [.int .i64 y] := ed
        obtain ⟨b1, o1, rfl, hb1, q⟩ := R1.out.chunk (by omega) hlt hcs
        obtain ⟨b2, o2, rfl, hb2, p⟩ := R2.out.chunk (by omega) hlt hcs'
        have q0 : wr.cell? ⟨b1, o1 + k, none⟩ = some (.int .i64 x) := (hb.cell (p := ⟨b1, o1 + k, none⟩) hb1).trans (by have := q 0 _ rfl; simpa using this)
        have p0 : wr.cell? ⟨b2, o2 + k, none⟩ = some (.int .i64 y) := (hb.cell (p := ⟨b2, o2 + k, none⟩) hb2).trans (by have := p 0 _ rfl; simpa using this)
        have g1 : (0 : Int) ≤ (k : Int) := by omega
        have g2 : (k : Int) < (len : Int) := by omega
        clear q p hcs hcs' ec ed
        go_upto_region 6 with fail
        by_cases h_x : x = y
        · have g_x : (x == y) = true := by simp [h_x]
          have NX : Hid (l.take (k + 1) = m.take (k + 1)) := HTS.out.2 ⟨hi.out.2, h_x⟩
          clear h_x
          go_quiet (fail)
          go_wp2_with fail
          go_roundw
          case rel => exact ⟨k + 1, by omega, by go_num, below_drewN hb _, NX.out⟩
          case measure => simp [intOf]; omega
        · have g_x : (x == y) = false := by simp [h_x]
          have NE : Hid (¬ l = m) := fun e => h_x ((HTS.out.1 (by rw [e])).2)
          clear h_x
          go_quiet (fail)
          go_wp2_with fail
          go_ret
          exact ⟨false, rfl, ⟨fun e => (by cases e), fun e => absurd e NE.out⟩, below_drewN hb _⟩
      · obtain rfl : k = len := by omega
        go_wp2_with fail
        go_ret
        refine ⟨true, rfl, ⟨fun _ => ?_, fun _ => rfl⟩, hi.out.1⟩
        have := hi.out.2
        rwa [List.take_of_length_le (Nat.le_of_eq N1.out), List.take_of_length_le (Nat.le_of_eq N2.out)] at this
  · have hl' : ((len : Int) == (len' : Int)) = false := by simp; omega
    have HL := Lib.hid hl
    clear hl
    go_enter Tryz.func34, Tryz.ntmps34
    go_wp2_with fail
    go_ret
    refine ⟨false, rfl, ⟨fun e => (by cases e), fun e => ?_⟩, Below.refl _ _⟩
    exact absurd (by rw [← N1.out, ← N2.out, e]) HL.out

set_option maxHeartbeats 4000000 in
set_option maxRecDepth 100000 in
theorem equal_vars (D D' : Nat → Prop) (A A' : Option Addr) (len len' c c' : Nat) (l m : List Va) (w : World) (h1 : ElsG D w 4 2513169434843 (QV D w) A len l) (h2 : ElsG D' w 4 2513169434843 (QV D' w) A' len' m) :
    Calls Tryz.prog 35 #[.slice A len c, .slice A' len' c'] w (EqTo w (l = m)) := by
  obtain ⟨xs, r1, -, m1, n1, e1⟩ := h1
  obtain ⟨ys, r2, -, m2, n2, e2⟩ := h2
  have R1 := Lib.hid r1
  have R2 := Lib.hid r2
  have N1 := Lib.hid n1
  have N2 := Lib.hid n2
  have E1 := Lib.hid e1
  have E2 := Lib.hid e2
  clear r1 r2 n1 n2 e1 e2
  by_cases hl : len = len'
  · subst hl
    go_enter Tryz.func35, Tryz.ntmps35
    go_wp2_with fail
    go_loopw [13] (fun i wr => ∃ k : Nat, k ≤ len ∧ i = .int .i64 k ∧ Hid (Below w.heap.size w wr ∧ l.take k = m.take k)) (fun i _ => len - (intOf i).toNat)
    case atStart => exact ⟨0, by omega, rfl, Below.refl _ _, rfl⟩
    case round =>
      obtain ⟨k, hk, rfl, hi⟩ := hrel
      by_cases hlt : k < len
      · have hb := hi.out.1
        have hkl : k < l.length := by rw [N1.out]; exact hlt
        have hkm : k < m.length := by rw [N2.out]; exact hlt
        have ec := E1.out k hkl
        have ed := E2.out k hkm
        have HTS := Lib.hid (take_eq_succ hkl hkm)
        generalize l[k] = x at *
        generalize m[k] = y at *
        obtain ⟨nm, sz, lo, hi_⟩ := x
        obtain ⟨nm', sz', lo', hi'⟩ := y
        obtain ⟨S, hS⟩ : ∃ S, str nm = S := ⟨_, rfl⟩
        obtain ⟨S', hS'⟩ : ∃ S, str nm' = S := ⟨_, rfl⟩
        have hcs : (xs.drop (k * 4)).take 4 = [.string S, .int .i64 sz, .int .i64 lo, .int .i64 hi_] := by rw [← hS]; exact ec
        have hcs' : (ys.drop (k * 4)).take 4 = [.string S', .int .i64 sz', .int .i64 lo', .int .i64 hi'] := by rw [← hS']; exact ed
        have HS1 := Lib.hid hS
        have HS2 := Lib.hid hS'
        clear hS hS'
        obtain ⟨b1, o1, rfl, hb1, q⟩ := R1.out.chunk (by omega) hlt hcs
        obtain ⟨b2, o2, rfl, hb2, p⟩ := R2.out.chunk (by omega) hlt hcs'
        have q0 : wr.cell? ⟨b1, o1 + k * 4, none⟩ = some (.string S) := (hb.cell (p := ⟨b1, o1 + k * 4, none⟩) hb1).trans (by have := q 0 _ rfl; simpa using this)
        have p0 : wr.cell? ⟨b2, o2 + k * 4, none⟩ = some (.string S') := (hb.cell (p := ⟨b2, o2 + k * 4, none⟩) hb2).trans (by have := p 0 _ rfl; simpa using this)
        have q1 : wr.cell? ⟨b1, o1 + k * 4 + 1, none⟩ = some (.int .i64 sz) := (hb.cell (p := ⟨b1, o1 + k * 4 + 1, none⟩) hb1).trans (by have := q 1 _ rfl; simpa using this)
        have p1 : wr.cell? ⟨b2, o2 + k * 4 + 1, none⟩ = some (.int .i64 sz') := (hb.cell (p := ⟨b2, o2 + k * 4 + 1, none⟩) hb2).trans (by have := p 1 _ rfl; simpa using this)
        have q2 : wr.cell? ⟨b1, o1 + k * 4 + 2, none⟩ = some (.int .i64 lo) := (hb.cell (p := ⟨b1, o1 + k * 4 + 2, none⟩) hb1).trans (by have := q 2 _ rfl; simpa using this)
        have p2 : wr.cell? ⟨b2, o2 + k * 4 + 2, none⟩ = some (.int .i64 lo') := (hb.cell (p := ⟨b2, o2 + k * 4 + 2, none⟩) hb2).trans (by have := p 2 _ rfl; simpa using this)
        have q3 : wr.cell? ⟨b1, o1 + k * 4 + 3, none⟩ = some (.int .i64 hi_) := (hb.cell (p := ⟨b1, o1 + k * 4 + 3, none⟩) hb1).trans (by have := q 3 _ rfl; simpa using this)
        have p3 : wr.cell? ⟨b2, o2 + k * 4 + 3, none⟩ = some (.int .i64 hi') := (hb.cell (p := ⟨b2, o2 + k * 4 + 3, none⟩) hb2).trans (by have := p 3 _ rfl; simpa using this)
        have g1 : (0 : Int) ≤ (k : Int) := by omega
        have g2 : (k : Int) < (len : Int) := by omega
        clear q p hcs hcs' ec ed
        go_upto_region 6 with fail
        by_cases h_S : S = S'
        · have g_S : (S.toList == S'.toList) = true := by simp [h_S]
          by_cases h_sz : sz = sz'
          · have g_sz : (sz == sz') = true := by simp [h_sz]
            by_cases h_lo : lo = lo'
            · have g_lo : (lo == lo') = true := by simp [h_lo]
              by_cases h_hi_ : hi_ = hi'
              · have g_hi_ : (hi_ == hi') = true := by simp [h_hi_]
                have NX : Hid (l.take (k + 1) = m.take (k + 1)) := HTS.out.2 ⟨hi.out.2, by rw [str_injB.1 (HS1.out.trans (h_S.trans HS2.out.symm)), h_sz, h_lo, h_hi_]⟩
                clear h_S h_sz h_lo h_hi_
                go_quiet (fail)
                go_wp2_with fail
                go_roundw
                case rel => exact ⟨k + 1, by omega, by go_num, below_drewN hb _, NX.out⟩
                case measure => simp [intOf]; omega
              · have g_hi_ : (hi_ == hi') = false := by simp [h_hi_]
                have NE : Hid (¬ l = m) := fun e => h_hi_ (by have := (HTS.out.1 (by rw [e])).2; injection this)
                clear h_S h_sz h_lo h_hi_
                go_quiet (fail)
                go_wp2_with fail
                go_ret
                exact ⟨false, rfl, ⟨fun e => (by cases e), fun e => absurd e NE.out⟩, below_drewN hb _⟩
            · have g_lo : (lo == lo') = false := by simp [h_lo]
              have NE : Hid (¬ l = m) := fun e => h_lo (by have := (HTS.out.1 (by rw [e])).2; injection this)
              clear h_S h_sz h_lo
              go_quiet (fail)
              go_wp2_with fail
              go_ret
              exact ⟨false, rfl, ⟨fun e => (by cases e), fun e => absurd e NE.out⟩, below_drewN hb _⟩
          · have g_sz : (sz == sz') = false := by simp [h_sz]
            have NE : Hid (¬ l = m) := fun e => h_sz (by have := (HTS.out.1 (by rw [e])).2; injection this)
            clear h_S h_sz
            go_quiet (fail)
            go_wp2_with fail
            go_ret
            exact ⟨false, rfl, ⟨fun e => (by cases e), fun e => absurd e NE.out⟩, below_drewN hb _⟩
        · have g_S : (S.toList == S'.toList) = false := by simpa using fun e => h_S (tls_inj e)
          have NE : Hid (¬ l = m) := fun e => h_S (by have := (HTS.out.1 (by rw [e])).2; injection this with z1 _ _ _; rw [← HS1.out, ← HS2.out, z1])
          clear h_S
          go_quiet (fail)
          go_wp2_with fail
          go_ret
          exact ⟨false, rfl, ⟨fun e => (by cases e), fun e => absurd e NE.out⟩, below_drewN hb _⟩
      · obtain rfl : k = len := by omega
        go_wp2_with fail
        go_ret
        refine ⟨true, rfl, ⟨fun _ => ?_, fun _ => rfl⟩, hi.out.1⟩
        have := hi.out.2
        rwa [List.take_of_length_le (Nat.le_of_eq N1.out), List.take_of_length_le (Nat.le_of_eq N2.out)] at this
  · have hl' : ((len : Int) == (len' : Int)) = false := by simp; omega
    have HL := Lib.hid hl
    clear hl
    go_enter Tryz.func35, Tryz.ntmps35
    go_wp2_with fail
    go_ret
    refine ⟨false, rfl, ⟨fun e => (by cases e), fun e => ?_⟩, Below.refl _ _⟩
    exact absurd (by rw [← N1.out, ← N2.out, e]) HL.out

theorem px_ext {p q : Px} (h1 : p.nm = q.nm) (h2 : p.seats = q.seats) (h3 : p.silent = q.silent) (u1 : p.stakes = q.stakes) (u2 : p.vars = q.vars) (u3 : p.params = q.params) (u4 : p.start = q.start) (u5 : p.turn = q.turn) (u6 : p.play = q.play) (u7 : p.quiet = q.quiet) (u8 : p.pays = q.pays) : p = q := by
  obtain ⟨a1, a2, a3, a4, a5, a6, a7, a8, a9, a10, a11⟩ := p
  obtain ⟨b1, b2, b3, b4, b5, b6, b7, b8, b9, b10, b11⟩ := q
  simp only at *
  subst h1 h2 h3 u1 u2 u3 u4 u5 u6 u7 u8
  rfl

/-- Two programs' cells tell of their fields. -/
theorem PX.cells_ {d : Nat} {D : Nat → Prop} {w : World} {NM SIL : ByteArray} {seats : Int} {A1 : Option Addr} {n1 c1 : Nat} {A2 : Option Addr} {n2 c2 : Nat} {A3 : Option Addr} {n3 c3 : Nat} {A4 : Option Addr} {n4 c4 : Nat} {A5 : Option Addr} {n5 c5 : Nat} {A6 : Option Addr} {n6 c6 : Nat} {A7 : Option Addr} {n7 c7 : Nat} {A8 : Option Addr} {n8 c8 : Nat} {p : Px} (h : PX d D w [.string NM, .int .i64 seats, .slice A1 n1 c1, .slice A2 n2 c2, .slice A3 n3 c3, .slice A4 n4 c4, .slice A5 n5 c5, .slice A6 n6 c6, .string SIL, .slice A7 n7 c7, .slice A8 n8 c8] p) :
    NM = str p.nm ∧ seats = p.seats ∧ SIL = str p.silent ∧ ElsG D w 1 2513169434843 (QI D w) A1 n1 p.stakes ∧ ElsG D w 4 2513169434843 (QV D w) A2 n2 p.vars ∧ ElsG D w 7 2513169434843 (QX d D w) A3 n3 p.start ∧ ElsG D w 7 2513169434843 (QX d D w) A4 n4 p.turn ∧
      ElsG D w 4 2513169434843 (QV D w) A5 n5 p.params ∧ ElsG D w 7 2513169434843 (QX d D w) A6 n6 p.play ∧ ElsG D w 7 2513169434843 (QX d D w) A7 n7 p.quiet ∧ ElsG D w 7 2513169434843 (QX d D w) A8 n8 p.pays := by
  obtain ⟨-, v1, v2, v3, v4, v5, v6, v7, v8, hcs, k1, k2, k3, k4, k5, k6, k7, k8⟩ := h
  simp only [List.cons.injEq] at hcs
  obtain ⟨e0, e1, rfl, rfl, rfl, rfl, rfl, rfl, e8, rfl, rfl, -⟩ := hcs
  injection e0 with e0
  injection e1 with _ e1
  injection e8 with e8
  have hr : ∀ {α : Type} {s : Nat} {Q : Cel α} {l : List α} {A : Option Addr} {n c : Nat}, RowD D s Q w l (.slice A n c) → ElsG D w s 2513169434843 (Q D w) A n l := by
    intro α s Q l A n c h
    obtain ⟨A', n', c', q, h2⟩ := h
    injection q with q1 q2 q3
    subst q1 q2 q3
    exact h2
  exact ⟨e0, e1, e8, hr k1, hr k2, hr k3, hr k4, hr k5, hr k6, hr k7, hr k8⟩
theorem elsI_below {D : Nat → Prop} {w w' : World} {len : Nat} {A : Option Addr} {l : List Int} (h : ElsG D w 1 2513169434843 (QI D w) A len l) (hb : Below w.heap.size w w') : ElsG D w' 1 2513169434843 (QI D w') A len l :=
  h.kept (Kept.of_below (S := fun _ => False) hb) (fun _ _ _ h => h) (fun _ _ h => h) (fun _ _ h => h)
theorem elsV_below {D : Nat → Prop} {w w' : World} {len : Nat} {A : Option Addr} {l : List Va} (h : ElsG D w 4 2513169434843 (QV D w) A len l) (hb : Below w.heap.size w w') : ElsG D w' 4 2513169434843 (QV D w') A len l :=
  h.kept (Kept.of_below (S := fun _ => False) hb) (fun _ _ _ h => h) (fun _ _ h => h) (fun _ _ h => h)
set_option maxHeartbeats 8000000 in
set_option maxRecDepth 100000 in
theorem Same_any (d : Nat) (D D' : Nat → Prop) (NM SIL NM' SIL' : ByteArray) (seats seats' : Int) (A1 : Option Addr) (n1 c1 : Nat) (A2 : Option Addr) (n2 c2 : Nat) (A3 : Option Addr) (n3 c3 : Nat) (A4 : Option Addr) (n4 c4 : Nat) (A5 : Option Addr) (n5 c5 : Nat) (A6 : Option Addr) (n6 c6 : Nat) (A7 : Option Addr) (n7 c7 : Nat) (A8 : Option Addr) (n8 c8 : Nat) (B1 : Option Addr) (m1 d1 : Nat) (B2 : Option Addr) (m2 d2 : Nat) (B3 : Option Addr) (m3 d3 : Nat) (B4 : Option Addr) (m4 d4 : Nat) (B5 : Option Addr) (m5 d5 : Nat) (B6 : Option Addr) (m6 d6 : Nat) (B7 : Option Addr) (m7 d7 : Nat) (B8 : Option Addr) (m8 d8 : Nat) (p q : Px) (w : World) (hp : PX d D w [.string NM, .int .i64 seats, .slice A1 n1 c1, .slice A2 n2 c2, .slice A3 n3 c3, .slice A4 n4 c4, .slice A5 n5 c5, .slice A6 n6 c6, .string SIL, .slice A7 n7 c7, .slice A8 n8 c8] p) (hq : PX d D' w [.string NM', .int .i64 seats', .slice B1 m1 d1, .slice B2 m2 d2, .slice B3 m3 d3, .slice B4 m4 d4, .slice B5 m5 d5, .slice B6 m6 d6, .string SIL', .slice B7 m7 d7, .slice B8 m8 d8] q) :
    Calls Tryz.prog 18 #[.agg #[.string NM, .int .i64 seats, .slice A1 n1 c1, .slice A2 n2 c2, .slice A3 n3 c3, .slice A4 n4 c4, .slice A5 n5 c5, .slice A6 n6 c6, .string SIL, .slice A7 n7 c7, .slice A8 n8 c8], .agg #[.string NM', .int .i64 seats', .slice B1 m1 d1, .slice B2 m2 d2, .slice B3 m3 d3, .slice B4 m4 d4, .slice B5 m5 d5, .slice B6 m6 d6, .string SIL', .slice B7 m7 d7, .slice B8 m8 d8]] w (EqTo w (p = q)) := by
  obtain ⟨e1, e2, e3, k1, k2, k3, k4, k5, k6, k7, k8⟩ := hp.cells_
  obtain ⟨f1, f2, f3, j1, j2, j3, j4, j5, j6, j7, j8⟩ := hq.cells_
  have K1 := Lib.hid k1
  have J1 := Lib.hid j1
  have K2 := Lib.hid k2
  have J2 := Lib.hid j2
  have K3 := Lib.hid k3
  have J3 := Lib.hid j3
  have K4 := Lib.hid k4
  have J4 := Lib.hid j4
  have K5 := Lib.hid k5
  have J5 := Lib.hid j5
  have K6 := Lib.hid k6
  have J6 := Lib.hid j6
  have K7 := Lib.hid k7
  have J7 := Lib.hid j7
  have K8 := Lib.hid k8
  have J8 := Lib.hid j8
  have EN := Lib.hid (And.intro e1 (And.intro e2 e3))
  have FN := Lib.hid (And.intro f1 (And.intro f2 f3))
  obtain ⟨x0, y0⟩ := two_new w 48 48 #[.string NM, .int .i64 seats, .slice A1 n1 c1, .slice A2 n2 c2, .slice A3 n3 c3, .slice A4 n4 c4, .slice A5 n5 c5, .slice A6 n6 c6, .string SIL, .slice A7 n7 c7, .slice A8 n8 c8] #[.string NM', .int .i64 seats', .slice B1 m1 d1, .slice B2 m2 d2, .slice B3 m3 d3, .slice B4 m4 d4, .slice B5 m5 d5, .slice B6 m6 d6, .string SIL', .slice B7 m7 d7, .slice B8 m8 d8]
  have X0 := Lib.hid x0
  have Y0 := Lib.hid y0
  have F0 := Lib.hid (((Below.refl w.heap.size w).al (.cells #[.string NM, .int .i64 seats, .slice A1 n1 c1, .slice A2 n2 c2, .slice A3 n3 c3, .slice A4 n4 c4, .slice A5 n5 c5, .slice A6 n6 c6, .string SIL, .slice A7 n7 c7, .slice A8 n8 c8] 48)).al (.cells #[.string NM', .int .i64 seats', .slice B1 m1 d1, .slice B2 m2 d2, .slice B3 m3 d3, .slice B4 m4 d4, .slice B5 m5 d5, .slice B6 m6 d6, .string SIL', .slice B7 m7 d7, .slice B8 m8 d8] 48))
  clear x0 y0 hp hq e1 e2 e3 f1 f2 f3 k1 j1 k2 j2 k3 j3 k4 j4 k5 j5 k6 j6 k7 j7 k8 j8
  go_enter Tryz.func18, Tryz.ntmps18
  by_cases h_NM : NM = NM'
  · have g_NM : (NM.toList == NM'.toList) = true := by simp [h_NM]
    by_cases h_seats : seats = seats'
    · have g_seats : (seats == seats') = true := by simp [h_seats]
      by_cases h_SIL : SIL = SIL'
      · have g_SIL : (SIL.toList == SIL'.toList) = true := by simp [h_SIL]
        have HEQ := Lib.hid (show NM = NM' ∧ seats = seats' ∧ SIL = SIL' from ⟨h_NM, h_seats, h_SIL⟩)
        clear h_NM h_seats h_SIL
        have s0 : ((w.alloc (.cells #[.string NM, .int .i64 seats, .slice A1 n1 c1, .slice A2 n2 c2, .slice A3 n3 c3, .slice A4 n4 c4, .slice A5 n5 c5, .slice A6 n6 c6, .string SIL, .slice A7 n7 c7, .slice A8 n8 c8] 48)).alloc (.cells #[.string NM', .int .i64 seats', .slice B1 m1 d1, .slice B2 m2 d2, .slice B3 m3 d3, .slice B4 m4 d4, .slice B5 m5 d5, .slice B6 m6 d6, .string SIL', .slice B7 m7 d7, .slice B8 m8 d8] 48)).cell? ⟨w.heap.size, 0, none⟩ = some (.string NM) := X0.out.cell 0
        have t0 : ((w.alloc (.cells #[.string NM, .int .i64 seats, .slice A1 n1 c1, .slice A2 n2 c2, .slice A3 n3 c3, .slice A4 n4 c4, .slice A5 n5 c5, .slice A6 n6 c6, .string SIL, .slice A7 n7 c7, .slice A8 n8 c8] 48)).alloc (.cells #[.string NM', .int .i64 seats', .slice B1 m1 d1, .slice B2 m2 d2, .slice B3 m3 d3, .slice B4 m4 d4, .slice B5 m5 d5, .slice B6 m6 d6, .string SIL', .slice B7 m7 d7, .slice B8 m8 d8] 48)).cell? ⟨w.heap.size + 1, 0, none⟩ = some (.string NM') := Y0.out.cell 0
        have s1 : ((w.alloc (.cells #[.string NM, .int .i64 seats, .slice A1 n1 c1, .slice A2 n2 c2, .slice A3 n3 c3, .slice A4 n4 c4, .slice A5 n5 c5, .slice A6 n6 c6, .string SIL, .slice A7 n7 c7, .slice A8 n8 c8] 48)).alloc (.cells #[.string NM', .int .i64 seats', .slice B1 m1 d1, .slice B2 m2 d2, .slice B3 m3 d3, .slice B4 m4 d4, .slice B5 m5 d5, .slice B6 m6 d6, .string SIL', .slice B7 m7 d7, .slice B8 m8 d8] 48)).cell? ⟨w.heap.size, 1, none⟩ = some (.int .i64 seats) := X0.out.cell 1
        have t1 : ((w.alloc (.cells #[.string NM, .int .i64 seats, .slice A1 n1 c1, .slice A2 n2 c2, .slice A3 n3 c3, .slice A4 n4 c4, .slice A5 n5 c5, .slice A6 n6 c6, .string SIL, .slice A7 n7 c7, .slice A8 n8 c8] 48)).alloc (.cells #[.string NM', .int .i64 seats', .slice B1 m1 d1, .slice B2 m2 d2, .slice B3 m3 d3, .slice B4 m4 d4, .slice B5 m5 d5, .slice B6 m6 d6, .string SIL', .slice B7 m7 d7, .slice B8 m8 d8] 48)).cell? ⟨w.heap.size + 1, 1, none⟩ = some (.int .i64 seats') := Y0.out.cell 1
        have s2 : ((w.alloc (.cells #[.string NM, .int .i64 seats, .slice A1 n1 c1, .slice A2 n2 c2, .slice A3 n3 c3, .slice A4 n4 c4, .slice A5 n5 c5, .slice A6 n6 c6, .string SIL, .slice A7 n7 c7, .slice A8 n8 c8] 48)).alloc (.cells #[.string NM', .int .i64 seats', .slice B1 m1 d1, .slice B2 m2 d2, .slice B3 m3 d3, .slice B4 m4 d4, .slice B5 m5 d5, .slice B6 m6 d6, .string SIL', .slice B7 m7 d7, .slice B8 m8 d8] 48)).cell? ⟨w.heap.size, 2, none⟩ = some (.slice A1 n1 c1) := X0.out.cell 2
        have t2 : ((w.alloc (.cells #[.string NM, .int .i64 seats, .slice A1 n1 c1, .slice A2 n2 c2, .slice A3 n3 c3, .slice A4 n4 c4, .slice A5 n5 c5, .slice A6 n6 c6, .string SIL, .slice A7 n7 c7, .slice A8 n8 c8] 48)).alloc (.cells #[.string NM', .int .i64 seats', .slice B1 m1 d1, .slice B2 m2 d2, .slice B3 m3 d3, .slice B4 m4 d4, .slice B5 m5 d5, .slice B6 m6 d6, .string SIL', .slice B7 m7 d7, .slice B8 m8 d8] 48)).cell? ⟨w.heap.size + 1, 2, none⟩ = some (.slice B1 m1 d1) := Y0.out.cell 2
        have s8 : ((w.alloc (.cells #[.string NM, .int .i64 seats, .slice A1 n1 c1, .slice A2 n2 c2, .slice A3 n3 c3, .slice A4 n4 c4, .slice A5 n5 c5, .slice A6 n6 c6, .string SIL, .slice A7 n7 c7, .slice A8 n8 c8] 48)).alloc (.cells #[.string NM', .int .i64 seats', .slice B1 m1 d1, .slice B2 m2 d2, .slice B3 m3 d3, .slice B4 m4 d4, .slice B5 m5 d5, .slice B6 m6 d6, .string SIL', .slice B7 m7 d7, .slice B8 m8 d8] 48)).cell? ⟨w.heap.size, 8, none⟩ = some (.string SIL) := X0.out.cell 8
        have t8 : ((w.alloc (.cells #[.string NM, .int .i64 seats, .slice A1 n1 c1, .slice A2 n2 c2, .slice A3 n3 c3, .slice A4 n4 c4, .slice A5 n5 c5, .slice A6 n6 c6, .string SIL, .slice A7 n7 c7, .slice A8 n8 c8] 48)).alloc (.cells #[.string NM', .int .i64 seats', .slice B1 m1 d1, .slice B2 m2 d2, .slice B3 m3 d3, .slice B4 m4 d4, .slice B5 m5 d5, .slice B6 m6 d6, .string SIL', .slice B7 m7 d7, .slice B8 m8 d8] 48)).cell? ⟨w.heap.size + 1, 8, none⟩ = some (.string SIL') := Y0.out.cell 8
        have C1 := Lib.hid (equal_ints D D' A1 B1 n1 m1 c1 d1 p.stakes q.stakes ((w.alloc (.cells #[.string NM, .int .i64 seats, .slice A1 n1 c1, .slice A2 n2 c2, .slice A3 n3 c3, .slice A4 n4 c4, .slice A5 n5 c5, .slice A6 n6 c6, .string SIL, .slice A7 n7 c7, .slice A8 n8 c8] 48)).alloc (.cells #[.string NM', .int .i64 seats', .slice B1 m1 d1, .slice B2 m2 d2, .slice B3 m3 d3, .slice B4 m4 d4, .slice B5 m5 d5, .slice B6 m6 d6, .string SIL', .slice B7 m7 d7, .slice B8 m8 d8] 48)) (elsI_below K1.out F0.out) (elsI_below J1.out F0.out))
        go_wp2_with fail
        refine C1.out.mono ?_
        rintro e w1 ⟨b, rfl, hb, b1⟩
        have F1 := Lib.hid (F0.out.trans (b1.mono F0.out.size))
        have HB1 := Lib.hid hb
        have X1 := Lib.hid (X0.out.below b1 X0.out.lt)
        have Y1 := Lib.hid (Y0.out.below b1 Y0.out.lt)
        clear b1 hb C1
        have s3 : w1.cell? ⟨w.heap.size, 3, none⟩ = some (.slice A2 n2 c2) := X1.out.cell 3
        have t3 : w1.cell? ⟨w.heap.size + 1, 3, none⟩ = some (.slice B2 m2 d2) := Y1.out.cell 3
        cases b with
        | false =>
          go_wp2_with fail
          go_ret
          exact ⟨false, rfl, ⟨fun e => (by cases e), fun e => by have := HB1.out.2 (by rw [e]); cases this⟩, F1.out⟩
        | true =>
          have C2 := Lib.hid (equal_vars D D' A2 B2 n2 m2 c2 d2 p.vars q.vars w1 (elsV_below K2.out F1.out) (elsV_below J2.out F1.out))
          go_wp2_with fail
          refine C2.out.mono ?_
          rintro e w2 ⟨b, rfl, hb, b2⟩
          have F2 := Lib.hid (F1.out.trans (b2.mono F1.out.size))
          have HB2 := Lib.hid hb
          have X2 := Lib.hid (X1.out.below b2 X1.out.lt)
          have Y2 := Lib.hid (Y1.out.below b2 Y1.out.lt)
          clear b2 hb C2
          have s6 : w2.cell? ⟨w.heap.size, 6, none⟩ = some (.slice A5 n5 c5) := X2.out.cell 6
          have t6 : w2.cell? ⟨w.heap.size + 1, 6, none⟩ = some (.slice B5 m5 d5) := Y2.out.cell 6
          cases b with
          | false =>
            go_wp2_with fail
            go_ret
            exact ⟨false, rfl, ⟨fun e => (by cases e), fun e => by have := HB2.out.2 (by rw [e]); cases this⟩, F2.out⟩
          | true =>
            have C3 := Lib.hid (equal_vars D D' A5 B5 n5 m5 c5 d5 p.params q.params w2 (elsV_below K5.out F2.out) (elsV_below J5.out F2.out))
            go_wp2_with fail
            refine C3.out.mono ?_
            rintro e w3 ⟨b, rfl, hb, b3⟩
            have F3 := Lib.hid (F2.out.trans (b3.mono F2.out.size))
            have HB3 := Lib.hid hb
            have X3 := Lib.hid (X2.out.below b3 X2.out.lt)
            have Y3 := Lib.hid (Y2.out.below b3 Y2.out.lt)
            clear b3 hb C3
            have s4 : w3.cell? ⟨w.heap.size, 4, none⟩ = some (.slice A3 n3 c3) := X3.out.cell 4
            have t4 : w3.cell? ⟨w.heap.size + 1, 4, none⟩ = some (.slice B3 m3 d3) := Y3.out.cell 4
            cases b with
            | false =>
              go_wp2_with fail
              go_ret
              exact ⟨false, rfl, ⟨fun e => (by cases e), fun e => by have := HB3.out.2 (by rw [e]); cases this⟩, F3.out⟩
            | true =>
              have C4 := Lib.hid (same_ball d D D' A3 B3 n3 m3 c3 d3 p.start q.start w3 (elsX_below K3.out F3.out) (elsX_below J3.out F3.out))
              go_wp2_with fail
              refine C4.out.mono ?_
              rintro e w4 ⟨b, rfl, hb, b4⟩
              have F4 := Lib.hid (F3.out.trans (b4.mono F3.out.size))
              have HB4 := Lib.hid hb
              have X4 := Lib.hid (X3.out.below b4 X3.out.lt)
              have Y4 := Lib.hid (Y3.out.below b4 Y3.out.lt)
              clear b4 hb C4
              have s5 : w4.cell? ⟨w.heap.size, 5, none⟩ = some (.slice A4 n4 c4) := X4.out.cell 5
              have t5 : w4.cell? ⟨w.heap.size + 1, 5, none⟩ = some (.slice B4 m4 d4) := Y4.out.cell 5
              cases b with
              | false =>
                go_wp2_with fail
                go_ret
                exact ⟨false, rfl, ⟨fun e => (by cases e), fun e => by have := HB4.out.2 (by rw [e]); cases this⟩, F4.out⟩
              | true =>
                have C5 := Lib.hid (same_ball d D D' A4 B4 n4 m4 c4 d4 p.turn q.turn w4 (elsX_below K4.out F4.out) (elsX_below J4.out F4.out))
                go_wp2_with fail
                refine C5.out.mono ?_
                rintro e w5 ⟨b, rfl, hb, b5⟩
                have F5 := Lib.hid (F4.out.trans (b5.mono F4.out.size))
                have HB5 := Lib.hid hb
                have X5 := Lib.hid (X4.out.below b5 X4.out.lt)
                have Y5 := Lib.hid (Y4.out.below b5 Y4.out.lt)
                clear b5 hb C5
                have s7 : w5.cell? ⟨w.heap.size, 7, none⟩ = some (.slice A6 n6 c6) := X5.out.cell 7
                have t7 : w5.cell? ⟨w.heap.size + 1, 7, none⟩ = some (.slice B6 m6 d6) := Y5.out.cell 7
                cases b with
                | false =>
                  go_wp2_with fail
                  go_ret
                  exact ⟨false, rfl, ⟨fun e => (by cases e), fun e => by have := HB5.out.2 (by rw [e]); cases this⟩, F5.out⟩
                | true =>
                  have C6 := Lib.hid (same_ball d D D' A6 B6 n6 m6 c6 d6 p.play q.play w5 (elsX_below K6.out F5.out) (elsX_below J6.out F5.out))
                  go_wp2_with fail
                  refine C6.out.mono ?_
                  rintro e w6 ⟨b, rfl, hb, b6⟩
                  have F6 := Lib.hid (F5.out.trans (b6.mono F5.out.size))
                  have HB6 := Lib.hid hb
                  have X6 := Lib.hid (X5.out.below b6 X5.out.lt)
                  have Y6 := Lib.hid (Y5.out.below b6 Y5.out.lt)
                  clear b6 hb C6
                  have s9 : w6.cell? ⟨w.heap.size, 9, none⟩ = some (.slice A7 n7 c7) := X6.out.cell 9
                  have t9 : w6.cell? ⟨w.heap.size + 1, 9, none⟩ = some (.slice B7 m7 d7) := Y6.out.cell 9
                  cases b with
                  | false =>
                    go_wp2_with fail
                    go_ret
                    exact ⟨false, rfl, ⟨fun e => (by cases e), fun e => by have := HB6.out.2 (by rw [e]); cases this⟩, F6.out⟩
                  | true =>
                    have C7 := Lib.hid (same_ball d D D' A7 B7 n7 m7 c7 d7 p.quiet q.quiet w6 (elsX_below K7.out F6.out) (elsX_below J7.out F6.out))
                    go_wp2_with fail
                    refine C7.out.mono ?_
                    rintro e w7 ⟨b, rfl, hb, b7⟩
                    have F7 := Lib.hid (F6.out.trans (b7.mono F6.out.size))
                    have HB7 := Lib.hid hb
                    have X7 := Lib.hid (X6.out.below b7 X6.out.lt)
                    have Y7 := Lib.hid (Y6.out.below b7 Y6.out.lt)
                    clear b7 hb C7
                    have s10 : w7.cell? ⟨w.heap.size, 10, none⟩ = some (.slice A8 n8 c8) := X7.out.cell 10
                    have t10 : w7.cell? ⟨w.heap.size + 1, 10, none⟩ = some (.slice B8 m8 d8) := Y7.out.cell 10
                    cases b with
                    | false =>
                      go_wp2_with fail
                      go_ret
                      exact ⟨false, rfl, ⟨fun e => (by cases e), fun e => by have := HB7.out.2 (by rw [e]); cases this⟩, F7.out⟩
                    | true =>
                      have C8 := Lib.hid (same_ball d D D' A8 B8 n8 m8 c8 d8 p.pays q.pays w7 (elsX_below K8.out F7.out) (elsX_below J8.out F7.out))
                      go_wp2_with fail
                      refine C8.out.mono ?_
                      rintro e w8 ⟨b, rfl, hb, b8⟩
                      have F8 := Lib.hid (F7.out.trans (b8.mono F7.out.size))
                      have HB8 := Lib.hid hb
                      have X8 := Lib.hid (X7.out.below b8 X7.out.lt)
                      have Y8 := Lib.hid (Y7.out.below b8 Y7.out.lt)
                      clear b8 hb C8
                      go_wp2_with fail
                      go_ret
                      refine ⟨b, rfl, HB8.out.trans ⟨fun h => ?_, fun h => by rw [h]⟩, F8.out⟩
                      obtain ⟨z1, z2, z3⟩ := HEQ.out
                      have y1 : p.nm = q.nm := str_inj (by rw [← EN.out.1, ← FN.out.1, z1])
                      have y2 : p.seats = q.seats := by rw [← EN.out.2.1, ← FN.out.2.1, z2]
                      have y3 : p.silent = q.silent := str_inj (by rw [← EN.out.2.2, ← FN.out.2.2, z3])
                      have u1 := HB1.out.1 (by simp)
                      have u2 := HB2.out.1 (by simp)
                      have u3 := HB3.out.1 (by simp)
                      have u4 := HB4.out.1 (by simp)
                      have u5 := HB5.out.1 (by simp)
                      have u6 := HB6.out.1 (by simp)
                      have u7 := HB7.out.1 (by simp)
                      exact px_ext y1 y2 y3 u1 u2 u3 u4 u5 u6 u7 h
      · have g_SIL : (SIL.toList == SIL'.toList) = false := by simpa using fun e => h_SIL (tls_inj e)
        have HNE := Lib.hid h_SIL
        clear h_NM h_seats h_SIL
        have s0 : ((w.alloc (.cells #[.string NM, .int .i64 seats, .slice A1 n1 c1, .slice A2 n2 c2, .slice A3 n3 c3, .slice A4 n4 c4, .slice A5 n5 c5, .slice A6 n6 c6, .string SIL, .slice A7 n7 c7, .slice A8 n8 c8] 48)).alloc (.cells #[.string NM', .int .i64 seats', .slice B1 m1 d1, .slice B2 m2 d2, .slice B3 m3 d3, .slice B4 m4 d4, .slice B5 m5 d5, .slice B6 m6 d6, .string SIL', .slice B7 m7 d7, .slice B8 m8 d8] 48)).cell? ⟨w.heap.size, 0, none⟩ = some (.string NM) := X0.out.cell 0
        have t0 : ((w.alloc (.cells #[.string NM, .int .i64 seats, .slice A1 n1 c1, .slice A2 n2 c2, .slice A3 n3 c3, .slice A4 n4 c4, .slice A5 n5 c5, .slice A6 n6 c6, .string SIL, .slice A7 n7 c7, .slice A8 n8 c8] 48)).alloc (.cells #[.string NM', .int .i64 seats', .slice B1 m1 d1, .slice B2 m2 d2, .slice B3 m3 d3, .slice B4 m4 d4, .slice B5 m5 d5, .slice B6 m6 d6, .string SIL', .slice B7 m7 d7, .slice B8 m8 d8] 48)).cell? ⟨w.heap.size + 1, 0, none⟩ = some (.string NM') := Y0.out.cell 0
        have s1 : ((w.alloc (.cells #[.string NM, .int .i64 seats, .slice A1 n1 c1, .slice A2 n2 c2, .slice A3 n3 c3, .slice A4 n4 c4, .slice A5 n5 c5, .slice A6 n6 c6, .string SIL, .slice A7 n7 c7, .slice A8 n8 c8] 48)).alloc (.cells #[.string NM', .int .i64 seats', .slice B1 m1 d1, .slice B2 m2 d2, .slice B3 m3 d3, .slice B4 m4 d4, .slice B5 m5 d5, .slice B6 m6 d6, .string SIL', .slice B7 m7 d7, .slice B8 m8 d8] 48)).cell? ⟨w.heap.size, 1, none⟩ = some (.int .i64 seats) := X0.out.cell 1
        have t1 : ((w.alloc (.cells #[.string NM, .int .i64 seats, .slice A1 n1 c1, .slice A2 n2 c2, .slice A3 n3 c3, .slice A4 n4 c4, .slice A5 n5 c5, .slice A6 n6 c6, .string SIL, .slice A7 n7 c7, .slice A8 n8 c8] 48)).alloc (.cells #[.string NM', .int .i64 seats', .slice B1 m1 d1, .slice B2 m2 d2, .slice B3 m3 d3, .slice B4 m4 d4, .slice B5 m5 d5, .slice B6 m6 d6, .string SIL', .slice B7 m7 d7, .slice B8 m8 d8] 48)).cell? ⟨w.heap.size + 1, 1, none⟩ = some (.int .i64 seats') := Y0.out.cell 1
        have s8 : ((w.alloc (.cells #[.string NM, .int .i64 seats, .slice A1 n1 c1, .slice A2 n2 c2, .slice A3 n3 c3, .slice A4 n4 c4, .slice A5 n5 c5, .slice A6 n6 c6, .string SIL, .slice A7 n7 c7, .slice A8 n8 c8] 48)).alloc (.cells #[.string NM', .int .i64 seats', .slice B1 m1 d1, .slice B2 m2 d2, .slice B3 m3 d3, .slice B4 m4 d4, .slice B5 m5 d5, .slice B6 m6 d6, .string SIL', .slice B7 m7 d7, .slice B8 m8 d8] 48)).cell? ⟨w.heap.size, 8, none⟩ = some (.string SIL) := X0.out.cell 8
        have t8 : ((w.alloc (.cells #[.string NM, .int .i64 seats, .slice A1 n1 c1, .slice A2 n2 c2, .slice A3 n3 c3, .slice A4 n4 c4, .slice A5 n5 c5, .slice A6 n6 c6, .string SIL, .slice A7 n7 c7, .slice A8 n8 c8] 48)).alloc (.cells #[.string NM', .int .i64 seats', .slice B1 m1 d1, .slice B2 m2 d2, .slice B3 m3 d3, .slice B4 m4 d4, .slice B5 m5 d5, .slice B6 m6 d6, .string SIL', .slice B7 m7 d7, .slice B8 m8 d8] 48)).cell? ⟨w.heap.size + 1, 8, none⟩ = some (.string SIL') := Y0.out.cell 8
        go_wp2_with fail
        go_ret
        exact ⟨false, rfl, ⟨fun e => (by cases e), fun e => absurd (by rw [EN.out.2.2, FN.out.2.2, e]) HNE.out⟩, F0.out⟩
    · have g_seats : (seats == seats') = false := by simp [h_seats]
      have HNE := Lib.hid h_seats
      clear h_NM h_seats
      have s0 : ((w.alloc (.cells #[.string NM, .int .i64 seats, .slice A1 n1 c1, .slice A2 n2 c2, .slice A3 n3 c3, .slice A4 n4 c4, .slice A5 n5 c5, .slice A6 n6 c6, .string SIL, .slice A7 n7 c7, .slice A8 n8 c8] 48)).alloc (.cells #[.string NM', .int .i64 seats', .slice B1 m1 d1, .slice B2 m2 d2, .slice B3 m3 d3, .slice B4 m4 d4, .slice B5 m5 d5, .slice B6 m6 d6, .string SIL', .slice B7 m7 d7, .slice B8 m8 d8] 48)).cell? ⟨w.heap.size, 0, none⟩ = some (.string NM) := X0.out.cell 0
      have t0 : ((w.alloc (.cells #[.string NM, .int .i64 seats, .slice A1 n1 c1, .slice A2 n2 c2, .slice A3 n3 c3, .slice A4 n4 c4, .slice A5 n5 c5, .slice A6 n6 c6, .string SIL, .slice A7 n7 c7, .slice A8 n8 c8] 48)).alloc (.cells #[.string NM', .int .i64 seats', .slice B1 m1 d1, .slice B2 m2 d2, .slice B3 m3 d3, .slice B4 m4 d4, .slice B5 m5 d5, .slice B6 m6 d6, .string SIL', .slice B7 m7 d7, .slice B8 m8 d8] 48)).cell? ⟨w.heap.size + 1, 0, none⟩ = some (.string NM') := Y0.out.cell 0
      have s1 : ((w.alloc (.cells #[.string NM, .int .i64 seats, .slice A1 n1 c1, .slice A2 n2 c2, .slice A3 n3 c3, .slice A4 n4 c4, .slice A5 n5 c5, .slice A6 n6 c6, .string SIL, .slice A7 n7 c7, .slice A8 n8 c8] 48)).alloc (.cells #[.string NM', .int .i64 seats', .slice B1 m1 d1, .slice B2 m2 d2, .slice B3 m3 d3, .slice B4 m4 d4, .slice B5 m5 d5, .slice B6 m6 d6, .string SIL', .slice B7 m7 d7, .slice B8 m8 d8] 48)).cell? ⟨w.heap.size, 1, none⟩ = some (.int .i64 seats) := X0.out.cell 1
      have t1 : ((w.alloc (.cells #[.string NM, .int .i64 seats, .slice A1 n1 c1, .slice A2 n2 c2, .slice A3 n3 c3, .slice A4 n4 c4, .slice A5 n5 c5, .slice A6 n6 c6, .string SIL, .slice A7 n7 c7, .slice A8 n8 c8] 48)).alloc (.cells #[.string NM', .int .i64 seats', .slice B1 m1 d1, .slice B2 m2 d2, .slice B3 m3 d3, .slice B4 m4 d4, .slice B5 m5 d5, .slice B6 m6 d6, .string SIL', .slice B7 m7 d7, .slice B8 m8 d8] 48)).cell? ⟨w.heap.size + 1, 1, none⟩ = some (.int .i64 seats') := Y0.out.cell 1
      go_wp2_with fail
      go_ret
      exact ⟨false, rfl, ⟨fun e => (by cases e), fun e => absurd (by rw [EN.out.2.1, FN.out.2.1, e]) HNE.out⟩, F0.out⟩
  · have g_NM : (NM.toList == NM'.toList) = false := by simpa using fun e => h_NM (tls_inj e)
    have HNE := Lib.hid h_NM
    clear h_NM
    have s0 : ((w.alloc (.cells #[.string NM, .int .i64 seats, .slice A1 n1 c1, .slice A2 n2 c2, .slice A3 n3 c3, .slice A4 n4 c4, .slice A5 n5 c5, .slice A6 n6 c6, .string SIL, .slice A7 n7 c7, .slice A8 n8 c8] 48)).alloc (.cells #[.string NM', .int .i64 seats', .slice B1 m1 d1, .slice B2 m2 d2, .slice B3 m3 d3, .slice B4 m4 d4, .slice B5 m5 d5, .slice B6 m6 d6, .string SIL', .slice B7 m7 d7, .slice B8 m8 d8] 48)).cell? ⟨w.heap.size, 0, none⟩ = some (.string NM) := X0.out.cell 0
    have t0 : ((w.alloc (.cells #[.string NM, .int .i64 seats, .slice A1 n1 c1, .slice A2 n2 c2, .slice A3 n3 c3, .slice A4 n4 c4, .slice A5 n5 c5, .slice A6 n6 c6, .string SIL, .slice A7 n7 c7, .slice A8 n8 c8] 48)).alloc (.cells #[.string NM', .int .i64 seats', .slice B1 m1 d1, .slice B2 m2 d2, .slice B3 m3 d3, .slice B4 m4 d4, .slice B5 m5 d5, .slice B6 m6 d6, .string SIL', .slice B7 m7 d7, .slice B8 m8 d8] 48)).cell? ⟨w.heap.size + 1, 0, none⟩ = some (.string NM') := Y0.out.cell 0
    go_wp2_with fail
    go_ret
    exact ⟨false, rfl, ⟨fun e => (by cases e), fun e => absurd (by rw [EN.out.1, FN.out.1, e]) HNE.out⟩, F0.out⟩
end Go.Proofs.YtdgekckedchjbaaGreatDoor
