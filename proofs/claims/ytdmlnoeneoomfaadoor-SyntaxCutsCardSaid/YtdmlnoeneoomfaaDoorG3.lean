
/-
  The law's one; the document's SameExpr at one tree twice.
-/
import Derived.Test.YtdmlnoeneoomfaaDoorG2
import Derived.Test.YtdmlnoeneoomfaaDoorS10
namespace Go.Proofs.YtdmlnoeneoomfaaDoor
open Go.RowKit

/-- What is asked of SameExpr, at a depth. -/
def SameOk (M n : Nat) : Prop := ∀ (D D' : Nat → Prop) (op N op' N' : Int) (nm nm' : ByteArray) (A A' : Option Addr) (l c l' c' : Nat) (g : Gx) (w : World),
  GC D w M n [.int .i64 op, .int .i64 N, .string nm, .slice A l c] g → GC D' w M n [.int .i64 op', .int .i64 N', .string nm', .slice A' l' c'] g →
  Calls Tryd.prog 10 #[.agg #[.int .i64 op, .int .i64 N, .string nm, .slice A l c], .agg #[.int .i64 op', .int .i64 N', .string nm', .slice A' l' c']] w (Tells w true)
def SamesOk (M n : Nat) : Prop := ∀ (D D' : Nat → Prop) (A A' : Option Addr) (len len' c c' : Nat) (l : List Gx) (w : World),
  ElsG D w 4 M (GC D w M n) A len l → ElsG D' w 4 M (GC D' w M n) A' len' l → Calls Tryd.prog 24 #[.slice A len c, .slice A' len' c'] w (Tells w true)
set_option maxHeartbeats 4000000 in
set_option maxRecDepth 100000 in
theorem sames_step (M n : Nat) (hM : M ≤ 9223372036854775807) (H : SameOk M n) : SamesOk M n := by
  intro D D' A A' len len' c c' l w h1 h2
  obtain ⟨xs, r1, -, m1, n1, e1⟩ := h1
  obtain ⟨ys, r2, -, m2, n2, e2⟩ := h2
  obtain rfl : len' = len := by omega
  have R1 := Lib.hid r1
  have R2 := Lib.hid r2
  have N1 := Lib.hid n1
  have E1 := Lib.hid e1
  have E2 := Lib.hid e2
  have HH := Lib.hid H
  clear r1 r2 n1 n2 e1 e2 H m2
  go_enter Tryd.func24, Tryd.ntmps24
  go_wp2_with fail
  go_loopw [5] (fun i wr => ∃ k : Nat, k ≤ len' ∧ i = .int .i64 k ∧ Hid (Below w.heap.size w wr)) (fun i _ => len' - (intOf i).toNat)
  case atStart => exact ⟨0, by omega, rfl, Below.refl _ _⟩
  case round =>
    obtain ⟨k, hk, rfl, hb⟩ := hrel
    by_cases hlt : k < len'
    · have hkk : k < l.length := by rw [N1.out]; exact hlt
      have ec := E1.out k hkk
      have ed := E2.out k hkk
      generalize l[k] = g at *
      obtain ⟨op, N, nm, A1, l1, c1, hcs⟩ := ec.form
      obtain ⟨op', N', nm', A2, l2, c2, hcs'⟩ := ed.form
      rw [hcs] at ec
      rw [hcs'] at ed
      obtain ⟨b1, o1, rfl, hb1, q⟩ := R1.out.chunk (by omega) hlt hcs
      obtain ⟨b2, o2, rfl, hb2, p⟩ := R2.out.chunk (by omega) hlt hcs'
      have q0 := (hb.out.cell (p := ⟨b1, o1 + k * 4, none⟩) hb1).trans (q 0 _ rfl)
      have q1 := (hb.out.cell (p := ⟨b1, o1 + k * 4 + 1, none⟩) hb1).trans (q 1 _ rfl)
      have q2 := (hb.out.cell (p := ⟨b1, o1 + k * 4 + 2, none⟩) hb1).trans (q 2 _ rfl)
      have q3 := (hb.out.cell (p := ⟨b1, o1 + k * 4 + 3, none⟩) hb1).trans (q 3 _ rfl)
      have p0 := (hb.out.cell (p := ⟨b2, o2 + k * 4, none⟩) hb2).trans (p 0 _ rfl)
      have p1 := (hb.out.cell (p := ⟨b2, o2 + k * 4 + 1, none⟩) hb2).trans (p 1 _ rfl)
      have p2 := (hb.out.cell (p := ⟨b2, o2 + k * 4 + 2, none⟩) hb2).trans (p 2 _ rfl)
      have p3 := (hb.out.cell (p := ⟨b2, o2 + k * 4 + 3, none⟩) hb2).trans (p 3 _ rfl)
      have SM := Lib.hid (HH.out D D' op N op' N' nm nm' A1 A2 l1 c1 l2 c2 g wr.drew (ec.below hb.out.drew) (ed.below hb.out.drew))
      have g1 : (0 : Int) ≤ (k : Int) := by omega
      have g2 : (k : Int) < (len' : Int) := by omega
      clear q p hcs hcs' ec ed
      go_upto_region 6 with fail
      have qq : wr.cell? ⟨b1, o1 + k * 4, none⟩ = some (.int .i64 op) ∧ wr.cell? ⟨b1, o1 + k * 4 + 1, none⟩ = some (.int .i64 N) ∧ wr.cell? ⟨b1, o1 + k * 4 + 2, none⟩ = some (.string nm) ∧ wr.cell? ⟨b1, o1 + k * 4 + 3, none⟩ = some (.slice A1 l1 c1) ∧
        wr.cell? ⟨b2, o2 + k * 4, none⟩ = some (.int .i64 op') ∧ wr.cell? ⟨b2, o2 + k * 4 + 1, none⟩ = some (.int .i64 N') ∧ wr.cell? ⟨b2, o2 + k * 4 + 2, none⟩ = some (.string nm') ∧ wr.cell? ⟨b2, o2 + k * 4 + 3, none⟩ = some (.slice A2 l2 c2) := ⟨q0, q1, q2, q3, p0, p1, p2, p3⟩
      have hz := hb.out.size
      go_region_held3 (fun w' => w'.cell? ⟨b1, o1 + k * 4, none⟩ = some (.int .i64 op) ∧ w'.cell? ⟨b1, o1 + k * 4 + 1, none⟩ = some (.int .i64 N) ∧ w'.cell? ⟨b1, o1 + k * 4 + 2, none⟩ = some (.string nm) ∧ w'.cell? ⟨b1, o1 + k * 4 + 3, none⟩ = some (.slice A1 l1 c1) ∧
        w'.cell? ⟨b2, o2 + k * 4, none⟩ = some (.int .i64 op') ∧ w'.cell? ⟨b2, o2 + k * 4 + 1, none⟩ = some (.int .i64 N') ∧ w'.cell? ⟨b2, o2 + k * 4 + 2, none⟩ = some (.string nm') ∧ w'.cell? ⟨b2, o2 + k * 4 + 3, none⟩ = some (.slice A2 l2 c2))
        (first | exact qq | exact q6)
        (first
        | (go_at_call 10; (with_reducible refine SM.out.mono ?_); rintro e w6 ⟨rfl, b6⟩; have q6 : w6.cell? ⟨b1, o1 + k * 4, none⟩ = some (.int .i64 op) ∧ w6.cell? ⟨b1, o1 + k * 4 + 1, none⟩ = some (.int .i64 N) ∧ w6.cell? ⟨b1, o1 + k * 4 + 2, none⟩ = some (.string nm) ∧ w6.cell? ⟨b1, o1 + k * 4 + 3, none⟩ = some (.slice A1 l1 c1) ∧ w6.cell? ⟨b2, o2 + k * 4, none⟩ = some (.int .i64 op') ∧ w6.cell? ⟨b2, o2 + k * 4 + 1, none⟩ = some (.int .i64 N') ∧ w6.cell? ⟨b2, o2 + k * 4 + 2, none⟩ = some (.string nm') ∧ w6.cell? ⟨b2, o2 + k * 4 + 3, none⟩ = some (.slice A2 l2 c2) := ⟨(b6.cell (p := ⟨b1, o1 + k * 4, none⟩) (Nat.lt_of_lt_of_le hb1 hz)).trans q0, (b6.cell (p := ⟨b1, o1 + k * 4 + 1, none⟩) (Nat.lt_of_lt_of_le hb1 hz)).trans q1, (b6.cell (p := ⟨b1, o1 + k * 4 + 2, none⟩) (Nat.lt_of_lt_of_le hb1 hz)).trans q2, (b6.cell (p := ⟨b1, o1 + k * 4 + 3, none⟩) (Nat.lt_of_lt_of_le hb1 hz)).trans q3, (b6.cell (p := ⟨b2, o2 + k * 4, none⟩) (Nat.lt_of_lt_of_le hb2 hz)).trans p0, (b6.cell (p := ⟨b2, o2 + k * 4 + 1, none⟩) (Nat.lt_of_lt_of_le hb2 hz)).trans p1, (b6.cell (p := ⟨b2, o2 + k * 4 + 2, none⟩) (Nat.lt_of_lt_of_le hb2 hz)).trans p2, (b6.cell (p := ⟨b2, o2 + k * 4 + 3, none⟩) (Nat.lt_of_lt_of_le hb2 hz)).trans p3⟩))
      have HB := Lib.hid (hb.out.drew.trans (b6.mono hz))
      clear q6 qq b6 q0 q1 q2 q3 p0 p1 p2 p3
      go_wp2_with fail
      go_roundw
      case rel => exact ⟨k + 1, by omega, by go_num, HB⟩
      case measure => simp [intOf]; omega
    · obtain rfl : k = len' := by omega
      go_wp2_with fail
      go_ret
      exact ⟨rfl, hb.out⟩
set_option maxHeartbeats 4000000 in
set_option maxRecDepth 100000 in
theorem same_step (M n : Nat) (H : SamesOk M n) : SameOk M (n + 1) := by
  intro D D' op N op' N' nm nm' A A' l c l' c' g w h1 h2
  obtain ⟨op0, N0, nm0, gl⟩ := g
  obtain ⟨_, _, _, hc1, e1⟩ := h1
  obtain ⟨_, _, _, hc2, e2⟩ := h2
  injection hc1 with q1 hc1
  injection hc1 with q2 hc1
  injection hc1 with q3 hc1
  injection hc1 with q4 _
  injection hc2 with p1 hc2
  injection hc2 with p2 hc2
  injection hc2 with p3 hc2
  injection hc2 with p4 _
  injection q1 with _ q1
  injection q2 with _ q2
  injection q3 with q3
  injection q4 with q4 q5 q6
  injection p1 with _ p1
  injection p2 with _ p2
  injection p3 with p3
  injection p4 with p4 p5 p6
  subst q1 q2 q3 q4 q5 q6 p1 p2 p3 p4 p5 p6
  have SM := Lib.hid (fun W hW => H D D' A A' l l' c c' gl W (e1.below hW) (e2.below hW))
  obtain ⟨x1, x2⟩ := two_new w 34 34 #[.int .i64 op', .int .i64 N', .string nm', .slice A l c] #[.int .i64 op', .int .i64 N', .string nm', .slice A' l' c']
  have f2 : Below w.heap.size w ((w.alloc (.cells #[.int .i64 op', .int .i64 N', .string nm', .slice A l c] 34)).alloc (.cells #[.int .i64 op', .int .i64 N', .string nm', .slice A' l' c'] 34)) := ((Below.refl _ w).al _).alloc (by simp) _
  have F2 := Lib.hid f2
  have X1 := Lib.hid x1
  have X2 := Lib.hid x2
  clear e1 e2 x1 x2 f2 H
  go_enter Tryd.func10, Tryd.ntmps10
  go_upto_region 1 with fail
  generalize (w.alloc (.cells #[.int .i64 op', .int .i64 N', .string nm', .slice A l c] 34)).alloc (.cells #[.int .i64 op', .int .i64 N', .string nm', .slice A' l' c'] 34) = W2 at *
  have s0 : W2.cell? ⟨w.heap.size, 0, none⟩ = some (.int .i64 op') := X1.out.cell 0
  have s1 : W2.cell? ⟨w.heap.size, 1, none⟩ = some (.int .i64 N') := X1.out.cell 1
  have s2 : W2.cell? ⟨w.heap.size, 2, none⟩ = some (.string nm') := X1.out.cell 2
  have s3 : W2.cell? ⟨w.heap.size, 3, none⟩ = some (.slice A l c) := X1.out.cell 3
  have t0 : W2.cell? ⟨w.heap.size + 1, 0, none⟩ = some (.int .i64 op') := X2.out.cell 0
  have t1 : W2.cell? ⟨w.heap.size + 1, 1, none⟩ = some (.int .i64 N') := X2.out.cell 1
  have t2 : W2.cell? ⟨w.heap.size + 1, 2, none⟩ = some (.string nm') := X2.out.cell 2
  have t3 : W2.cell? ⟨w.heap.size + 1, 3, none⟩ = some (.slice A' l' c') := X2.out.cell 3
  go_wp2_with fail
  refine (SM.out _ F2.out).mono ?_
  rintro e w3 ⟨rfl, b3⟩
  go_wp2_with fail
  go_ret
  exact ⟨rfl, F2.out.trans (b3.mono F2.out.size)⟩
theorem same_all (M : Nat) (hM : M ≤ 9223372036854775807) : ∀ n, SameOk M n
  | 0 => fun _ _ _ _ _ _ _ _ _ _ _ _ _ _ _ _ h1 _ => absurd h1 id
  | n + 1 => same_step M n (sames_step M n hM (same_all M hM n))
def OneTo (w : World) (n : Nat) (g : Gx) (e : Ending) (w' : World) : Prop := ∃ (op N : Int) (nm : ByteArray) (A : Option Addr) (l c : Nat), e = .returned (.agg #[.int .i64 op, .int .i64 N, .string nm, .slice A l c]) ∧ Below w.heap.size w w' ∧ GC (fun z => w.heap.size ≤ z) w' 1000000 n [.int .i64 op, .int .i64 N, .string nm, .slice A l c] g
set_option maxHeartbeats 4000000 in
set_option maxRecDepth 100000 in
theorem one_any (D : Nat → Prop) (n : Nat) (op N : Int) (nm : ByteArray) (A : Option Addr) (l c : Nat) (g : Gx) (w : World) (h : GC D w 1000000 n [.int .i64 op, .int .i64 N, .string nm, .slice A l c] g) :
    Calls Tryd.prog 11 #[.agg #[.int .i64 op, .int .i64 N, .string nm, .slice A l c]] w (OneTo w n g) := by
  obtain ⟨x1, x2, x3⟩ := three_new w 25 34 25 #[.int .i64 op, .int .i64 N, .string nm, .slice A l c] #[.int .i64 0, .int .i64 0, .string ⟨#[]⟩, .slice none 0 0] #[.int .i64 op, .int .i64 N, .string nm, .slice A l c]
  have f2 : Below w.heap.size w (((w.alloc (.cells #[.int .i64 op, .int .i64 N, .string nm, .slice A l c] 25)).alloc (.cells #[.int .i64 0, .int .i64 0, .string ⟨#[]⟩, .slice none 0 0] 34)).alloc (.cells #[.int .i64 op, .int .i64 N, .string nm, .slice A l c] 25)) := (((Below.refl _ w).al _).alloc (by simp) _).alloc (by simp; omega) _
  have z2 : (((w.alloc (.cells #[.int .i64 op, .int .i64 N, .string nm, .slice A l c] 25)).alloc (.cells #[.int .i64 0, .int .i64 0, .string ⟨#[]⟩, .slice none 0 0] 34)).alloc (.cells #[.int .i64 op, .int .i64 N, .string nm, .slice A l c] 25)).heap.size = w.heap.size + 3 := by simp
  have x0 := (two_new w 25 34 #[.int .i64 op, .int .i64 N, .string nm, .slice A l c] #[.int .i64 0, .int .i64 0, .string ⟨#[]⟩, .slice none 0 0]).1
  have els := els_one (D := fun _ => True) (by omega) (c1 := [.int .i64 op, .int .i64 N, .string nm, .slice A l c]) x3 trivial rfl (GC.kept (Kept.of_below (S := fun _ => False) f2) (fun _ _ _ h => h) (fun _ _ _ => trivial) n _ g h)
  have EX := Lib.hid (exprs_any n (fun _ => True) _ 1 1 [g] _ els)
  have F2 := Lib.hid f2
  have X2 := Lib.hid x2
  have s0 : ((w.alloc (.cells #[.int .i64 op, .int .i64 N, .string nm, .slice A l c] 25)).alloc (.cells #[.int .i64 0, .int .i64 0, .string ⟨#[]⟩, .slice none 0 0] 34)).cell? ⟨w.heap.size, 0, none⟩ = some (.int .i64 op) := x0.cell 0
  have s1 : ((w.alloc (.cells #[.int .i64 op, .int .i64 N, .string nm, .slice A l c] 25)).alloc (.cells #[.int .i64 0, .int .i64 0, .string ⟨#[]⟩, .slice none 0 0] 34)).cell? ⟨w.heap.size, 1, none⟩ = some (.int .i64 N) := x0.cell 1
  have s2 : ((w.alloc (.cells #[.int .i64 op, .int .i64 N, .string nm, .slice A l c] 25)).alloc (.cells #[.int .i64 0, .int .i64 0, .string ⟨#[]⟩, .slice none 0 0] 34)).cell? ⟨w.heap.size, 2, none⟩ = some (.string nm) := x0.cell 2
  have s3 : ((w.alloc (.cells #[.int .i64 op, .int .i64 N, .string nm, .slice A l c] 25)).alloc (.cells #[.int .i64 0, .int .i64 0, .string ⟨#[]⟩, .slice none 0 0] 34)).cell? ⟨w.heap.size, 3, none⟩ = some (.slice A l c) := x0.cell 3
  have Z2 := Lib.hid z2
  clear f2 x1 x2 x3 h els x0 z2
  go_enter Tryd.func11, Tryd.ntmps11
  go_wp2_with fail
  refine EX.out.mono ?_
  rintro e w3 ⟨A', c', rfl, b3, o3⟩
  obtain ⟨ys, ho, hyl, hg⟩ := o3
  have ho' := ho
  obtain ⟨_, _, hv, hob⟩ := own_is ho
  simp only [Value.slice.injEq] at hv
  obtain ⟨rfl, hl1, rfl⟩ := hv
  clear hl1
  have hR := Reads.of_own ho
  have hg0 := hg 0 (by simp)
  simp only [List.getElem_cons_zero] at hg0
  obtain ⟨op', N', nm', A3, l3, c3, hcs⟩ := hg0.form
  obtain ⟨bb, oo, rfl, hbb, hq⟩ := hR.chunk (by omega) (k := 0) (by simp) hcs
  rw [hcs] at hg0
  have q0 : w3.cell? ⟨bb, oo, none⟩ = some (.int .i64 op') := by have := hq 0 _ rfl; simpa using this
  have q1 : w3.cell? ⟨bb, oo + 1, none⟩ = some (.int .i64 N') := by have := hq 1 _ rfl; simpa using this
  have q2 : w3.cell? ⟨bb, oo + 2, none⟩ = some (.string nm') := by have := hq 2 _ rfl; simpa using this
  have q3 : w3.cell? ⟨bb, oo + 3, none⟩ = some (.slice A3 l3 c3) := by have := hq 3 _ rfl; simpa using this
  have x3 := X2.out.below b3 X2.out.lt
  have u0 : w3.cell? ⟨w.heap.size + 1, 0, none⟩ = some (.int .i64 0) := x3.cell 0
  have u1 : w3.cell? ⟨w.heap.size + 1, 1, none⟩ = some (.int .i64 0) := x3.cell 1
  have u2 : w3.cell? ⟨w.heap.size + 1, 2, none⟩ = some (.string ⟨#[]⟩) := x3.cell 2
  have u3 : w3.cell? ⟨w.heap.size + 1, 3, none⟩ = some (.slice none 0 0) := x3.cell 3
  have t0 := x3.frozen 0
  have t1 := x3.frozen 1
  have t2 := x3.frozen 2
  have t3 := x3.frozen 3
  have HG := Lib.hid hg0
  have B3 := Lib.hid b3
  clear hcs hq hR hg hob ho ho' hg0 b3 EX hyl
  go_wp2_with fail
  clear q0 q1 q2 q3 u0 u1 u2 u3
  have X9 := x3.put4 (.int .i64 op') (.int .i64 N') (.string nm') (.slice A3 l3 c3)
  have K9 := Kept.put4 w3 (w.heap.size + 1) (.int .i64 op') (.int .i64 N') (.string nm') (.slice A3 l3 c3)
  generalize (((w3.setCell ⟨w.heap.size + 1, 0, none⟩ (.int .i64 op')).setCell ⟨w.heap.size + 1, 1, none⟩ (.int .i64 N')).setCell ⟨w.heap.size + 1, 2, none⟩ (.string nm')).setCell ⟨w.heap.size + 1, 3, none⟩ (.slice A3 l3 c3) = W9 at *
  have s0 : W9.cell? ⟨w.heap.size + 1, 0, none⟩ = some (.int .i64 op') := X9.cell 0
  have s1 : W9.cell? ⟨w.heap.size + 1, 1, none⟩ = some (.int .i64 N') := X9.cell 1
  have s2 : W9.cell? ⟨w.heap.size + 1, 2, none⟩ = some (.string nm') := X9.cell 2
  have s3 : W9.cell? ⟨w.heap.size + 1, 3, none⟩ = some (.slice A3 l3 c3) := X9.cell 3
  have z3 := B3.out.size
  have z2 := Z2.out
  refine bodyPost_ret (v := .agg #[.int .i64 op', .int .i64 N', .string nm', .slice A3 l3 c3]) (by simp [results, Tryd.results11, go_sem, s0, s1, s2, s3]) rfl ⟨_, _, _, _, _, _, rfl, (F2.out.trans (B3.out.mono F2.out.size)).trans (K9.to_below (by omega) (fun q hq e => by omega)), ?_⟩
  exact GC.kept K9 (fun z _ hz e => by omega) (fun z _ hz => by omega) _ _ _ HG.out
end Go.Proofs.YtdmlnoeneoomfaaDoor
