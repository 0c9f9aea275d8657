
/-
  The document's Deep and Size of an expression: some number.
-/
import Derived.Test.YtdgekckedchjbaaGreatDoorN1
import Derived.Test.YtdgekckedchjbaaGreatDoorG9
namespace Go.Proofs.YtdgekckedchjbaaGreatDoor
open Go.RowKit

def DeepOk (M n : Nat) : Prop := ∀ (D : Nat → Prop) (op N : Int) (nm : ByteArray) (A : Option Addr) (len cap : Nat) (g : Gx) (w : World), GC D w M n [.int .i64 op, .int .i64 N, .string nm, .slice A len cap] g →
  Calls Tryz.prog 8 #[.agg #[.int .i64 op, .int .i64 N, .string nm, .slice A len cap]] w (NumTo w)
set_option maxHeartbeats 4000000 in
set_option maxRecDepth 100000 in
theorem deep_step (M n : Nat) (hM : M ≤ 9223372036854775807) (H : DeepOk M n) : DeepOk M (n + 1) := by
  intro D op N nm A len cap g w hg
  obtain ⟨gop, gN, gnm, l⟩ := g
  obtain ⟨A0, len0, cap0, hcs, hel⟩ := hg
  simp only [List.cons.injEq, Value.int.injEq, Value.string.injEq, Value.slice.injEq, and_true, true_and] at hcs
  obtain ⟨rfl, rfl, rfl, rfl, rfl, rfl⟩ := hcs
  obtain ⟨xs, hrd, -, hl, hk, hc⟩ := hel
  have HRD := Lib.hid hrd
  have HK := Lib.hid hk
  have HC := Lib.hid hc
  have HH := Lib.hid H
  have HLM : Hid (len ≤ M) := hl
  obtain ⟨W1, hW1⟩ : ∃ W, W = w.alloc (.cells #[.int .i64 op, .int .i64 N, .string nm, .slice A len cap] 24) := ⟨_, rfl⟩
  have c1 : Blk W1 w.heap.size 24 #[.int .i64 op, .int .i64 N, .string nm, .slice A len cap] := by
    rw [hW1]
    exact Blk.new w _ _
  have f1 : Below w.heap.size w W1 := by
    rw [hW1]
    exact (Below.refl _ w).al _
  have C1 := Lib.hid c1
  have F1 := Lib.hid f1
  have HW := Lib.hid hW1
  clear hrd hk hc H hl c1 f1 hW1
  go_enter Tryz.func8, Tryz.ntmps8
  go_upto_region 1 with fail
  rw [← show W1 = _ from HW.out]
  clear HW
  go_wp2_with fail
  go_loopw [3, 4] (fun nv iv wr => ∃ (k : Nat) (m : Int), k ≤ len ∧ iv = .int .i64 k ∧ nv = .int .i64 m ∧ Hid (Blk wr w.heap.size 24 #[.int .i64 op, .int .i64 N, .string nm, .slice A len cap]) ∧ Hid (Below w.heap.size w wr)) (fun _ iv _ => len - (intOf iv).toNat)
  case atStart => exact ⟨0, 0, by omega, rfl, rfl, C1.out, F1.out⟩
  case round =>
    obtain ⟨k, m, hkl, rfl, rfl, B1, hbw⟩ := hrel
    have p3 := B1.out.cell 3
    by_cases hlt : k < len
    · have hkk : k < l.length := by rw [HK.out]; exact hlt
      have ec := HC.out k hkk
      generalize l[k] = g at *
      obtain ⟨op2, N2, nm2, A2, len2, cap2, hcs⟩ := ec.form
      obtain ⟨bb, oo, rfl, hbb, hcells⟩ := HRD.out.chunk (by omega) hlt hcs
      rw [hcs] at ec
      have q0 := (hbw.out.cell (p := ⟨bb, oo + k * 4, none⟩) hbb).trans (hcells 0 _ rfl)
      have q1 := (hbw.out.cell (p := ⟨bb, oo + k * 4 + 1, none⟩) hbb).trans (hcells 1 _ rfl)
      have q2 := (hbw.out.cell (p := ⟨bb, oo + k * 4 + 2, none⟩) hbb).trans (hcells 2 _ rfl)
      have q3 := (hbw.out.cell (p := ⟨bb, oo + k * 4 + 3, none⟩) hbb).trans (hcells 3 _ rfl)
      have g1 : (0 : Int) ≤ (k : Int) := by omega
      have g2 : (k : Int) < (len : Int) := by omega
      have hwz := hbw.out.size
      have hlm : len ≤ M := HLM.out
      have CA := Lib.hid (HH.out D op2 N2 nm2 A2 len2 cap2 g wr (ec.below hbw.out))
      have h1 := B1.out.lt
      clear hcells hcs ec
      go_wp2_with fail
      refine CA.out.mono ?_
      rintro e w6 ⟨m6, rfl, b6⟩
      have X6 := Lib.hid (B1.out.below b6 h1)
      have F6 := Lib.hid (hbw.out.trans (b6.mono hwz))
      clear q0 q1 q2 q3 p3 b6 CA
      by_cases hgt : m < m6
      · go_wp2_with fail
        go_roundw
        case rel => exact ⟨k + 1, m6, by omega, by go_num, rfl, X6.out, F6.out⟩
        case measure => simp [intOf]; omega
      · go_wp2_with fail
        go_roundw
        case rel => exact ⟨k + 1, m, by omega, by go_num, rfl, X6.out, F6.out⟩
        case measure => simp [intOf]; omega
    · go_wp2_with fail
      go_ret
      exact ⟨_, rfl, hbw.out⟩
theorem deep_any (M : Nat) (hM : M ≤ 9223372036854775807) : ∀ n, DeepOk M n
  | 0 => fun _ _ _ _ _ _ _ _ _ h => h.elim
  | n + 1 => deep_step M n hM (deep_any M hM n)
set_option maxHeartbeats 4000000 in
set_option maxRecDepth 100000 in
theorem size_prog (M n : Nat) (hM : M ≤ 9223372036854775807) (D : Nat → Prop) (A : Option Addr) (len c : Nat) (l : List Gx) (b : Nat) (w : World) (h : ElsG D w 4 M (GC D w M n) A len l)
    (hb : Blk w b 29 #[.int .i64 0, .string ⟨#[]⟩, .slice A len c, .int .i64 0, .int .i64 0, .slice none 0 0, .slice none 0 0]) :
    Calls Tryz.prog 9 #[.agg #[.string ⟨#[]⟩, .int .i64 0, .slice none 0 0, .slice none 0 0, .slice none 0 0, .slice none 0 0, .slice none 0 0, .slice none 0 0, .string ⟨#[]⟩, .slice none 0 0, .slice (some ⟨b, 0, none⟩) 1 1]] w (NumTo w) := by
  obtain ⟨W1, hW1⟩ : ∃ W, W = w.alloc (.cells #[.string ⟨#[]⟩, .int .i64 0, .slice none 0 0, .slice none 0 0, .slice none 0 0, .slice none 0 0, .slice none 0 0, .slice none 0 0, .string ⟨#[]⟩, .slice none 0 0, .slice (some ⟨b, 0, none⟩) 1 1] 33) := ⟨_, rfl⟩
  have c1 : Blk W1 w.heap.size 33 #[.string ⟨#[]⟩, .int .i64 0, .slice none 0 0, .slice none 0 0, .slice none 0 0, .slice none 0 0, .slice none 0 0, .slice none 0 0, .string ⟨#[]⟩, .slice none 0 0, .slice (some ⟨b, 0, none⟩) 1 1] := by
    rw [hW1]
    exact Blk.new w _ _
  have f1 : Below w.heap.size w W1 := by
    rw [hW1]
    exact (Below.refl _ w).al _
  have hbl := hb.lt
  have S1 := Lib.hid (size_one M n hM D A len c l b W1.drew ((h.below f1).below (Below.refl _ W1).drew) ((hb.below f1 hbl).drew))
  have hl1 := c1.lt
  have QS : Hid (∀ W, Below W1.heap.size W1 W → (W.cell? ⟨w.heap.size, 3, none⟩ = some (.slice none 0 0) ∧ W.cell? ⟨w.heap.size, 4, none⟩ = some (.slice none 0 0) ∧ W.cell? ⟨w.heap.size, 5, none⟩ = some (.slice none 0 0) ∧ W.cell? ⟨w.heap.size, 6, none⟩ = some (.slice none 0 0)) ∧ W.cell? ⟨w.heap.size, 7, none⟩ = some (.slice none 0 0) ∧ W.cell? ⟨w.heap.size, 9, none⟩ = some (.slice none 0 0) ∧ W.cell? ⟨w.heap.size, 10, none⟩ = some (.slice (some ⟨b, 0, none⟩) 1 1)) := fun W hW => by
    have := c1.below hW hl1
    exact ⟨⟨this.cell 3, this.cell 4, this.cell 5, this.cell 6⟩, this.cell 7, this.cell 9, this.cell 10⟩
  have F1 := Lib.hid f1
  have f0 := (Below.refl W1.heap.size W1).drew
  have HW := Lib.hid hW1
  clear h hb c1 f1 hW1
  go_enter Tryz.func9, Tryz.ntmps9
  go_upto_region 1 with fail
  rw [← show W1 = _ from HW.out]
  clear HW
  go_region_held3 (fun W => (W.cell? ⟨w.heap.size, 3, none⟩ = some (.slice none 0 0) ∧ W.cell? ⟨w.heap.size, 4, none⟩ = some (.slice none 0 0) ∧ W.cell? ⟨w.heap.size, 5, none⟩ = some (.slice none 0 0) ∧ W.cell? ⟨w.heap.size, 6, none⟩ = some (.slice none 0 0)) ∧ W.cell? ⟨w.heap.size, 7, none⟩ = some (.slice none 0 0) ∧ W.cell? ⟨w.heap.size, 9, none⟩ = some (.slice none 0 0) ∧ W.cell? ⟨w.heap.size, 10, none⟩ = some (.slice (some ⟨b, 0, none⟩) 1 1))
    (first | (with_reducible exact QS.out _ f0) | (with_reducible exact QS.out _ f6))
    (first
    | (go_at_call 19; (with_reducible refine (size_nil _).mono ?_); rintro e w7 ⟨rfl, rfl⟩)
    | (go_at_call 19; (with_reducible refine S1.out.mono ?_); rintro e w6 ⟨m6, rfl, b6⟩; have f6 := f0.trans (b6.mono (Nat.le_refl _))))
  have F6 := Lib.hid (F1.out.trans (f6.mono F1.out.size))
  clear f6 b6 f0
  go_wp2_with fail
  go_ret
  exact ⟨_, rfl, F6.out⟩
end Go.Proofs.YtdgekckedchjbaaGreatDoor
