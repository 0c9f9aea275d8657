
/-
  The document's counts: that they answer.
-/
import Derived.Test.YtdgekckedchjbaaGreatDoorQH
import Derived.IntWalk
namespace Go.Proofs.YtdgekckedchjbaaGreatDoor
open Go.RowKit
theorem GC.succ {D : Nat → Prop} {w : World} {M n : Nat} {op N op0 N0 : Int} {nm nm0 : ByteArray} {A : Option Addr} {l c : Nat} {gs : List Gx} (h : GC D w M n [.int .i64 op, .int .i64 N, .string nm, .slice A l c] (.mk op0 N0 nm0 gs)) :
    ∃ q, n = q + 1 ∧ op = op0 ∧ N = N0 ∧ nm = nm0 ∧ l = gs.length ∧ ElsG D w 4 M (GC D w M q) A l gs := by
  cases n with
  | zero => exact absurd h id
  | succ q =>
    obtain ⟨A', l', c', hcs, hel⟩ := h
    injection hcs with q1 hcs
    injection hcs with q2 hcs
    injection hcs with q3 hcs
    injection hcs with q4 _
    injection q1 with _ q1
    injection q2 with _ q2
    injection q3 with q3
    injection q4 with q4 q5 q6
    subst q1 q2 q3 q4 q5 q6
    refine ⟨q, rfl, rfl, rfl, rfl, ?_, hel⟩
    obtain ⟨_, _, _, _, h, _⟩ := hel
    exact h.symm
theorem ElsG.at_ {D : Nat → Prop} {w : World} {M q : Nat} {A : Option Addr} {l : Nat} {gs : List Gx} (h : ElsG D w 4 M (GC D w M q) A l gs) {i : Nat} (hi : i < gs.length) (hl : l = gs.length) :
    ∃ (b o : Nat) (op N : Int) (nm : ByteArray) (A' : Option Addr) (l' c' : Nat), A = some ⟨b, o, none⟩ ∧ b < w.heap.size ∧ GC D w M q [.int .i64 op, .int .i64 N, .string nm, .slice A' l' c'] (gs[i]'hi) ∧
      w.cell? ⟨b, o + i * 4, none⟩ = some (.int .i64 op) ∧ w.cell? ⟨b, o + i * 4 + 1, none⟩ = some (.int .i64 N) ∧ w.cell? ⟨b, o + i * 4 + 2, none⟩ = some (.string nm) ∧ w.cell? ⟨b, o + i * 4 + 3, none⟩ = some (.slice A' l' c') := by
  obtain ⟨xs, h1, -, -, -, h5⟩ := h
  have hc := h5 i hi
  obtain ⟨op, N, nm, A', l', c', hcs⟩ := hc.form
  obtain ⟨b, o, hA, hb, hq⟩ := h1.chunk (by omega) (show i < l by omega) hcs
  rw [hcs] at hc
  exact ⟨b, o, op, N, nm, A', l', c', hA, hb, hc, hq 0 _ rfl, hq 1 _ rfl, hq 2 _ rfl, hq 3 _ rfl⟩

def NumTo (w : World) (e : Ending) (w' : World) : Prop := ∃ m : Int, e = .returned (.int .i64 m) ∧ Below w.heap.size w w'
def CountOk (M n : Nat) : Prop := ∀ (D : Nat → Prop) (A : Option Addr) (len c : Nat) (l : List Gx) (w : World), ElsG D w 4 M (GC D w M n) A len l → Calls Tryz.prog 37 #[.slice A len c] w (NumTo w)
set_option maxHeartbeats 4000000 in
set_option maxRecDepth 100000 in
theorem count_step (M n : Nat) (hM : M ≤ 9223372036854775807) (H : ∀ q, n = q + 1 → CountOk M q) : CountOk M n := by
  intro D A len c l w h
  have hlm : len ≤ M := by obtain ⟨_, _, _, h, _, _⟩ := h; exact h
  have HEL := Lib.hid h
  have HLN : Hid (l.length = len) := by obtain ⟨_, _, _, _, h, _⟩ := h; exact h
  have HH := Lib.hid H
  clear h H
  go_enter Tryz.func37, Tryz.ntmps37
  go_wp2_with fail
  go_loopw [3, 4] (fun nv iv wr => ∃ (k : Nat) (m : Int), k ≤ len ∧ iv = .int .i64 k ∧ nv = .int .i64 m ∧ Hid (Below w.heap.size w wr)) (fun _ iv _ => len - (intOf iv).toNat)
  case atStart => exact ⟨0, 0, by omega, rfl, rfl, Below.refl _ _⟩
  case round =>
    obtain ⟨k, m, hk, rfl, rfl, FB⟩ := hrel
    by_cases hlt : k < len
    · have hkg : k < l.length := by rw [HLN.out]; exact hlt
      obtain ⟨b, o, op1, N1, nm1, A1, l1, c1, rfl, hb, hg, -, -, -, p3⟩ := HEL.out.at_ hkg HLN.out.symm
      generalize l[k] = g at hg
      obtain ⟨op0, N0, nm0, gs⟩ := g
      obtain ⟨q, rfl, -, -, -, hl1, hel⟩ := GC.succ hg
      have u3 := (FB.out.cell (p := ⟨b, o + k * 4 + 3, none⟩) hb).trans p3
      have RR := Lib.hid (HH.out q rfl D A1 l1 c1 gs wr (hel.below FB.out))
      have g1 : (0 : Int) ≤ (k : Int) := by omega
      have g2 : (k : Int) < (len : Int) := by omega
      clear p3 hg hel hl1
      go_wp2_with fail
      refine RR.out.mono ?_
      rintro e w6 ⟨m6, rfl, bb⟩
      have FB6 := Lib.hid (FB.out.trans (bb.mono FB.out.size))
      clear bb u3
      go_wp2_with fail
      go_roundw
      case rel => exact ⟨k + 1, _, by omega, by go_num, rfl, FB6⟩
      case measure => simp [intOf]; omega
    · go_wp2_with fail
      go_ret
      exact ⟨m, rfl, FB.out⟩
theorem count_any (M : Nat) (hM : M ≤ 9223372036854775807) : ∀ n, CountOk M n
  | 0 => count_step M 0 hM (fun q h => absurd h (by omega))
  | n + 1 => count_step M (n + 1) hM (fun q h => by
    obtain rfl : n = q := by omega
    exact count_any M hM n)
set_option maxHeartbeats 2000000 in
set_option maxRecDepth 100000 in
theorem size_nil (w : World) : Calls Tryz.prog 19 #[.slice none 0 0] w fun e w' => e = .returned (.int .i64 0) ∧ w' = w := by
  go_enter Tryz.func19, Tryz.ntmps19
  go_wp2_with fail
  go_loopw [3, 4] (fun nv iv wr => iv = .int .i64 (0 : Nat) ∧ nv = .int .i64 0 ∧ Hid (wr = w)) (fun _ _ _ => 0)
  case atStart => exact ⟨rfl, rfl, rfl⟩
  case round =>
    obtain ⟨rfl, rfl, hw⟩ := hrel
    go_wp2_with fail
    go_ret
    exact ⟨rfl, hw.out⟩
set_option maxHeartbeats 4000000 in
set_option maxRecDepth 100000 in
theorem size_one (M n : Nat) (hM : M ≤ 9223372036854775807) (D : Nat → Prop) (A : Option Addr) (len c : Nat) (l : List Gx) (b : Nat) (w : World) (h : ElsG D w 4 M (GC D w M n) A len l)
    (hb : Blk w b 29 #[.int .i64 0, .string ⟨#[]⟩, .slice A len c, .int .i64 0, .int .i64 0, .slice none 0 0, .slice none 0 0]) : Calls Tryz.prog 19 #[.slice (some ⟨b, 0, none⟩) 1 1] w (NumTo w) := by
  have CO := Lib.hid (count_any M hM n D A len c l w.drew (h.below (Below.refl _ w).drew))
  have HB := Lib.hid hb
  have hbl := hb.lt
  clear h hb
  go_enter Tryz.func19, Tryz.ntmps19
  go_wp2_with fail
  go_loopw [3, 4] (fun nv iv wr => ∃ (k : Nat) (m : Int), k ≤ 1 ∧ iv = .int .i64 k ∧ nv = .int .i64 m ∧ Hid (k = 0 → wr = w) ∧ Hid (Below w.heap.size w wr)) (fun _ iv _ => 1 - (intOf iv).toNat)
  case atStart => exact ⟨0, 0, by omega, rfl, rfl, fun _ => rfl, Below.refl _ _⟩
  case round =>
    obtain ⟨k, m, hk, rfl, rfl, HW, FB⟩ := hrel
    by_cases hlt : k < 1
    · obtain rfl : k = 0 := by omega
      obtain rfl := HW.out rfl
      have QS : Hid (∀ W, Below wr.heap.size wr W → W.cell? ⟨b, 2, none⟩ = some (.slice A len c) ∧ W.cell? ⟨b, 5, none⟩ = some (.slice none 0 0) ∧ W.cell? ⟨b, 6, none⟩ = some (.slice none 0 0)) := fun W hW => by
        have := HB.out.below hW hbl
        exact ⟨this.cell 2, this.cell 5, this.cell 6⟩
      have f0 := (Below.refl wr.heap.size wr).drew
      go_upto_region 5 with fail
      go_region_held3 (fun W => W.cell? ⟨b, 2, none⟩ = some (.slice A len c) ∧ W.cell? ⟨b, 5, none⟩ = some (.slice none 0 0) ∧ W.cell? ⟨b, 6, none⟩ = some (.slice none 0 0))
        (first | (with_reducible exact QS.out _ f0) | (with_reducible exact QS.out _ f6))
        (first
        | (go_at_call 37; (with_reducible refine CO.out.mono ?_); rintro e w6 ⟨m6, rfl, b6⟩; have f6 := f0.trans (b6.mono (Nat.le_refl _)))
        | (go_at_call 19; (with_reducible refine (size_nil _).mono ?_); rintro e w7 ⟨rfl, rfl⟩))
      have F6 := Lib.hid f6
      clear f6 b6 f0
      go_wp2_with fail
      go_roundw
      case rel => exact ⟨1, _, by omega, by go_num, rfl, fun h => absurd h (by omega), F6⟩
      case measure => simp [intOf]
    · obtain rfl : k = 1 := by omega
      go_wp2_with fail
      go_ret
      exact ⟨m, rfl, FB.out⟩
end Go.Proofs.YtdgekckedchjbaaGreatDoor
