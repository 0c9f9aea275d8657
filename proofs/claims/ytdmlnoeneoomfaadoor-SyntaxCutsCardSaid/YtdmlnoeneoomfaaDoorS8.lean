
/-
  The parser's expression, and the closure that keeps it.
-/
import Derived.Test.YtdmlnoeneoomfaaDoorS7
namespace Go.Proofs.YtdmlnoeneoomfaaDoor
open Go.RowKit

section
variable (g c : Nat) (A : Option Addr) (m : Nat → Nat) (ts : List Tk) (dp : Int)
theorem join_k (d : Nat) (PC : PlainC g c A m ts dp d) : ∀ k, k ≤ 5 → JoinC g c A m ts dp d k
  | 0, _ => join_zero g c A m ts dp d PC
  | k + 1, h => join_more g c A m ts dp d k (by omega) (join_k d PC k (by omega))
theorem both_any : ∀ d, PlainC g c A m ts dp d ∧ JoinC g c A m ts dp d 5
  | 0 =>
    have h := plain_any g c A m ts dp 0 (fun q h => absurd h (by omega))
    ⟨h, join_k g c A m ts dp 0 h 5 (Nat.le_refl _)⟩
  | d + 1 =>
    have h := plain_any g c A m ts dp (d + 1) (fun q h => by
      obtain rfl : d = q := by omega
      exact both_any d)
    ⟨h, join_k g c A m ts dp (d + 1) h 5 (Nat.le_refl _)⟩
end
set_option maxHeartbeats 1000000 in
set_option maxRecDepth 100000 in
theorem expression_any (g c : Nat) (A : Option Addr) (m : Nat → Nat) (ts : List Tk) (i : Nat) (dp : Int) (w : World) (h : Par w g A c m ts i dp 0) :
    Calls Tryd.prog 23 #[.pointer (some ⟨g, 0, none⟩)] w (ExTo w g c A m ts dp (joinL (plainD 16) 5 (ts.drop i))) := by
  have f0 : Below w.heap.size w (w.alloc (.cells #[.int .i64 0, .int .i64 0, .string ⟨#[]⟩, .slice none 0 0] 25)) := (Below.refl _ w).al _
  have x0 := Blk.new w 25 #[.int .i64 0, .int .i64 0, .string ⟨#[]⟩, .slice none 0 0]
  have JC := Lib.hid ((both_any g c A m ts dp 16).2 0 0 i _ (by omega) (by omega) (by omega) (h.below f0))
  have hgl := h.blk.lt
  have F0 := Lib.hid f0
  have X0 := Lib.hid x0
  have z0 : (w.alloc (.cells #[.int .i64 0, .int .i64 0, .string ⟨#[]⟩, .slice none 0 0] 25)).heap.size = w.heap.size + 1 := by simp
  clear h f0 x0
  generalize joinL (plainD 16) 5 (ts.drop i) = p at *
  go_enter Tryd.func23, Tryd.ntmps23
  go_upto_region 1 with fail
  generalize w.alloc (.cells #[.int .i64 0, .int .i64 0, .string ⟨#[]⟩, .slice none 0 0] 25) = W0 at *
  go_wp2_with fail
  refine JC.out.mono ?_
  rintro e w4 ⟨op, N, nm, B, l, k, rfl, k4, h4⟩
  have x4 := X0.out.kept k4 (by omega)
  have K4 := Lib.hid k4
  have H4 := Lib.hid h4
  clear k4 h4 JC
  have s0 : w4.cell? ⟨w.heap.size, 0, none⟩ = some (.int .i64 0) := x4.cell 0
  have s1 : w4.cell? ⟨w.heap.size, 1, none⟩ = some (.int .i64 0) := x4.cell 1
  have s2 : w4.cell? ⟨w.heap.size, 2, none⟩ = some (.string ⟨#[]⟩) := x4.cell 2
  have s3 : w4.cell? ⟨w.heap.size, 3, none⟩ = some (.slice none 0 0) := x4.cell 3
  have t0 := x4.frozen 0
  have t1 := x4.frozen 1
  have t2 := x4.frozen 2
  have t3 := x4.frozen 3
  go_wp2_with fail
  clear s0 s1 s2 s3
  have X9 := x4.put4 (.int .i64 op) (.int .i64 N) (.string nm) (.slice B l k)
  have K9 := Kept.put4 w4 w.heap.size (.int .i64 op) (.int .i64 N) (.string nm) (.slice B l k)
  generalize (((w4.setCell ⟨w.heap.size, 0, none⟩ (.int .i64 op)).setCell ⟨w.heap.size, 1, none⟩ (.int .i64 N)).setCell ⟨w.heap.size, 2, none⟩ (.string nm)).setCell ⟨w.heap.size, 3, none⟩ (.slice B l k) = W9 at *
  have s0 : W9.cell? ⟨w.heap.size, 0, none⟩ = some (.int .i64 op) := X9.cell 0
  have s1 : W9.cell? ⟨w.heap.size, 1, none⟩ = some (.int .i64 N) := X9.cell 1
  have s2 : W9.cell? ⟨w.heap.size, 2, none⟩ = some (.string nm) := X9.cell 2
  have s3 : W9.cell? ⟨w.heap.size, 3, none⟩ = some (.slice B l k) := X9.cell 3
  have KK : Kept (fun z => z = g) w W9 := ((Kept.of_below (S := fun z => z = g) F0.out).then_ K4.out (fun _ _ e => e)).then_ K9 (fun z hz e => by omega)
  refine bodyPost_ret (v := .agg #[.int .i64 op, .int .i64 N, .string nm, .slice B l k]) (by simp [results, Tryd.results23, go_sem, s0, s1, s2, s3]) rfl ⟨_, _, _, _, _, _, rfl, KK, ?_⟩
  exact (H4.out.kept_lt K9 (by omega) (fun z _ hz e => by omega)).base_le (by omega)

/-- The closure that keeps an expression in block r. -/
def CloTo (w : World) (g c : Nat) (A : Option Addr) (m : Nat → Nat) (ts : List Tk) (dp : Int) (r : Nat) (p : PR) (e : Ending) (w' : World) : Prop :=
  ∃ (op N : Int) (nm : ByteArray) (B : Option Addr) (l k : Nat), e = .returned (.tuple #[]) ∧ Kept (fun z => z = g ∨ z = r) w w' ∧ Blk w' r 25 #[.int .i64 op, .int .i64 N, .string nm, .slice B l k] ∧
    ExAt w.heap.size g c A m ts dp [.int .i64 op, .int .i64 N, .string nm, .slice B l k] w' p
set_option maxHeartbeats 1000000 in
set_option maxRecDepth 100000 in
theorem clo_any (g c : Nat) (A : Option Addr) (m : Nat → Nat) (ts : List Tk) (i : Nat) (dp : Int) (r : Nat) (a b d e : Value) (w : World) (h : Par w g A c m ts i dp 0) (hb : Blk w r 25 #[a, b, d, e]) (hgr : g ≠ r) :
    Calls Tryd.prog 22 #[.pointer (some ⟨g, 0, none⟩), .pointer (some ⟨r, 0, none⟩)] w (CloTo w g c A m ts dp r (joinL (plainD 16) 5 (ts.drop i))) := by
  have JC := Lib.hid (expression_any g c A m ts i dp w h)
  have HB := Lib.hid hb
  have hgl := h.blk.lt
  have hrl := hb.lt
  clear h hb
  generalize joinL (plainD 16) 5 (ts.drop i) = p at *
  go_enter Tryd.func22, Tryd.ntmps22
  go_wp2_with fail
  refine JC.out.mono ?_
  rintro e' w4 ⟨op, N, nm, B, l, k, rfl, k4, h4⟩
  have x4 := HB.out.kept k4 (by omega)
  have K4 := Lib.hid k4
  have H4 := Lib.hid h4
  clear k4 h4 JC
  have s0 : w4.cell? ⟨r, 0, none⟩ = some a := x4.cell 0
  have s1 : w4.cell? ⟨r, 1, none⟩ = some b := x4.cell 1
  have s2 : w4.cell? ⟨r, 2, none⟩ = some d := x4.cell 2
  have s3 : w4.cell? ⟨r, 3, none⟩ = some e := x4.cell 3
  have t0 := x4.frozen 0
  have t1 := x4.frozen 1
  have t2 := x4.frozen 2
  have t3 := x4.frozen 3
  go_wp2_with fail
  clear s0 s1 s2 s3
  have X9 := x4.put4 (.int .i64 op) (.int .i64 N) (.string nm) (.slice B l k)
  have K9 := Kept.put4 w4 r (.int .i64 op) (.int .i64 N) (.string nm) (.slice B l k)
  generalize (((w4.setCell ⟨r, 0, none⟩ (.int .i64 op)).setCell ⟨r, 1, none⟩ (.int .i64 N)).setCell ⟨r, 2, none⟩ (.string nm)).setCell ⟨r, 3, none⟩ (.slice B l k) = W9 at *
  go_end0
  exact ⟨_, _, _, _, _, _, rfl, (K4.out.mono (T := fun z => z = g ∨ z = r) (fun _ _ e => .inl e)).then_ K9 (fun _ _ e => .inr e), X9, H4.out.kept_lt K9 hgr (fun z _ hz e => by omega)⟩
end Go.Proofs.YtdmlnoeneoomfaaDoor
