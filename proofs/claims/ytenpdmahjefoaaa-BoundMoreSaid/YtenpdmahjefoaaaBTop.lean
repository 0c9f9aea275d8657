/-
  package bound: start, Block, Expr.
-/
import Derived.Test.YtenpdmahjefoaaaBStmt3
import Derived.Test.YtenpdmahjefoaaaRounds
namespace Go.Proofs.Ytenpdmahjefoaaa
open Go.RowKit

theorem held1 {w' : World} {g0 : Nat} {t0 : TypeId} {a b c d : Value} (hx : Blk w' g0 t0 #[a, b, c, d]) :
    w'.cell? ⟨g0, 0, none⟩ = some a ∧ w'.cell? ⟨g0, 1, none⟩ = some b ∧ w'.cell? ⟨g0, 2, none⟩ = some c ∧ w'.cell? ⟨g0, 3, none⟩ = some d := ⟨hx.cell 0, hx.cell 1, hx.cell 2, hx.cell 3⟩
set_option maxHeartbeats 2000000 in
set_option maxRecDepth 100000 in
theorem start_any (w : World) :
    Calls Try.prog 19 #[] w fun e w' => ∃ r1 r2, e = .returned (ctr r1 r2) ∧ MapIs w' r1 tabE 3 ∧ MapIs w' r2 tabS 10 ∧ Below w.heap.size w w' := by
  unfold ctr
  go_enter Try.func19, Try.ntmps19
  go_wp2_with fail
  refine (ofExpr_any _).mono ?_
  rintro e w1 ⟨rfl, m1, b1⟩
  go_wp2_with fail
  refine (ofStmt_any _).mono ?_
  rintro e w2 ⟨rfl, m2, b2⟩
  have hx1 := (Blk.new w 46 #[Value.map none, Value.map none]).below b1 (by simp)
  have hx2 := hx1.below b2 hx1.lt
  have m1' : MapIs w2 (w.heap.size + 1) tabE 3 := by simpa using m1.below b2
  have hbw : Below w.heap.size w w2 := (((Below.refl _ w).al _).then_ b1).then_ b2
  clear m1 hx1 b1 b2
  generalize w1.heap.size = r2 at *
  have x0 := hx2.cell 0
  have x1 := hx2.cell 1
  simp at x0 x1
  have f0 := hx2.frozen 0
  have f1 := hx2.frozen 1
  have n1 := m1'.ne_blk hx2
  have n2 := m2.ne_blk hx2
  go_wp2_with fail
  refine bodyPost_ret (v := .agg #[.map (some (w.heap.size + 1)), .map (some r2)]) (by simp [results, Try.results19, go_sem, hx2.cell]) rfl ⟨w.heap.size + 1, r2, rfl, ?_, ?_, ?_⟩
  · exact (Kept.setCell (Kept.setCell (Kept.refl (fun k => k = w.heap.size) _) (fun _ => rfl) _) (fun _ => rfl) _ |> m1'.kept) n1
  · exact (Kept.setCell (Kept.setCell (Kept.refl (fun k => k = w.heap.size) _) (fun _ => rfl) _) (fun _ => rfl) _ |> m2.kept) n2
  · exact (hbw.setCell (Nat.le_refl _) _).setCell (Nat.le_refl _) _

set_option maxHeartbeats 400000 in
set_option maxRecDepth 100000 in
theorem Block_any (n : Nat) (A : Option Addr) (len cap : Nat) (ks : List Nat) (w : World) (h : Els w w.heap.size 7 (SC w w.heap.size n) A len ks) :
    Calls Try.prog 12 #[.slice A len cap] w fun e w' => e = .returned (.int .i64 (capT ks.sum : Nat)) ∧ Below w.heap.size w w' := by
  go_enter Try.func12, Try.ntmps12
  go_wp2_with fail
  refine (start_any _).mono ?_
  rintro e w1 ⟨r1, r2, rfl, m1, m2, b1⟩
  unfold ctr
  go_wp2_with fail
  refine (block_any n A len cap ks r1 r2 _ (h.keep b1 b1.size (SC.keep b1 b1.size n)) m1 m2).mono ?_
  rintro e w2 ⟨rfl, b2⟩
  go_wp2_with fail
  go_ret
  exact ⟨rfl, b1.then_ b2⟩

set_option maxHeartbeats 400000 in
set_option maxRecDepth 100000 in
theorem Expr_any (n : Nat) (op N : Int) (nm : ByteArray) (A : Option Addr) (len cap : Nat) (k : Nat) (w : World) (h : EC w w.heap.size n [.int .i64 op, .int .i64 N, .string nm, .slice A len cap] k) :
    Calls Try.prog 14 #[.agg #[.int .i64 op, .int .i64 N, .string nm, .slice A len cap]] w fun e w' => e = .returned (.int .i64 (k : Nat)) ∧ Below w.heap.size w w' := by
  go_enter Try.func14, Try.ntmps14
  go_wp2_with fail
  have hb0 : Below w.heap.size w (w.alloc (.cells #[.int .i64 op, .int .i64 N, .string nm, .slice A len cap] 35)) := (Below.refl _ w).al _
  have hx0 := Blk.new w 35 #[.int .i64 op, .int .i64 N, .string nm, .slice A len cap]
  have q0 := held1 hx0.drew
  go_region_held3 (fun w' => w'.cell? ⟨w.heap.size, 0, none⟩ = some (.int .i64 op) ∧ w'.cell? ⟨w.heap.size, 1, none⟩ = some (.int .i64 N) ∧ w'.cell? ⟨w.heap.size, 2, none⟩ = some (.string nm) ∧ w'.cell? ⟨w.heap.size, 3, none⟩ = some (.slice A len cap))
    (first | exact q0 | exact q1 | exact q2)
    (first
      | (go_at_call 19; refine (start_any _).mono ?_; rintro e w1 ⟨r1, r2, rfl, m1, m2, b1⟩; unfold ctr; have f1 := hb0.drew.then_ b1; have hx1 := hx0.drew.below b1 (by simp); have q1 := held1 hx1)
      | (go_at_call 22; refine (expr_any n _ k r1 r2 _ (EC.keep f1 f1.size _ _ _ h) m1).mono ?_; rintro e w2 ⟨rfl, b2⟩; have q2 := held1 (hx1.below b2 hx1.lt)))
  go_wp2_with fail
  go_ret
  exact ⟨rfl, f1.then_ b2⟩

theorem Els.of_blk {w : World} {g B s t n : Nat} {cs : Array Value} {Q : List Value → Nat → Prop} {ks : List Nat} (h : Blk w g t cs) (hg : g < B) (hl : cs.size = n * s) (hn : n ≤ 9223372036854775807) (hk : ks.length = n) (hq : ∀ i (h : i < ks.length), Q ((cs.toList.drop (i * s)).take s) (ks[i]'h)) : Els w B s Q (some ⟨g, 0, none⟩) n ks := by
  refine ⟨cs.toList, ⟨by simpa using hl, fun _ => ⟨_, rfl, hg, fun j u hu => ?_⟩⟩, hn, hk, hq⟩
  rw [Addr.add_lit, Nat.zero_add, h.cell j]
  simpa using hu

theorem lt1 {P : Nat → Prop} (h : P 0) : ∀ i, i < 1 → P i := fun i hi => by
  obtain rfl : i = 0 := by omega
  exact h
theorem lt2 {P : Nat → Prop} (h : P 0) (h1 : P 1) : ∀ i, i < 2 → P i := fun i hi => by
  rcases Nat.lt_or_ge i 1 with h2 | h2
  · obtain rfl : i = 0 := by omega
    exact h
  · obtain rfl : i = 1 := by omega
    exact h1
/-- A plain expression. -/
theorem EC_leaf (w : World) (B n : Nat) (op N : Int) (nm : ByteArray) (c : Nat) (h : op = 0 ∨ op = 1) : EC w B (n + 1) [.int .i64 op, .int .i64 N, .string nm, .slice none 0 c] 1 :=
  ⟨op, N, nm, none, 0, c, [], rfl, Els.none_ _ _ _ _ _, by rw [costE, if_pos h]⟩
theorem known_a {w : World} {B g0 g1 g2 : Nat} (h0 : Blk w g0 35 #[.int .i64 1, .int .i64 0, .string ⟨#[97]⟩, .slice none 0 0, .int .i64 0, .int .i64 1, .string ⟨#[]⟩, .slice none 0 0])
    (h1 : Blk w g1 35 #[.int .i64 8, .int .i64 0, .string ⟨#[]⟩, .slice (some ⟨g0, 0, none⟩) 2 2])
    (h2 : Blk w g2 28 #[.int .i64 0, .string ⟨#[120]⟩, .slice (some ⟨g1, 0, none⟩) 1 1, .int .i64 0, .int .i64 0, .slice none 0 0, .slice none 0 0])
    (l0 : g0 < B) (l1 : g1 < B) (l2 : g2 < B) : Els w B 7 (SC w B 3) (some ⟨g2, 0, none⟩) 1 [7] := by
  have e0 : Els w B 4 (EC w B 1) (some ⟨g0, 0, none⟩) 2 [1, 1] := Els.of_blk h0 l0 rfl (by omega) rfl (fun i hi => by
    match i, hi with
    | 0, _ => exact EC_leaf w B 0 1 0 _ 0 (.inr rfl)
    | 1, _ => exact EC_leaf w B 0 0 1 _ 0 (.inl rfl))
  have e1 : Els w B 4 (EC w B 2) (some ⟨g1, 0, none⟩) 1 [4] := Els.of_blk h1 l1 rfl (by omega) rfl (fun i hi => by
    match i, hi with
    | 0, _ => exact ⟨8, 0, _, _, 2, 2, [1, 1], rfl, e0, rfl⟩)
  exact Els.of_blk h2 l2 rfl (by omega) rfl (fun i hi => by
    match i, hi with
    | 0, _ => exact ⟨0, 0, 0, _, _, _, _, 1, 0, 0, 1, 0, 0, [4], [], [], rfl, by omega, e1, Els.none_ _ _ _ _ _, Els.none_ _ _ _ _ _, rfl⟩)
theorem known_b {w : World} {B g0 g1 g2 : Nat} (h0 : Blk w g0 35 #[.int .i64 1, .int .i64 0, .string ⟨#[105]⟩, .slice none 0 0])
    (h1 : Blk w g1 28 #[.int .i64 0, .string ⟨#[120]⟩, .slice (some ⟨g0, 0, none⟩) 1 1, .int .i64 0, .int .i64 0, .slice none 0 0, .slice none 0 0])
    (h2 : Blk w g2 28 #[.int .i64 3, .string ⟨#[105]⟩, .slice none 0 0, .int .i64 1, .int .i64 3, .slice (some ⟨g1, 0, none⟩) 1 1, .slice none 0 0])
    (l0 : g0 < B) (l1 : g1 < B) (l2 : g2 < B) : Els w B 7 (SC w B 3) (some ⟨g2, 0, none⟩) 1 [27] := by
  have e0 : Els w B 4 (EC w B 1) (some ⟨g0, 0, none⟩) 1 [1] := Els.of_blk h0 l0 rfl (by omega) rfl (fun i hi => by
    match i, hi with
    | 0, _ => exact EC_leaf w B 0 1 0 _ 0 (.inr rfl))
  have e1 : Els w B 7 (SC w B 2) (some ⟨g1, 0, none⟩) 1 [4] := Els.of_blk h1 l1 rfl (by omega) rfl (fun i hi => by
    match i, hi with
    | 0, _ => exact ⟨0, 0, 0, _, _, _, _, 1, 0, 0, 1, 0, 0, [1], [], [], rfl, by omega, e0, Els.none_ _ _ _ _ _, Els.none_ _ _ _ _ _, rfl⟩)
  exact Els.of_blk h2 l2 rfl (by omega) rfl (fun i hi => by
    match i, hi with
    | 0, _ => exact ⟨3, 1, 3, _, _, _, _, 0, 1, 0, 0, 1, 0, [], [4], [], rfl, by omega, Els.none_ _ _ _ _ _, e1, Els.none_ _ _ _ _ _, rfl⟩)

set_option maxRecDepth 100000 in
theorem name_any (s : ByteArray) (w : World) :
    Calls Try.prog 16 #[.string s] w fun e w' => e = .returned (.agg #[.int .i64 1, .int .i64 0, .string s, .slice none 0 0]) ∧ Below w.heap.size w w' := by
  go_enter Try.func16, Try.ntmps16
  go_wp2
  exact bodyPost_ret (v := .agg #[.int .i64 1, .int .i64 0, .string s, .slice none 0 0]) (by simp [results, Try.results16, go_sem]) rfl ⟨rfl, (Below.refl _ _).alloc (Nat.le_refl _) _⟩
set_option maxRecDepth 100000 in
theorem number_any (z : Int) (w : World) :
    Calls Try.prog 17 #[.int .i64 z] w fun e w' => e = .returned (.agg #[.int .i64 0, .int .i64 z, .string ⟨#[]⟩, .slice none 0 0]) ∧ Below w.heap.size w w' := by
  go_enter Try.func17, Try.ntmps17
  go_wp2
  exact bodyPost_ret (v := .agg #[.int .i64 0, .int .i64 z, .string ⟨#[]⟩, .slice none 0 0]) (by simp [results, Try.results17, go_sem]) rfl ⟨rfl, (Below.refl _ _).alloc (Nat.le_refl _) _⟩

set_option maxHeartbeats 2000000 in
set_option maxRecDepth 100000 in
theorem known_any (w : World) : Calls Try.prog 10 #[] w (Tells w true) := by
  go_enter Try.func10, Try.ntmps10
  go_wp2_with fail
  refine (name_any _ _).mono ?_
  rintro e w1 ⟨rfl, b1⟩
  go_wp2_with fail
  refine (number_any _ _).mono ?_
  rintro e w2 ⟨rfl, b2⟩
  go_wp2_with fail
  refine (name_any _ _).mono ?_
  rintro e w3 ⟨rfl, b3⟩
  obtain ⟨p0, p1, p2, p3⟩ := blks3 b3
  clear b3
  go_wp2_with fail
  obtain ⟨s0, s1, s2, s3⟩ := blks3 (Below.refl (((w3.alloc (Obj.cells #[Value.int .i64 1, .int .i64 0, .string ⟨#[105]⟩, .slice none 0 0] 35)).alloc (Obj.cells #[Value.int .i64 0, .string ⟨#[120]⟩, .slice (some ⟨w3.heap.size, 0, none⟩) 1 1, .int .i64 0, .int .i64 0, .slice none 0 0, .slice none 0 0] 28)).alloc (Obj.cells #[Value.int .i64 3, .string ⟨#[105]⟩, .slice none 0 0, .int .i64 1, .int .i64 3, .slice (some ⟨w3.heap.size + 1, 0, none⟩) 1 1, .slice none 0 0] 28)).heap.size _)
  have q0 := p0.below s3 p0.lt
  have q1 := p1.below s3 p1.lt
  have q2 := p2.below s3 p2.lt
  have z3 := s3.size
  have hw : Below w.heap.size w _ := ((b1.then_ b2).then_ p3).then_ s3
  have ea := known_a q0 q1 q2 q0.lt q1.lt q2.lt
  have eb := known_b s0 s1 s2 s0.lt s1.lt s2.lt
  refine (Block_any 3 _ _ _ _ _ ea).mono ?_
  rintro e w4 ⟨rfl, b4⟩
  have c7 : ((capT ([7] : List Nat).sum : Nat) : Int) = 7 := rfl
  rw [c7]
  go_wp2_with fail
  refine (Block_any 3 _ _ _ _ _ (eb.keep b4 b4.size (SC.keep b4 b4.size 3))).mono ?_
  rintro e w5 ⟨rfl, b5⟩
  have c27 : ((capT ([27] : List Nat).sum : Nat) : Int) = 27 := rfl
  rw [c27]
  go_wp2_with fail
  refine (rounds_any _ _ (by omega) (by omega)).mono ?_
  rintro e w6 ⟨rfl, rfl⟩
  have c3 : ((rounds 5 : Nat) : Int) = 3 := by decide
  rw [c3]
  go_wp2_with fail
  go_ret
  exact ⟨rfl, (hw.then_ b4).then_ b5⟩
end Go.Proofs.Ytenpdmahjefoaaa
