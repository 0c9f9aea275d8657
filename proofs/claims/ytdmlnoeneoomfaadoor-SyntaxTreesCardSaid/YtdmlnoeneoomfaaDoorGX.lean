
/-
  The document's digits, ops, levels. The document's Text. (Printed by wip/tools/geng5.py.) The document's Text at an operation of two. (Printed by wip/tools/geng6.py.)
-/
import Derived.Test.YtdmlnoeneoomfaaDoorPW
import Derived.Test.YtdmlnoeneoomfaaDoorL10
import Derived.Test.YtdmlnoeneoomfaaDoorS10
import Derived.IntWalk
import Derived.Test.YtdmlnoeneoomfaaDoorGW
import Derived.Deep.RegionHeld3
import Derived.Deep.LoopGhost
namespace Go.Proofs.YtdmlnoeneoomfaaDoor
open Go.RowKit

theorem digs_small {n : Nat} (h : n < 10) : digs n = [UInt8.ofNat (48 + n)] := by
  unfold digs
  rw [digF, if_pos h]
theorem digs_len {n : Nat} : (digs n).length ≤ 20 := by
  have : ∀ f n, (digF f n).length ≤ f := by
    intro f
    induction f with
    | zero => intro n; simp [digF]
    | succ f ih =>
      intro n
      rw [digF]
      split
      · simp
      · have := ih (n / 10)
        simp
        omega
  exact this 20 n
def DigOk (n : Nat) : Prop := ∀ w, Calls Tryd.prog 27 #[.int .i64 (n : Int)] w fun e w' => e = .returned (.string (str (digs n))) ∧ Below w.heap.size w w'
set_option maxHeartbeats 2000000 in
set_option maxRecDepth 100000 in
theorem digits_small (n : Nat) (h : n < 10) : DigOk n := by
  intro w
  have t0 : decide ((n : Int) < 10) = true := by simp; omega
  have t1 : (n : Int) < 10 := by omega
  have hcv := conv_one w (48 + (n : Int)) (by omega) (by omega)
  rw [show (48 + (n : Int)).toNat = 48 + n from by omega, ← digs_small h] at hcv
  obtain ⟨D, hD⟩ : ∃ D, str (digs n) = D := ⟨_, rfl⟩
  rw [hD] at hcv ⊢
  have u1 : IntKind.u8.wrap (48 + (n : Int)) = 48 + (n : Int) := by rw [IntKind.wrap_u8]; omega
  have u2 : IntKind.i64.wrap (48 + (n : Int)) = 48 + (n : Int) := IntWalk.i64_in _ ⟨by omega, by omega⟩
  clear hD
  go_enter Tryd.func27, Tryd.ntmps27
  go_wp2_with fail
  go_ret
  exact ⟨rfl, (Below.refl _ w).al _⟩
set_option maxHeartbeats 2000000 in
set_option maxRecDepth 100000 in
theorem digits_step (n : Nat) (h : ¬ n < 10) (hn : n ≤ 2147483647) (H1 : DigOk (n / 10)) (H2 : DigOk (n % 10)) : DigOk n := by
  intro w
  have t0 : decide ((n : Int) < 10) = false := by simp; omega
  have t1 : ¬ (n : Int) < 10 := by omega
  have d1 : ((n : Int)).tdiv 10 = ((n / 10 : Nat) : Int) := by rw [Int.tdiv_eq_ediv_of_nonneg (by omega)]; omega
  have d2 : ((n : Int)).tmod 10 = ((n % 10 : Nat) : Int) := by rw [Int.tmod_eq_emod_of_nonneg (by omega)]; omega
  have d3 : ((n : Int)) / 10 = ((n / 10 : Nat) : Int) := by omega
  have d4 : ((n : Int)) % 10 = ((n % 10 : Nat) : Int) := by omega
  have hap := str_append (digs (n / 10)) (digs (n % 10))
  have l1 : (str (digs (n / 10))).size ≤ 20 := by rw [str_size]; exact digs_len
  have l2 : (str (digs (n % 10))).size ≤ 20 := by rw [str_size]; exact digs_len
  rw [digs_small (n := n % 10) (Nat.mod_lt _ (by omega)), ← digs_step h (by omega)] at hap
  have K1 := Lib.hid H1
  have K2 := Lib.hid H2
  unfold DigOk at K1 K2
  rw [digs_small (n := n % 10) (Nat.mod_lt _ (by omega))] at l2 K2
  obtain ⟨p, hp⟩ : ∃ p, n / 10 = p := ⟨_, rfl⟩
  obtain ⟨q, hq⟩ : ∃ q, n % 10 = q := ⟨_, rfl⟩
  rw [hp] at d1 d3 hap l1 K1
  rw [hq] at d2 d4 hap l2 K2
  have e1 : IntKind.i64.wrap (p : Int) = (p : Int) := IntWalk.i64_in _ ⟨by omega, by omega⟩
  generalize str (digs p) = A at *
  generalize str [UInt8.ofNat (48 + q)] = B at *
  generalize str (digs n) = C at *
  have z1 : ¬ (9223372036854775807 < A.size + B.size) := by omega
  clear hp hq H1 H2
  go_enter Tryd.func27, Tryd.ntmps27
  go_wp2_with fail
  refine (K1.out _).mono ?_
  rintro e w1 ⟨rfl, b1⟩
  go_wp2_with fail
  refine (K2.out _).mono ?_
  rintro e w2 ⟨rfl, b2⟩
  go_wp2_with fail
  go_ret
  exact ⟨rfl, b1.trans (b2.mono b1.size)⟩
theorem digits_all : ∀ (k n : Nat), n < 10 ^ (k + 1) → n ≤ 2147483647 → DigOk n
  | 0, n, h, _ => digits_small n (by simpa using h)
  | k + 1, n, h, hn => by
    by_cases h10 : n < 10
    · exact digits_small n h10
    · have h1 : n / 10 < 10 ^ (k + 1) := by rw [Nat.pow_succ] at h; omega
      exact digits_step n h10 hn (digits_all k _ h1 (by omega)) (digits_small _ (Nat.mod_lt _ (by omega)))
theorem digits_any (n : Nat) (hn : n ≤ 2147483647) : DigOk n := digits_all 9 n (by omega) hn

def lvN : Nat → Nat
  | 0 => 1
  | 1 => 1
  | 2 => 6
  | 3 => 2
  | _ => 3
def opsRow (k : Nat) : List Value := (lvlT k).map fun p => .int .i64 p.2
def marksRow (k : Nat) : List Value := (lvlT k).map fun p => .string (str p.1)
/-- What ops, and levels, give: five rows. -/
def FiveTo (row : Nat → List Value) (t t2 : TypeId) (w : World) (e : Ending) (w' : World) : Prop := ∃ g : Nat, e = .returned (.slice (some ⟨g, 0, none⟩) 5 5) ∧ Below w.heap.size w w' ∧ ∃ r : Nat → Nat, Blk w' g t2 #[.slice (some ⟨r 0, 0, none⟩) (lvN 0) (lvN 0), .slice (some ⟨r 1, 0, none⟩) (lvN 1) (lvN 1), .slice (some ⟨r 2, 0, none⟩) (lvN 2) (lvN 2), .slice (some ⟨r 3, 0, none⟩) (lvN 3) (lvN 3), .slice (some ⟨r 4, 0, none⟩) (lvN 4) (lvN 4)] ∧ ∀ k, k < 5 → Blk w' (r k) t (row k).toArray
theorem six_new (w : World) (t t2 : TypeId) (a0 a1 a2 a3 a4 b : Array Value) :
    Below w.heap.size w ((((((w.alloc (.cells a0 t)).alloc (.cells a1 t)).alloc (.cells a2 t)).alloc (.cells a3 t)).alloc (.cells a4 t)).alloc (.cells b t2)) ∧
    Blk ((((((w.alloc (.cells a0 t)).alloc (.cells a1 t)).alloc (.cells a2 t)).alloc (.cells a3 t)).alloc (.cells a4 t)).alloc (.cells b t2)) (w.heap.size + 5) t2 b ∧
    Blk ((((((w.alloc (.cells a0 t)).alloc (.cells a1 t)).alloc (.cells a2 t)).alloc (.cells a3 t)).alloc (.cells a4 t)).alloc (.cells b t2)) w.heap.size t a0 ∧
    Blk ((((((w.alloc (.cells a0 t)).alloc (.cells a1 t)).alloc (.cells a2 t)).alloc (.cells a3 t)).alloc (.cells a4 t)).alloc (.cells b t2)) (w.heap.size + 1) t a1 ∧
    Blk ((((((w.alloc (.cells a0 t)).alloc (.cells a1 t)).alloc (.cells a2 t)).alloc (.cells a3 t)).alloc (.cells a4 t)).alloc (.cells b t2)) (w.heap.size + 2) t a2 ∧
    Blk ((((((w.alloc (.cells a0 t)).alloc (.cells a1 t)).alloc (.cells a2 t)).alloc (.cells a3 t)).alloc (.cells a4 t)).alloc (.cells b t2)) (w.heap.size + 3) t a3 ∧
    Blk ((((((w.alloc (.cells a0 t)).alloc (.cells a1 t)).alloc (.cells a2 t)).alloc (.cells a3 t)).alloc (.cells a4 t)).alloc (.cells b t2)) (w.heap.size + 4) t a4 := by
  have b1 : Below w.heap.size w (w.alloc (.cells a0 t)) := (Below.refl _ w).al _
  have b2 := b1.alloc (o := .cells a1 t) b1.size
  have b3 := b2.alloc (o := .cells a2 t) b2.size
  have b4 := b3.alloc (o := .cells a3 t) b3.size
  have b5 := b4.alloc (o := .cells a4 t) b4.size
  have b6 := b5.alloc (o := .cells b t2) b5.size
  obtain ⟨x0, x1, x2⟩ := three_new w t t t a0 a1 a2
  have z3 : (((w.alloc (.cells a0 t)).alloc (.cells a1 t)).alloc (.cells a2 t)).heap.size = w.heap.size + 3 := by simp
  obtain ⟨y0, y1, y2⟩ := three_new (((w.alloc (.cells a0 t)).alloc (.cells a1 t)).alloc (.cells a2 t)) t t t2 a3 a4 b
  rw [z3] at y0 y1 y2
  exact ⟨b6, y2, ((x0.alloc _).alloc _).alloc _, ((x1.alloc _).alloc _).alloc _, ((x2.alloc _).alloc _).alloc _, y0, y1⟩
set_option maxHeartbeats 2000000 in
set_option maxRecDepth 100000 in
theorem ops_any (w : World) : Calls Tryd.prog 28 #[] w (FiveTo opsRow 3 45 w) := by
  go_enter Tryd.func28, Tryd.ntmps28
  go_wp2_with fail
  go_ret
  obtain ⟨h0, h1, h2, h3, h4, h5, h6⟩ := six_new w 3 45 #[.int .i64 17] #[.int .i64 16] #[.int .i64 10, .int .i64 11, .int .i64 12, .int .i64 13, .int .i64 14, .int .i64 15] #[.int .i64 8, .int .i64 9] #[.int .i64 5, .int .i64 6, .int .i64 7] #[.slice (some ⟨w.heap.size, 0, none⟩) 1 1, .slice (some ⟨w.heap.size + 1, 0, none⟩) 1 1, .slice (some ⟨w.heap.size + 2, 0, none⟩) 6 6, .slice (some ⟨w.heap.size + 3, 0, none⟩) 2 2, .slice (some ⟨w.heap.size + 4, 0, none⟩) 3 3]
  refine ⟨w.heap.size + 5, rfl, h0, fun k => w.heap.size + k, h1, fun k hk => ?_⟩
  match k, hk with
  | 0, _ => exact h2
  | 1, _ => exact h3
  | 2, _ => exact h4
  | 3, _ => exact h5
  | 4, _ => exact h6
  | k + 5, h => exact absurd h (by omega)
set_option maxHeartbeats 2000000 in
set_option maxRecDepth 100000 in
theorem levels_any (w : World) : Calls Tryd.prog 29 #[] w (FiveTo marksRow 9 44 w) := by
  go_enter Tryd.func29, Tryd.ntmps29
  go_wp2_with fail
  go_ret
  obtain ⟨h0, h1, h2, h3, h4, h5, h6⟩ := six_new w 9 44 #[.string ⟨#[111, 114]⟩] #[.string ⟨#[97, 110, 100]⟩] #[.string ⟨#[61]⟩, .string ⟨#[33, 61]⟩, .string ⟨#[60]⟩, .string ⟨#[60, 61]⟩, .string ⟨#[62]⟩, .string ⟨#[62, 61]⟩] #[.string ⟨#[43]⟩, .string ⟨#[45]⟩] #[.string ⟨#[42]⟩, .string ⟨#[47]⟩, .string ⟨#[37]⟩] #[.slice (some ⟨w.heap.size, 0, none⟩) 1 1, .slice (some ⟨w.heap.size + 1, 0, none⟩) 1 1, .slice (some ⟨w.heap.size + 2, 0, none⟩) 6 6, .slice (some ⟨w.heap.size + 3, 0, none⟩) 2 2, .slice (some ⟨w.heap.size + 4, 0, none⟩) 3 3]
  refine ⟨w.heap.size + 5, rfl, h0, fun k => w.heap.size + k, h1, fun k hk => ?_⟩
  match k, hk with
  | 0, _ => exact h2
  | 1, _ => exact h3
  | 2, _ => exact h4
  | 3, _ => exact h5
  | 4, _ => exact h6
  | k + 5, h => exact absurd h (by omega)
end Go.Proofs.YtdmlnoeneoomfaaDoor
namespace Go.Proofs.YtdmlnoeneoomfaaDoor
open Go.RowKit

def TextOk (M : Nat) (x : Ex) : Prop := ∀ (D : Nat → Prop) (n : Nat) (op N : Int) (nm : ByteArray) (A : Option Addr) (l c : Nat) (w : World), GC D w M n [.int .i64 op, .int .i64 N, .string nm, .slice A l c] x.gx →
  Calls Tryd.prog 14 #[.agg #[.int .i64 op, .int .i64 N, .string nm, .slice A l c]] w fun e w' => e = .returned (.string (str (textX x))) ∧ Below w.heap.size w w'
/-- The first part. -/
theorem GC.parts {D : Nat → Prop} {w : World} {M n : Nat} {op N op0 N0 : Int} {nm nm0 : ByteArray} {A : Option Addr} {l c : Nat} {gs : List Gx} (h : GC D w M n [.int .i64 op, .int .i64 N, .string nm, .slice A l c] (.mk op0 N0 nm0 gs)) :
    op = op0 ∧ N = N0 ∧ nm = nm0 ∧ l = gs.length ∧ ∃ q, ElsG D w 4 M (GC D w M q) A l gs := by
  cases n with
  | zero => exact absurd h id
  | succ q =>
    obtain ⟨A', l', c', hcs, hel⟩ := h
    injection hcs with q1 hcs
    injection hcs with q2 hcs
    injection hcs with q3 hcs
    injection hcs with q4 _
    injection q1 with _ q1
    injection q2 with _ q2
    injection q3 with q3
    injection q4 with q4 q5 q6
    subst q1 q2 q3 q4 q5 q6
    refine ⟨rfl, rfl, rfl, ?_, q, hel⟩
    obtain ⟨_, _, _, _, h, _⟩ := hel
    exact h.symm
theorem ElsG.at_ {D : Nat → Prop} {w : World} {M q : Nat} {A : Option Addr} {l : Nat} {gs : List Gx} (h : ElsG D w 4 M (GC D w M q) A l gs) {i : Nat} (hi : i < gs.length) (hl : l = gs.length) :
    ∃ (b o : Nat) (op N : Int) (nm : ByteArray) (A' : Option Addr) (l' c' : Nat), A = some ⟨b, o, none⟩ ∧ b < w.heap.size ∧ GC D w M q [.int .i64 op, .int .i64 N, .string nm, .slice A' l' c'] (gs[i]'hi) ∧
      w.cell? ⟨b, o + i * 4, none⟩ = some (.int .i64 op) ∧ w.cell? ⟨b, o + i * 4 + 1, none⟩ = some (.int .i64 N) ∧ w.cell? ⟨b, o + i * 4 + 2, none⟩ = some (.string nm) ∧ w.cell? ⟨b, o + i * 4 + 3, none⟩ = some (.slice A' l' c') := by
  obtain ⟨xs, h1, -, -, -, h5⟩ := h
  have hc := h5 i hi
  obtain ⟨op, N, nm, A', l', c', hcs⟩ := hc.form
  obtain ⟨b, o, hA, hb, hq⟩ := h1.chunk (by omega) (show i < l by omega) hcs
  rw [hcs] at hc
  exact ⟨b, o, op, N, nm, A', l', c', hA, hb, hc, hq 0 _ rfl, hq 1 _ rfl, hq 2 _ rfl, hq 3 _ rfl⟩
set_option maxHeartbeats 4000000 in
set_option maxRecDepth 100000 in
theorem text_num (M m : Nat) (hm : m ≤ 2147483647) : TextOk M (.num m) := by
  intro D n op N nm A l c w h
  obtain ⟨rfl, rfl, rfl, hl, q, hel⟩ := GC.parts h
  clear hl hel h
  rw [textX_num, Int.toNat_natCast]
  have DG := Lib.hid (digits_any m hm)
  unfold DigOk at DG
  have f0 : Below w.heap.size w (w.alloc (.cells #[.int .i64 0, .int .i64 (m : Int), .string ⟨#[]⟩, .slice A l c] 34)) := (Below.refl _ w).al _
  have x0 := Blk.new w 34 #[.int .i64 0, .int .i64 (m : Int), .string ⟨#[]⟩, .slice A l c]
  have F0 := Lib.hid f0
  have X0 := Lib.hid x0
  clear f0 x0
  go_enter Tryd.func14, Tryd.ntmps14
  go_upto_region 1 with fail
  generalize w.alloc (.cells #[.int .i64 0, .int .i64 (m : Int), .string ⟨#[]⟩, .slice A l c] 34) = W0 at *
  have s0 : W0.cell? ⟨w.heap.size, 0, none⟩ = some (.int .i64 0) := X0.out.cell 0
  have s1 : W0.cell? ⟨w.heap.size, 1, none⟩ = some (.int .i64 (m : Int)) := X0.out.cell 1
  have s2 : W0.cell? ⟨w.heap.size, 2, none⟩ = some (.string ⟨#[]⟩) := X0.out.cell 2
  have s3 : W0.cell? ⟨w.heap.size, 3, none⟩ = some (.slice A l c) := X0.out.cell 3
  go_wp2_with fail
  refine (DG.out _).mono ?_
  rintro e w1 ⟨rfl, b1⟩
  go_wp2_with fail
  go_ret
  exact ⟨rfl, F0.out.trans (b1.mono F0.out.size)⟩
set_option maxHeartbeats 4000000 in
set_option maxRecDepth 100000 in
theorem text_nam (M : Nat) (t : List UInt8) : TextOk M (.nam t) := by
  intro D n op N nm A l c w h
  obtain ⟨rfl, rfl, rfl, hl, q, hel⟩ := GC.parts h
  clear hl hel h
  rw [textX_nam]
  have f0 : Below w.heap.size w (w.alloc (.cells #[.int .i64 1, .int .i64 0, .string (str t), .slice A l c] 34)) := (Below.refl _ w).al _
  have x0 := Blk.new w 34 #[.int .i64 1, .int .i64 0, .string (str t), .slice A l c]
  have F0 := Lib.hid f0
  have X0 := Lib.hid x0
  clear f0 x0
  go_enter Tryd.func14, Tryd.ntmps14
  go_upto_region 1 with fail
  generalize w.alloc (.cells #[.int .i64 1, .int .i64 0, .string (str t), .slice A l c] 34) = W0 at *
  have s0 : W0.cell? ⟨w.heap.size, 0, none⟩ = some (.int .i64 1) := X0.out.cell 0
  have s1 : W0.cell? ⟨w.heap.size, 1, none⟩ = some (.int .i64 0) := X0.out.cell 1
  have s2 : W0.cell? ⟨w.heap.size, 2, none⟩ = some (.string (str t)) := X0.out.cell 2
  have s3 : W0.cell? ⟨w.heap.size, 3, none⟩ = some (.slice A l c) := X0.out.cell 3
  go_wp2_with fail
  go_ret
  exact ⟨rfl, F0.out⟩
set_option maxHeartbeats 4000000 in
set_option maxRecDepth 100000 in
theorem text_neg (M : Nat) (e : Ex) (H : TextOk M e) (hz : (textX e).length ≤ 1000000) : TextOk M (.neg e) := by
  intro D n op N nm A l c w h
  obtain ⟨rfl, rfl, rfl, hl, q, hel⟩ := GC.parts h
  obtain ⟨b, o, op1, N1, nm1, A1, l1, c1, rfl, hb, hg, p0, p1, p2, p3⟩ := hel.at_ (i := 0) (by simp) hl
  rw [Nat.zero_mul, Nat.add_zero] at p0 p1 p2 p3
  have hg' : GC D w M q [.int .i64 op1, .int .i64 N1, .string nm1, .slice A1 l1 c1] e.gx := hg
  have TX := Lib.hid (fun W hW => H D q op1 N1 nm1 A1 l1 c1 W (hg'.below (w' := W) hW))
  have hl1 : l = 1 := hl
  subst hl1
  have hap : ⟨#[45, 40]⟩ ++ str (textX e) ++ ⟨#[41]⟩ = str (textX (.neg e)) := by
    rw [textX_neg, ← str_append, ← str_append]
    rfl
  have hsz : (str (textX e)).size ≤ 1000000 := by rw [str_size]; exact hz
  generalize str (textX (.neg e)) = R at *
  generalize str (textX e) = S at *
  have z1 : ¬ (9223372036854775807 < 2 + S.size) := by omega
  have z2 : ¬ (9223372036854775807 < 2 + S.size + 1) := by omega
  have f0 : Below w.heap.size w (w.alloc (.cells #[.int .i64 3, .int .i64 0, .string ⟨#[]⟩, .slice (some ⟨b, o, none⟩) 1 c] 34)) := (Below.refl _ w).al _
  have x0 := Blk.new w 34 #[.int .i64 3, .int .i64 0, .string ⟨#[]⟩, .slice (some ⟨b, o, none⟩) 1 c]
  have F0 := Lib.hid f0
  have X0 := Lib.hid x0
  clear f0 x0 h hel hl hg hg' H
  go_enter Tryd.func14, Tryd.ntmps14
  go_upto_region 1 with fail
  generalize w.alloc (.cells #[.int .i64 3, .int .i64 0, .string ⟨#[]⟩, .slice (some ⟨b, o, none⟩) 1 c] 34) = W0 at *
  have s0 : W0.cell? ⟨w.heap.size, 0, none⟩ = some (.int .i64 3) := X0.out.cell 0
  have s1 : W0.cell? ⟨w.heap.size, 1, none⟩ = some (.int .i64 0) := X0.out.cell 1
  have s2 : W0.cell? ⟨w.heap.size, 2, none⟩ = some (.string ⟨#[]⟩) := X0.out.cell 2
  have s3 : W0.cell? ⟨w.heap.size, 3, none⟩ = some (.slice (some ⟨b, o, none⟩) 1 c) := X0.out.cell 3
  have u0 : W0.cell? ⟨b, o, none⟩ = some (.int .i64 op1) := (F0.out.cell (p := ⟨b, o, none⟩) hb).trans p0
  have u1 : W0.cell? ⟨b, o + 1, none⟩ = some (.int .i64 N1) := (F0.out.cell (p := ⟨b, o + 1, none⟩) hb).trans p1
  have u2 : W0.cell? ⟨b, o + 2, none⟩ = some (.string nm1) := (F0.out.cell (p := ⟨b, o + 2, none⟩) hb).trans p2
  have u3 : W0.cell? ⟨b, o + 3, none⟩ = some (.slice A1 l1 c1) := (F0.out.cell (p := ⟨b, o + 3, none⟩) hb).trans p3
  clear p0 p1 p2 p3
  go_wp2_with fail
  refine (TX.out _ F0.out).mono ?_
  rintro e w1 ⟨rfl, b1⟩
  go_wp2_with fail
  go_ret
  exact ⟨by first | rfl | rw [← hap], F0.out.trans (b1.mono F0.out.size)⟩
set_option maxHeartbeats 4000000 in
set_option maxRecDepth 100000 in
theorem text_non (M : Nat) (e : Ex) (H : TextOk M e) (hz : (textX e).length ≤ 1000000) : TextOk M (.non e) := by
  intro D n op N nm A l c w h
  obtain ⟨rfl, rfl, rfl, hl, q, hel⟩ := GC.parts h
  obtain ⟨b, o, op1, N1, nm1, A1, l1, c1, rfl, hb, hg, p0, p1, p2, p3⟩ := hel.at_ (i := 0) (by simp) hl
  rw [Nat.zero_mul, Nat.add_zero] at p0 p1 p2 p3
  have hg' : GC D w M q [.int .i64 op1, .int .i64 N1, .string nm1, .slice A1 l1 c1] e.gx := hg
  have TX := Lib.hid (fun W hW => H D q op1 N1 nm1 A1 l1 c1 W (hg'.below (w' := W) hW))
  have hl1 : l = 1 := hl
  subst hl1
  have hap : ⟨#[110, 111, 116, 40]⟩ ++ str (textX e) ++ ⟨#[41]⟩ = str (textX (.non e)) := by
    rw [textX_non, ← str_append, ← str_append]
    rfl
  have hsz : (str (textX e)).size ≤ 1000000 := by rw [str_size]; exact hz
  generalize str (textX (.non e)) = R at *
  generalize str (textX e) = S at *
  have z1 : ¬ (9223372036854775807 < 4 + S.size) := by omega
  have z2 : ¬ (9223372036854775807 < 4 + S.size + 1) := by omega
  have f0 : Below w.heap.size w (w.alloc (.cells #[.int .i64 4, .int .i64 0, .string ⟨#[]⟩, .slice (some ⟨b, o, none⟩) 1 c] 34)) := (Below.refl _ w).al _
  have x0 := Blk.new w 34 #[.int .i64 4, .int .i64 0, .string ⟨#[]⟩, .slice (some ⟨b, o, none⟩) 1 c]
  have F0 := Lib.hid f0
  have X0 := Lib.hid x0
  clear f0 x0 h hel hl hg hg' H
  go_enter Tryd.func14, Tryd.ntmps14
  go_upto_region 1 with fail
  generalize w.alloc (.cells #[.int .i64 4, .int .i64 0, .string ⟨#[]⟩, .slice (some ⟨b, o, none⟩) 1 c] 34) = W0 at *
  have s0 : W0.cell? ⟨w.heap.size, 0, none⟩ = some (.int .i64 4) := X0.out.cell 0
  have s1 : W0.cell? ⟨w.heap.size, 1, none⟩ = some (.int .i64 0) := X0.out.cell 1
  have s2 : W0.cell? ⟨w.heap.size, 2, none⟩ = some (.string ⟨#[]⟩) := X0.out.cell 2
  have s3 : W0.cell? ⟨w.heap.size, 3, none⟩ = some (.slice (some ⟨b, o, none⟩) 1 c) := X0.out.cell 3
  have u0 : W0.cell? ⟨b, o, none⟩ = some (.int .i64 op1) := (F0.out.cell (p := ⟨b, o, none⟩) hb).trans p0
  have u1 : W0.cell? ⟨b, o + 1, none⟩ = some (.int .i64 N1) := (F0.out.cell (p := ⟨b, o + 1, none⟩) hb).trans p1
  have u2 : W0.cell? ⟨b, o + 2, none⟩ = some (.string nm1) := (F0.out.cell (p := ⟨b, o + 2, none⟩) hb).trans p2
  have u3 : W0.cell? ⟨b, o + 3, none⟩ = some (.slice A1 l1 c1) := (F0.out.cell (p := ⟨b, o + 3, none⟩) hb).trans p3
  clear p0 p1 p2 p3
  go_wp2_with fail
  refine (TX.out _ F0.out).mono ?_
  rintro e w1 ⟨rfl, b1⟩
  go_wp2_with fail
  go_ret
  exact ⟨by first | rfl | rw [← hap], F0.out.trans (b1.mono F0.out.size)⟩
set_option maxHeartbeats 4000000 in
set_option maxRecDepth 100000 in
theorem text_idx (M : Nat) (t : List UInt8) (e : Ex) (H : TextOk M e) (hz : (textX e).length ≤ 1000000) (ht : t.length ≤ 1000000) : TextOk M (.idx t e) := by
  intro D n op N nm A l c w h
  obtain ⟨rfl, rfl, rfl, hl, q, hel⟩ := GC.parts h
  obtain ⟨b, o, op1, N1, nm1, A1, l1, c1, rfl, hb, hg, p0, p1, p2, p3⟩ := hel.at_ (i := 0) (by simp) hl
  rw [Nat.zero_mul, Nat.add_zero] at p0 p1 p2 p3
  have hg' : GC D w M q [.int .i64 op1, .int .i64 N1, .string nm1, .slice A1 l1 c1] e.gx := hg
  have TX := Lib.hid (fun W hW => H D q op1 N1 nm1 A1 l1 c1 W (hg'.below (w' := W) hW))
  have hl1 : l = 1 := hl
  subst hl1
  have hap : str t ++ ⟨#[91]⟩ ++ str (textX e) ++ ⟨#[93]⟩ = str (textX (.idx t e)) := by
    rw [textX_idx, ← str_append, ← str_append, ← str_append]
    rfl
  have hsz : (str (textX e)).size ≤ 1000000 := by rw [str_size]; exact hz
  have hst : (str t).size ≤ 1000000 := by rw [str_size]; exact ht
  generalize str (textX (.idx t e)) = R at *
  generalize str (textX e) = S at *
  generalize str t = T at *
  have z1 : ¬ (9223372036854775807 < T.size + 1) := by omega
  have z2 : ¬ (9223372036854775807 < T.size + 1 + S.size) := by omega
  have z3 : ¬ (9223372036854775807 < T.size + 1 + S.size + 1) := by omega
  have f0 : Below w.heap.size w (w.alloc (.cells #[.int .i64 2, .int .i64 0, .string T, .slice (some ⟨b, o, none⟩) 1 c] 34)) := (Below.refl _ w).al _
  have x0 := Blk.new w 34 #[.int .i64 2, .int .i64 0, .string T, .slice (some ⟨b, o, none⟩) 1 c]
  have F0 := Lib.hid f0
  have X0 := Lib.hid x0
  clear f0 x0 h hel hl hg hg' H
  go_enter Tryd.func14, Tryd.ntmps14
  go_upto_region 1 with fail
  generalize w.alloc (.cells #[.int .i64 2, .int .i64 0, .string T, .slice (some ⟨b, o, none⟩) 1 c] 34) = W0 at *
  have s0 : W0.cell? ⟨w.heap.size, 0, none⟩ = some (.int .i64 2) := X0.out.cell 0
  have s1 : W0.cell? ⟨w.heap.size, 1, none⟩ = some (.int .i64 0) := X0.out.cell 1
  have s2 : W0.cell? ⟨w.heap.size, 2, none⟩ = some (.string T) := X0.out.cell 2
  have s3 : W0.cell? ⟨w.heap.size, 3, none⟩ = some (.slice (some ⟨b, o, none⟩) 1 c) := X0.out.cell 3
  have u0 : W0.cell? ⟨b, o, none⟩ = some (.int .i64 op1) := (F0.out.cell (p := ⟨b, o, none⟩) hb).trans p0
  have u1 : W0.cell? ⟨b, o + 1, none⟩ = some (.int .i64 N1) := (F0.out.cell (p := ⟨b, o + 1, none⟩) hb).trans p1
  have u2 : W0.cell? ⟨b, o + 2, none⟩ = some (.string nm1) := (F0.out.cell (p := ⟨b, o + 2, none⟩) hb).trans p2
  have u3 : W0.cell? ⟨b, o + 3, none⟩ = some (.slice A1 l1 c1) := (F0.out.cell (p := ⟨b, o + 3, none⟩) hb).trans p3
  clear p0 p1 p2 p3
  go_upto_region 7 with fail
  have FD := Lib.hid F0.out.drew
  have qq : W0.cell? ⟨w.heap.size, 2, none⟩ = some (.string T) ∧ W0.cell? ⟨w.heap.size, 3, none⟩ = some (.slice (some ⟨b, o, none⟩) 1 c) ∧ W0.cell? ⟨b, o, none⟩ = some (.int .i64 op1) ∧ W0.cell? ⟨b, o + 1, none⟩ = some (.int .i64 N1) ∧ W0.cell? ⟨b, o + 2, none⟩ = some (.string nm1) ∧ W0.cell? ⟨b, o + 3, none⟩ = some (.slice A1 l1 c1) := ⟨s2, s3, u0, u1, u2, u3⟩
  have hb0 : b < W0.heap.size := Nat.lt_of_lt_of_le hb F0.out.size
  have hx0 := X0.out.lt
  go_region_held3 (fun W => W.cell? ⟨w.heap.size, 2, none⟩ = some (.string T) ∧ W.cell? ⟨w.heap.size, 3, none⟩ = some (.slice (some ⟨b, o, none⟩) 1 c) ∧ W.cell? ⟨b, o, none⟩ = some (.int .i64 op1) ∧ W.cell? ⟨b, o + 1, none⟩ = some (.int .i64 N1) ∧ W.cell? ⟨b, o + 2, none⟩ = some (.string nm1) ∧ W.cell? ⟨b, o + 3, none⟩ = some (.slice A1 l1 c1))
    (first | exact qq | exact q6)
    (first
    | (go_at_call 14; (with_reducible refine (TX.out _ FD.out).mono ?_); rintro e w6 ⟨rfl, b6⟩; have q6 : w6.cell? ⟨w.heap.size, 2, none⟩ = some (.string T) ∧ w6.cell? ⟨w.heap.size, 3, none⟩ = some (.slice (some ⟨b, o, none⟩) 1 c) ∧ w6.cell? ⟨b, o, none⟩ = some (.int .i64 op1) ∧ w6.cell? ⟨b, o + 1, none⟩ = some (.int .i64 N1) ∧ w6.cell? ⟨b, o + 2, none⟩ = some (.string nm1) ∧ w6.cell? ⟨b, o + 3, none⟩ = some (.slice A1 l1 c1) := ⟨(b6.cell (p := ⟨w.heap.size, 2, none⟩) hx0).trans s2, (b6.cell (p := ⟨w.heap.size, 3, none⟩) hx0).trans s3, (b6.cell (p := ⟨b, o, none⟩) hb0).trans u0, (b6.cell (p := ⟨b, o + 1, none⟩) hb0).trans u1, (b6.cell (p := ⟨b, o + 2, none⟩) hb0).trans u2, (b6.cell (p := ⟨b, o + 3, none⟩) hb0).trans u3⟩))
  go_wp2_with fail
  go_ret
  exact ⟨by first | rfl | rw [← hap], FD.out.trans (b6.mono FD.out.size)⟩
end Go.Proofs.YtdmlnoeneoomfaaDoor
namespace Go.Proofs.YtdmlnoeneoomfaaDoor
open Go.RowKit

theorem five_at {w : World} {g : Nat} {t : TypeId} {r : Nat → Nat} (h : Blk w g t #[.slice (some ⟨r 0, 0, none⟩) (lvN 0) (lvN 0), .slice (some ⟨r 1, 0, none⟩) (lvN 1) (lvN 1), .slice (some ⟨r 2, 0, none⟩) (lvN 2) (lvN 2), .slice (some ⟨r 3, 0, none⟩) (lvN 3) (lvN 3), .slice (some ⟨r 4, 0, none⟩) (lvN 4) (lvN 4)]) :
    ∀ {k : Nat}, k < 5 → w.cell? ⟨g, k, none⟩ = some (.slice (some ⟨r k, 0, none⟩) (lvN k) (lvN k))
  | 0, _ => h.cell 0
  | 1, _ => h.cell 1
  | 2, _ => h.cell 2
  | 3, _ => h.cell 3
  | 4, _ => h.cell 4
  | _ + 5, h => absurd h (by omega)
theorem lvN_le (k : Nat) : lvN k ≤ 6 := by
  match k with
  | 0 | 1 | 2 | 3 => decide
  | _ + 4 => exact (by decide : 3 ≤ 6)
theorem row_len : ∀ {k : Nat}, k < 5 → (lvlT k).length = lvN k
  | 0, _ | 1, _ | 2, _ | 3, _ | 4, _ => rfl
  | _ + 5, h => absurd h (by omega)
def rowOp (k i : Nat) : Int := (((lvlT k)[i]?).getD ([], 0)).2
def rowMk (k i : Nat) : List UInt8 := (((lvlT k)[i]?).getD ([], 0)).1
theorem row_ops {k i : Nat} (hk : k < 5) (hi : i < lvN k) : (opsRow k).toArray[i]? = some (.int .i64 (rowOp k i)) := by
  have hl : i < (lvlT k).length := by rw [row_len hk]; exact hi
  simp [opsRow, rowOp, hl]
theorem row_marks {k i : Nat} (hk : k < 5) (hi : i < lvN k) : (marksRow k).toArray[i]? = some (.string (str (rowMk k i))) := by
  have hl : i < (lvlT k).length := by rw [row_len hk]; exact hi
  simp [marksRow, rowMk, hl]
theorem row_mk : ∀ k, k < 5 → ∀ i, i < lvN k → (mkOf (rowOp k i)).text = rowMk k i := by decide
theorem ops_range : ∀ p ∈ allOps, 5 ≤ p.1 ∧ p.1 ≤ 17 := by decide
theorem ops_row : ∀ p ∈ allOps, ∃ k, k < 5 ∧ ∃ i, i < lvN k ∧ rowOp k i = p.1 := by decide
set_option maxHeartbeats 8000000 in
set_option maxRecDepth 100000 in
theorem text_bin (M : Nat) (op0 : Int) (x y : Ex) (hop : ∃ p ∈ allOps, p.1 = op0) (H : TextOk M x) (H2 : TextOk M y) (hz : (textX x).length ≤ 1000000) (hz2 : (textX y).length ≤ 1000000) : TextOk M (.bin op0 x y) := by
  intro D n op N nm A l c w h
  obtain ⟨rfl, rfl, rfl, hl, q, hel⟩ := GC.parts h
  have hl1 : l = 2 := hl
  subst hl1
  obtain ⟨b, o, op1, N1, nm1, A1, l1, c1, rfl, hb, hg, p0, p1, p2, p3⟩ := hel.at_ (i := 0) (by simp) hl
  obtain ⟨b', o', op2, N2, nm2, A2, l2, c2, hA, -, hg2, p4, p5, p6, p7⟩ := hel.at_ (i := 1) (by simp) hl
  cases hA
  rw [Nat.zero_mul, Nat.add_zero] at p0 p1 p2 p3
  rw [Nat.one_mul] at p4 p5 p6 p7
  have hg' : GC D w M q [.int .i64 op1, .int .i64 N1, .string nm1, .slice A1 l1 c1] x.gx := hg
  have hg2' : GC D w M q [.int .i64 op2, .int .i64 N2, .string nm2, .slice A2 l2 c2] y.gx := hg2
  have TX := Lib.hid (fun W hW => H D q op1 N1 nm1 A1 l1 c1 W (hg'.below (w' := W) hW))
  have TY := Lib.hid (fun W hW => H2 D q op2 N2 nm2 A2 l2 c2 W (hg2'.below (w' := W) hW))
  have f0 : Below w.heap.size w (w.alloc (.cells #[.int .i64 op, .int .i64 0, .string ⟨#[]⟩, .slice (some ⟨b, o, none⟩) 2 c] 34)) := (Below.refl _ w).al _
  have x0 := Blk.new w 34 #[.int .i64 op, .int .i64 0, .string ⟨#[]⟩, .slice (some ⟨b, o, none⟩) 2 c]
  have QS : Hid (∀ W, Below w.heap.size w W → Blk W w.heap.size 34 #[.int .i64 op, .int .i64 0, .string ⟨#[]⟩, .slice (some ⟨b, o, none⟩) 2 c] → W.cell? ⟨w.heap.size, 3, none⟩ = some (.slice (some ⟨b, o, none⟩) 2 c) ∧ W.cell? ⟨b, o, none⟩ = some (.int .i64 op1) ∧ W.cell? ⟨b, o + 1, none⟩ = some (.int .i64 N1) ∧ W.cell? ⟨b, o + 2, none⟩ = some (.string nm1) ∧ W.cell? ⟨b, o + 3, none⟩ = some (.slice A1 l1 c1) ∧ W.cell? ⟨b, o + 4, none⟩ = some (.int .i64 op2) ∧ W.cell? ⟨b, o + 5, none⟩ = some (.int .i64 N2) ∧ W.cell? ⟨b, o + 6, none⟩ = some (.string nm2) ∧ W.cell? ⟨b, o + 7, none⟩ = some (.slice A2 l2 c2)) := fun W hW hx => by
    have e := fun (j : Nat) => hW.cell (p := ⟨b, j, none⟩) hb
    exact ⟨hx.cell 3, (e _).trans p0, (e _).trans p1, (e _).trans p2, (e _).trans p3, (e _).trans p4, (e _).trans p5, (e _).trans p6, (e _).trans p7⟩
  have HOP := Lib.hid hop
  have HROW : Hid (∃ k, k < 5 ∧ ∃ i, i < lvN k ∧ rowOp k i = op) := by obtain ⟨p, hp, e⟩ := hop; rw [← e]; exact ops_row p hp
  have hr5 : 5 ≤ op ∧ op ≤ 17 := by obtain ⟨p, hp, e⟩ := hop; rw [← e]; exact ops_range p hp
  obtain ⟨R, hR⟩ : ∃ R, str (textX (.bin op x y)) = R := ⟨_, rfl⟩
  have hap : ⟨#[40]⟩ ++ str (textX x) ++ ⟨#[41, 32]⟩ ++ str (mkOf op).text ++ ⟨#[32, 40]⟩ ++ str (textX y) ++ ⟨#[41]⟩ = R := by
    rw [← hR, textX_bin, ← str_append, ← str_append, ← str_append, ← str_append, ← str_append, ← str_append]
    rfl
  have hsx : (str (textX x)).size ≤ 1000000 := by rw [str_size]; exact hz
  have hsy : (str (textX y)).size ≤ 1000000 := by rw [str_size]; exact hz2
  have hsm : (str (mkOf op).text).size ≤ 3 := by
    obtain ⟨p, hp, e⟩ := hop
    rw [str_size, ← e, (find_ops p hp).1]
    exact (show ∀ p ∈ allOps, p.2.2.text.length ≤ 3 by decide) p hp
  have HMK : Hid (∀ k i, k < 5 → i < lvN k → rowOp k i = op → str (rowMk k i) = str (mkOf op).text) := fun k i hk hi e => by rw [← row_mk k hk i hi, e]
  rw [hR]
  generalize str (textX x) = SX at *
  generalize str (textX y) = SY at *
  generalize str (mkOf op).text = SM at *
  have n0 : (op == 0) = false := by simp; omega
  have n1 : (op == 1) = false := by simp; omega
  have n2 : (op == 2) = false := by simp; omega
  have n3 : (op == 3) = false := by simp; omega
  have n4 : (op == 4) = false := by simp; omega
  have F0 := Lib.hid f0
  have X0 := Lib.hid x0
  clear f0 x0 h hel hl hg hg' hg2 hg2' H H2 p0 p1 p2 p3 p4 p5 p6 p7 hR hop hz hz2
  go_enter Tryd.func14, Tryd.ntmps14
  go_upto_region 1 with fail
  generalize w.alloc (.cells #[.int .i64 op, .int .i64 0, .string ⟨#[]⟩, .slice (some ⟨b, o, none⟩) 2 c] 34) = W0 at *
  have s0 : W0.cell? ⟨w.heap.size, 0, none⟩ = some (.int .i64 op) := X0.out.cell 0
  go_wp2_with fail
  go_loopg [3] 5 (fun gk kv wr => ∃ k : Nat, gk = 5 - k ∧ k ≤ 5 ∧ kv = .int .i64 k ∧ Hid (Below w.heap.size w wr) ∧ Hid (Blk wr w.heap.size 34 #[.int .i64 op, .int .i64 0, .string ⟨#[]⟩, .slice (some ⟨b, o, none⟩) 2 c]) ∧ Hid (∀ m, m < k → ∀ i, i < lvN m → rowOp m i ≠ op))
  case atStart => exact ⟨0, rfl, by omega, rfl, F0.out, X0.out, fun m h => absurd h (by omega)⟩
  case round =>
    obtain ⟨k, hgk, hk, rfl, FB, XB, NO⟩ := hrel
    by_cases hk5 : k < 5
    · clear s0
      have g5 : (k : Int) < 5 := by omega
      go_wp2_with fail
      obtain ⟨W1, rfl⟩ : ∃ x, x = wr := ⟨_, rfl⟩
      obtain ⟨L, hL⟩ : ∃ L, lvN k = L := ⟨_, rfl⟩
      have HL := Lib.hid hL
      have hL6 : L ≤ 6 := by rw [← hL]; exact lvN_le k
      clear hL
      go_loopg [4] L (fun g2 iv wr => ∃ i : Nat, g2 = L - i ∧ i ≤ L ∧ iv = .int .i64 i ∧ Hid (Below W1.heap.size W1 wr) ∧ Hid (∀ j, j < i → rowOp k j ≠ op))
      case atStart => exact ⟨0, rfl, by omega, rfl, Below.refl _ _, fun j h => absurd h (by omega)⟩
      case round =>
        obtain ⟨i, hgi, hiL, rfl, FI, NI⟩ := hrel
        have zB := FB.out.size
        have FBI := Lib.hid (FB.out.trans (FI.out.mono zB))
        have xbi := XB.out.below FI.out XB.out.lt
        have kk1 : (0 : Int) ≤ (k : Int) := by omega
        have ii1 : (0 : Int) ≤ (i : Int) := by omega
        by_cases hi : i < L
        · have ii2 : (i : Int) < (L : Int) := by omega
          have hi5 : i < lvN k := by rw [HL.out]; exact hi
          have HI5 := Lib.hid hi5
          clear hi5
          go_wp2_with fail
          refine (ops_any _).mono ?_
          rintro e w4 ⟨g4, rfl, b4, r4, hB4, -⟩
          have c4 := five_at hB4 hk5
          rw [HL.out] at c4
          have xb4 := xbi.below b4 xbi.lt
          have FB4 := Lib.hid (FBI.out.trans (b4.mono FBI.out.size))
          have FI4 := Lib.hid (FI.out.trans (b4.mono FI.out.size))
          have s0 : w4.cell? ⟨w.heap.size, 0, none⟩ = some (.int .i64 op) := xb4.cell 0
          have hx0r := xb4.lt
          have XB4 := Lib.hid xb4
          clear hB4 b4 xb4 xbi
          go_upto_region 18 with fail
          have hi5 := HI5.out
          by_cases he : rowOp k i = op
          · have hE : (rowOp k i == op) = true := by simp [he]
            have hmk := HMK.out k i hk5 hi5 he
            have HE := Lib.hid he
            clear he
            have q1 : w4.drew.cell? ⟨w.heap.size, 0, none⟩ = some (.int .i64 op) := s0
            refine wp_region_held_drew (S := fun w' => w'.cell? ⟨w.heap.size, 0, none⟩ = some (.int .i64 op)) (by kernel_rfl) q1 (fun hHeld => ?_)
            refine wpAnyH_take (i := 1) (oi := _) (v := ?_) rfl (by kernel_rfl) (by kernel_rfl) (by kernel_rfl) (fun _ _ _ h => h) (Or.inl ⟨by rfl, ?_⟩) (by assumption) ?_
            rotate_left
            · intro w hSw
              (try dsimp only at hSw)
              go_simp
              (try with_reducible rfl)
            try simp only [Act.put, List.setIfInBounds_toArray, List.getElem_toArray]
            refine wpAnyH_take (i := 4) (oi := _) (v := ?_) rfl (by kernel_rfl) (by kernel_rfl) (by kernel_rfl) (fun _ _ _ h => h) (Or.inl ⟨by rfl, ?_⟩) (by assumption) ?_
            rotate_left
            · intro w hSw
              (try dsimp only at hSw)
              go_simp
              (try with_reducible rfl)
            try simp only [Act.put, List.setIfInBounds_toArray, List.set_cons_zero, List.set_cons_succ, List.getElem_toArray, List.getElem_cons_succ, List.getElem_cons_zero]
            refine wpAnyH_take (i := 7) (oi := _) (v := ?_) rfl (by kernel_rfl) (by kernel_rfl) (by kernel_rfl) (fun _ _ _ h => h) (Or.inl ⟨by rfl, ?_⟩) (by assumption) ?_
            rotate_left
            · intro w hSw
              (try dsimp only at hSw)
              go_simp
              (try with_reducible rfl)
            try simp only [Act.put, List.setIfInBounds_toArray, List.set_cons_zero, List.set_cons_succ, List.getElem_toArray, List.getElem_cons_succ, List.getElem_cons_zero]
            refine wpAnyH_take (i := 8) (oi := _) (v := ?_) rfl (by kernel_rfl) (by kernel_rfl) (by kernel_rfl) (fun _ _ _ h => h) (Or.inl ⟨by rfl, ?_⟩) (by assumption) ?_
            rotate_left
            · intro w hSw
              (try dsimp only at hSw)
              go_simp
              (try with_reducible rfl)
            try simp only [Act.put, List.setIfInBounds_toArray, List.set_cons_zero, List.set_cons_succ, List.getElem_toArray, List.getElem_cons_succ, List.getElem_cons_zero]
            refine wpAnyH_ready (rs := [0]) (by kernel_rfl) (by simp) ?_
            refine AllReadyH.cons (o := _) rfl (fun K hK => ?_) AllReadyH.nil
            go_simp
            go_at_call 28
            refine (ops_any _).mono ?_
            rintro e w5 ⟨g5, rfl, b5, r, hB5, hR5⟩
            have c5 := five_at hB5 hk5
            have d5 := (hR5 k hk5).cell i
            rw [row_ops hk5 hi5] at d5
            have q5 : w5.cell? ⟨w.heap.size, 0, none⟩ = some (.int .i64 op) := (b5.cell (p := ⟨w.heap.size, 0, none⟩) hx0r).trans s0
            have FB5 := Lib.hid (FB4.out.drew.trans (b5.mono FB4.out.drew.size))
            have FI5 := Lib.hid (FI4.out.drew.trans (b5.mono FI4.out.drew.size))
            have XB5 := Lib.hid (XB4.out.drew.below b5 XB4.out.lt)
            clear hB5 hR5 b5
            refine hK.out _ _ q5 (fun hHeld => ?_)
            clear hK K
            try simp only [Act.put, List.setIfInBounds_toArray, List.set_cons_zero, List.set_cons_succ, List.getElem_toArray, List.getElem_cons_succ, List.getElem_cons_zero]
            refine wpAnyH_take (i := 2) (oi := _) (v := ?_) rfl (by kernel_rfl) (by kernel_rfl) (by kernel_rfl) (fun _ _ _ h => h) (Or.inl ⟨by rfl, ?_⟩) (by assumption) ?_
            rotate_left
            · intro w hSw
              (try dsimp only at hSw)
              go_simp
              (try with_reducible rfl)
            try simp only [Act.put, List.setIfInBounds_toArray, List.set_cons_zero, List.set_cons_succ, List.getElem_toArray, List.getElem_cons_succ, List.getElem_cons_zero]
            refine wpAnyH_ready (rs := [3]) (by kernel_rfl) (by simp) ?_
            refine AllReadyH.cons (o := _) rfl (fun K hK => ?_) AllReadyH.nil
            go_simp
            refine hK.out _ _ q5 (fun hHeld => ?_)
            clear hK K
            try simp only [Act.put, List.setIfInBounds_toArray, List.set_cons_zero, List.set_cons_succ, List.getElem_toArray, List.getElem_cons_succ, List.getElem_cons_zero]
            refine wpAnyH_take (i := 5) (oi := _) (v := ?_) rfl (by kernel_rfl) (by kernel_rfl) (by kernel_rfl) (fun _ _ _ h => h) (Or.inl ⟨by rfl, ?_⟩) (by assumption) ?_
            rotate_left
            · intro w hSw
              (try dsimp only at hSw)
              go_simp
              (try with_reducible rfl)
            try simp only [Act.put, List.setIfInBounds_toArray, List.set_cons_zero, List.set_cons_succ, List.getElem_toArray, List.getElem_cons_succ, List.getElem_cons_zero]
            refine wpAnyH_ready (rs := [6]) (by kernel_rfl) (by simp) ?_
            refine AllReadyH.cons (o := _) rfl (fun K hK => ?_) AllReadyH.nil
            go_simp
            refine hK.out _ _ q5 (fun hHeld => ?_)
            clear hK K
            try simp only [Act.put, List.setIfInBounds_toArray, List.set_cons_zero, List.set_cons_succ, List.getElem_toArray, List.getElem_cons_succ, List.getElem_cons_zero]
            refine wpAnyH_take (i := 9) (oi := _) (v := ?_) rfl (by kernel_rfl) (by kernel_rfl) (by kernel_rfl) (fun _ _ _ h => h) (Or.inl ⟨by rfl, ?_⟩) (by assumption) ?_
            rotate_left
            · intro w hSw
              (try dsimp only at hSw)
              go_simp
              (try with_reducible rfl)
            try simp only [Act.put, List.setIfInBounds_toArray, List.set_cons_zero, List.set_cons_succ, List.getElem_toArray, List.getElem_cons_succ, List.getElem_cons_zero]
            refine wpAnyH_done (by kernel_rfl) ?_ _
            go_goals
            go_upto_region 19 with fail
            have FBW := FB5
            have zBW := FB5.out.size
            have QS := Lib.hid (fun W hW => QS.out W (FB5.out.trans (hW.mono zBW)) (XB5.out.below (w' := W) hW XB5.out.lt))
            have bw0 := (Below.refl w5.heap.size w5).drew
            have z1 : ¬ (9223372036854775807 < 1 + SX.size) := by omega
            have z2 : ¬ (9223372036854775807 < 1 + SX.size + 2) := by omega
            have z3 : ¬ (9223372036854775807 < 1 + SX.size + 2 + SM.size) := by omega
            have z4 : ¬ (9223372036854775807 < 1 + SX.size + 2 + SM.size + 2) := by omega
            have z5 : ¬ (9223372036854775807 < 1 + SX.size + 2 + SM.size + 2 + SY.size) := by omega
            have z6 : ¬ (9223372036854775807 < 1 + SX.size + 2 + SM.size + 2 + SY.size + 1) := by omega
            clear c5 d5 q5 s0 c4 hE
            refine wp_region_held_drew (S := fun w' => w'.cell? ⟨w.heap.size, 3, none⟩ = some (.slice (some ⟨b, o, none⟩) 2 c) ∧ w'.cell? ⟨b, o, none⟩ = some (.int .i64 op1) ∧ w'.cell? ⟨b, o + 1, none⟩ = some (.int .i64 N1) ∧ w'.cell? ⟨b, o + 2, none⟩ = some (.string nm1) ∧ w'.cell? ⟨b, o + 3, none⟩ = some (.slice A1 l1 c1) ∧ w'.cell? ⟨b, o + 4, none⟩ = some (.int .i64 op2) ∧ w'.cell? ⟨b, o + 5, none⟩ = some (.int .i64 N2) ∧ w'.cell? ⟨b, o + 6, none⟩ = some (.string nm2) ∧ w'.cell? ⟨b, o + 7, none⟩ = some (.slice A2 l2 c2)) (by kernel_rfl) (QS.out _ bw0) (fun hHeld => ?_)
            refine wpAnyH_take (i := 0) (oi := _) (v := ?_) rfl (by kernel_rfl) (by kernel_rfl) (by kernel_rfl) (fun _ _ _ h => h) (Or.inl ⟨by rfl, ?_⟩) (by assumption) ?_
            rotate_left
            · intro w hSw
              (try dsimp only at hSw)
              go_simp
              (try with_reducible rfl)
            try simp only [Act.put, List.setIfInBounds_toArray, List.set_cons_zero, List.set_cons_succ, List.getElem_toArray, List.getElem_cons_zero]
            refine wpAnyH_take (i := 1) (oi := _) (v := ?_) rfl (by kernel_rfl) (by kernel_rfl) (by kernel_rfl) (fun _ _ _ h => h) (Or.inl ⟨by rfl, ?_⟩) (by assumption) ?_
            rotate_left
            · intro w hSw
              (try dsimp only at hSw)
              go_simp
              (try with_reducible rfl)
            try simp only [Act.put, List.setIfInBounds_toArray, List.set_cons_zero, List.set_cons_succ, List.getElem_toArray, List.getElem_cons_succ, List.getElem_cons_zero]
            refine wpAnyH_take (i := 2) (oi := _) (v := ?_) rfl (by kernel_rfl) (by kernel_rfl) (by kernel_rfl) (fun _ _ _ h => h) (Or.inl ⟨by rfl, ?_⟩) (by assumption) ?_
            rotate_left
            · intro w hSw
              (try dsimp only at hSw)
              go_simp
              (try with_reducible rfl)
            try simp only [Act.put, List.setIfInBounds_toArray, List.set_cons_zero, List.set_cons_succ, List.getElem_toArray, List.getElem_cons_succ, List.getElem_cons_zero]
            refine wpAnyH_take (i := 3) (oi := _) (v := ?_) rfl (by kernel_rfl) (by kernel_rfl) (by kernel_rfl) (fun _ _ _ h => h) (Or.inl ⟨by rfl, ?_⟩) (by assumption) ?_
            rotate_left
            · intro w hSw
              (try dsimp only at hSw)
              go_simp
              (try with_reducible rfl)
            try simp only [Act.put, List.setIfInBounds_toArray, List.set_cons_zero, List.set_cons_succ, List.getElem_toArray, List.getElem_cons_succ, List.getElem_cons_zero]
            refine wpAnyH_take (i := 8) (oi := _) (v := ?_) rfl (by kernel_rfl) (by kernel_rfl) (by kernel_rfl) (fun _ _ _ h => h) (Or.inl ⟨by rfl, ?_⟩) (by assumption) ?_
            rotate_left
            · intro w hSw
              (try dsimp only at hSw)
              go_simp
              (try with_reducible rfl)
            try simp only [Act.put, List.setIfInBounds_toArray, List.set_cons_zero, List.set_cons_succ, List.getElem_toArray, List.getElem_cons_succ, List.getElem_cons_zero]
            refine wpAnyH_take (i := 11) (oi := _) (v := ?_) rfl (by kernel_rfl) (by kernel_rfl) (by kernel_rfl) (fun _ _ _ h => h) (Or.inl ⟨by rfl, ?_⟩) (by assumption) ?_
            rotate_left
            · intro w hSw
              (try dsimp only at hSw)
              go_simp
              (try with_reducible rfl)
            try simp only [Act.put, List.setIfInBounds_toArray, List.set_cons_zero, List.set_cons_succ, List.getElem_toArray, List.getElem_cons_succ, List.getElem_cons_zero]
            refine wpAnyH_take (i := 16) (oi := _) (v := ?_) rfl (by kernel_rfl) (by kernel_rfl) (by kernel_rfl) (fun _ _ _ h => h) (Or.inl ⟨by rfl, ?_⟩) (by assumption) ?_
            rotate_left
            · intro w hSw
              (try dsimp only at hSw)
              go_simp
              (try with_reducible rfl)
            try simp only [Act.put, List.setIfInBounds_toArray, List.set_cons_zero, List.set_cons_succ, List.getElem_toArray, List.getElem_cons_succ, List.getElem_cons_zero]
            refine wpAnyH_take (i := 17) (oi := _) (v := ?_) rfl (by kernel_rfl) (by kernel_rfl) (by kernel_rfl) (fun _ _ _ h => h) (Or.inl ⟨by rfl, ?_⟩) (by assumption) ?_
            rotate_left
            · intro w hSw
              (try dsimp only at hSw)
              go_simp
              (try with_reducible rfl)
            try simp only [Act.put, List.setIfInBounds_toArray, List.set_cons_zero, List.set_cons_succ, List.getElem_toArray, List.getElem_cons_succ, List.getElem_cons_zero]
            refine wpAnyH_take (i := 18) (oi := _) (v := ?_) rfl (by kernel_rfl) (by kernel_rfl) (by kernel_rfl) (fun _ _ _ h => h) (Or.inl ⟨by rfl, ?_⟩) (by assumption) ?_
            rotate_left
            · intro w hSw
              (try dsimp only at hSw)
              go_simp
              (try with_reducible rfl)
            try simp only [Act.put, List.setIfInBounds_toArray, List.set_cons_zero, List.set_cons_succ, List.getElem_toArray, List.getElem_cons_succ, List.getElem_cons_zero]
            refine wpAnyH_take (i := 19) (oi := _) (v := ?_) rfl (by kernel_rfl) (by kernel_rfl) (by kernel_rfl) (fun _ _ _ h => h) (Or.inl ⟨by rfl, ?_⟩) (by assumption) ?_
            rotate_left
            · intro w hSw
              (try dsimp only at hSw)
              go_simp
              (try with_reducible rfl)
            try simp only [Act.put, List.setIfInBounds_toArray, List.set_cons_zero, List.set_cons_succ, List.getElem_toArray, List.getElem_cons_succ, List.getElem_cons_zero]
            refine wpAnyH_ready (rs := [4]) (by kernel_rfl) (by simp) ?_
            refine AllReadyH.cons (o := _) rfl (fun K hK => ?_) AllReadyH.nil
            go_simp
            go_at_call 14
            refine (TX.out _ (FBW.out.trans (bw0.mono zBW))).mono ?_
            rintro e w6 ⟨rfl, b6⟩
            have bw6 := bw0.trans (b6.mono bw0.size)
            refine hK.out _ _ (QS.out _ bw6) (fun hHeld => ?_)
            clear hK K
            try simp only [Act.put, List.setIfInBounds_toArray, List.set_cons_zero, List.set_cons_succ, List.getElem_toArray, List.getElem_cons_succ, List.getElem_cons_zero]
            refine wpAnyH_take (i := 5) (oi := _) (v := ?_) rfl (by kernel_rfl) (by kernel_rfl) (by kernel_rfl) (fun _ _ _ h => h) (Or.inl ⟨by rfl, ?_⟩) (by assumption) ?_
            rotate_left
            · intro w hSw
              (try dsimp only at hSw)
              go_simp
              (try with_reducible rfl)
            try simp only [Act.put, List.setIfInBounds_toArray, List.set_cons_zero, List.set_cons_succ, List.getElem_toArray, List.getElem_cons_succ, List.getElem_cons_zero]
            refine wpAnyH_take (i := 6) (oi := _) (v := ?_) rfl (by kernel_rfl) (by kernel_rfl) (by kernel_rfl) (fun _ _ _ h => h) (Or.inl ⟨by rfl, ?_⟩) (by assumption) ?_
            rotate_left
            · intro w hSw
              (try dsimp only at hSw)
              go_simp
              (try with_reducible rfl)
            try simp only [Act.put, List.setIfInBounds_toArray, List.set_cons_zero, List.set_cons_succ, List.getElem_toArray, List.getElem_cons_succ, List.getElem_cons_zero]
            refine wpAnyH_ready (rs := [7]) (by kernel_rfl) (by simp) ?_
            refine AllReadyH.cons (o := _) rfl (fun K hK => ?_) AllReadyH.nil
            go_simp
            go_at_call 29
            refine (levels_any _).mono ?_
            rintro e w7 ⟨g7, rfl, b7, r7, hB7, hR7⟩
            have bw7 := bw6.trans (b7.mono bw6.size)
            have c7 := five_at hB7 hk5
            have d7 := (hR7 k hk5).cell i
            rw [row_marks hk5 hi5, hmk] at d7
            have lt7 := hB7.lt
            have lr7 := (hR7 k hk5).lt
            clear hB7 hR7
            refine hK.out _ _ (QS.out _ bw7) (fun hHeld => ?_)
            clear hK K
            try simp only [Act.put, List.setIfInBounds_toArray, List.set_cons_zero, List.set_cons_succ, List.getElem_toArray, List.getElem_cons_succ, List.getElem_cons_zero]
            refine wpAnyH_take (i := 9) (oi := _) (v := ?_) rfl (by kernel_rfl) (by kernel_rfl) (by kernel_rfl) (fun _ _ _ h => h) (Or.inl ⟨by rfl, ?_⟩) (by assumption) ?_
            rotate_left
            · intro w hSw
              (try dsimp only at hSw)
              go_simp
              (try with_reducible rfl)
            try simp only [Act.put, List.setIfInBounds_toArray, List.set_cons_zero, List.set_cons_succ, List.getElem_toArray, List.getElem_cons_succ, List.getElem_cons_zero]
            refine wpAnyH_ready (rs := [10, 20]) (by kernel_rfl) (by simp) ?_
            refine AllReadyH.cons (o := _) rfl (fun K hK => ?_) (AllReadyH.cons (o := _) rfl (fun K hK => ?_) AllReadyH.nil)
            · skip
              go_simp
              refine hK.out _ _ (QS.out _ bw7) (fun hHeld => ?_)
              clear hK K
              try simp only [Act.put, List.setIfInBounds_toArray, List.set_cons_zero, List.set_cons_succ, List.getElem_toArray, List.getElem_cons_succ, List.getElem_cons_zero]
              refine wpAnyH_take (i := 12) (oi := _) (v := ?_) rfl (by kernel_rfl) (by kernel_rfl) (by kernel_rfl) (fun _ _ _ h => h) (Or.inl ⟨by rfl, ?_⟩) (by assumption) ?_
              rotate_left
              · intro w hSw
                (try dsimp only at hSw)
                go_simp
                (try with_reducible rfl)
              try simp only [Act.put, List.setIfInBounds_toArray, List.set_cons_zero, List.set_cons_succ, List.getElem_toArray, List.getElem_cons_succ, List.getElem_cons_zero]
              refine wpAnyH_ready (rs := [13, 20]) (by kernel_rfl) (by simp) ?_
              refine AllReadyH.cons (o := _) rfl (fun K hK => ?_) (AllReadyH.cons (o := _) rfl (fun K hK => ?_) AllReadyH.nil)
              · skip
                go_simp
                refine hK.out _ _ (QS.out _ bw7) (fun hHeld => ?_)
                clear hK K
                try simp only [Act.put, List.setIfInBounds_toArray, List.set_cons_zero, List.set_cons_succ, List.getElem_toArray, List.getElem_cons_succ, List.getElem_cons_zero]
                refine wpAnyH_take (i := 14) (oi := _) (v := ?_) rfl (by kernel_rfl) (by kernel_rfl) (by kernel_rfl) (fun _ _ _ h => h) (Or.inl ⟨by rfl, ?_⟩) (by assumption) ?_
                rotate_left
                · intro w hSw
                  (try dsimp only at hSw)
                  go_simp
                  (try with_reducible rfl)
                try simp only [Act.put, List.setIfInBounds_toArray, List.set_cons_zero, List.set_cons_succ, List.getElem_toArray, List.getElem_cons_succ, List.getElem_cons_zero]
                refine wpAnyH_take (i := 15) (oi := _) (v := ?_) rfl (by kernel_rfl) (by kernel_rfl) (by kernel_rfl) (fun _ _ _ h => h) (Or.inl ⟨by rfl, ?_⟩) (by assumption) ?_
                rotate_left
                · intro w hSw
                  (try dsimp only at hSw)
                  go_simp
                  (try with_reducible rfl)
                try simp only [Act.put, List.setIfInBounds_toArray, List.set_cons_zero, List.set_cons_succ, List.getElem_toArray, List.getElem_cons_succ, List.getElem_cons_zero]
                refine wpAnyH_ready (rs := [20]) (by kernel_rfl) (by simp) ?_
                refine AllReadyH.cons (o := _) rfl (fun K hK => ?_) AllReadyH.nil
                go_simp
                go_at_call 14
                refine (TY.out _ (FBW.out.trans (bw7.mono zBW))).mono ?_
                rintro e w8 ⟨rfl, b8⟩
                have bw8 := bw7.trans (b8.mono bw7.size)
                have c8 := (b8.cell (p := ⟨g7, k, none⟩) lt7).trans c7
                have d8 := (b8.cell (p := ⟨r7 k, i, none⟩) lr7).trans d7
                refine hK.out _ _ (QS.out _ bw8) (fun hHeld => ?_)
                clear hK K
                try simp only [Act.put, List.setIfInBounds_toArray, List.set_cons_zero, List.set_cons_succ, List.getElem_toArray, List.getElem_cons_succ, List.getElem_cons_zero]
                refine wpAnyH_take (i := 21) (oi := _) (v := ?_) rfl (by kernel_rfl) (by kernel_rfl) (by kernel_rfl) (fun _ _ _ h => h) (Or.inl ⟨by rfl, ?_⟩) (by assumption) ?_
                rotate_left
                · intro w hSw
                  (try dsimp only at hSw)
                  go_simp
                  (try with_reducible rfl)
                try simp only [Act.put, List.setIfInBounds_toArray, List.set_cons_zero, List.set_cons_succ, List.getElem_toArray, List.getElem_cons_succ, List.getElem_cons_zero]
                refine wpAnyH_take (i := 22) (oi := _) (v := ?_) rfl (by kernel_rfl) (by kernel_rfl) (by kernel_rfl) (fun _ _ _ h => h) (Or.inl ⟨by rfl, ?_⟩) (by assumption) ?_
                rotate_left
                · intro w hSw
                  (try dsimp only at hSw)
                  go_simp
                  (try with_reducible rfl)
                try simp only [Act.put, List.setIfInBounds_toArray, List.set_cons_zero, List.set_cons_succ, List.getElem_toArray, List.getElem_cons_succ, List.getElem_cons_zero]
                refine wpAnyH_take (i := 23) (oi := _) (v := ?_) rfl (by kernel_rfl) (by kernel_rfl) (by kernel_rfl) (fun _ _ _ h => h) (Or.inl ⟨by rfl, ?_⟩) (by assumption) ?_
                rotate_left
                · intro w hSw
                  (try dsimp only at hSw)
                  go_simp
                  (try with_reducible rfl)
                try simp only [Act.put, List.setIfInBounds_toArray, List.set_cons_zero, List.set_cons_succ, List.getElem_toArray, List.getElem_cons_succ, List.getElem_cons_zero]
                refine wpAnyH_done (by kernel_rfl) ?_ _
                go_goals
                go_wp2_with fail
                try rw [Exit.noGoto_ret]
                go_ret
                exact ⟨by first | rfl | rw [← hap], FBW.out.trans (bw8.mono zBW)⟩
              · skip
                go_simp
                go_at_call 14
                refine (TY.out _ (FBW.out.trans (bw7.mono zBW))).mono ?_
                rintro e w8 ⟨rfl, b8⟩
                have bw8 := bw7.trans (b8.mono bw7.size)
                have c8 := (b8.cell (p := ⟨g7, k, none⟩) lt7).trans c7
                have d8 := (b8.cell (p := ⟨r7 k, i, none⟩) lr7).trans d7
                refine hK.out _ _ (QS.out _ bw8) (fun hHeld => ?_)
                clear hK K
                try simp only [Act.put, List.setIfInBounds_toArray, List.set_cons_zero, List.set_cons_succ, List.getElem_toArray, List.getElem_cons_succ, List.getElem_cons_zero]
                refine wpAnyH_ready (rs := [13]) (by kernel_rfl) (by simp) ?_
                refine AllReadyH.cons (o := _) rfl (fun K hK => ?_) AllReadyH.nil
                go_simp
                refine hK.out _ _ (QS.out _ bw8) (fun hHeld => ?_)
                clear hK K
                try simp only [Act.put, List.setIfInBounds_toArray, List.set_cons_zero, List.set_cons_succ, List.getElem_toArray, List.getElem_cons_succ, List.getElem_cons_zero]
                refine wpAnyH_take (i := 14) (oi := _) (v := ?_) rfl (by kernel_rfl) (by kernel_rfl) (by kernel_rfl) (fun _ _ _ h => h) (Or.inl ⟨by rfl, ?_⟩) (by assumption) ?_
                rotate_left
                · intro w hSw
                  (try dsimp only at hSw)
                  go_simp
                  (try with_reducible rfl)
                try simp only [Act.put, List.setIfInBounds_toArray, List.set_cons_zero, List.set_cons_succ, List.getElem_toArray, List.getElem_cons_succ, List.getElem_cons_zero]
                refine wpAnyH_take (i := 15) (oi := _) (v := ?_) rfl (by kernel_rfl) (by kernel_rfl) (by kernel_rfl) (fun _ _ _ h => h) (Or.inl ⟨by rfl, ?_⟩) (by assumption) ?_
                rotate_left
                · intro w hSw
                  (try dsimp only at hSw)
                  go_simp
                  (try with_reducible rfl)
                try simp only [Act.put, List.setIfInBounds_toArray, List.set_cons_zero, List.set_cons_succ, List.getElem_toArray, List.getElem_cons_succ, List.getElem_cons_zero]
                refine wpAnyH_take (i := 21) (oi := _) (v := ?_) rfl (by kernel_rfl) (by kernel_rfl) (by kernel_rfl) (fun _ _ _ h => h) (Or.inl ⟨by rfl, ?_⟩) (by assumption) ?_
                rotate_left
                · intro w hSw
                  (try dsimp only at hSw)
                  go_simp
                  (try with_reducible rfl)
                try simp only [Act.put, List.setIfInBounds_toArray, List.set_cons_zero, List.set_cons_succ, List.getElem_toArray, List.getElem_cons_succ, List.getElem_cons_zero]
                refine wpAnyH_take (i := 22) (oi := _) (v := ?_) rfl (by kernel_rfl) (by kernel_rfl) (by kernel_rfl) (fun _ _ _ h => h) (Or.inl ⟨by rfl, ?_⟩) (by assumption) ?_
                rotate_left
                · intro w hSw
                  (try dsimp only at hSw)
                  go_simp
                  (try with_reducible rfl)
                try simp only [Act.put, List.setIfInBounds_toArray, List.set_cons_zero, List.set_cons_succ, List.getElem_toArray, List.getElem_cons_succ, List.getElem_cons_zero]
                refine wpAnyH_take (i := 23) (oi := _) (v := ?_) rfl (by kernel_rfl) (by kernel_rfl) (by kernel_rfl) (fun _ _ _ h => h) (Or.inl ⟨by rfl, ?_⟩) (by assumption) ?_
                rotate_left
                · intro w hSw
                  (try dsimp only at hSw)
                  go_simp
                  (try with_reducible rfl)
                try simp only [Act.put, List.setIfInBounds_toArray, List.set_cons_zero, List.set_cons_succ, List.getElem_toArray, List.getElem_cons_succ, List.getElem_cons_zero]
                refine wpAnyH_done (by kernel_rfl) ?_ _
                go_goals
                go_wp2_with fail
                try rw [Exit.noGoto_ret]
                go_ret
                exact ⟨by first | rfl | rw [← hap], FBW.out.trans (bw8.mono zBW)⟩
            · skip
              go_simp
              go_at_call 14
              refine (TY.out _ (FBW.out.trans (bw7.mono zBW))).mono ?_
              rintro e w8 ⟨rfl, b8⟩
              have bw8 := bw7.trans (b8.mono bw7.size)
              have c8 := (b8.cell (p := ⟨g7, k, none⟩) lt7).trans c7
              have d8 := (b8.cell (p := ⟨r7 k, i, none⟩) lr7).trans d7
              refine hK.out _ _ (QS.out _ bw8) (fun hHeld => ?_)
              clear hK K
              try simp only [Act.put, List.setIfInBounds_toArray, List.set_cons_zero, List.set_cons_succ, List.getElem_toArray, List.getElem_cons_succ, List.getElem_cons_zero]
              refine wpAnyH_ready (rs := [10]) (by kernel_rfl) (by simp) ?_
              refine AllReadyH.cons (o := _) rfl (fun K hK => ?_) AllReadyH.nil
              go_simp
              refine hK.out _ _ (QS.out _ bw8) (fun hHeld => ?_)
              clear hK K
              try simp only [Act.put, List.setIfInBounds_toArray, List.set_cons_zero, List.set_cons_succ, List.getElem_toArray, List.getElem_cons_succ, List.getElem_cons_zero]
              refine wpAnyH_take (i := 12) (oi := _) (v := ?_) rfl (by kernel_rfl) (by kernel_rfl) (by kernel_rfl) (fun _ _ _ h => h) (Or.inl ⟨by rfl, ?_⟩) (by assumption) ?_
              rotate_left
              · intro w hSw
                (try dsimp only at hSw)
                go_simp
                (try with_reducible rfl)
              try simp only [Act.put, List.setIfInBounds_toArray, List.set_cons_zero, List.set_cons_succ, List.getElem_toArray, List.getElem_cons_succ, List.getElem_cons_zero]
              refine wpAnyH_ready (rs := [13]) (by kernel_rfl) (by simp) ?_
              refine AllReadyH.cons (o := _) rfl (fun K hK => ?_) AllReadyH.nil
              go_simp
              refine hK.out _ _ (QS.out _ bw8) (fun hHeld => ?_)
              clear hK K
              try simp only [Act.put, List.setIfInBounds_toArray, List.set_cons_zero, List.set_cons_succ, List.getElem_toArray, List.getElem_cons_succ, List.getElem_cons_zero]
              refine wpAnyH_take (i := 14) (oi := _) (v := ?_) rfl (by kernel_rfl) (by kernel_rfl) (by kernel_rfl) (fun _ _ _ h => h) (Or.inl ⟨by rfl, ?_⟩) (by assumption) ?_
              rotate_left
              · intro w hSw
                (try dsimp only at hSw)
                go_simp
                (try with_reducible rfl)
              try simp only [Act.put, List.setIfInBounds_toArray, List.set_cons_zero, List.set_cons_succ, List.getElem_toArray, List.getElem_cons_succ, List.getElem_cons_zero]
              refine wpAnyH_take (i := 15) (oi := _) (v := ?_) rfl (by kernel_rfl) (by kernel_rfl) (by kernel_rfl) (fun _ _ _ h => h) (Or.inl ⟨by rfl, ?_⟩) (by assumption) ?_
              rotate_left
              · intro w hSw
                (try dsimp only at hSw)
                go_simp
                (try with_reducible rfl)
              try simp only [Act.put, List.setIfInBounds_toArray, List.set_cons_zero, List.set_cons_succ, List.getElem_toArray, List.getElem_cons_succ, List.getElem_cons_zero]
              refine wpAnyH_take (i := 21) (oi := _) (v := ?_) rfl (by kernel_rfl) (by kernel_rfl) (by kernel_rfl) (fun _ _ _ h => h) (Or.inl ⟨by rfl, ?_⟩) (by assumption) ?_
              rotate_left
              · intro w hSw
                (try dsimp only at hSw)
                go_simp
                (try with_reducible rfl)
              try simp only [Act.put, List.setIfInBounds_toArray, List.set_cons_zero, List.set_cons_succ, List.getElem_toArray, List.getElem_cons_succ, List.getElem_cons_zero]
              refine wpAnyH_take (i := 22) (oi := _) (v := ?_) rfl (by kernel_rfl) (by kernel_rfl) (by kernel_rfl) (fun _ _ _ h => h) (Or.inl ⟨by rfl, ?_⟩) (by assumption) ?_
              rotate_left
              · intro w hSw
                (try dsimp only at hSw)
                go_simp
                (try with_reducible rfl)
              try simp only [Act.put, List.setIfInBounds_toArray, List.set_cons_zero, List.set_cons_succ, List.getElem_toArray, List.getElem_cons_succ, List.getElem_cons_zero]
              refine wpAnyH_take (i := 23) (oi := _) (v := ?_) rfl (by kernel_rfl) (by kernel_rfl) (by kernel_rfl) (fun _ _ _ h => h) (Or.inl ⟨by rfl, ?_⟩) (by assumption) ?_
              rotate_left
              · intro w hSw
                (try dsimp only at hSw)
                go_simp
                (try with_reducible rfl)
              try simp only [Act.put, List.setIfInBounds_toArray, List.set_cons_zero, List.set_cons_succ, List.getElem_toArray, List.getElem_cons_succ, List.getElem_cons_zero]
              refine wpAnyH_done (by kernel_rfl) ?_ _
              go_goals
              go_wp2_with fail
              try rw [Exit.noGoto_ret]
              go_ret
              exact ⟨by first | rfl | rw [← hap], FBW.out.trans (bw8.mono zBW)⟩
          · have hE : (rowOp k i == op) = false := by simp [he]
            have HE := Lib.hid he
            clear he
            have q1 : w4.drew.cell? ⟨w.heap.size, 0, none⟩ = some (.int .i64 op) := s0
            refine wp_region_held_drew (S := fun w' => w'.cell? ⟨w.heap.size, 0, none⟩ = some (.int .i64 op)) (by kernel_rfl) q1 (fun hHeld => ?_)
            refine wpAnyH_take (i := 1) (oi := _) (v := ?_) rfl (by kernel_rfl) (by kernel_rfl) (by kernel_rfl) (fun _ _ _ h => h) (Or.inl ⟨by rfl, ?_⟩) (by assumption) ?_
            rotate_left
            · intro w hSw
              (try dsimp only at hSw)
              go_simp
              (try with_reducible rfl)
            try simp only [Act.put, List.setIfInBounds_toArray, List.getElem_toArray]
            refine wpAnyH_take (i := 4) (oi := _) (v := ?_) rfl (by kernel_rfl) (by kernel_rfl) (by kernel_rfl) (fun _ _ _ h => h) (Or.inl ⟨by rfl, ?_⟩) (by assumption) ?_
            rotate_left
            · intro w hSw
              (try dsimp only at hSw)
              go_simp
              (try with_reducible rfl)
            try simp only [Act.put, List.setIfInBounds_toArray, List.set_cons_zero, List.set_cons_succ, List.getElem_toArray, List.getElem_cons_succ, List.getElem_cons_zero]
            refine wpAnyH_take (i := 7) (oi := _) (v := ?_) rfl (by kernel_rfl) (by kernel_rfl) (by kernel_rfl) (fun _ _ _ h => h) (Or.inl ⟨by rfl, ?_⟩) (by assumption) ?_
            rotate_left
            · intro w hSw
              (try dsimp only at hSw)
              go_simp
              (try with_reducible rfl)
            try simp only [Act.put, List.setIfInBounds_toArray, List.set_cons_zero, List.set_cons_succ, List.getElem_toArray, List.getElem_cons_succ, List.getElem_cons_zero]
            refine wpAnyH_take (i := 8) (oi := _) (v := ?_) rfl (by kernel_rfl) (by kernel_rfl) (by kernel_rfl) (fun _ _ _ h => h) (Or.inl ⟨by rfl, ?_⟩) (by assumption) ?_
            rotate_left
            · intro w hSw
              (try dsimp only at hSw)
              go_simp
              (try with_reducible rfl)
            try simp only [Act.put, List.setIfInBounds_toArray, List.set_cons_zero, List.set_cons_succ, List.getElem_toArray, List.getElem_cons_succ, List.getElem_cons_zero]
            refine wpAnyH_ready (rs := [0]) (by kernel_rfl) (by simp) ?_
            refine AllReadyH.cons (o := _) rfl (fun K hK => ?_) AllReadyH.nil
            go_simp
            go_at_call 28
            refine (ops_any _).mono ?_
            rintro e w5 ⟨g5, rfl, b5, r, hB5, hR5⟩
            have c5 := five_at hB5 hk5
            have d5 := (hR5 k hk5).cell i
            rw [row_ops hk5 hi5] at d5
            have q5 : w5.cell? ⟨w.heap.size, 0, none⟩ = some (.int .i64 op) := (b5.cell (p := ⟨w.heap.size, 0, none⟩) hx0r).trans s0
            have FB5 := Lib.hid (FB4.out.drew.trans (b5.mono FB4.out.drew.size))
            have FI5 := Lib.hid (FI4.out.drew.trans (b5.mono FI4.out.drew.size))
            have XB5 := Lib.hid (XB4.out.drew.below b5 XB4.out.lt)
            clear hB5 hR5 b5
            refine hK.out _ _ q5 (fun hHeld => ?_)
            clear hK K
            try simp only [Act.put, List.setIfInBounds_toArray, List.set_cons_zero, List.set_cons_succ, List.getElem_toArray, List.getElem_cons_succ, List.getElem_cons_zero]
            refine wpAnyH_take (i := 2) (oi := _) (v := ?_) rfl (by kernel_rfl) (by kernel_rfl) (by kernel_rfl) (fun _ _ _ h => h) (Or.inl ⟨by rfl, ?_⟩) (by assumption) ?_
            rotate_left
            · intro w hSw
              (try dsimp only at hSw)
              go_simp
              (try with_reducible rfl)
            try simp only [Act.put, List.setIfInBounds_toArray, List.set_cons_zero, List.set_cons_succ, List.getElem_toArray, List.getElem_cons_succ, List.getElem_cons_zero]
            refine wpAnyH_ready (rs := [3]) (by kernel_rfl) (by simp) ?_
            refine AllReadyH.cons (o := _) rfl (fun K hK => ?_) AllReadyH.nil
            go_simp
            refine hK.out _ _ q5 (fun hHeld => ?_)
            clear hK K
            try simp only [Act.put, List.setIfInBounds_toArray, List.set_cons_zero, List.set_cons_succ, List.getElem_toArray, List.getElem_cons_succ, List.getElem_cons_zero]
            refine wpAnyH_take (i := 5) (oi := _) (v := ?_) rfl (by kernel_rfl) (by kernel_rfl) (by kernel_rfl) (fun _ _ _ h => h) (Or.inl ⟨by rfl, ?_⟩) (by assumption) ?_
            rotate_left
            · intro w hSw
              (try dsimp only at hSw)
              go_simp
              (try with_reducible rfl)
            try simp only [Act.put, List.setIfInBounds_toArray, List.set_cons_zero, List.set_cons_succ, List.getElem_toArray, List.getElem_cons_succ, List.getElem_cons_zero]
            refine wpAnyH_ready (rs := [6]) (by kernel_rfl) (by simp) ?_
            refine AllReadyH.cons (o := _) rfl (fun K hK => ?_) AllReadyH.nil
            go_simp
            refine hK.out _ _ q5 (fun hHeld => ?_)
            clear hK K
            try simp only [Act.put, List.setIfInBounds_toArray, List.set_cons_zero, List.set_cons_succ, List.getElem_toArray, List.getElem_cons_succ, List.getElem_cons_zero]
            refine wpAnyH_take (i := 9) (oi := _) (v := ?_) rfl (by kernel_rfl) (by kernel_rfl) (by kernel_rfl) (fun _ _ _ h => h) (Or.inl ⟨by rfl, ?_⟩) (by assumption) ?_
            rotate_left
            · intro w hSw
              (try dsimp only at hSw)
              go_simp
              (try with_reducible rfl)
            try simp only [Act.put, List.setIfInBounds_toArray, List.set_cons_zero, List.set_cons_succ, List.getElem_toArray, List.getElem_cons_succ, List.getElem_cons_zero]
            refine wpAnyH_done (by kernel_rfl) ?_ _
            go_goals
            clear c5 d5 q5 s0 c4
            go_wp2_with fail
            go_roundg (L - (i + 1))
            case rel => exact ⟨i + 1, rfl, by omega, by go_num, FI5, fun j hj => by
              rcases Nat.lt_or_ge j i with h | h
              · exact NI.out j h
              · obtain rfl : j = i := by omega
                exact HE.out⟩
            case measure => omega
        · obtain rfl : i = L := by omega
          go_wp2_with fail
          refine (ops_any _).mono ?_
          rintro e w4 ⟨g4, rfl, b4, r4, hB4, -⟩
          have c4 := five_at hB4 hk5
          rw [HL.out] at c4
          have XB4 := Lib.hid (xbi.below b4 xbi.lt)
          have FB4 := Lib.hid (FBI.out.trans (b4.mono FBI.out.size))
          have NO' : Hid (∀ m, m < k + 1 → ∀ j, j < lvN m → rowOp m j ≠ op) := fun m hm j hj => by
            rcases Nat.lt_or_ge m k with h | h
            · exact NO.out m h j hj
            · obtain rfl : m = k := by omega
              exact NI.out j (by rw [← HL.out]; exact hj)
          clear hB4 b4 xbi
          go_wp2_with fail
          go_roundg (5 - (k + 1))
          case rel => exact ⟨k + 1, rfl, by omega, by go_num, FB4, XB4, NO'⟩
          case measure => omega
    · obtain ⟨k', hk', i', hi', e⟩ := HROW.out
      exact absurd e (NO.out k' (by omega) i' hi')
end Go.Proofs.YtdmlnoeneoomfaaDoor
