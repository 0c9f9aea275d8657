/-
  BoundDeep: an expression within - costs 2 more, each time: the walk.
-/
import Derived.Test.YtenpdmahjefoaaaBIf
namespace Go.Proofs.Ytenpdmahjefoaaa
open Go.RowKit

/-- An expression whose parts don't lie in block g. -/
def EA (w : World) (g : Nat) : Nat → List Value → Nat → Prop
  | 0, _, _ => False
  | n + 1, cs, k => ∃ (op N : Int) (nm : ByteArray) (A : Option Addr) (len cap : Nat) (ks : List Nat),
      cs = [.int .i64 op, .int .i64 N, .string nm, .slice A len cap] ∧ Els w w.heap.size 4 (EA w g n) A len ks ∧ (0 < len → ∀ ad, A = some ad → ad.block ≠ g) ∧ k = costE op ks
theorem EA.ec {w : World} {g : Nat} : ∀ (n : Nat) (cs : List Value) (k : Nat), EA w g n cs k → EC w w.heap.size n cs k := by
  intro n
  induction n with
  | zero => intro cs k h; exact h
  | succ n ih =>
    intro cs k h
    obtain ⟨op, N, nm, A, len, cap, ks, h1, h2, _, h3⟩ := h
    exact ⟨op, N, nm, A, len, cap, ks, h1, h2.keep (Below.refl _ _) (Nat.le_refl _) ih, h3⟩
theorem EA.kept {w w' : World} {g : Nat} (hk : Kept (fun k => k = g) w w') : ∀ (n : Nat) (cs : List Value) (k : Nat), EA w g n cs k → EA w' g n cs k := by
  intro n
  induction n with
  | zero => intro cs k h; exact h
  | succ n ih =>
    intro cs k h
    obtain ⟨op, N, nm, A, len, cap, ks, h1, ⟨xs, a1, a2, a3, a4⟩, h4, h3⟩ := h
    refine ⟨op, N, nm, A, len, cap, ks, h1, ⟨xs, ⟨a1.1, fun hn => ?_⟩, a2, a3, fun i hi => ih _ _ (a4 i hi)⟩, h4, h3⟩
    obtain ⟨ad, e, hb, hc⟩ := a1.2 hn
    exact ⟨ad, e, Nat.lt_of_lt_of_le hb hk.size, fun j u hu => (hk.cell (by rw [block_of_add]; exact hb) (by rw [block_of_add]; exact h4 hn ad e)).trans (hc j u hu)⟩
theorem EA.of {w w' : World} {B g : Nat} (hb : Below B w w') (hB : B ≤ w'.heap.size) (hg : B ≤ g) : ∀ (n : Nat) (cs : List Value) (k : Nat), EC w B n cs k → EA w' g n cs k := by
  intro n
  induction n with
  | zero => intro cs k h; exact h
  | succ n ih =>
    intro cs k h
    obtain ⟨op, N, nm, A, len, cap, ks, h1, h2, h3⟩ := h
    refine ⟨op, N, nm, A, len, cap, ks, h1, h2.keep hb hB ih, fun hn ad e => ?_, h3⟩
    obtain ⟨xs, a1, _⟩ := h2
    obtain ⟨ad', e', hb', _⟩ := a1.2 hn
    rw [e] at e'
    injection e' with e'
    subst e'
    omega
/-- Once more within. -/
theorem EA.more {w : World} {g g' n k : Nat} {t : TypeId} {cs : List Value} {op : Int} (h : EA w g n cs k) (hb : Blk w g' t cs.toArray) (hne : g' ≠ g) (ho : op = 3 ∨ op = 4) :
    EA w g (n + 1) [.int .i64 op, .int .i64 0, .string ⟨#[]⟩, .slice (some ⟨g', 0, none⟩) 1 1] (capT (2 + k)) := by
  have hl : cs.length = 4 := by
    obtain ⟨op, N, nm, A, len, cap, e⟩ := EC_form (EA.ec _ _ _ h)
    rw [e]; rfl
  refine ⟨op, 0, _, _, 1, 1, [k], rfl, Els.of_blk hb hb.lt (by simpa using hl) (by omega) rfl (fun i hi => ?_), fun _ ad e => ?_, ?_⟩
  · match i, hi with
    | 0, _ =>
      have e : ((cs.toArray.toList.drop (0 * 4)).take 4) = cs := List.take_of_length_le (Nat.le_of_eq hl)
      rw [e]
      exact h
  · injection e with e
    subst e
    exact hne
  · rcases ho with rfl | rfl <;> simp [costE]

theorem kept4 (g : Nat) (W : World) (v0 v1 v2 v3 : Value) : Kept (fun k => k = g) W ((((W.setCell ⟨g, 0, none⟩ v0).setCell ⟨g, 1, none⟩ v1).setCell ⟨g, 2, none⟩ v2).setCell ⟨g, 3, none⟩ v3) :=
  ((((Kept.refl (fun k => k = g) W).setCell (p := ⟨g, 0, none⟩) (fun _ => rfl) _).setCell (p := ⟨g, 1, none⟩) (fun _ => rfl) _).setCell (p := ⟨g, 2, none⟩) (fun _ => rfl) _).setCell (p := ⟨g, 3, none⟩) (fun _ => rfl) _
theorem size4 (g : Nat) (W : World) (v0 v1 v2 v3 : Value) : ((((W.setCell ⟨g, 0, none⟩ v0).setCell ⟨g, 1, none⟩ v1).setCell ⟨g, 2, none⟩ v2).setCell ⟨g, 3, none⟩ v3).heap.size = W.heap.size := by simp
theorem deep_step {wr : World} {g n k l' c' : Nat} {t : TypeId} {op op' N' : Int} {nm' : ByteArray} {A' : Option Addr} (hx : Blk wr g t #[.int .i64 op', .int .i64 N', .string nm', .slice A' l' c']) (hea : EA wr g n [.int .i64 op', .int .i64 N', .string nm', .slice A' l' c'] k) (ho : op = 3 ∨ op = 4) :
    Blk (((((wr.setCell ⟨g, 0, none⟩ (.int .i64 op)).setCell ⟨g, 1, none⟩ (.int .i64 0)).setCell ⟨g, 2, none⟩ (.string ⟨#[]⟩)).setCell ⟨g, 3, none⟩ (.slice (some ⟨wr.heap.size, 0, none⟩) 1 1)).alloc (.cells #[.int .i64 op', .int .i64 N', .string nm', .slice A' l' c'] t)) g t #[.int .i64 op, .int .i64 0, .string ⟨#[]⟩, .slice (some ⟨wr.heap.size, 0, none⟩) 1 1] ∧
    EA (((((wr.setCell ⟨g, 0, none⟩ (.int .i64 op)).setCell ⟨g, 1, none⟩ (.int .i64 0)).setCell ⟨g, 2, none⟩ (.string ⟨#[]⟩)).setCell ⟨g, 3, none⟩ (.slice (some ⟨wr.heap.size, 0, none⟩) 1 1)).alloc (.cells #[.int .i64 op', .int .i64 N', .string nm', .slice A' l' c'] t)) g (n + 1) [.int .i64 op, .int .i64 0, .string ⟨#[]⟩, .slice (some ⟨wr.heap.size, 0, none⟩) 1 1] (capT (2 + k)) ∧
    Kept (fun k => k = g) wr (((((wr.setCell ⟨g, 0, none⟩ (.int .i64 op)).setCell ⟨g, 1, none⟩ (.int .i64 0)).setCell ⟨g, 2, none⟩ (.string ⟨#[]⟩)).setCell ⟨g, 3, none⟩ (.slice (some ⟨wr.heap.size, 0, none⟩) 1 1)).alloc (.cells #[.int .i64 op', .int .i64 N', .string nm', .slice A' l' c'] t)) := by
  have hxn := (((hx.set_ 0 (.int .i64 op)).set_ 1 (.int .i64 0)).set_ 2 (.string ⟨#[]⟩)).set_ 3 (.slice (some ⟨wr.heap.size, 0, none⟩) 1 1)
  have hK := kept4 g wr (.int .i64 op) (.int .i64 0) (.string ⟨#[]⟩) (.slice (some ⟨wr.heap.size, 0, none⟩) 1 1)
  have hs := size4 g wr (.int .i64 op) (.int .i64 0) (.string ⟨#[]⟩) (.slice (some ⟨wr.heap.size, 0, none⟩) 1 1)
  have hl := hx.lt
  generalize ((((wr.setCell ⟨g, 0, none⟩ (.int .i64 op)).setCell ⟨g, 1, none⟩ (.int .i64 0)).setCell ⟨g, 2, none⟩ (.string ⟨#[]⟩)).setCell ⟨g, 3, none⟩ (.slice (some ⟨wr.heap.size, 0, none⟩) 1 1)) = W at *
  have hn := Blk.new W t #[.int .i64 op', .int .i64 N', .string nm', .slice A' l' c']
  rw [hs] at hn
  have hKa := hK.alloc (Obj.cells #[.int .i64 op', .int .i64 N', .string nm', .slice A' l' c'] t)
  exact ⟨by simpa using hxn.alloc _, EA.more (EA.kept hKa _ _ _ hea) hn (by omega) ho, hKa⟩
theorem deep_eq (k j : Nat) (hk : k ≤ 65537) (hj : j < 100) : (((capT (k + 2 * j) : Nat) : Int) == min (IntKind.i64.wrap ((k : Int) + IntKind.i64.wrap (2 * (j : Int)))) 65537) = true := by
  rw [IntWalk.i64_in (2 * (j : Int)) (by omega), IntWalk.i64_in _ (by omega), beq_iff_eq]
  unfold capT
  omega
theorem held8 {w' : World} {g0 g1 : Nat} {t0 t1 : TypeId} {a b c d a' b' c' d' : Value} (hx : Blk w' g0 t0 #[a, b, c, d]) (hy : Blk w' g1 t1 #[a', b', c', d']) :
    (w'.cell? ⟨g0, 0, none⟩ = some a ∧ w'.cell? ⟨g0, 1, none⟩ = some b ∧ w'.cell? ⟨g0, 2, none⟩ = some c ∧ w'.cell? ⟨g0, 3, none⟩ = some d) ∧ w'.cell? ⟨g1, 0, none⟩ = some a' ∧ w'.cell? ⟨g1, 1, none⟩ = some b' ∧ w'.cell? ⟨g1, 2, none⟩ = some c' ∧ w'.cell? ⟨g1, 3, none⟩ = some d' := ⟨held1 hx, held1 hy⟩

set_option maxHeartbeats 2000000 in
set_option maxRecDepth 100000 in
theorem boundDeep_any (n : Nat) (op N : Int) (nm : ByteArray) (A : Option Addr) (len cap k : Nat) (m : Int) (w : World) (he : EC w w.heap.size n [.int .i64 op, .int .i64 N, .string nm, .slice A len cap] k) (hm0 : 0 ≤ m) (hm1 : m ≤ 255) :
    Calls Try.prog 7 #[.agg #[.int .i64 op, .int .i64 N, .string nm, .slice A len cap], .int .u8 m] w (Tells w true) := by
  go_enter Try.func7, Try.ntmps7
  have f0 : Below w.heap.size w (w.alloc (.cells #[.int .i64 op, .int .i64 N, .string nm, .slice A len cap] 35)) := (Below.refl _ w).al _
  have x0 := Blk.new w 35 #[.int .i64 op, .int .i64 N, .string nm, .slice A len cap]
  go_wp2_with fail
  refine (fewExpr_any n op N nm A len cap k _ (EC.keep f0 f0.size _ _ _ he)).mono ?_
  rintro e w1 ⟨v1, rfl, b1⟩
  have x1 := x0.below b1 (by simp)
  have f1 := f0.then_ b1
  clear f0 x0 b1
  cases v1
  · go_wp2_with fail
    refine (known_any _).mono ?_
    rintro e w2 ⟨rfl, b2⟩
    go_wp2_with fail
    go_ret
    exact ⟨rfl, f1.then_ b2⟩
  obtain ⟨q0, q1, q2, q3⟩ := held1 x1
  go_wp2_with fail
  clear q0 q1 q2 q3
  obtain ⟨r, hr⟩ : ∃ r : Nat, m % 100 = (r : Int) := ⟨(m % 100).toNat, by omega⟩
  have hr9 : r < 100 := by omega
  rw [hr]
  have HR := Lib.hid hr
  clear hr
  have z1 := f1.size
  have fN : Below w1.heap.size w1 (w1.alloc (.cells #[.int .i64 op, .int .i64 N, .string nm, .slice A len cap] 35)) := (Below.refl _ w1).al _
  have hk := EC_le he
  go_loopw [7] (fun i wr => ∃ (j : Nat) (op' N' : Int) (nm' : ByteArray) (A' : Option Addr) (l' c' : Nat), j ≤ r ∧ i = .int .i64 j ∧ Blk wr w1.heap.size 35 #[.int .i64 op', .int .i64 N', .string nm', .slice A' l' c'] ∧
    EA wr w1.heap.size (n + j) [.int .i64 op', .int .i64 N', .string nm', .slice A' l' c'] (capT (k + 2 * j)) ∧ Below w1.heap.size w1 wr) (fun i _ => r - (intOf i).toNat)
  case atStart => exact ⟨0, op, N, nm, A, len, cap, by omega, rfl, Blk.new _ _ _, EA.of (f1.trans (fN.mono z1)) (Nat.le_trans z1 fN.size) z1 n _ _ (by rw [Nat.mul_zero, Nat.add_zero, capT_small hk]; exact he), fN⟩
  case round =>
    obtain ⟨j, op', N', nm', A', l', c', hj, rfl, hx, hea, hb⟩ := hrel
    by_cases hlt : j < r
    · obtain ⟨q0, q1, q2, q3⟩ := held1 hx
      have fz0 := hx.frozen 0
      have fz1 := hx.frozen 1
      have fz2 := hx.frozen 2
      have fz3 := hx.frozen 3
      have hxl := hx.lt
      go_wp2_with fail
      clear q0 q1 q2 q3 fz0 fz1 fz2 fz3
      obtain ⟨hxn, hea1, hK'⟩ := deep_step (op := 3 + (j : Int) % 2) hx hea (by omega)
      have hcost : capT (2 + capT (k + 2 * j)) = capT (k + 2 * (j + 1)) := by rw [Nat.add_comm, capT_add]; congr 1
      rw [hcost] at hea1
      go_roundw
      case rel => exact ⟨j + 1, _, _, _, _, _, _, by omega, by go_num, hxn, hea1, hb.trans (hK'.to_below hb.size (fun k hk => by omega))⟩
      case measure => simp [intOf]; omega
    · obtain rfl : j = r := by omega
      go_wp2_with fail
      have x2 := x1.below hb x1.lt
      have f2 := f1.then_ hb
      have q := held8 x2.drew hx.drew
      have hd := f2.drew
      have hwd : Below wr.heap.size wr wr.drew := (Below.refl _ wr).drew
      go_region_held3 (fun w' => (w'.cell? ⟨w.heap.size, 0, none⟩ = some (.int .i64 op) ∧ w'.cell? ⟨w.heap.size, 1, none⟩ = some (.int .i64 N) ∧ w'.cell? ⟨w.heap.size, 2, none⟩ = some (.string nm) ∧ w'.cell? ⟨w.heap.size, 3, none⟩ = some (.slice A len cap)) ∧
          w'.cell? ⟨w1.heap.size, 0, none⟩ = some (.int .i64 op') ∧ w'.cell? ⟨w1.heap.size, 1, none⟩ = some (.int .i64 N') ∧ w'.cell? ⟨w1.heap.size, 2, none⟩ = some (.string nm') ∧ w'.cell? ⟨w1.heap.size, 3, none⟩ = some (.slice A' l' c'))
        (first | exact q | exact q3 | exact q4 | exact q5)
        (first
          | (go_at_call 10; refine (known_any _).mono ?_; rintro e w3 ⟨rfl, b3⟩; have x3 := x2.drew.below b3 x2.lt; have y3 := hx.drew.below b3 hx.lt; have f3 := hd.then_ b3; have r3 := hwd.then_ b3; have q3 := held8 x3 y3)
          | (go_at_call_of 14 (Value.agg #[.int .i64 op', .int .i64 N', .string nm', .slice A' l' c']); refine (Expr_any (n + j) op' N' nm' A' l' c' _ _ (EC.keep r3 r3.size _ _ _ (EA.ec _ _ _ hea))).mono ?_; rintro e w4 ⟨rfl, b4⟩; have x4 := x3.below b4 x3.lt; have y4 := y3.below b4 y3.lt; have f4 := f3.then_ b4; have q4 := held8 x4 y4)
          | (go_at_call_of 14 (Value.agg #[.int .i64 op, .int .i64 N, .string nm, .slice A len cap]); refine (Expr_any n op N nm A len cap k _ (EC.keep f4 f4.size _ _ _ he)).mono ?_; rintro e w5 ⟨rfl, b5⟩; have x5 := x4.below b5 x4.lt; have y5 := y4.below b5 y4.lt; have f5 := f4.then_ b5; have q5 := held8 x5 y5))
      go_wp2_with fail
      rw [deep_eq k j hk hr9]
      go_ret
      exact ⟨rfl, f5⟩
end Go.Proofs.Ytenpdmahjefoaaa
