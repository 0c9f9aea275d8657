/-
  BoundIf: of a choice the block that has more counts: the walk.
-/
import Derived.Test.YtenpdmahjefoaaaBFew
namespace Go.Proofs.Ytenpdmahjefoaaa
open Go.RowKit

/-- One statement, of k steps, in a block of its own. -/
theorem one_stmt {w : World} {B g n k : Nat} {t : TypeId} {cs : List Value} (h : Blk w g t cs.toArray) (hg : g < B) (hs : SC w B n cs k) : Els w B 7 (SC w B n) (some ⟨g, 0, none⟩) 1 [k] := by
  have hl : cs.length = 7 := by
    obtain ⟨kind, lo, hi, nm, A0, A1, A2, l0, l1, l2, c0, c1, c2, e⟩ := SC_form hs
    rw [e]; rfl
  refine Els.of_blk h hg (by simpa using hl) (by omega) rfl (fun i hi => ?_)
  match i, hi with
  | 0, _ =>
    have e : ((cs.toArray.toList.drop (0 * 7)).take 7) = cs := List.take_of_length_le (Nat.le_of_eq hl)
    rw [e]
    exact hs
theorem one_expr {w : World} {B g n k : Nat} {t : TypeId} {cs : List Value} (h : Blk w g t cs.toArray) (hg : g < B) (hs : EC w B n cs k) : Els w B 4 (EC w B n) (some ⟨g, 0, none⟩) 1 [k] := by
  have hl : cs.length = 4 := by
    obtain ⟨op, N, nm, A, len, cap, e⟩ := EC_form hs
    rw [e]; rfl
  refine Els.of_blk h hg (by simpa using hl) (by omega) rfl (fun i hi => ?_)
  match i, hi with
  | 0, _ =>
    have e : ((cs.toArray.toList.drop (0 * 4)).take 4) = cs := List.take_of_length_le (Nat.le_of_eq hl)
    rw [e]
    exact hs
theorem Els.deeper7 {w : World} {B n m : Nat} {A : Option Addr} {len : Nat} {ks : List Nat} (h : Els w B 7 (SC w B n) A len ks) (hm : n ≤ m) : Els w B 7 (SC w B m) A len ks := h.keep (Below.refl _ _) (Nat.le_refl _) (fun _ _ h => h.deeper hm)

/-- An 'if' in memory. -/
theorem if_stmt {w : World} {g0 g1 n k : Nat} {t0 t1 : TypeId} {op N : Int} {nm nm' : ByteArray} {A A1 A2 : Option Addr} {len cap l1 l2 c1 c2 : Nat} {ls fs : List Nat} (hs0 : Blk w g0 t0 #[.int .i64 op, .int .i64 N, .string nm, .slice A len cap])
    (hs1 : Blk w g1 t1 #[.int .i64 2, .string nm', .slice (some ⟨g0, 0, none⟩) 1 1, .int .i64 0, .int .i64 0, .slice A1 l1 c1, .slice A2 l2 c2])
    (he : EC w w.heap.size n [.int .i64 op, .int .i64 N, .string nm, .slice A len cap] k) (h1 : Els w w.heap.size 7 (SC w w.heap.size n) A1 l1 ls) (h2 : Els w w.heap.size 7 (SC w w.heap.size n) A2 l2 fs) :
    Els w w.heap.size 7 (SC w w.heap.size (n + 1)) (some ⟨g1, 0, none⟩) 1 [capT (3 + k + max (capT ls.sum) (capT fs.sum))] := by
  refine one_stmt (cs := [_, _, _, _, _, _, _]) hs1 hs1.lt ⟨2, 0, 0, nm', _, A1, A2, 1, l1, l2, 1, c1, c2, [k], ls, fs, rfl, by omega, one_expr (cs := [_, _, _, _]) hs0 hs0.lt he, h1, h2, ?_⟩
  simp [costS, ownS, partS]

theorem cap_one (k : Nat) (h : k ≤ 65537) : capT ([k] : List Nat).sum = k := by simp [capT]; omega
theorem none_max (k : Nat) : capT (3 + k + max (capT ([] : List Nat).sum) (capT ([] : List Nat).sum)) = capT (3 + k) := by simp [capT]
theorem min_cast (m : Nat) : (min (m : Int) 65537) = ((capT m : Nat) : Int) := by unfold capT; omega

set_option maxHeartbeats 2000000 in
set_option maxRecDepth 100000 in
theorem boundIf_walk (n : Nat) (op N : Int) (nm : ByteArray) (A A1 A2 : Option Addr) (len cap l1 l2 c1 c2 k : Nat) (ls fs : List Nat) (w : World) (he : EC w w.heap.size n [.int .i64 op, .int .i64 N, .string nm, .slice A len cap] k)
    (h1 : Els w w.heap.size 7 (SC w w.heap.size n) A1 l1 ls) (h2 : Els w w.heap.size 7 (SC w w.heap.size n) A2 l2 fs) :
    Calls Try.prog 6 #[.agg #[.int .i64 op, .int .i64 N, .string nm, .slice A len cap], .slice A1 l1 c1, .slice A2 l2 c2] w (Tells w true) := by
  go_enter Try.func6, Try.ntmps6
  have f0 : Below w.heap.size w (w.alloc (.cells #[.int .i64 op, .int .i64 N, .string nm, .slice A len cap] 35)) := (Below.refl _ w).al _
  have x0 := Blk.new w 35 #[.int .i64 op, .int .i64 N, .string nm, .slice A len cap]
  go_wp2_with fail
  refine (fewExpr_any n op N nm A len cap k _ (EC.keep f0 f0.size _ _ _ he)).mono ?_
  rintro e w1 ⟨v1, rfl, b1⟩
  have x1 := x0.below b1 (by simp)
  have f1 := f0.then_ b1
  clear f0 x0 b1
  cases v1
  · go_wp2_with fail
    refine (known_any _).mono ?_
    rintro e w2 ⟨rfl, b2⟩
    go_wp2_with fail
    go_ret
    exact ⟨rfl, f1.then_ b2⟩
  go_wp2_with fail
  refine (few_any n A1 l1 c1 ls _ (h1.keep f1 f1.size (SC.keep f1 f1.size n))).mono ?_
  rintro e w2 ⟨v2, rfl, b2⟩
  have x2 := x1.below b2 x1.lt
  have f2 := f1.then_ b2
  clear f1 x1 b2
  cases v2
  · go_wp2_with fail
    refine (known_any _).mono ?_
    rintro e w3 ⟨rfl, b3⟩
    go_wp2_with fail
    go_ret
    exact ⟨rfl, f2.then_ b3⟩
  go_wp2_with fail
  refine (few_any n A2 l2 c2 fs _ (h2.keep f2 f2.size (SC.keep f2 f2.size n))).mono ?_
  rintro e w3 ⟨v3, rfl, b3⟩
  have x3 := x2.below b3 x2.lt
  have f3 := f2.then_ b3
  clear f2 x2 b3
  cases v3
  · go_wp2_with fail
    refine (known_any _).mono ?_
    rintro e w4 ⟨rfl, b4⟩
    go_wp2_with fail
    go_ret
    exact ⟨rfl, f3.then_ b4⟩
  -- x
  obtain ⟨q0, q1, q2, q3⟩ := held1 x3
  go_wp2_with fail
  clear q0 q1 q2 q3
  obtain ⟨s0, s1, s2⟩ := blks2 (Below.refl ((w3.alloc (Obj.cells #[Value.int .i64 op, .int .i64 N, .string nm, .slice A len cap] 35)).alloc (Obj.cells #[Value.int .i64 2, .string ⟨#[]⟩, .slice (some ⟨w3.heap.size, 0, none⟩) 1 1, .int .i64 0, .int .i64 0, .slice A1 l1 c1, .slice A2 l2 c2] 28)).heap.size _)
  have f4 := f3.then_ s2
  refine (Block_any (n + 1) _ _ _ _ _ (if_stmt s0 s1 (EC.keep f4 f4.size _ _ _ he) (h1.keep f4 f4.size (SC.keep f4 f4.size n)) (h2.keep f4 f4.size (SC.keep f4 f4.size n)))).mono ?_
  rintro e w5 ⟨rfl, b5⟩
  have f5 := f4.then_ b5
  have x5 := (x3.below s2 x3.lt).below b5 (Nat.lt_of_lt_of_le x3.lt s2.size)
  clear s0 s1 s2 f4 b5 x3 f3
  rw [cap_one _ (capT_le _)]
  -- y
  obtain ⟨q0, q1, q2, q3⟩ := held1 x5
  go_wp2_with fail
  clear q0 q1 q2 q3
  obtain ⟨s0, s1, s2⟩ := blks2 (Below.refl ((w5.alloc (Obj.cells #[Value.int .i64 op, .int .i64 N, .string nm, .slice A len cap] 35)).alloc (Obj.cells #[Value.int .i64 2, .string ⟨#[]⟩, .slice (some ⟨w5.heap.size, 0, none⟩) 1 1, .int .i64 0, .int .i64 0, .slice A2 l2 c2, .slice A1 l1 c1] 28)).heap.size _)
  have f6 := f5.then_ s2
  refine (Block_any (n + 1) _ _ _ _ _ (if_stmt s0 s1 (EC.keep f6 f6.size _ _ _ he) (h2.keep f6 f6.size (SC.keep f6 f6.size n)) (h1.keep f6 f6.size (SC.keep f6 f6.size n)))).mono ?_
  rintro e w7 ⟨rfl, b7⟩
  have f7 := f6.then_ b7
  have x7 := (x5.below s2 x5.lt).below b7 (Nat.lt_of_lt_of_le x5.lt s2.size)
  clear s0 s1 s2 f6 b7 x5 f5
  rw [cap_one _ (capT_le _), Nat.max_comm]
  -- none
  obtain ⟨q0, q1, q2, q3⟩ := held1 x7
  go_wp2_with fail
  clear q0 q1 q2 q3
  obtain ⟨s0, s1, s2⟩ := blks2 (Below.refl ((w7.alloc (Obj.cells #[Value.int .i64 op, .int .i64 N, .string nm, .slice A len cap] 35)).alloc (Obj.cells #[Value.int .i64 2, .string ⟨#[]⟩, .slice (some ⟨w7.heap.size, 0, none⟩) 1 1, .int .i64 0, .int .i64 0, .slice none 0 0, .slice none 0 0] 28)).heap.size _)
  have f8 := f7.then_ s2
  refine (Block_any (n + 1) _ _ _ _ _ (if_stmt s0 s1 (EC.keep f8 f8.size _ _ _ he) (Els.none_ _ _ _ _ _) (Els.none_ _ _ _ _ _))).mono ?_
  rintro e w9 ⟨rfl, b9⟩
  have f9 := f8.then_ b9
  have x9 := (x7.below s2 x7.lt).below b9 (Nat.lt_of_lt_of_le x7.lt s2.size)
  clear s0 s1 s2 f8 b9 x7 f7
  rw [cap_one _ (capT_le _), none_max]
  go_wp2_with fail
  refine (Block_any n _ _ _ _ _ (h1.keep f9 f9.size (SC.keep f9 f9.size n))).mono ?_
  rintro e w10 ⟨rfl, b10⟩
  have f10 := f9.then_ b10
  go_wp2_with fail
  refine (Block_any n _ _ _ _ _ (h2.keep f10 f10.size (SC.keep f10 f10.size n))).mono ?_
  rintro e w11 ⟨rfl, b11⟩
  have f11 := f10.then_ b11
  have x11 := (x9.below b10 x9.lt).below b11 (Nat.lt_of_lt_of_le x9.lt b10.size)
  clear b10 b11 f10 f9 x9
  have hk := EC_le he
  have E1 : Hid (capT (capT (3 + k) + max (capT ls.sum) (capT fs.sum)) = capT (3 + k + max (capT ls.sum) (capT fs.sum))) := capT_add _ _
  obtain ⟨a, Ha⟩ : ∃ a, Hid (capT ls.sum = a) := ⟨_, rfl⟩
  obtain ⟨b, Hb⟩ : ∃ a, Hid (capT fs.sum = a) := ⟨_, rfl⟩
  have ha := capT_le ls.sum
  have hb := capT_le fs.sum
  rw [Ha.out, Hb.out] at E1
  rw [Ha.out] at ha ⊢
  rw [Hb.out] at hb ⊢
  have hx := capT_le (3 + k + max a b)
  have hn := capT_le (3 + k)
  obtain ⟨x, Hx⟩ : ∃ x, Hid (capT (3 + k + max a b) = x) := ⟨_, rfl⟩
  obtain ⟨y, Hy⟩ : ∃ x, Hid (capT (3 + k) = x) := ⟨_, rfl⟩
  rw [Hx.out] at hx ⊢
  rw [Hy.out] at hn ⊢
  rw [Hx.out, Hy.out] at E1
  go_wp2_with fail
  rw [show min ((y : Int) + max (a : Int) (b : Int)) 65537 = (x : Int) from by have := E1.out; unfold capT at this; omega]
  refine (known_any _).mono ?_
  rintro e w12 ⟨rfl, b12⟩
  have f12 := f11.then_ b12
  have x12 := x11.below b12 x11.lt
  clear x11 f11 b12
  obtain ⟨q0, q1, q2, q3⟩ := held1 x12
  go_wp2_with fail
  refine (Expr_any n op N nm A len cap k _ (EC.keep f12 f12.size _ _ _ he)).mono ?_
  rintro e w13 ⟨rfl, b13⟩
  have EY : min (3 + (k : Int)) 65537 = (y : Int) := by have := Hy.out; unfold capT at this; omega
  go_wp2_with fail
  go_ret
  exact ⟨rfl, f12.then_ b13⟩

theorem boundIf_any (n n1 n2 : Nat) (op N : Int) (nm : ByteArray) (A A1 A2 : Option Addr) (len cap l1 l2 c1 c2 k : Nat) (ls fs : List Nat) (w : World) (he : EC w w.heap.size n [.int .i64 op, .int .i64 N, .string nm, .slice A len cap] k)
    (h1 : Els w w.heap.size 7 (SC w w.heap.size n1) A1 l1 ls) (h2 : Els w w.heap.size 7 (SC w w.heap.size n2) A2 l2 fs) :
    Calls Try.prog 6 #[.agg #[.int .i64 op, .int .i64 N, .string nm, .slice A len cap], .slice A1 l1 c1, .slice A2 l2 c2] w (Tells w true) :=
  boundIf_walk (n + n1 + n2) op N nm A A1 A2 len cap l1 l2 c1 c2 k ls fs w (he.deeper (by omega)) (h1.deeper7 (by omega)) (h2.deeper7 (by omega))
end Go.Proofs.Ytenpdmahjefoaaa
