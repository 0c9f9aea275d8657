/-
  BoundMore: what has a statement more has no fewer steps: the walk.
-/
import Derived.Test.YtenpdmahjefoaaaBParts
import Derived.Deep.DeepCutAuto
namespace Go.Proofs.Ytenpdmahjefoaaa
open Go.RowKit

theorem held7 {w' : World} {g : Nat} {t : TypeId} {c0 c1 c2 c3 c4 c5 c6 : Value} (h : Blk w' g t #[c0, c1, c2, c3, c4, c5, c6]) :
    w'.cell? ⟨g, 0, none⟩ = some c0 ∧ w'.cell? ⟨g, 1, none⟩ = some c1 ∧ w'.cell? ⟨g, 2, none⟩ = some c2 ∧ w'.cell? ⟨g, 3, none⟩ = some c3 ∧ w'.cell? ⟨g, 4, none⟩ = some c4 ∧ w'.cell? ⟨g, 5, none⟩ = some c5 ∧ w'.cell? ⟨g, 6, none⟩ = some c6 :=
  ⟨h.cell 0, h.cell 1, h.cell 2, h.cell 3, h.cell 4, h.cell 5, h.cell 6⟩
theorem costS_pos (kind lo hi : Int) (es ls fs : List Nat) : 1 ≤ costS kind lo hi es ls fs := by
  have : 1 ≤ ownS kind := by
    unfold ownS
    repeat' split
    all_goals omega
  unfold costS capT
  omega
theorem SC_pos {w : World} {B n : Nat} {cs : List Value} {k : Nat} (h : SC w B n cs k) : 1 ≤ k := by
  cases n with
  | zero => exact absurd h (fun h => h)
  | succ n =>
    obtain ⟨_, _, _, _, _, _, _, _, _, _, _, _, _, _, _, _, _, _, _, _, _, rfl⟩ := h
    exact costS_pos _ _ _ _ _ _
theorem held14 {w' : World} {g g' : Nat} {t t' : TypeId} {c0 c1 c2 c3 c4 c5 c6 d0 d1 d2 d3 d4 d5 d6 : Value} (h : Blk w' g t #[c0, c1, c2, c3, c4, c5, c6]) (h' : Blk w' g' t' #[d0, d1, d2, d3, d4, d5, d6]) :
    (w'.cell? ⟨g, 0, none⟩ = some c0 ∧ w'.cell? ⟨g, 1, none⟩ = some c1 ∧ w'.cell? ⟨g, 2, none⟩ = some c2 ∧ w'.cell? ⟨g, 3, none⟩ = some c3 ∧ w'.cell? ⟨g, 4, none⟩ = some c4 ∧ w'.cell? ⟨g, 5, none⟩ = some c5 ∧ w'.cell? ⟨g, 6, none⟩ = some c6) ∧
    w'.cell? ⟨g', 0, none⟩ = some d0 ∧ w'.cell? ⟨g', 1, none⟩ = some d1 ∧ w'.cell? ⟨g', 2, none⟩ = some d2 ∧ w'.cell? ⟨g', 3, none⟩ = some d3 ∧ w'.cell? ⟨g', 4, none⟩ = some d4 ∧ w'.cell? ⟨g', 5, none⟩ = some d5 ∧ w'.cell? ⟨g', 6, none⟩ = some d6 := ⟨held7 h, held7 h'⟩
theorem for_stmt {w : World} {B n len cap : Nat} {A : Option Addr} {ks : List Nat} {nm : ByteArray} {hi : Int} (h : Els w B 7 (SC w B n) A len ks) (hh : -9223372036854775808 ≤ hi ∧ hi ≤ 9223372036854775807) :
    SC w B (n + 1) [.int .i64 3, .string nm, .slice none 0 0, .int .i64 1, .int .i64 hi, .slice A len cap, .slice none 0 0] (costS 3 1 hi [] ks []) :=
  ⟨3, 1, hi, nm, none, A, none, 0, len, 0, 0, cap, 0, [], ks, [], rfl, by omega, Els.none_ _ _ _ _ _, h, Els.none_ _ _ _ _ _, rfl⟩
theorem more_law {ks : List Nat} {a b k x y m : Nat} (ha : capT ks.sum = a) (hb : capT (ks.sum + k) = b) (hk : k ≤ 65537) (hx : costS 3 1 (m : Int) [] ks [] = x) (hy : costS 3 1 ((m : Int) + 1) [] ks [] = y) (hm : m ≤ 255) :
    a ≤ b ∧ k ≤ b ∧ x ≤ y ∧ y ≤ 65537 ∧ (y = 65537 ∨ (a < y ∧ x < y)) := by
  have e1 : rnds 1 (m : Int) = m := by unfold rnds; split <;> omega
  have e2 : rnds 1 ((m : Int) + 1) = m + 1 := by unfold rnds; split <;> omega
  have hx' : capT (3 + m * (4 + a)) = x := by rw [← hx, costS, e1, ha]; simp [ownS, partS]
  have hy' : capT (3 + (m + 1) * (4 + a)) = y := by rw [← hy, costS, e2, ha]; simp [ownS, partS]
  rw [Nat.add_mul, Nat.one_mul] at hy'
  generalize m * (4 + a) = q at *
  unfold capT at *
  omega
theorem one_reads {w : World} {g : Nat} {t : TypeId} {cs : List Value} (h : Blk w g t cs.toArray) (hl : cs.length = 7 := by rfl) : Reads w w.heap.size 7 (some ⟨g, 0, none⟩) 1 cs :=
  ⟨by omega, fun _ => ⟨_, rfl, h.lt, fun j u hu => by rw [Addr.add_lit, Nat.zero_add, h.cell j]; simpa using hu⟩⟩

set_option maxHeartbeats 2000000 in
set_option maxRecDepth 100000 in
theorem boundMore_walk (n : Nat) (A : Option Addr) (len cap : Nat) (ks : List Nat) (kind lo hi : Int) (nm : ByteArray) (A0 A1 A2 : Option Addr) (l0 l1 l2 c0 c1 c2 k : Nat) (m : Nat) (w : World) (h : Els w w.heap.size 7 (SC w w.heap.size n) A len ks) (hz : len * 112 ≤ 140737488351232)
    (hs : SC w w.heap.size n [.int .i64 kind, .string nm, .slice A0 l0 c0, .int .i64 lo, .int .i64 hi, .slice A1 l1 c1, .slice A2 l2 c2] k) (hm : m ≤ 255) :
    Calls Try.prog 4 #[.slice A len cap, .agg #[.int .i64 kind, .string nm, .slice A0 l0 c0, .int .i64 lo, .int .i64 hi, .slice A1 l1 c1, .slice A2 l2 c2], .int .u8 m] w (Tells w true) := by
  obtain ⟨i0, hi0, hz0, hz1, hz2⟩ := info_parts info_stmt
  obtain ⟨xs, rl, _, ll, cl⟩ := h
  have ol := SC_ones rl.1 ll cl
  have o7 := SC_one hs
  have RL := Lib.hid rl
  have OL := Lib.hid ol
  have HO7 := Lib.hid o7
  have HJ := Lib.hid (fun (W : World) (A' : Option Addr) (hr : Reads W W.heap.size 7 A' (len + 1) (xs ++ [.int .i64 kind, .string nm, .slice A0 l0 c0, .int .i64 lo, .int .i64 hi, .slice A1 l1 c1, .slice A2 l2 c2])) (hb : Below w.heap.size w W) =>
    (Els.join (Q := SC W W.heap.size n) (ls := [k]) hr (by omega) rl.1 ll rfl (fun i hi => SC.keep hb hb.size n _ _ (cl i hi)) (fun i hi => by
      match i, hi with
      | 0, _ => exact SC.keep hb hb.size n _ _ hs)))
  have HL := Lib.hid (show Els w w.heap.size 7 (SC w w.heap.size n) A len ks from ⟨xs, rl, by omega, ll, cl⟩)
  have HS := Lib.hid hs
  clear rl ll cl ol o7 hs
  go_enter Try.func4, Try.ntmps4
  go_wp2_with fail
  have f0 : Below w.heap.size w (w.alloc (.cells #[Value.int .i64 kind, .string nm, .slice A0 l0 c0, .int .i64 lo, .int .i64 hi, .slice A1 l1 c1, .slice A2 l2 c2] 28)) := (Below.refl _ w).al _
  have x0 := Blk.new w 28 #[Value.int .i64 kind, .string nm, .slice A0 l0 c0, .int .i64 lo, .int .i64 hi, .slice A1 l1 c1, .slice A2 l2 c2]
  generalize w.alloc (.cells #[Value.int .i64 kind, .string nm, .slice A0 l0 c0, .int .i64 lo, .int .i64 hi, .slice A1 l1 c1, .slice A2 l2 c2] 28) = W0 at f0 x0 ⊢
  go_cut [21] (fun t w6 => (∃ b, t = .bool b) ∧ Below W0.heap.size W0 w6)
  case first =>
    go_region_held3 (fun w' => w'.cell? ⟨w.heap.size, 0, none⟩ = some (.int .i64 kind) ∧ w'.cell? ⟨w.heap.size, 1, none⟩ = some (.string nm) ∧ w'.cell? ⟨w.heap.size, 2, none⟩ = some (.slice A0 l0 c0) ∧ w'.cell? ⟨w.heap.size, 3, none⟩ = some (.int .i64 lo) ∧ w'.cell? ⟨w.heap.size, 4, none⟩ = some (.int .i64 hi) ∧ w'.cell? ⟨w.heap.size, 5, none⟩ = some (.slice A1 l1 c1) ∧ w'.cell? ⟨w.heap.size, 6, none⟩ = some (.slice A2 l2 c2))
      (first | exact held7 x0.drew | exact held7 (x0.alloc _).drew | exact held7 ((x0.alloc _).alloc _).drew | exact held7 (x0.below f4 x0.lt) | exact held7 ((x0.below f4 x0.lt).alloc _) | exact q5 | exact q6)
      (first
        | (refine step_append_any _ (by rfl) (.tmp 14) (.tmp 15) _ (by rfl) W0.heap.size 28 i0 _ 7 112 Try.underlying25 hi0 hz0 hz1 hz2 rfl (by omega) (.slice (some ⟨W0.heap.size, 0, none⟩) 0 0) 0 [] (by rfl) (own_empty (by exact (Blk.new _ _ _).drew) (by omega)) w.heap.size A len cap xs (by rfl) (RL.out.below (by exact (f0.trans (((Below.refl _ W0).al _).drew.mono f0.size)))) OL.out (by unfold maxLen; omega) (by omega) (by simp <;> omega) ?_; intro v4 w4 own4 g4 at4; have f4 : Below W0.heap.size W0 w4 := (((Below.refl _ W0).al _).drew).grown g4 (by simp <;> omega) (by simp [Value.ownBlock]); clear g4)
        | (refine step_append_any _ (by rfl) (.tmp 14) (.tmp 15) _ (by rfl) W0.heap.size 28 i0 _ 7 112 Try.underlying25 hi0 hz0 hz1 hz2 rfl (by omega) (.slice (some ⟨W0.heap.size, 0, none⟩) 0 0) 0 [] (by rfl) (own_empty (by exact ((Blk.new _ _ _).alloc _).drew) (by omega)) w.heap.size A len cap xs (by rfl) (RL.out.below (by exact (f0.trans ((((Below.refl _ W0).al _).al _).drew.mono f0.size)))) OL.out (by unfold maxLen; omega) (by omega) (by simp <;> omega) ?_; intro v4 w4 own4 g4 at4; have f4 : Below W0.heap.size W0 w4 := ((((Below.refl _ W0).al _).al _).drew).grown g4 (by simp <;> omega) (by simp [Value.ownBlock]); have x18 : Blk w4 (W0.heap.size + 1) 28 #[Value.int .i64 kind, .string nm, .slice A0 l0 c0, .int .i64 lo, .int .i64 hi, .slice A1 l1 c1, .slice A2 l2 c2] := Blk.grown (by have := Blk.new (W0.alloc (.cells #[] 28)) 28 #[Value.int .i64 kind, .string nm, .slice A0 l0 c0, .int .i64 lo, .int .i64 hi, .slice A1 l1 c1, .slice A2 l2 c2]; simpa using this.drew) g4 (by simp [Value.ownBlock]); clear g4)
        | (refine step_append_any _ (by rfl) (.tmp 14) (.tmp 15) _ (by rfl) W0.heap.size 28 i0 _ 7 112 Try.underlying25 hi0 hz0 hz1 hz2 rfl (by omega) (.slice (some ⟨W0.heap.size + 1, 0, none⟩) 0 0) 0 [] (by rfl) (own_empty (by have hh := (Blk.new (W0.alloc (.cells #[Value.int .i64 kind, .string nm, .slice A0 l0 c0, .int .i64 lo, .int .i64 hi, .slice A1 l1 c1, .slice A2 l2 c2] 28)) 28 #[]).drew; simpa using hh) (by omega)) w.heap.size A len cap xs (by rfl) (RL.out.below (by exact (f0.trans ((((Below.refl _ W0).al _).al _).drew.mono f0.size)))) OL.out (by unfold maxLen; omega) (by omega) (by simp <;> omega) ?_; intro v4 w4 own4 g4 at4; have f4 : Below W0.heap.size W0 w4 := ((((Below.refl _ W0).al _).al _).drew).grown g4 (by simp <;> omega) (by simp [Value.ownBlock]); have x18 : Blk w4 W0.heap.size 28 #[Value.int .i64 kind, .string nm, .slice A0 l0 c0, .int .i64 lo, .int .i64 hi, .slice A1 l1 c1, .slice A2 l2 c2] := Blk.grown ((Blk.new W0 28 #[Value.int .i64 kind, .string nm, .slice A0 l0 c0, .int .i64 lo, .int .i64 hi, .slice A1 l1 c1, .slice A2 l2 c2]).alloc _).drew g4 (by simp [Value.ownBlock]); clear g4)
        | (refine step_append_any _ (by rfl) (.tmp 16) (.tmp 18) _ (by rfl) W0.heap.size 28 i0 _ 7 112 Try.underlying25 hi0 hz0 hz1 hz2 rfl (by omega) v4 _ _ (by rfl) (own4.alloc _) _ (some ⟨w4.heap.size, 0, none⟩) 1 1 [Value.int .i64 kind, .string nm, .slice A0 l0 c0, .int .i64 lo, .int .i64 hi, .slice A1 l1 c1, .slice A2 l2 c2] (by rfl) (one_reads (by exact Blk.new w4 28 [Value.int .i64 kind, .string nm, .slice A0 l0 c0, .int .i64 lo, .int .i64 hi, .slice A1 l1 c1, .slice A2 l2 c2].toArray)) HO7.out (by unfold maxLen; omega) (by omega) (by have := f4.size; simp; omega) ?_; intro v5 w5 own5 g5 at5; have own6 : w5.ownsRow W0.heap.size 28 7 v5 (len + 1) (xs ++ [Value.int .i64 kind, .string nm, .slice A0 l0 c0, .int .i64 lo, .int .i64 hi, .slice A1 l1 c1, .slice A2 l2 c2]) := (by simpa only [Nat.zero_add, List.nil_append] using own5); have f5 : Below W0.heap.size W0 w5 := (f4.alloc f4.size _).grown g5 (by have := f4.size; simp; omega) (fun q hq => by rcases at4 with e | e <;> rw [e] at hq <;> simp [Value.ownBlock] at hq <;> omega); clear own5 own4 g5 at4 at5; obtain ⟨A5, c5, rfl⟩ := own_slice own6; have e5 := HJ.out w5 A5 (Reads.of_own own6) (f0.trans (f5.mono f0.size)); have q5 := held7 (x0.below f5 x0.lt))
        | (refine step_append_any _ (by rfl) (.tmp 16) (.tmp 18) _ (by rfl) W0.heap.size 28 i0 _ 7 112 Try.underlying25 hi0 hz0 hz1 hz2 rfl (by omega) v4 _ _ (by rfl) own4 _ _ 1 1 [Value.int .i64 kind, .string nm, .slice A0 l0 c0, .int .i64 lo, .int .i64 hi, .slice A1 l1 c1, .slice A2 l2 c2] (by rfl) (one_reads (cs := [Value.int .i64 kind, .string nm, .slice A0 l0 c0, .int .i64 lo, .int .i64 hi, .slice A1 l1 c1, .slice A2 l2 c2]) (by exact x18)) HO7.out (by unfold maxLen; omega) (by omega) f4.size ?_; intro v5 w5 own5 g5 at5; have own6 : w5.ownsRow W0.heap.size 28 7 v5 (len + 1) (xs ++ [Value.int .i64 kind, .string nm, .slice A0 l0 c0, .int .i64 lo, .int .i64 hi, .slice A1 l1 c1, .slice A2 l2 c2]) := (by simpa only [Nat.zero_add, List.nil_append] using own5); have f5 : Below W0.heap.size W0 w5 := f4.grown g5 (by exact f4.size) (fun q hq => by rcases at4 with e | e <;> rw [e] at hq <;> simp [Value.ownBlock] at hq <;> omega); clear own5 own4 g5 at4 at5; obtain ⟨A5, c5, rfl⟩ := own_slice own6; have e5 := HJ.out w5 A5 (Reads.of_own own6) (f0.trans (f5.mono f0.size)); have q5 := held7 (x0.below f5 x0.lt))
        | (go_at_call 11; refine (few_any n A5 (len + 1) c5 _ _ e5).mono ?_; rintro e w6 ⟨v6, rfl, b6⟩; have f6 := f5.then_ b6; have q6 := held7 (x0.below f6 x0.lt)))
    all_goals
      go_wp2_with fail
      go_meet
      case rel => exact ⟨⟨_, rfl⟩, f6⟩
  case rest =>
    obtain ⟨⟨b, rfl⟩, f6⟩ := hcut
    have x1 := x0.below f6 x0.lt
    have f1 := f0.trans (f6.mono f0.size)
    clear x0 f0 f6
    obtain ⟨W1, hW1⟩ : ∃ W1, W1 = wc := ⟨_, rfl⟩
    rw [← hW1] at x1 f1 ⊢
    clear hW1 wc
    cases b
    case true =>
      go_wp2_with fail
      refine (known_any _).mono ?_
      rintro e w2 ⟨rfl, b2⟩
      go_wp2_with fail
      go_ret
      exact ⟨rfl, f1.then_ b2⟩
    go_wp2_with fail
    refine (Block_any n A len cap ks _ (HL.out.keep f1 f1.size (SC.keep f1 f1.size n))).mono ?_
    rintro e w2 ⟨rfl, b2⟩
    have x2 := x1.below b2 x1.lt
    have f2 := f1.then_ b2
    clear x1 f1 b2
    obtain ⟨a, Ha⟩ : ∃ a, Hid (capT ks.sum = a) := ⟨_, rfl⟩
    have ha := capT_le ks.sum
    rw [Ha.out] at ha ⊢
    go_wp2_with fail
    go_cut [8] (fun t w6 => t = .int .i64 ((capT (ks.sum + k) : Nat) : Int) ∧ Below w2.heap.size w2 w6)
    case first =>
      go_region_held3 (fun w' => w'.cell? ⟨w.heap.size, 0, none⟩ = some (.int .i64 kind) ∧ w'.cell? ⟨w.heap.size, 1, none⟩ = some (.string nm) ∧ w'.cell? ⟨w.heap.size, 2, none⟩ = some (.slice A0 l0 c0) ∧ w'.cell? ⟨w.heap.size, 3, none⟩ = some (.int .i64 lo) ∧ w'.cell? ⟨w.heap.size, 4, none⟩ = some (.int .i64 hi) ∧ w'.cell? ⟨w.heap.size, 5, none⟩ = some (.slice A1 l1 c1) ∧ w'.cell? ⟨w.heap.size, 6, none⟩ = some (.slice A2 l2 c2))
        (first | exact held7 x2.drew | exact held7 (x2.alloc _).drew | exact held7 ((x2.alloc _).alloc _).drew | exact held7 (x2.below f4 x2.lt) | exact held7 ((x2.below f4 x2.lt).alloc _) | exact q5 | exact q6)
        (first
          | (refine step_append_any _ (by rfl) (.tmp 25) (.tmp 26) _ (by rfl) w2.heap.size 28 i0 _ 7 112 Try.underlying25 hi0 hz0 hz1 hz2 rfl (by omega) (.slice (some ⟨w2.heap.size, 0, none⟩) 0 0) 0 [] (by rfl) (own_empty (by exact (Blk.new _ _ _).drew) (by omega)) w.heap.size A len cap xs (by rfl) (RL.out.below (by exact (f2.trans (((Below.refl _ w2).al _).drew.mono f2.size)))) OL.out (by unfold maxLen; omega) (by omega) (by simp <;> omega) ?_; intro v4 w4 own4 g4 at4; have f4 : Below w2.heap.size w2 w4 := (((Below.refl _ w2).al _).drew).grown g4 (by simp <;> omega) (by simp [Value.ownBlock]); clear g4)
          | (refine step_append_any _ (by rfl) (.tmp 25) (.tmp 26) _ (by rfl) w2.heap.size 28 i0 _ 7 112 Try.underlying25 hi0 hz0 hz1 hz2 rfl (by omega) (.slice (some ⟨w2.heap.size, 0, none⟩) 0 0) 0 [] (by rfl) (own_empty (by exact ((Blk.new _ _ _).alloc _).drew) (by omega)) w.heap.size A len cap xs (by rfl) (RL.out.below (by exact (f2.trans ((((Below.refl _ w2).al _).al _).drew.mono f2.size)))) OL.out (by unfold maxLen; omega) (by omega) (by simp <;> omega) ?_; intro v4 w4 own4 g4 at4; have f4 : Below w2.heap.size w2 w4 := ((((Below.refl _ w2).al _).al _).drew).grown g4 (by simp <;> omega) (by simp [Value.ownBlock]); have x18 : Blk w4 (w2.heap.size + 1) 28 #[Value.int .i64 kind, .string nm, .slice A0 l0 c0, .int .i64 lo, .int .i64 hi, .slice A1 l1 c1, .slice A2 l2 c2] := Blk.grown (by have := Blk.new (w2.alloc (.cells #[] 28)) 28 #[Value.int .i64 kind, .string nm, .slice A0 l0 c0, .int .i64 lo, .int .i64 hi, .slice A1 l1 c1, .slice A2 l2 c2]; simpa using this.drew) g4 (by simp [Value.ownBlock]); clear g4)
          | (refine step_append_any _ (by rfl) (.tmp 25) (.tmp 26) _ (by rfl) w2.heap.size 28 i0 _ 7 112 Try.underlying25 hi0 hz0 hz1 hz2 rfl (by omega) (.slice (some ⟨w2.heap.size + 1, 0, none⟩) 0 0) 0 [] (by rfl) (own_empty (by have hh := (Blk.new (w2.alloc (.cells #[Value.int .i64 kind, .string nm, .slice A0 l0 c0, .int .i64 lo, .int .i64 hi, .slice A1 l1 c1, .slice A2 l2 c2] 28)) 28 #[]).drew; simpa using hh) (by omega)) w.heap.size A len cap xs (by rfl) (RL.out.below (by exact (f2.trans ((((Below.refl _ w2).al _).al _).drew.mono f2.size)))) OL.out (by unfold maxLen; omega) (by omega) (by simp <;> omega) ?_; intro v4 w4 own4 g4 at4; have f4 : Below w2.heap.size w2 w4 := ((((Below.refl _ w2).al _).al _).drew).grown g4 (by simp <;> omega) (by simp [Value.ownBlock]); have x18 : Blk w4 w2.heap.size 28 #[Value.int .i64 kind, .string nm, .slice A0 l0 c0, .int .i64 lo, .int .i64 hi, .slice A1 l1 c1, .slice A2 l2 c2] := Blk.grown ((Blk.new w2 28 #[Value.int .i64 kind, .string nm, .slice A0 l0 c0, .int .i64 lo, .int .i64 hi, .slice A1 l1 c1, .slice A2 l2 c2]).alloc _).drew g4 (by simp [Value.ownBlock]); clear g4)
          | (refine step_append_any _ (by rfl) (.tmp 27) (.tmp 29) _ (by rfl) w2.heap.size 28 i0 _ 7 112 Try.underlying25 hi0 hz0 hz1 hz2 rfl (by omega) v4 _ _ (by rfl) (own4.alloc _) _ (some ⟨w4.heap.size, 0, none⟩) 1 1 [Value.int .i64 kind, .string nm, .slice A0 l0 c0, .int .i64 lo, .int .i64 hi, .slice A1 l1 c1, .slice A2 l2 c2] (by rfl) (one_reads (by exact Blk.new w4 28 [Value.int .i64 kind, .string nm, .slice A0 l0 c0, .int .i64 lo, .int .i64 hi, .slice A1 l1 c1, .slice A2 l2 c2].toArray)) HO7.out (by unfold maxLen; omega) (by omega) (by have := f4.size; simp; omega) ?_; intro v5 w5 own5 g5 at5; have own6 : w5.ownsRow w2.heap.size 28 7 v5 (len + 1) (xs ++ [Value.int .i64 kind, .string nm, .slice A0 l0 c0, .int .i64 lo, .int .i64 hi, .slice A1 l1 c1, .slice A2 l2 c2]) := (by simpa only [Nat.zero_add, List.nil_append] using own5); have f5 : Below w2.heap.size w2 w5 := (f4.alloc f4.size _).grown g5 (by have := f4.size; simp; omega) (fun q hq => by rcases at4 with e | e <;> rw [e] at hq <;> simp [Value.ownBlock] at hq <;> omega); clear own5 own4 g5 at4 at5; obtain ⟨A5, c5, rfl⟩ := own_slice own6; have e5 := HJ.out w5 A5 (Reads.of_own own6) (f2.trans (f5.mono f2.size)); have q5 := held7 (x2.below f5 x2.lt))
          | (refine step_append_any _ (by rfl) (.tmp 27) (.tmp 29) _ (by rfl) w2.heap.size 28 i0 _ 7 112 Try.underlying25 hi0 hz0 hz1 hz2 rfl (by omega) v4 _ _ (by rfl) own4 _ _ 1 1 [Value.int .i64 kind, .string nm, .slice A0 l0 c0, .int .i64 lo, .int .i64 hi, .slice A1 l1 c1, .slice A2 l2 c2] (by rfl) (one_reads (cs := [Value.int .i64 kind, .string nm, .slice A0 l0 c0, .int .i64 lo, .int .i64 hi, .slice A1 l1 c1, .slice A2 l2 c2]) (by exact x18)) HO7.out (by unfold maxLen; omega) (by omega) f4.size ?_; intro v5 w5 own5 g5 at5; have own6 : w5.ownsRow w2.heap.size 28 7 v5 (len + 1) (xs ++ [Value.int .i64 kind, .string nm, .slice A0 l0 c0, .int .i64 lo, .int .i64 hi, .slice A1 l1 c1, .slice A2 l2 c2]) := (by simpa only [Nat.zero_add, List.nil_append] using own5); have f5 : Below w2.heap.size w2 w5 := f4.grown g5 (by exact f4.size) (fun q hq => by rcases at4 with e | e <;> rw [e] at hq <;> simp [Value.ownBlock] at hq <;> omega); clear own5 own4 g5 at4 at5; obtain ⟨A5, c5, rfl⟩ := own_slice own6; have e5 := HJ.out w5 A5 (Reads.of_own own6) (f2.trans (f5.mono f2.size)); have q5 := held7 (x2.below f5 x2.lt))
          | (go_at_call 12; refine (Block_any n A5 (len + 1) c5 _ _ e5).mono ?_; rintro e w6 ⟨rfl, b6⟩; have f6 := f5.then_ b6; have q6 := held7 (x2.below f6 x2.lt)))
      all_goals
        go_wp2_with fail
        go_meet
        case rel => exact ⟨rfl, f6⟩
    case rest =>
      obtain ⟨rfl, f6⟩ := hcut
      have x3 := x2.below f6 x2.lt
      have f3 := f2.trans (f6.mono f2.size)
      clear x2 f2 f6
      obtain ⟨w3, hW1⟩ : ∃ W1, W1 = wc := ⟨_, rfl⟩
      rw [← hW1] at x3 f3 ⊢
      clear hW1 wc
      obtain ⟨b, Hb⟩ : ∃ a, Hid (capT (ks.sum + k) = a) := ⟨_, rfl⟩
      have hb := capT_le (ks.sum + k)
      rw [Hb.out] at hb ⊢
      obtain ⟨q0, q1, q2, q3, q4, q5, q6⟩ := held7 x3
      go_wp2_with fail
      clear q0 q1 q2 q3 q4 q5 q6
      have n4 := Blk.new w3 28 #[Value.int .i64 kind, .string nm, .slice A0 l0 c0, .int .i64 lo, .int .i64 hi, .slice A1 l1 c1, .slice A2 l2 c2]
      have f4 : Below w3.heap.size w3 _ := (Below.refl _ w3).al (.cells #[Value.int .i64 kind, .string nm, .slice A0 l0 c0, .int .i64 lo, .int .i64 hi, .slice A1 l1 c1, .slice A2 l2 c2] 28)
      have f34 := f3.then_ f4
      refine (Block_any n _ _ _ [k] _ (one_stmt (cs := [_, _, _, _, _, _, _]) n4 (by simp) (SC.keep f34 f34.size n _ _ HS.out))).mono ?_
      rintro e w4 ⟨rfl, b4⟩
      have f5 := f34.then_ b4
      have x4 := (x3.below f4 x3.lt).below b4 (Nat.lt_of_lt_of_le x3.lt f4.size)
      clear n4 f4 f34 b4 x3 f3
      have hk := SC_le HS.out
      have hk1 := SC_pos HS.out
      rw [cap_one k hk]
      go_wp2_with fail
      obtain ⟨y0, y1, f45⟩ := blks2 (Below.refl ((w4.alloc (.cells #[Value.int .i64 3, .string ⟨#[105]⟩, .slice none 0 0, .int .i64 1, .int .i64 (m : Int), .slice A len cap, .slice none 0 0] 28)).alloc (.cells #[Value.int .i64 3, .string ⟨#[105]⟩, .slice none 0 0, .int .i64 1, .int .i64 ((m : Int) + 1), .slice A len cap, .slice none 0 0] 28)).heap.size _)
      have f6 := f5.then_ f45
      clear f45 x4 f5
      generalize ((w4.alloc (.cells #[Value.int .i64 3, .string ⟨#[105]⟩, .slice none 0 0, .int .i64 1, .int .i64 (m : Int), .slice A len cap, .slice none 0 0] 28)).alloc (.cells #[Value.int .i64 3, .string ⟨#[105]⟩, .slice none 0 0, .int .i64 1, .int .i64 ((m : Int) + 1), .slice A len cap, .slice none 0 0] 28)) = W5 at y0 y1 f6 ⊢
      obtain ⟨p, hp⟩ : ∃ p : Int, p = (m : Int) + 1 := ⟨_, rfl⟩
      rw [← hp] at y1 ⊢
      have hp1 : 0 ≤ p := by omega
      have hp2 : p ≤ 256 := by omega
      have HP := Lib.hid hp
      clear hp
      have HF := Lib.hid (fun (W : World) (g : Nat) (hB : Blk W g 28 #[Value.int .i64 3, .string ⟨#[105]⟩, .slice none 0 0, .int .i64 1, .int .i64 (m : Int), .slice A len cap, .slice none 0 0]) (hb : Below w.heap.size w W) => one_stmt (n := n + 1) (cs := [_, _, _, _, _, _, _]) hB hB.lt (for_stmt (HL.out.keep hb hb.size (SC.keep hb hb.size n)) (by omega)))
      have HG := Lib.hid (fun (W : World) (g : Nat) (hB : Blk W g 28 #[Value.int .i64 3, .string ⟨#[105]⟩, .slice none 0 0, .int .i64 1, .int .i64 p, .slice A len cap, .slice none 0 0]) (hb : Below w.heap.size w W) => one_stmt (n := n + 1) (cs := [_, _, _, _, _, _, _]) hB hB.lt (for_stmt (HL.out.keep hb hb.size (SC.keep hb hb.size n)) (by omega)))
      go_cut [12, 13] (fun t u w9 => t = .int .i64 ((costS 3 1 (m : Int) [] ks [] : Nat) : Int) ∧ u = .int .i64 ((costS 3 1 p [] ks [] : Nat) : Int) ∧ Below w.heap.size w w9)
      case first =>
        have q := held14 y0.drew y1.drew
        have hx := costS_le 3 1 (m : Int) [] ks []
        have hy := costS_le 3 1 p [] ks []
        obtain ⟨x, Hx⟩ : ∃ a, Hid (costS 3 1 (m : Int) [] ks [] = a) := ⟨_, rfl⟩
        obtain ⟨y, Hy⟩ : ∃ a, Hid (costS 3 1 p [] ks [] = a) := ⟨_, rfl⟩
        rw [Hx.out] at hx
        rw [Hy.out] at hy
        go_region_held3 (fun w' => (w'.cell? ⟨w4.heap.size, 0, none⟩ = some (.int .i64 3) ∧ w'.cell? ⟨w4.heap.size, 1, none⟩ = some (.string ⟨#[105]⟩) ∧ w'.cell? ⟨w4.heap.size, 2, none⟩ = some (.slice none 0 0) ∧ w'.cell? ⟨w4.heap.size, 3, none⟩ = some (.int .i64 1) ∧ w'.cell? ⟨w4.heap.size, 4, none⟩ = some (.int .i64 (m : Int)) ∧ w'.cell? ⟨w4.heap.size, 5, none⟩ = some (.slice A len cap) ∧ w'.cell? ⟨w4.heap.size, 6, none⟩ = some (.slice none 0 0)) ∧ w'.cell? ⟨w4.heap.size + 1, 0, none⟩ = some (.int .i64 3) ∧ w'.cell? ⟨w4.heap.size + 1, 1, none⟩ = some (.string ⟨#[105]⟩) ∧ w'.cell? ⟨w4.heap.size + 1, 2, none⟩ = some (.slice none 0 0) ∧ w'.cell? ⟨w4.heap.size + 1, 3, none⟩ = some (.int .i64 1) ∧ w'.cell? ⟨w4.heap.size + 1, 4, none⟩ = some (.int .i64 p) ∧ w'.cell? ⟨w4.heap.size + 1, 5, none⟩ = some (.slice A len cap) ∧ w'.cell? ⟨w4.heap.size + 1, 6, none⟩ = some (.slice none 0 0))
          (first | exact q | exact held14 (y0.alloc _).drew (y1.alloc _).drew | exact held14 ((y0.alloc _).alloc _).drew ((y1.alloc _).alloc _).drew | exact held14 (y0.below r6 y0.lt) (y1.below r6 y1.lt) | exact held14 ((y0.below r6 y0.lt).alloc _) ((y1.below r6 y1.lt).alloc _) | exact held14 (y0.below r7 y0.lt) (y1.below r7 y1.lt))
          (first
            | (go_at_call_of 12 (Value.slice (some (⟨W5.heap.size, 0, none⟩ : Addr)) 1 1); refine (Block_any (n + 1) _ _ _ _ _ (HF.out _ _ (by exact (Blk.new _ _ _).drew) (f6.then_ (((Below.refl _ W5).al _).drew)))).mono ?_; rintro e w6 ⟨rfl, b6⟩; rw [Hx.out, cap_one x hx]; have r6 : Below W5.heap.size W5 w6 := (((Below.refl _ W5).al _).drew).then_ b6; have tok := trivial)
            | (go_at_call_of 12 (Value.slice (some (⟨W5.heap.size, 0, none⟩ : Addr)) 1 1); refine (Block_any (n + 1) _ _ _ _ _ (HF.out _ _ (by exact ((Blk.new _ _ _).alloc _).drew) (f6.then_ ((((Below.refl _ W5).al _).al _).drew)))).mono ?_; rintro e w6 ⟨rfl, b6⟩; rw [Hx.out, cap_one x hx]; have r6 : Below W5.heap.size W5 w6 := ((((Below.refl _ W5).al _).al _).drew).then_ b6; have yG : Blk w6 (W5.heap.size + 1) 28 #[Value.int .i64 3, .string ⟨#[105]⟩, .slice none 0 0, .int .i64 1, .int .i64 p, .slice A len cap, .slice none 0 0] := Blk.below (by have hh := (Blk.new (W5.alloc (.cells #[Value.int .i64 3, .string ⟨#[105]⟩, .slice none 0 0, .int .i64 1, .int .i64 (m : Int), .slice A len cap, .slice none 0 0] 28)) 28 #[Value.int .i64 3, .string ⟨#[105]⟩, .slice none 0 0, .int .i64 1, .int .i64 p, .slice A len cap, .slice none 0 0]).drew; simpa using hh) b6 (by simp))
            | (go_at_call 12; refine (Block_any (n + 1) _ _ _ _ _ (HG.out _ _ (by exact yG) (f6.then_ r6))).mono ?_; rintro e w7 ⟨rfl, b7⟩; rw [Hy.out, cap_one y hy]; have r7 := r6.then_ b7)
            | (go_at_call 12; refine (Block_any (n + 1) _ _ _ _ _ (HG.out _ _ (by exact Blk.new _ _ _) ((f6.then_ r6).al _))).mono ?_; rintro e w7 ⟨rfl, b7⟩; rw [Hy.out, cap_one y hy]; have r7 := (r6.al _).then_ b7)
            | (go_at_call 12; refine (Block_any (n + 1) _ _ _ _ _ (HF.out _ _ (by have hh := (Blk.new (W5.alloc (.cells #[Value.int .i64 3, .string ⟨#[105]⟩, .slice none 0 0, .int .i64 1, .int .i64 p, .slice A len cap, .slice none 0 0] 28)) 28 #[Value.int .i64 3, .string ⟨#[105]⟩, .slice none 0 0, .int .i64 1, .int .i64 (m : Int), .slice A len cap, .slice none 0 0]).drew; simpa using hh) (f6.then_ ((((Below.refl _ W5).al _).al _).drew)))).mono ?_; rintro e w6 ⟨rfl, b6⟩; rw [Hx.out, cap_one x hx]; have r6 : Below W5.heap.size W5 w6 := ((((Below.refl _ W5).al _).al _).drew).then_ b6; have yG : Blk w6 W5.heap.size 28 #[Value.int .i64 3, .string ⟨#[105]⟩, .slice none 0 0, .int .i64 1, .int .i64 p, .slice A len cap, .slice none 0 0] := Blk.below ((Blk.new W5 28 #[Value.int .i64 3, .string ⟨#[105]⟩, .slice none 0 0, .int .i64 1, .int .i64 p, .slice A len cap, .slice none 0 0]).alloc _).drew b6 (by simp <;> omega)))
        all_goals
          go_wp2_with fail
          go_meet
          case rel => exact ⟨by rw [Hx.out], by rw [Hy.out], f6.then_ r7⟩
      case rest =>
        obtain ⟨rfl, rfl, f7⟩ := hcut
        obtain ⟨x, Hx⟩ : ∃ a, Hid (costS 3 1 (m : Int) [] ks [] = a) := ⟨_, rfl⟩
        obtain ⟨y, Hy⟩ : ∃ a, Hid (costS 3 1 p [] ks [] = a) := ⟨_, rfl⟩
        rw [Hx.out, Hy.out]
        obtain ⟨l1', l2', l3', l4', l5'⟩ := more_law (y := y) Ha.out Hb.out hk Hx.out (by rw [← HP.out]; exact Hy.out) hm
        go_wp2_with fail
        refine (known_any _).mono ?_
        rintro e w8 ⟨rfl, b8⟩
        by_cases hy : y = 65537
        · have t1 : ((y : Int) == 65537) = true := by rw [beq_iff_eq]; omega
          clear hy
          go_wp2_with fail
          all_goals (go_ret; exact ⟨rfl, f7.then_ b8⟩)
        · obtain ⟨m1, m2⟩ : a < y ∧ x < y := by omega
          go_wp2_with fail
          all_goals (go_ret; exact ⟨rfl, f7.then_ b8⟩)

theorem boundMore_any (n n1 : Nat) (A : Option Addr) (len cap : Nat) (ks : List Nat) (kind lo hi : Int) (nm : ByteArray) (A0 A1 A2 : Option Addr) (l0 l1 l2 c0 c1 c2 k : Nat) (m : Int) (w : World) (h : Els w w.heap.size 7 (SC w w.heap.size n) A len ks) (hz : len * 112 ≤ 140737488351232)
    (hs : SC w w.heap.size n1 [.int .i64 kind, .string nm, .slice A0 l0 c0, .int .i64 lo, .int .i64 hi, .slice A1 l1 c1, .slice A2 l2 c2] k) (hm0 : 0 ≤ m) (hm : m ≤ 255) :
    Calls Try.prog 4 #[.slice A len cap, .agg #[.int .i64 kind, .string nm, .slice A0 l0 c0, .int .i64 lo, .int .i64 hi, .slice A1 l1 c1, .slice A2 l2 c2], .int .u8 m] w (Tells w true) := by
  obtain ⟨q, rfl⟩ := Int.eq_ofNat_of_zero_le hm0
  exact boundMore_walk (n + n1) A len cap ks kind lo hi nm A0 A1 A2 l0 l1 l2 c0 c1 c2 k q w (h.deeper7 (by omega)) hz (hs.deeper (by omega)) (by omega)
end Go.Proofs.Ytenpdmahjefoaaa
