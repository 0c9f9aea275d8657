
/-
  The document's first: the entry with which bytes begin.
-/
import Derived.Test.YtidppcaohkfnfaaK16
import Derived.Test.YtidppcaohkfnfaaRefSome2
namespace Go.Proofs.Ytidppcaohkfnfaa
open Go.RowKit

theorem RIn.below2 {D : Nat → Prop} {w w' : World} {A : Option Addr} {n : Nat} {l : List UInt8} (h : RIn D w A n l) (hb : Below w.heap.size w w') : RIn D w' A n l := h.kept (Kept.of_below (S := fun _ => False) hb) (fun _ _ h => h)
theorem refRead_st (A : Option Addr) (n c at_ err : Nat) (most v a' e' : Nat) (y : Int) (hy : y = (most : Int)) (b : List UInt8) (w : World) (hr : RB w A n b) (hc : n ≤ c) (hn : n ≤ 140737488355328) (hat : at_ ≤ n) (hst : Hid (readNum b at_ err most = (v, a', e'))) :
    Calls Try.prog 56 #[rV A n c at_ err, .int .u64 y] w fun e w' => e = .returned (.tuple #[rV A n c a' e', .int .u64 (v : Int)]) ∧ Below w.heap.size w w' := by
  have h := refRead_any A n c at_ err most y hy b w hr hc hn hat
  rw [hst.out] at h
  exact h
theorem refSome_st (A : Option Addr) (n c at_ err lim a' e' : Nat) (l : List UInt8) (most : Int) (hlim : lim = most.toNat) (hmost : most ≤ 9223372036854775807) (b : List UInt8) (w : World) (hr : RB w A n b) (hc : n ≤ c) (hn : n ≤ 140737488355328) (hat : at_ ≤ n) (hst : Hid (readBytes b at_ err lim = (l, a', e'))) :
    Calls Try.prog 57 #[rV A n c at_ err, .int .i64 most] w fun e w' => ∃ A' m' c', e = .returned (.tuple #[rV A n c a' e', .slice A' m' c']) ∧ m' ≤ c' ∧ c' ≤ 9223372036854775807 ∧ RIn (fun k => w.heap.size ≤ k) w' A' m' l ∧ Below w.heap.size w w' := by
  have h := refSome2_any A n c at_ err lim most hlim hmost b w hr hc hn hat
  rw [hst.out] at h
  exact h
theorem readNum_at (b : List UInt8) (at_ err most : Nat) (h : at_ ≤ b.length) : (readNum b at_ err most).2.1 ≤ b.length := by
  unfold readNum
  split
  · exact h
  · have h1 := stepN_size (b.drop at_) most
    rw [List.length_drop] at h1
    simp only [after]
    split <;> simp only <;> omega
theorem readBytes_at (b : List UInt8) (at_ err lim : Nat) (h : at_ ≤ b.length) : (readBytes b at_ err lim).2.1 ≤ b.length := by
  unfold readBytes
  split
  · exact h
  · have h1 := stepB_size (b.drop at_) lim
    rw [List.length_drop] at h1
    simp only [afterB]
    split <;> simp only <;> omega
theorem Blk.rput {w : World} {g : Nat} {t : TypeId} {a b c : Value} (h : Blk w g t #[a, b, c]) (x y z : Value) : Blk (((w.setCell ⟨g, 0, none⟩ x).setCell ⟨g, 1, none⟩ y).setCell ⟨g, 2, none⟩ z) g t #[x, y, z] := ((h.set_ 0 x).set_ 1 y).set_ 2 z
theorem Kept.rput (w : World) (g : Nat) (x y z : Value) : Kept (fun k => k = g) w (((w.setCell ⟨g, 0, none⟩ x).setCell ⟨g, 1, none⟩ y).setCell ⟨g, 2, none⟩ z) :=
  (((Kept.refl (fun k => k = g) w).setCell (p := ⟨g, 0, none⟩) (fun _ => rfl) _).setCell (p := ⟨g, 1, none⟩) (fun _ => rfl) _).setCell (p := ⟨g, 2, none⟩) (fun _ => rfl) _

/-- What first gives. -/
def FirstGot (w : World) (b : List UInt8) (e : Ending) (w' : World) : Prop :=
  Below w.heap.size w w' ∧ ((∃ m : Me, e = .returned (.tuple #[m.val, .int .i64 ((entryB D8 m.en).length : Int)]) ∧ Begins b m.en ∧ m.Ok (fun k => w.heap.size ≤ k) w' ∧ m.Right) ∨
    (e = .returned (.tuple #[zeroE, .int .i64 0]) ∧ ∀ x, ¬ Begins b x))

set_option maxHeartbeats 4000000 in
set_option maxRecDepth 100000 in
theorem refFirst_any (A : Option Addr) (n c : Nat) (b : List UInt8) (w : World) (ha : RB w A n b) (hnc : n ≤ c) (hcm : c ≤ 9223372036854775807) (hn : n ≤ 100000) :
    Calls Try.prog 41 #[.slice A n c] w (FirstGot w b) := by
  have hl := ha.len
  have PY := Lib.hid (fun e (h : Begins b e) => doc_yes h)
  have PI := Lib.hid (fun h => doc_inv (b := b) h)
  obtain ⟨kd, a1, e1, p1⟩ := triple (P1 b)
  obtain ⟨key, a2, e2, p2⟩ := triple (P2 b)
  obtain ⟨body, a3, e3, p3⟩ := triple (Q3 b)
  have q1 : Hid (readNum b 0 0 255 = (kd, a1, e1)) := p1
  have q2 : Hid (readBytes b a1 e1 64 = (key, a2, e2)) := by
    have := p2
    unfold P2 at this
    rw [p1] at this
    exact this
  have q3 : Hid (readBytes b a2 e2 65536 = (body, a3, e3)) := by
    have := p3
    unfold Q3 at this
    rw [p2] at this
    exact this
  have b1 : kd ≤ 255 := by have := readNum_le b 0 0 255; rw [q1.out] at this; exact this
  have b2 : key.length ≤ 64 := by have := readBytes_le b a1 e1 64; rw [q2.out] at this; exact this
  have b3 : body.length ≤ 65536 := by have := readBytes_le b a2 e2 65536; rw [q3.out] at this; exact this
  have c1 : a1 ≤ n := by have := readNum_at b 0 0 255 (by omega); rw [q1.out] at this; rw [hl]; exact this
  have c2 : a2 ≤ n := by have := readBytes_at b a1 e1 64 (by omega); rw [q2.out] at this; rw [hl]; exact this
  have c3 : a3 ≤ n := by have := readBytes_at b a2 e2 65536 (by omega); rw [q3.out] at this; rw [hl]; exact this
  have PI' : Hid (e3 = 0 → En.Right ⟨(kd : Int), key, body⟩ ∧ (b.take (a3 + 8) = entryB D8 ⟨(kd : Int), key, body⟩ → Begins b ⟨(kd : Int), key, body⟩)) := by
    intro h1
    have := PI.out
    rw [p1, p2, p3] at this
    exact this h1
  have PY' : Hid (∀ e, Begins b e → (kd : Int) = e.kind ∧ key = e.key ∧ e3 = 0 ∧ body = e.body ∧ a3 + 8 = (entryB D8 e).length ∧ a3 + 8 ≤ b.length ∧ b.take (a3 + 8) = entryB D8 e) := by
    intro e h
    obtain ⟨a, h1, h2, h3, h4, h5, h6⟩ := PY.out e h
    rw [p1] at h1
    rw [p2] at h2
    rw [p3] at h3
    simp only [Prod.mk.injEq] at h3
    obtain ⟨rfl, rfl, rfl⟩ := h3
    exact ⟨h1, h2, rfl, rfl, h4, h5, h6⟩
  have HL := Lib.hid hl
  have HA := Lib.hid ha
  have w1_ : IntKind.i64.wrap (kd : Int) = (kd : Int) := IntWalk.i64_in _ (by omega)
  have x0 := Blk.new w 31 #[.int .i64 0, .string ⟨#[]⟩, .slice none 0 0]
  have x1 := Blk.new (w.alloc (.cells #[.int .i64 0, .string ⟨#[]⟩, .slice none 0 0] 31)) 96 #[.slice A n c, .int .i64 0, .int .i64 0]
  have x0 := Lib.hid (x0.alloc (.cells #[.slice A n c, .int .i64 0, .int .i64 0] 96))
  have e0 : (w.alloc (.cells #[.int .i64 0, .string ⟨#[]⟩, .slice none 0 0] 31)).heap.size = w.heap.size + 1 := by simp
  rw [e0] at x1
  have x1 := Lib.hid x1
  have f1 : Hid (Below w.heap.size w ((w.alloc (.cells #[.int .i64 0, .string ⟨#[]⟩, .slice none 0 0] 31)).alloc (.cells #[.slice A n c, .int .i64 0, .int .i64 0] 96))) := ((Below.refl _ w).al _).al _
  clear PY PI p1 p2 p3 hl ha e0
  go_enter Try.func41, Try.ntmps41
  go_wp2_with fail
  generalize (w.alloc (.cells #[.int .i64 0, .string ⟨#[]⟩, .slice none 0 0] 31)).alloc (.cells #[.slice A n c, .int .i64 0, .int .i64 0] 96) = W1 at *
  refine (refRead_st A n c 0 0 255 kd a1 e1 255 rfl b W1 (HA.out.below f1.out) hnc (by omega) (by omega) q1).mono ?_
  rintro e w2 ⟨rfl, bb2⟩
  have x2 := x1.out.below bb2 x1.out.lt
  have y2 := Lib.hid (x0.out.below bb2 x0.out.lt)
  have F2 := Lib.hid (f1.out.then_ bb2)
  have s0 : w2.cell? ⟨w.heap.size + 1, 0, none⟩ = some (.slice A n c) := x2.cell 0
  have s1 : w2.cell? ⟨w.heap.size + 1, 1, none⟩ = some (.int .i64 0) := x2.cell 1
  have s2 : w2.cell? ⟨w.heap.size + 1, 2, none⟩ = some (.int .i64 0) := x2.cell 2
  have t0 := x2.frozen 0
  have t1 := x2.frozen 1
  have t2 := x2.frozen 2
  clear x0 x1 f1 bb2
  unfold rV
  go_upto_region 3 with fail
  have x3 := x2.rput (.slice A n c) (.int .i64 a1) (.int .i64 e1)
  have K3 := Kept.rput w2 (w.heap.size + 1) (.slice A n c) (.int .i64 a1) (.int .i64 e1)
  generalize ((w2.setCell ⟨w.heap.size + 1, 0, none⟩ (.slice A n c)).setCell ⟨w.heap.size + 1, 1, none⟩ (.int .i64 a1)).setCell ⟨w.heap.size + 1, 2, none⟩ (.int .i64 e1) = W3 at *
  have F3 : Hid (Below w.heap.size w W3) := F2.out.trans (K3.to_below F2.out.size (fun q hq e => by omega))
  have y3 := Lib.hid (y2.out.kept K3 (by omega))
  clear s0 s1 s2 t0 t1 t2 K3 x2 y2 F2
  have s0 : W3.cell? ⟨w.heap.size + 1, 0, none⟩ = some (.slice A n c) := x3.cell 0
  have s1 : W3.cell? ⟨w.heap.size + 1, 1, none⟩ = some (.int .i64 a1) := x3.cell 1
  have s2 : W3.cell? ⟨w.heap.size + 1, 2, none⟩ = some (.int .i64 e1) := x3.cell 2
  have SM := refSome_st A n c a1 e1 64 a2 e2 key 64 rfl (by omega) b W3 (HA.out.below F3.out) hnc (by omega) c1 q2
  unfold rV at SM
  have SM := Lib.hid SM
  go_wp2_with fail
  refine SM.out.mono ?_
  rintro e w4 ⟨A4, n4, c4, rfl, hnc4, hcm4, r4, bb4⟩
  have x4 := x3.below bb4 x3.lt
  have y4 := Lib.hid (y3.out.below bb4 y3.out.lt)
  have F4 := Lib.hid (F3.out.then_ bb4)
  have s0 : w4.cell? ⟨w.heap.size + 1, 0, none⟩ = some (.slice A n c) := x4.cell 0
  have s1 : w4.cell? ⟨w.heap.size + 1, 1, none⟩ = some (.int .i64 a1) := x4.cell 1
  have s2 : w4.cell? ⟨w.heap.size + 1, 2, none⟩ = some (.int .i64 e1) := x4.cell 2
  have t0 := x4.frozen 0
  have t1 := x4.frozen 1
  have t2 := x4.frozen 2
  have zz3 := x3.lt
  have r4 := r4.mono (E := fun k => w.heap.size + 2 ≤ k) (fun k _ hk => by omega)
  clear x3 F3 y3 bb4 SM
  go_upto_region 4 with fail
  have x5 := x4.rput (.slice A n c) (.int .i64 a2) (.int .i64 e2)
  have K5 := Kept.rput w4 (w.heap.size + 1) (.slice A n c) (.int .i64 a2) (.int .i64 e2)
  have zz4 := x4.lt
  generalize ((w4.setCell ⟨w.heap.size + 1, 0, none⟩ (.slice A n c)).setCell ⟨w.heap.size + 1, 1, none⟩ (.int .i64 a2)).setCell ⟨w.heap.size + 1, 2, none⟩ (.int .i64 e2) = W5 at *
  have F5 : Hid (Below w.heap.size w W5) := F4.out.trans (K5.to_below F4.out.size (fun q hq e => by omega))
  have y5 := Lib.hid (y4.out.kept K5 (by omega))
  have r5 := Lib.hid (r4.kept K5 (fun q hq e => by omega))
  clear s0 s1 s2 t0 t1 t2 K5 x4 y4 F4 r4
  have s0 : W5.cell? ⟨w.heap.size + 1, 0, none⟩ = some (.slice A n c) := x5.cell 0
  have s1 : W5.cell? ⟨w.heap.size + 1, 1, none⟩ = some (.int .i64 a2) := x5.cell 1
  have s2 : W5.cell? ⟨w.heap.size + 1, 2, none⟩ = some (.int .i64 e2) := x5.cell 2
  have SM := refSome_st A n c a2 e2 65536 a3 e3 body 65536 rfl (by omega) b W5 (HA.out.below F5.out) hnc (by omega) c2 q3
  unfold rV at SM
  have SM := Lib.hid SM
  go_wp2_with fail
  refine SM.out.mono ?_
  rintro e w6 ⟨A6, n6, c6, rfl, hnc6, hcm6, r6, bb6⟩
  have x6 := x5.below bb6 x5.lt
  have y6 := Lib.hid (y5.out.below bb6 y5.out.lt)
  have F6 := Lib.hid (F5.out.then_ bb6)
  have rk6 := RIn.below2 r5.out bb6
  have s0 : w6.cell? ⟨w.heap.size + 1, 0, none⟩ = some (.slice A n c) := x6.cell 0
  have s1 : w6.cell? ⟨w.heap.size + 1, 1, none⟩ = some (.int .i64 a2) := x6.cell 1
  have s2 : w6.cell? ⟨w.heap.size + 1, 2, none⟩ = some (.int .i64 e2) := x6.cell 2
  have t0 := x6.frozen 0
  have t1 := x6.frozen 1
  have t2 := x6.frozen 2
  have zz5 := x5.lt
  have r6 := r6.mono (E := fun k => w.heap.size + 2 ≤ k) (fun k _ hk => by omega)
  clear x5 F5 y5 bb6 SM r5
  go_upto_region 5 with fail
  have x7 := x6.rput (.slice A n c) (.int .i64 a3) (.int .i64 e3)
  have K7 := Kept.rput w6 (w.heap.size + 1) (.slice A n c) (.int .i64 a3) (.int .i64 e3)
  have zz6 := x6.lt
  generalize ((w6.setCell ⟨w.heap.size + 1, 0, none⟩ (.slice A n c)).setCell ⟨w.heap.size + 1, 1, none⟩ (.int .i64 a3)).setCell ⟨w.heap.size + 1, 2, none⟩ (.int .i64 e3) = W7 at *
  have F7 : Hid (Below w.heap.size w W7) := F6.out.trans (K7.to_below F6.out.size (fun q hq e => by omega))
  have y7 := Lib.hid (y6.out.kept K7 (by omega))
  have rk7 := Lib.hid (rk6.kept K7 (fun q hq e => by omega))
  have r7 := Lib.hid (r6.kept K7 (fun q hq e => by omega))
  clear s0 s1 s2 t0 t1 t2 K7 x6 y6 F6 r6 rk6
  have s1 : W7.cell? ⟨w.heap.size + 1, 1, none⟩ = some (.int .i64 a3) := x7.cell 1
  have s2 : W7.cell? ⟨w.heap.size + 1, 2, none⟩ = some (.int .i64 e3) := x7.cell 2
  have o0 : W7.cell? ⟨w.heap.size, 0, none⟩ = some (.int .i64 0) := y7.out.cell 0
  have o1 : W7.cell? ⟨w.heap.size, 1, none⟩ = some (.string ⟨#[]⟩) := y7.out.cell 1
  have o2 : W7.cell? ⟨w.heap.size, 2, none⟩ = some (.slice none 0 0) := y7.out.cell 2
  have u0 := y7.out.frozen 0
  have u1 := y7.out.frozen 1
  have u2 := y7.out.frozen 2
  have fz : Hid (∀ (W : World) (v0 v1 v2 : Value), Below w.heap.size w W → Below w.heap.size w (((W.setCell ⟨w.heap.size, 0, none⟩ v0).setCell ⟨w.heap.size, 1, none⟩ v1).setCell ⟨w.heap.size, 2, none⟩ v2)) := fun W v0 v1 v2 h => ((h.setCell (Nat.le_refl _) _).setCell (Nat.le_refl _) _).setCell (Nat.le_refl _) _
  by_cases h3 : e3 = 0
  · subst h3
    by_cases hto : a3 + 8 ≤ n
    · have g1 : ¬ (n : Int) - (a3 : Int) < 8 := by omega
      have cv := run_text c4 rk7.out.rb
      obtain ⟨hri, hbg⟩ := PI'.out rfl
      obtain ⟨m, hm⟩ : ∃ m : Me, m = ⟨(kd : Int), ⟨key.toArray⟩, A6, n6, c6, body⟩ := ⟨_, rfl⟩
      have hen : m.en = ⟨(kd : Int), key, body⟩ := by rw [hm]; rfl
      have ok7 : m.Ok (fun k => w.heap.size + 2 ≤ k) W7 := by
        rw [hm]
        refine ⟨by simp only; omega, by simp only; omega, ?_, hnc6, hcm6, r7.out⟩
        show key.toArray.size ≤ _
        rw [List.size_toArray]
        omega
      have mri : m.Right := (Me.right_en ok7).1 (by rw [hen]; exact hri)
      rw [← hen] at hbg
      have HBG := Lib.hid hbg
      have f8 : Below W7.heap.size W7 (W7.alloc (.cells #[.int .i64 kd, .string ⟨key.toArray⟩, .slice A6 n6 c6] 31)) := (Below.refl _ W7).al _
      have z8 := Blk.new W7 31 #[.int .i64 kd, .string ⟨key.toArray⟩, .slice A6 n6 c6]
      have hmk : m.key.size ≤ 1000 := by rw [hm]; show key.toArray.size ≤ _; rw [List.size_toArray]; omega
      have BY := Lib.hid (refEBytes_any _ m _ (ok7.below f8) mri.2.2.2 mri.1 hmk)
      have BL : Hid ((entryB D8 m.en).length ≤ 66000) := entryB_len (by rw [hen]; exact hri)
      have x8 := Lib.hid (x7.below f8 x7.lt)
      have y8 := Lib.hid (y7.out.below f8 y7.out.lt)
      have F8 := Lib.hid (F7.out.then_ f8)
      have ok8 := Lib.hid (ok7.below f8)
      have zz7 := x7.lt
      have HM := Lib.hid hm
      have HMR := Lib.hid mri
      have hv : Hid (m.val = .agg #[.int .i64 kd, .string ⟨key.toArray⟩, .slice A6 n6 c6]) := by rw [hm]; rfl
      have PYm : Hid (∀ x, Begins b x → x = m.en ∧ b.take (a3 + 8) = entryB D8 m.en ∧ a3 + 8 = (entryB D8 m.en).length) := fun x h => by
        obtain ⟨h1, h2, _, h4, h5, h6, h7⟩ := PY'.out x h
        have e1 : x = m.en := by
          rw [hen]
          obtain ⟨xk, xs, xb⟩ := x
          simp only at h1 h2 h4
          rw [h1, h2, h4]
        rw [← e1]
        exact ⟨rfl, h7, h5⟩
      obtain ⟨X, hX⟩ : ∃ X, entryB D8 m.en = X := ⟨_, rfl⟩
      rw [hX] at BY BL PYm HBG
      have HX := Lib.hid hX
      rw [hv.out] at BY
      clear hri hen ok7 mri hmk hm x7 y7 F7 PY' PI' r7 rk7 o0 o1 o2 u0 u1 u2 hbg hX
      go_upto_region 8 with fail
      generalize W7.alloc (.cells #[.int .i64 kd, .string ⟨key.toArray⟩, .slice A6 n6 c6] 31) = W8 at *
      have k0 : W8.cell? ⟨W7.heap.size, 0, none⟩ = some (.int .i64 kd) := z8.cell 0
      have k1 : W8.cell? ⟨W7.heap.size, 1, none⟩ = some (.string ⟨key.toArray⟩) := z8.cell 1
      have k2 : W8.cell? ⟨W7.heap.size, 2, none⟩ = some (.slice A6 n6 c6) := z8.cell 2
      go_wp2_with fail
      refine BY.out.mono ?_
      rintro e w9 ⟨v9, rfl, o9, bb9⟩
      obtain ⟨A9, n9, c9, rfl, hnc9, hcm9, r9⟩ := o9.got
      have x9 := x8.out.below bb9 x8.out.lt
      have y9 := Lib.hid (y8.out.below bb9 y8.out.lt)
      have z9 := Lib.hid (z8.below bb9 z8.lt)
      have F9 := Lib.hid (F8.out.then_ bb9)
      have ok9 := Lib.hid (ok8.out.below bb9)
      have l9 := r9.len
      have R9 := Lib.hid r9
      have L9 := Lib.hid l9
      have s1 : w9.cell? ⟨w.heap.size + 1, 1, none⟩ = some (.int .i64 a3) := x9.cell 1
      have g2 : (0 : Int) ≤ (a3 : Int) + 8 := by omega
      have g3 : (a3 : Int) + 8 ≤ (c : Int) := by omega
      have g4 : ((a3 : Int) + 8).toNat = a3 + 8 := by omega
      have SA := Lib.hid (same_any A9 A n9 c9 (a3 + 8) c _ _ w9 r9 ((HA.out.below F9.out).upto (k := a3 + 8) hto) (by have := BL.out; omega) (by omega))
      clear o9 bb9 x8 y8 F8 ok8 BY k0 k1 k2 r9 l9 x9
      go_wp2_with fail
      refine SA.out.mono ?_
      rintro e w10 ⟨rfl, q, hw10⟩
      have F10 : Hid (Below w.heap.size w w10) := by rw [Hid, hw10]; exact below_drewN F9.out q
      have bq : Below w9.heap.size w9 w10 := by rw [hw10]; exact below_drewN (Below.refl _ w9) q
      have y10 := Lib.hid (y9.out.below bq y9.out.lt)
      have z10 := z9.out.below bq z9.out.lt
      have ok10 := Lib.hid (ok9.out.below bq)
      clear y9 z9 F9 ok9 hw10 bq s1 SA
      have o0 : w10.cell? ⟨w.heap.size, 0, none⟩ = some (.int .i64 0) := y10.out.cell 0
      have o1 : w10.cell? ⟨w.heap.size, 1, none⟩ = some (.string ⟨#[]⟩) := y10.out.cell 1
      have o2 : w10.cell? ⟨w.heap.size, 2, none⟩ = some (.slice none 0 0) := y10.out.cell 2
      have u0 := y10.out.frozen 0
      have u1 := y10.out.frozen 1
      have u2 := y10.out.frozen 2
      have k0 : w10.cell? ⟨W7.heap.size, 0, none⟩ = some (.int .i64 kd) := z10.cell 0
      have k1 : w10.cell? ⟨W7.heap.size, 1, none⟩ = some (.string ⟨key.toArray⟩) := z10.cell 1
      have k2 : w10.cell? ⟨W7.heap.size, 2, none⟩ = some (.slice A6 n6 c6) := z10.cell 2
      have zne : W7.heap.size ≠ w.heap.size := by omega
      have zne' := zne.symm
      by_cases hs : X = b.take (a3 + 8)
      · rw [decide_eq_true hs]
        have BG := Lib.hid (HBG.out hs.symm)
        have hnl : n9 = X.length := L9.out
        clear hs PYm HBG z10
        go_wp2_with fail
        have KK := Kept.rput w10 w.heap.size (.int .i64 kd) (.string ⟨key.toArray⟩) (.slice A6 n6 c6)
        refine bodyPost_ret (v := .tuple #[.agg #[.int .i64 kd, .string ⟨key.toArray⟩, .slice A6 n6 c6], .int .i64 (X.length : Int)]) (by simp [results, Try.results41, go_sem, o0, o1, o2]) rfl ⟨fz.out _ _ _ _ F10.out, .inl ⟨m, ?_, BG.out, (ok10.out.kept KK (fun q hq e => by omega)).mono (fun q _ hq => by omega), HMR.out⟩⟩
        rw [hv.out, HX.out]
      · rw [decide_eq_false hs]
        have NO : Hid (∀ x, ¬ Begins b x) := fun x h => hs ((PYm.out x h).2.1.symm)
        clear hs PYm HBG z10
        go_wp2_with fail
        refine bodyPost_ret (v := .tuple #[zeroE, .int .i64 0]) (by simp [results, Try.results41, go_sem, zeroE, o0, o1, o2]) rfl ⟨fz.out _ _ _ _ F10.out, .inr ⟨rfl, NO.out⟩⟩
    · have NO : Hid (∀ x, ¬ Begins b x) := fun x h => by
        have h1 := (PY'.out x h).2.2.2.2.2.1
        rw [← HL.out] at h1
        exact hto h1
      have g1 : (n : Int) - (a3 : Int) < 8 := by omega
      go_wp2_with fail
      refine bodyPost_ret (v := .tuple #[zeroE, .int .i64 0]) (by simp [results, Try.results41, go_sem, zeroE, o0, o1, o2]) rfl ⟨fz.out _ _ _ _ F7.out, .inr ⟨rfl, NO.out⟩⟩
  · have NO : Hid (∀ x, ¬ Begins b x) := fun x h => h3 (PY'.out x h).2.2.1
    have g1 : ¬ (e3 : Int) = 0 := by omega
    go_wp2_with fail
    refine bodyPost_ret (v := .tuple #[zeroE, .int .i64 0]) (by simp [results, Try.results41, go_sem, zeroE, o0, o1, o2]) rfl ⟨fz.out _ _ _ _ F7.out, .inr ⟨rfl, NO.out⟩⟩
end Go.Proofs.Ytidppcaohkfnfaa
