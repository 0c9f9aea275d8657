
/-
  Journals: Open.
-/
import Derived.Test.YtidppcaohkfnfaaK11
namespace Go.Proofs.Ytidppcaohkfnfaa
open Go.RowKit

/-- What is told of bytes that are left. -/
def tornE (r : List UInt8) : Int := if r = [] then 0 else 26
theorem torn_nil : tornE [] = 0 := rfl
theorem torn_some {r : List UInt8} (h : r ≠ []) : tornE r = 26 := if_neg h
/-- What Open gives. -/
def OpenGot (w : World) (b : List UInt8) (e : Ending) (w' : World) : Prop :=
  ∃ S g es r, e = .returned (.tuple #[.pointer (some ⟨g, 0, none⟩), .int .i64 ((allB D8 es).length : Int), .int .i64 (tornE r)]) ∧ Jn w' S g es ∧ (∀ k, S k → w.heap.size ≤ k) ∧ Opens b es r ∧ Below w.heap.size w w'
theorem begins_nil (e : En) : ¬ Begins [] e := by
  rintro ⟨_, r, h⟩
  have := entryB_pos (D := D8) e
  simp at h
  exact this h.1

set_option maxHeartbeats 4000000 in
set_option maxRecDepth 100000 in
theorem open_any' (A : Option Addr) (n c : Nat) (b : List UInt8) (w : World) (ha : RB w A n b) (hc : n ≤ c) (hcm : c ≤ 9223372036854775807) (hn : n ≤ 65535) :
    Calls Try.prog 18 #[.slice A n c] w (OpenGot w b) := by
  have HA := Lib.hid ha
  have HL := Lib.hid ha.len
  clear ha
  go_enter Try.func18, Try.ntmps18
  go_wp2_with fail
  have b0 := Blk.new w 29 #[.slice A n c]
  have f0 : Below w.heap.size w (w.alloc (.cells #[.slice A n c] 29)) := (Below.refl _ w).al _
  generalize w.alloc (.cells #[.slice A n c] 29) = W0 at *
  go_step3
  go_wp2_with fail
  refine (new_any W0).mono ?_
  intro e w1 hnew
  obtain ⟨S, g, rfl, j1, hS, b1⟩ := Jn.of_new hnew
  clear hnew
  have z0 := f0.size
  have c1 := b0.below b1 b0.lt
  have zb := b0.lt
  have f1 := f0.then_ b1
  have z1 := b1.size
  clear b0 f0 b1
  go_wp2_with fail
  go_step3
  go_wp2_with fail
  obtain ⟨d0, d1⟩ := blk_two w1 23 3 #[.pointer (some ⟨g, 0, none⟩)] #[.int .i64 0]
  have f2 : Below w1.heap.size w1 ((w1.alloc (.cells #[.pointer (some ⟨g, 0, none⟩)] 23)).alloc (.cells #[.int .i64 0] 3)) := ((Below.refl _ w1).al _).al _
  have zz : ((w1.alloc (.cells #[.pointer (some ⟨g, 0, none⟩)] 23)).alloc (.cells #[.int .i64 0] 3)).heap.size = w1.heap.size + 2 := by simp
  generalize (w1.alloc (.cells #[.pointer (some ⟨g, 0, none⟩)] 23)).alloc (.cells #[.int .i64 0] 3) = W2 at *
  have j2 := Lib.hid (j1.below f2)
  have c2 : W2.cell? ⟨w.heap.size, 0, none⟩ = some (.slice A n c) := (c1.below f2 (by omega)).cell 0
  have c3 : W2.cell? ⟨w1.heap.size, 0, none⟩ = some (.pointer (some ⟨g, 0, none⟩)) := d0.cell 0
  have c4 : W2.cell? ⟨w1.heap.size + 1, 0, none⟩ = some (.int .i64 0) := d1.cell 0
  have c5 := d1.frozen 0
  have F2 := f1.then_ f2
  have hS2 : Hid (∀ k, S k → w.heap.size < k ∧ k ≠ w1.heap.size ∧ k ≠ w1.heap.size + 1) := fun k hk => by
    have h1 := hS k hk
    have h2 := j1.lt k hk
    exact ⟨by omega, by omega, by omega⟩
  clear j1 hS c1 d0 d1 f1 f2
  have zW : w1.heap.size + 1 < W2.heap.size := by omega
  clear zz
  go_loopg [10] n (fun gk _ wr => ∃ (es : List En) (S : Nat → Prop) (p : Nat), gk = n - p ∧ p ≤ n ∧ es.length ≤ p ∧ Hid (b = allB D8 es ++ b.drop p ∧ p = (allB D8 es).length ∧ ∀ e ∈ es, e.Right) ∧ Hid (Jn wr S g es) ∧ Hid (∀ k, S k → w.heap.size < k ∧ k ≠ w1.heap.size ∧ k ≠ w1.heap.size + 1) ∧
    wr.cell? ⟨w.heap.size, 0, none⟩ = some (.slice A n c) ∧ wr.cell? ⟨w1.heap.size, 0, none⟩ = some (.pointer (some ⟨g, 0, none⟩)) ∧ wr.cell? ⟨w1.heap.size + 1, 0, none⟩ = some (.int .i64 (p : Int)) ∧ wr.frozen? ⟨w1.heap.size + 1, 0, none⟩ = false ∧ Below w.heap.size w wr ∧ w1.heap.size + 1 < wr.heap.size)
  case atStart => exact ⟨[], S, 0, rfl, Nat.zero_le _, Nat.le_refl _, ⟨by simp [allB], rfl, fun e he => by simp at he⟩, j2, hS2, c2, c3, c4, c5, F2, zW⟩
  case round =>
    clear j2 hS2 c2 c3 c4 c5 F2 zW S
    obtain ⟨es, S, p, hgk, hp, hel, hb, hj, hS, c2, c3, c4, c5, F, zW⟩ := hrel
    have HGK := Lib.hid hgk
    clear hgk
    by_cases hlt : p < n
    · obtain ⟨r, v, ms, hja, hms⟩ := hj.out
      obtain ⟨A3, c6, rfl⟩ := hja.slice
      have c7 : wr.cell? ⟨g, 0, none⟩ = some (.slice A3 ms.length c6) := hja.blk.cell 0
      have hml : ms.length ≤ 65535 := by
        have := congrArg List.length hms
        rw [List.length_map] at this
        omega
      have c8 : ((ms.length : Int) == 65536) = false := by simp; omega
      have c9 : (p : Int) < (n : Int) := by omega
      clear hja hms
      go_wp2_with fail
      refine (next_any S g (w1.heap.size + 1) w.heap.size w1.heap.size es A n c p b wr hj.out (HA.out.below F) hc hcm (by omega) hlt (by omega) c2 c4 c5 c3 (fun hs => (hS.out _ hs).2.2 rfl)).mono ?_
      rintro e w3 ⟨k3, hcase⟩
      have n0 : ¬ (S w.heap.size ∨ w.heap.size = w1.heap.size + 1) := by
        rintro (h | h)
        · exact absurd (hS.out _ h).1 (Nat.lt_irrefl _)
        · omega
      have n1 : ¬ (S w1.heap.size ∨ w1.heap.size = w1.heap.size + 1) := by
        rintro (h | h)
        · exact (hS.out _ h).2.1 rfl
        · omega
      have d2 : w3.cell? ⟨w.heap.size, 0, none⟩ = some (.slice A n c) := (k3.cell (p := ⟨w.heap.size, 0, none⟩) (by simp; omega) n0).trans c2
      have d3 : w3.cell? ⟨w1.heap.size, 0, none⟩ = some (.pointer (some ⟨g, 0, none⟩)) := (k3.cell (p := ⟨w1.heap.size, 0, none⟩) (by simp; omega) n1).trans c3
      have z3 := k3.size
      have F3 : Below w.heap.size w w3 := F.trans (k3.to_below F.size (fun k hk h => by
        rcases h with h | h
        · have := (hS.out k h).1
          omega
        · omega))
      have HB := Lib.hid hb.out
      clear c2 c3 c4 c5 c7 hb F
      rcases hcase with ⟨x, S', rfl, hbg, j3, hS', c4, c5⟩ | ⟨rfl, hno, j3, c4⟩
      · obtain ⟨L, hL⟩ : ∃ L, (entryB D8 x).length = L := ⟨_, rfl⟩
        have hLp : 1 ≤ L := by
          have := entryB_pos (D := D8) x
          rcases Nat.eq_zero_or_pos L with h | h
          · exact absurd (List.eq_nil_of_length_eq_zero (hL.trans h)) this
          · exact h
        have hnb : n = b.length := HL.out
        have hLn : p + L ≤ n := by
          obtain ⟨_, r', hb'⟩ := hbg
          have := congrArg List.length hb'
          rw [List.length_drop, List.length_append, hL] at this
          omega
        have HB3 : Hid (b = allB D8 (es ++ [x]) ++ b.drop (p + L) ∧ p + L = (allB D8 (es ++ [x])).length ∧ ∀ e ∈ es ++ [x], e.Right) := by
          obtain ⟨h1, h2, h3⟩ := HB.out
          obtain ⟨hxr, r', hb'⟩ := hbg
          have e1 : b.drop (p + L) = r' := by rw [← List.drop_drop, hb', ← hL, List.drop_left]
          refine ⟨?_, ?_, ?_⟩
          · rw [e1, allB_append, allB_one, List.append_assoc, ← hb']
            exact h1
          · rw [allB_append, allB_one, List.length_append, hL, ← h2]
          · intro e he
            rcases List.mem_append.1 he with he | he
            · exact h3 e he
            · obtain rfl := List.mem_singleton.1 he
              exact hxr
        have HJ3 := Lib.hid j3
        have HS3 : Hid (∀ k, S' k → w.heap.size < k ∧ k ≠ w1.heap.size ∧ k ≠ w1.heap.size + 1) := fun k hk => by
          rcases hS' k hk with h | h
          · exact hS.out k h
          · exact ⟨by omega, by omega, by omega⟩
        have hel3 : (es ++ [x]).length ≤ p + L := by rw [List.length_append]; simp; omega
        rw [hL] at c4
        clear hL hbg j3 hS' hnb HB hj
        go_wp2_with fail
        go_roundg (n - (p + L))
        case measure => have := HGK.out; omega
        case rel => exact ⟨es ++ [x], S', p + L, rfl, hLn, hel3, HB3, HJ3, HS3, d2, d3, c4, c5, F3, by omega⟩
      · have HJ3 := Lib.hid j3
        have HNO := Lib.hid hno
        clear hno j3
        go_wp2_with fail
        go_quiet (fail)
        go_wp2_with fail
        rw [Exit.noGoto_ret]
        obtain ⟨h1, h2, h3⟩ := HB.out
        have hne : b.drop p ≠ [] := fun h => by
          have := congrArg List.length h
          rw [List.length_drop, ← HL.out] at this
          simp at this
          omega
        refine bodyPost_ret (v := .tuple #[.pointer (some ⟨g, 0, none⟩), .int .i64 p, .int .i64 26]) (by simp [results, Try.results18, go_sem]) rfl ⟨S, g, es, b.drop p, by rw [torn_some hne, h2], HJ3.out.below (below_drewN (Below.refl _ w3) _), fun k hk => Nat.le_of_lt (hS.out k hk).1, ⟨h1, h3, HNO.out⟩, below_drewN F3 _⟩
    · obtain rfl : p = n := by omega
      go_wp2_with fail
      go_quiet (fail)
      go_wp2_with fail
      rw [Exit.noGoto_ret]
      obtain ⟨h1, h2, h3⟩ := hb.out
      have hne : b.drop p = [] := List.drop_eq_nil_of_le (by rw [← HL.out]; exact Nat.le_refl _)
      refine bodyPost_ret (v := .tuple #[.pointer (some ⟨g, 0, none⟩), .int .i64 p, .int .i64 0]) (by simp [results, Try.results18, go_sem]) rfl ⟨S, g, es, [], by rw [torn_nil, h2], hj.out.below (below_drewN (Below.refl _ wr) _), fun k hk => Nat.le_of_lt (hS.out k hk).1, ⟨by rw [hne] at h1; exact h1, h3, begins_nil⟩, below_drewN F _⟩
end Go.Proofs.Ytidppcaohkfnfaa
