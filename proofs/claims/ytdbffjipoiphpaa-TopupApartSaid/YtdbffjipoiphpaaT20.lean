/-
  TopupSums: the walk.
-/
import Derived.Test.YtdbffjipoiphpaaT19
import Derived.Deep.DeepCutAuto
namespace Go.Proofs.Ytdbffjipoiphpaa
open Go.RowKit

/-- No bank. -/
def NewNil (w : World) (e : Ending) (w' : World) : Prop := ∃ z, e = .returned (.tuple #[.pointer none, .int .i64 z]) ∧ w = w'
set_option maxHeartbeats 400000 in
set_option maxRecDepth 100000 in
theorem new_no (A : Option Addr) (n c : Nat) (xs : List Int) (w : World) (hr : RI w A n xs) (hn : n ≤ 16) (hok : ¬ newOk xs) :
    Calls Try.prog 9 #[.slice A n c] w (NewNil w) := by
  have hl := hr.len
  have HL := Lib.hid hl
  by_cases h2 : n < 2
  · clear hl
    go_enter Try.func9, Try.ntmps9
    go_wp2_with fail
    go_ret2
    exact ⟨_, rfl, rfl⟩
  by_cases h8 : 8 < n
  · clear hl
    go_enter Try.func9, Try.ntmps9
    go_wp2_with fail
    go_ret2
    exact ⟨_, rfl, rfl⟩
  by_cases hr2 : ∀ x ∈ xs, rightB x = true
  · have HT : Hid (totR 0 xs = (xs.sum, true)) := by rw [Hid, totR_all _ hr2, Int.zero_add]
    have HR : Hid (rightB xs.sum = false) := by
      rw [Hid, rightB_not]
      intro hh
      exact hok ⟨by omega, by omega, hr2, hh.2⟩
    clear hl hr2 hok
    go_enter Try.func9, Try.ntmps9
    go_wp2_with fail
    refine (total_any _ _ _ xs _ hr hn).mono ?_
    rintro e w' ⟨rfl, rfl⟩
    rw [HT.out]
    go_wp2_with fail
    refine (right_no _ _ HR.out).mono ?_
    rintro e w' ⟨rfl, rfl⟩
    go_wp2_with fail
    go_ret2
    exact ⟨_, rfl, rfl⟩
  · have HT : Hid ((totR 0 xs).2 = false) := totR_not xs hr2 0
    clear hl hr2 hok
    go_enter Try.func9, Try.ntmps9
    go_wp2_with fail
    refine (total_any _ _ _ xs _ hr hn).mono ?_
    rintro e w' ⟨rfl, rfl⟩
    rw [HT.out]
    go_wp2_with fail
    go_ret2
    exact ⟨_, rfl, rfl⟩

/-- What holds at each round. -/
def SumsAt (w : World) (g gs cs : Nat) (held : Int) (wr : World) : Prop := ∃ S wp b, BAt wr S g gs cs wp b ∧ (∀ k, S k → w.heap.size ≤ k) ∧ heldB b = held ∧ Below w.heap.size w wr

set_option maxHeartbeats 4000000 in
set_option maxRecDepth 100000 in
theorem sums_walk (A0 A1 : Option Addr) (n0 c0 n1 c1 : Nat) (xs : List Int) (ys : List Value) (w : World) (hr : RI w A0 n0 xs) (hc0 : n0 ≤ c0) (hm0 : c0 ≤ 9223372036854775807) (hy : Reads w w.heap.size 15 A1 n1 ys) (hm1 : n1 ≤ 9223372036854775807)
    (ha : ∀ i, i < n1 → ActC w w.heap.size ((ys.drop (i * 15)).take 15)) :
    Calls Try.prog 3 #[.slice A0 n0 c0, .slice A1 n1 c1] w (Tells w true) := by
  have hr' : RI w A0 (min n0 10) (xs.take (min n0 10)) := by
    have := RV.upto hr (k := min n0 10) (by omega)
    rw [← List.map_take] at this
    exact this
  have hmn : min (n0 : Int) 10 = ((min n0 10 : Nat) : Int) := by omega
  have hmc : min n0 10 ≤ c0 := by omega
  have hm10 : min n0 10 ≤ 10 := by omega
  generalize xs.take (min n0 10) = zs at *
  generalize min n0 10 = m at *
  have HY := Lib.hid hy
  have HA := Lib.hid ha
  clear hr hy ha
  have h0 : (0 : Int) ≤ (m : Int) := by omega
  have h1 : (m : Int) ≤ (c0 : Int) := by omega
  go_enter Try.func3, Try.ntmps3
  go_wp2_with fail
  by_cases hok : newOk zs
  case neg =>
    refine (new_no _ _ _ zs _ hr' (by omega) hok).mono ?_
    rintro e w' ⟨z, rfl, rfl⟩
    go_wp2_with fail
    refine (known_any _).mono ?_
    rintro e w1 ⟨rfl, b1⟩
    go_wp2_with fail
    go_ret
    exact ⟨rfl, b1⟩
  refine (new_yes _ _ _ zs _ hr' hok).mono ?_
  rintro e w1 ⟨S, g, gs, cs, rfl, B1, hS, f1⟩
  have HS := Lib.hid hS
  clear hS hok
  go_wp2_with fail
  refine (held_any S g gs cs none _ _ B1).mono ?_
  rintro e w2 ⟨rfl, b2⟩
  have B2 := B1.below b2
  have f2 := f1.then_ b2
  obtain ⟨hd, HD⟩ : ∃ hd, Hid (heldB ⟨zs, -1, none⟩ = hd) := ⟨_, rfl⟩
  rw [HD.out]
  have st : SumsAt w g gs cs hd w2 := ⟨S, none, _, B2, HS.out, HD.out, f2⟩
  clear B1 b2 B2 f1 f2 HS HD
  go_wp2_with fail
  go_loopw [7, 8] (fun hv i wr => ∃ (k : Nat) (hd : Int), k ≤ n1 ∧ i = .int .i64 k ∧ hv = .int .i64 hd ∧ SumsAt w g gs cs hd wr) (fun _ i _ => n1 - (intOf i).toNat)
  case atStart => exact ⟨0, hd, by omega, rfl, rfl, st⟩
  case round =>
    obtain ⟨k, hd, hk, rfl, rfl, st⟩ := hrel
    by_cases hlt : k < n1
    case neg =>
      obtain ⟨_, _, _, _, _, _, fr⟩ := st
      go_wp2_with fail
      refine (known_any _).mono ?_
      rintro e w1 ⟨rfl, b1⟩
      go_wp2_with fail
      go_ret
      exact ⟨rfl, fr.then_ b1⟩
    by_cases hk24 : k < 24
    case neg =>
      obtain ⟨_, _, _, _, _, _, fr⟩ := st
      go_wp2_with fail
      refine (known_any _).mono ?_
      rintro e w1 ⟨rfl, b1⟩
      go_wp2_with fail
      go_ret
      exact ⟨rfl, fr.then_ b1⟩
    obtain ⟨S, wp, b, B, hS, hheld, fr⟩ := st
    have HS := Lib.hid hS
    have HH := Lib.hid hheld
    clear hS hheld
    obtain ⟨kind, h, seat, N, t0, t1, t2, t3, t4, t5, t6, t7, num, till, A, n, c, adds, hcs, hnc, hrd⟩ := HA.out k hlt
    obtain ⟨bb, oo, rfl, hbb, hcells⟩ := HY.out.chunk (by omega) hlt hcs
    have HRD := Lib.hid hrd
    clear hrd
    have q0 := (fr.cell (p := ⟨bb, oo + k * 15, none⟩) hbb).trans (hcells 0 _ rfl)
    have q1 := (fr.cell (p := ⟨bb, oo + k * 15 + 1, none⟩) hbb).trans (hcells 1 _ rfl)
    have q2 := (fr.cell (p := ⟨bb, oo + k * 15 + 2, none⟩) hbb).trans (hcells 2 _ rfl)
    have q3 := (fr.cell (p := ⟨bb, oo + k * 15 + 3, none⟩) hbb).trans (hcells 3 _ rfl)
    have q4 := (fr.cell (p := ⟨bb, oo + k * 15 + 4, none⟩) hbb).trans (hcells 4 _ rfl)
    have q5 := (fr.cell (p := ⟨bb, oo + k * 15 + 5, none⟩) hbb).trans (hcells 5 _ rfl)
    have q6 := (fr.cell (p := ⟨bb, oo + k * 15 + 6, none⟩) hbb).trans (hcells 6 _ rfl)
    have q7 := (fr.cell (p := ⟨bb, oo + k * 15 + 7, none⟩) hbb).trans (hcells 7 _ rfl)
    have q8 := (fr.cell (p := ⟨bb, oo + k * 15 + 8, none⟩) hbb).trans (hcells 8 _ rfl)
    have q9 := (fr.cell (p := ⟨bb, oo + k * 15 + 9, none⟩) hbb).trans (hcells 9 _ rfl)
    have q10 := (fr.cell (p := ⟨bb, oo + k * 15 + 10, none⟩) hbb).trans (hcells 10 _ rfl)
    have q11 := (fr.cell (p := ⟨bb, oo + k * 15 + 11, none⟩) hbb).trans (hcells 11 _ rfl)
    have q12 := (fr.cell (p := ⟨bb, oo + k * 15 + 12, none⟩) hbb).trans (hcells 12 _ rfl)
    have q13 := (fr.cell (p := ⟨bb, oo + k * 15 + 13, none⟩) hbb).trans (hcells 13 _ rfl)
    have q14 := (fr.cell (p := ⟨bb, oo + k * 15 + 14, none⟩) hbb).trans (hcells 14 _ rfl)
    clear hcells hcs
    go_wp2_with fail
    clear q0 q1 q2 q3 q4 q5 q6 q7 q8 q9 q10 q11 q12 q13 q14
    have fa : Below wr.heap.size wr (wr.alloc (.cells #[.int .i64 kind, .int .i64 h, .int .i64 seat, .int .i64 N, .int .u8 t0, .int .u8 t1, .int .u8 t2, .int .u8 t3, .int .u8 t4, .int .u8 t5, .int .u8 t6, .int .u8 t7, .int .i64 num, .slice A n c, .int .i64 till] 35)) := (Below.refl _ wr).al _
    have nb := Blk.new wr 35 #[.int .i64 kind, .int .i64 h, .int .i64 seat, .int .i64 N, .int .u8 t0, .int .u8 t1, .int .u8 t2, .int .u8 t3, .int .u8 t4, .int .u8 t5, .int .u8 t6, .int .u8 t7, .int .i64 num, .slice A n c, .int .i64 till]
    refine (open_any S g gs cs wp b _ (B.below fa)).mono ?_
    rintro e w3 ⟨r0, r1, r2, r3, r4, r5, r6, r7, rnum, rtill, rA, rAL, rn, rc, rnl, rcl, radds, rq, rfl, rri, rn8, b3⟩
    have nb3 := nb.below b3 (by simp)
    have B3 := (B.below fa).below b3
    have f3 := (fr.then_ fa).then_ b3
    have Bwr := B
    clear nb fa B b3
    have y0 : w3.cell? ⟨wr.heap.size, 0, none⟩ = some (.int .i64 kind) := nb3.cell 0
    have y2 : w3.cell? ⟨wr.heap.size, 2, none⟩ = some (.int .i64 seat) := nb3.cell 2
    have y3 : w3.cell? ⟨wr.heap.size, 3, none⟩ = some (.int .i64 N) := nb3.cell 3
    have nl3 := nb3.lt
    go_upto_region 12 with fail
    have fb : Below w3.heap.size w3 (w3.alloc (.cells #[.int .u8 r0, .int .u8 r1, .int .u8 r2, .int .u8 r3, .int .u8 r4, .int .u8 r5, .int .u8 r6, .int .u8 r7, .int .i64 rnum, .slice rA rn rc, .int .i64 rtill] 33)) := (Below.refl _ w3).al _
    have rb := Blk.new w3 33 #[.int .u8 r0, .int .u8 r1, .int .u8 r2, .int .u8 r3, .int .u8 r4, .int .u8 r5, .int .u8 r6, .int .u8 r7, .int .i64 rnum, .slice rA rn rc, .int .i64 rtill]
    have nb4 := nb3.below fb nl3
    have B4 := B3.below fb
    have f4 := f3.then_ fb
    have ri4 := rri.below fb
    clear y0 y2 y3 nb3 B3 f3 rri fb
    generalize w3.alloc (.cells #[.int .u8 r0, .int .u8 r1, .int .u8 r2, .int .u8 r3, .int .u8 r4, .int .u8 r5, .int .u8 r6, .int .u8 r7, .int .i64 rnum, .slice rA rn rc, .int .i64 rtill] 33) = W4 at *
    have y0 : W4.cell? ⟨wr.heap.size, 0, none⟩ = some (.int .i64 kind) := nb4.cell 0
    have y2 : W4.cell? ⟨wr.heap.size, 2, none⟩ = some (.int .i64 seat) := nb4.cell 2
    have z9 : W4.cell? ⟨w3.heap.size, 9, none⟩ = some (.slice rA rn rc) := rb.cell 9
    go_cut [12, 13, 74] (fun _ u t wx => wx = W4 ∧ (∃ v, u = .int .i64 v) ∧ ∃ q, t = .bool q ∧ Hid (q = true → 0 ≤ seat ∧ seat < rn))
    case first =>
      go_wp2_with fail
      all_goals
        go_meet
        case rel => first | exact ⟨rfl, ⟨_, rfl⟩, _, rfl, fun h => by cases h⟩ | exact ⟨rfl, ⟨_, rfl⟩, _, rfl, fun hq => ⟨by assumption, by simpa using hq⟩⟩
    case rest =>
      obtain ⟨hwc, ⟨v0, rfl⟩, q, rfl, HQ⟩ := hcut
      subst hwc
      go_upto_if 74 with fail
      go_cut [13] (fun t wx => wx = wc ∧ ∃ v, t = .int .i64 v)
      case first =>
        cases q
        · go_wp2_with fail
          go_meet
          case rel => exact ⟨rfl, _, rfl⟩
        · obtain ⟨hs0, hs1⟩ := HQ.out rfl
          obtain ⟨j, hj⟩ : ∃ j : Nat, seat = (j : Int) := ⟨seat.toNat, by omega⟩
          subst hj
          obtain ⟨b5, o5, hA5, _, hl5, hc5⟩ := ri4.at_ (k := j) (by omega)
          subst hA5
          go_wp2_with fail
          go_meet
          case rel => exact ⟨rfl, _, rfl⟩
      case rest =>
        obtain ⟨hwc, v, rfl⟩ := hcut
        subst hwc
        have y1 : wc.cell? ⟨wr.heap.size, 1, none⟩ = some (.int .i64 h) := nb4.cell 1
        by_cases k0 : kind = 0
        · subst k0
          have hri : RI wc A (min n 10) (adds.take (min n 10)) := by
            have := Reads.upto (HRD.out.below f4) (k := min n 10) (by omega)
            rw [Nat.mul_one, ← List.map_take] at this
            exact this.more f4.size
          have nbc := nb4
          obtain ⟨hs, hhs⟩ : ∃ hs, hs = min n 10 := ⟨_, rfl⟩
          rw [← hhs] at hri
          have hs10 : hs ≤ 10 := by omega
          generalize adds.take hs = zz at *
          have hzl := hri.len
          have hz10 : zz.length ≤ 10 := by omega
          clear hzl
          have q := (show wc.drew.cell? ⟨wr.heap.size, 1, none⟩ = some (.int .i64 h) ∧ wc.drew.cell? ⟨wr.heap.size, 4, none⟩ = some (.int .u8 t0) ∧ wc.drew.cell? ⟨wr.heap.size, 5, none⟩ = some (.int .u8 t1) ∧ wc.drew.cell? ⟨wr.heap.size, 6, none⟩ = some (.int .u8 t2) ∧ wc.drew.cell? ⟨wr.heap.size, 7, none⟩ = some (.int .u8 t3) ∧ wc.drew.cell? ⟨wr.heap.size, 8, none⟩ = some (.int .u8 t4) ∧ wc.drew.cell? ⟨wr.heap.size, 9, none⟩ = some (.int .u8 t5) ∧ wc.drew.cell? ⟨wr.heap.size, 10, none⟩ = some (.int .u8 t6) ∧ wc.drew.cell? ⟨wr.heap.size, 11, none⟩ = some (.int .u8 t7) ∧ wc.drew.cell? ⟨wr.heap.size, 12, none⟩ = some (.int .i64 num) ∧ wc.drew.cell? ⟨wr.heap.size, 13, none⟩ = some (.slice A n c) ∧ wc.drew.cell? ⟨wr.heap.size, 14, none⟩ = some (.int .i64 till) from ⟨nbc.drew.cell 1, nbc.drew.cell 4, nbc.drew.cell 5, nbc.drew.cell 6, nbc.drew.cell 7, nbc.drew.cell 8, nbc.drew.cell 9, nbc.drew.cell 10, nbc.drew.cell 11, nbc.drew.cell 12, nbc.drew.cell 13, nbc.drew.cell 14⟩)
          have hwrS : ¬ S wr.heap.size := fun hq => by have := Bwr.lt _ hq; omega
          by_cases hE : askE b h num zz till = 0
          · have HH2 : Hid (heldB (askB b [t0, t1, t2, t3, t4, t5, t6, t7] num zz till) = hd) := by rw [Hid, held_ask _ hE, HH.out]
            have HHS := Lib.hid hhs
            clear hhs
            go_wp2_with fail
            go_region_held3 (fun w' => w'.cell? ⟨wr.heap.size, 1, none⟩ = some (.int .i64 h) ∧ w'.cell? ⟨wr.heap.size, 4, none⟩ = some (.int .u8 t0) ∧ w'.cell? ⟨wr.heap.size, 5, none⟩ = some (.int .u8 t1) ∧ w'.cell? ⟨wr.heap.size, 6, none⟩ = some (.int .u8 t2) ∧ w'.cell? ⟨wr.heap.size, 7, none⟩ = some (.int .u8 t3) ∧ w'.cell? ⟨wr.heap.size, 8, none⟩ = some (.int .u8 t4) ∧ w'.cell? ⟨wr.heap.size, 9, none⟩ = some (.int .u8 t5) ∧ w'.cell? ⟨wr.heap.size, 10, none⟩ = some (.int .u8 t6) ∧ w'.cell? ⟨wr.heap.size, 11, none⟩ = some (.int .u8 t7) ∧ w'.cell? ⟨wr.heap.size, 12, none⟩ = some (.int .i64 num) ∧ w'.cell? ⟨wr.heap.size, 13, none⟩ = some (.slice A n c) ∧ w'.cell? ⟨wr.heap.size, 14, none⟩ = some (.int .i64 till))
              (first | (with_reducible exact q) | (with_reducible exact q5) | (with_reducible exact q6) | (with_reducible exact q7))
              (first
                | (go_at_call 15; refine (of_any t0 t1 t2 t3 t4 t5 t6 t7 num till A n c _ hnc).mono ?_; rintro e w5 ⟨rfl, b5⟩; rw [← HHS.out]; have r5 := (Below.refl _ wc).drew.then_ b5; have nb5 := nbc.below r5 nbc.lt; have q5 := (show w5.cell? ⟨wr.heap.size, 1, none⟩ = some (.int .i64 h) ∧ w5.cell? ⟨wr.heap.size, 4, none⟩ = some (.int .u8 t0) ∧ w5.cell? ⟨wr.heap.size, 5, none⟩ = some (.int .u8 t1) ∧ w5.cell? ⟨wr.heap.size, 6, none⟩ = some (.int .u8 t2) ∧ w5.cell? ⟨wr.heap.size, 7, none⟩ = some (.int .u8 t3) ∧ w5.cell? ⟨wr.heap.size, 8, none⟩ = some (.int .u8 t4) ∧ w5.cell? ⟨wr.heap.size, 9, none⟩ = some (.int .u8 t5) ∧ w5.cell? ⟨wr.heap.size, 10, none⟩ = some (.int .u8 t6) ∧ w5.cell? ⟨wr.heap.size, 11, none⟩ = some (.int .u8 t7) ∧ w5.cell? ⟨wr.heap.size, 12, none⟩ = some (.int .i64 num) ∧ w5.cell? ⟨wr.heap.size, 13, none⟩ = some (.slice A n c) ∧ w5.cell? ⟨wr.heap.size, 14, none⟩ = some (.int .i64 till) from ⟨nb5.cell 1, nb5.cell 4, nb5.cell 5, nb5.cell 6, nb5.cell 7, nb5.cell 8, nb5.cell 9, nb5.cell 10, nb5.cell 11, nb5.cell 12, nb5.cell 13, nb5.cell 14⟩))
                | (go_at_call 14; refine (to_any t0 t1 t2 t3 t4 t5 t6 t7 num till A hs c zz _ (hri.below r5) hs10).mono ?_; rintro e w6 ⟨A6, c6, rfl, ri6, hc6, hc6', b6⟩; have r6 := r5.then_ b6; have nb6 := nbc.below r6 nbc.lt; have q6 := (show w6.cell? ⟨wr.heap.size, 1, none⟩ = some (.int .i64 h) ∧ w6.cell? ⟨wr.heap.size, 4, none⟩ = some (.int .u8 t0) ∧ w6.cell? ⟨wr.heap.size, 5, none⟩ = some (.int .u8 t1) ∧ w6.cell? ⟨wr.heap.size, 6, none⟩ = some (.int .u8 t2) ∧ w6.cell? ⟨wr.heap.size, 7, none⟩ = some (.int .u8 t3) ∧ w6.cell? ⟨wr.heap.size, 8, none⟩ = some (.int .u8 t4) ∧ w6.cell? ⟨wr.heap.size, 9, none⟩ = some (.int .u8 t5) ∧ w6.cell? ⟨wr.heap.size, 10, none⟩ = some (.int .u8 t6) ∧ w6.cell? ⟨wr.heap.size, 11, none⟩ = some (.int .u8 t7) ∧ w6.cell? ⟨wr.heap.size, 12, none⟩ = some (.int .i64 num) ∧ w6.cell? ⟨wr.heap.size, 13, none⟩ = some (.slice A n c) ∧ w6.cell? ⟨wr.heap.size, 14, none⟩ = some (.int .i64 till) from ⟨nb6.cell 1, nb6.cell 4, nb6.cell 5, nb6.cell 6, nb6.cell 7, nb6.cell 8, nb6.cell 9, nb6.cell 10, nb6.cell 11, nb6.cell 12, nb6.cell 13, nb6.cell 14⟩))
                | (go_at_call 13; refine (ask_yes S g gs cs wp b h t0 t1 t2 t3 t4 t5 t6 t7 num till A6 _ c6 zz _ (B4.below r6) ri6 (by omega) hE).mono ?_; rintro e w7 ⟨rfl, S7, wp7, B7, k7, hS7⟩; have nb7 : Blk w7 wr.heap.size 35 #[.int .i64 0, .int .i64 h, .int .i64 seat, .int .i64 N, .int .u8 t0, .int .u8 t1, .int .u8 t2, .int .u8 t3, .int .u8 t4, .int .u8 t5, .int .u8 t6, .int .u8 t7, .int .i64 num, .slice A n c, .int .i64 till] := (k7.block wr.heap.size nb6.lt hwrS).trans nb6; have q7 := (show w7.cell? ⟨wr.heap.size, 1, none⟩ = some (.int .i64 h) ∧ w7.cell? ⟨wr.heap.size, 4, none⟩ = some (.int .u8 t0) ∧ w7.cell? ⟨wr.heap.size, 5, none⟩ = some (.int .u8 t1) ∧ w7.cell? ⟨wr.heap.size, 6, none⟩ = some (.int .u8 t2) ∧ w7.cell? ⟨wr.heap.size, 7, none⟩ = some (.int .u8 t3) ∧ w7.cell? ⟨wr.heap.size, 8, none⟩ = some (.int .u8 t4) ∧ w7.cell? ⟨wr.heap.size, 9, none⟩ = some (.int .u8 t5) ∧ w7.cell? ⟨wr.heap.size, 10, none⟩ = some (.int .u8 t6) ∧ w7.cell? ⟨wr.heap.size, 11, none⟩ = some (.int .u8 t7) ∧ w7.cell? ⟨wr.heap.size, 12, none⟩ = some (.int .i64 num) ∧ w7.cell? ⟨wr.heap.size, 13, none⟩ = some (.slice A n c) ∧ w7.cell? ⟨wr.heap.size, 14, none⟩ = some (.int .i64 till) from ⟨nb7.cell 1, nb7.cell 4, nb7.cell 5, nb7.cell 6, nb7.cell 7, nb7.cell 8, nb7.cell 9, nb7.cell 10, nb7.cell 11, nb7.cell 12, nb7.cell 13, nb7.cell 14⟩)))
            have f6 := f4.then_ r6
            have f7 : Below w.heap.size w w7 := f6.trans (k7.to_below f6.size (fun q hq hS => by have := HS.out q hS; omega))
            have HS7 : Hid (∀ q, S7 q → w.heap.size ≤ q) := fun q hq => by rcases hS7 q hq with h1 | h1; exact HS.out q h1; have := f6.size; omega
            clear q q5 q6 q7 hS7 hE
            go_wp2_with fail
            have tt : (hd != hd) = false := by simp
            have p0 := (sum_range (askB b [t0, t1, t2, t3, t4, t5, t6, t7] num zz till).stakes B7.ok.right).1
            have p1 := heldB_ge B7.wok
            rw [HH2.out] at p1
            refine (held_any S7 g gs cs wp7 (askB b [t0, t1, t2, t3, t4, t5, t6, t7] num zz till) _ B7).mono ?_
            rintro e w9 ⟨rfl, b9⟩
            rw [HH2.out]
            have B9 := B7.below b9
            have f9 := f7.then_ b9
            go_wp2_with fail
            refine (pot_any S7 g gs cs wp7 (askB b [t0, t1, t2, t3, t4, t5, t6, t7] num zz till) _ B9).mono ?_
            rintro e w10 ⟨rfl, rfl⟩
            go_wp2_with fail
            refine (pot_any S7 g gs cs wp7 (askB b [t0, t1, t2, t3, t4, t5, t6, t7] num zz till) _ B9).mono ?_
            rintro e w10 ⟨rfl, rfl⟩
            go_wp2_with fail
            go_roundw
            case rel => exact ⟨k + 1, hd, by omega, by go_num, rfl, ⟨S7, wp7, (askB b [t0, t1, t2, t3, t4, t5, t6, t7] num zz till), B9, HS7.out, HH2.out, f9⟩⟩
            case measure => simp [intOf]; omega
          · have HHS := Lib.hid hhs
            clear hhs
            go_wp2_with fail
            go_region_held3 (fun w' => w'.cell? ⟨wr.heap.size, 1, none⟩ = some (.int .i64 h) ∧ w'.cell? ⟨wr.heap.size, 4, none⟩ = some (.int .u8 t0) ∧ w'.cell? ⟨wr.heap.size, 5, none⟩ = some (.int .u8 t1) ∧ w'.cell? ⟨wr.heap.size, 6, none⟩ = some (.int .u8 t2) ∧ w'.cell? ⟨wr.heap.size, 7, none⟩ = some (.int .u8 t3) ∧ w'.cell? ⟨wr.heap.size, 8, none⟩ = some (.int .u8 t4) ∧ w'.cell? ⟨wr.heap.size, 9, none⟩ = some (.int .u8 t5) ∧ w'.cell? ⟨wr.heap.size, 10, none⟩ = some (.int .u8 t6) ∧ w'.cell? ⟨wr.heap.size, 11, none⟩ = some (.int .u8 t7) ∧ w'.cell? ⟨wr.heap.size, 12, none⟩ = some (.int .i64 num) ∧ w'.cell? ⟨wr.heap.size, 13, none⟩ = some (.slice A n c) ∧ w'.cell? ⟨wr.heap.size, 14, none⟩ = some (.int .i64 till))
              (first | (with_reducible exact q) | (with_reducible exact q5) | (with_reducible exact q6) | (with_reducible exact q7))
              (first
                | (go_at_call 15; refine (of_any t0 t1 t2 t3 t4 t5 t6 t7 num till A n c _ hnc).mono ?_; rintro e w5 ⟨rfl, b5⟩; rw [← HHS.out]; have r5 := (Below.refl _ wc).drew.then_ b5; have nb5 := nbc.below r5 nbc.lt; have q5 := (show w5.cell? ⟨wr.heap.size, 1, none⟩ = some (.int .i64 h) ∧ w5.cell? ⟨wr.heap.size, 4, none⟩ = some (.int .u8 t0) ∧ w5.cell? ⟨wr.heap.size, 5, none⟩ = some (.int .u8 t1) ∧ w5.cell? ⟨wr.heap.size, 6, none⟩ = some (.int .u8 t2) ∧ w5.cell? ⟨wr.heap.size, 7, none⟩ = some (.int .u8 t3) ∧ w5.cell? ⟨wr.heap.size, 8, none⟩ = some (.int .u8 t4) ∧ w5.cell? ⟨wr.heap.size, 9, none⟩ = some (.int .u8 t5) ∧ w5.cell? ⟨wr.heap.size, 10, none⟩ = some (.int .u8 t6) ∧ w5.cell? ⟨wr.heap.size, 11, none⟩ = some (.int .u8 t7) ∧ w5.cell? ⟨wr.heap.size, 12, none⟩ = some (.int .i64 num) ∧ w5.cell? ⟨wr.heap.size, 13, none⟩ = some (.slice A n c) ∧ w5.cell? ⟨wr.heap.size, 14, none⟩ = some (.int .i64 till) from ⟨nb5.cell 1, nb5.cell 4, nb5.cell 5, nb5.cell 6, nb5.cell 7, nb5.cell 8, nb5.cell 9, nb5.cell 10, nb5.cell 11, nb5.cell 12, nb5.cell 13, nb5.cell 14⟩))
                | (go_at_call 14; refine (to_any t0 t1 t2 t3 t4 t5 t6 t7 num till A hs c zz _ (hri.below r5) hs10).mono ?_; rintro e w6 ⟨A6, c6, rfl, ri6, hc6, hc6', b6⟩; have r6 := r5.then_ b6; have nb6 := nbc.below r6 nbc.lt; have q6 := (show w6.cell? ⟨wr.heap.size, 1, none⟩ = some (.int .i64 h) ∧ w6.cell? ⟨wr.heap.size, 4, none⟩ = some (.int .u8 t0) ∧ w6.cell? ⟨wr.heap.size, 5, none⟩ = some (.int .u8 t1) ∧ w6.cell? ⟨wr.heap.size, 6, none⟩ = some (.int .u8 t2) ∧ w6.cell? ⟨wr.heap.size, 7, none⟩ = some (.int .u8 t3) ∧ w6.cell? ⟨wr.heap.size, 8, none⟩ = some (.int .u8 t4) ∧ w6.cell? ⟨wr.heap.size, 9, none⟩ = some (.int .u8 t5) ∧ w6.cell? ⟨wr.heap.size, 10, none⟩ = some (.int .u8 t6) ∧ w6.cell? ⟨wr.heap.size, 11, none⟩ = some (.int .u8 t7) ∧ w6.cell? ⟨wr.heap.size, 12, none⟩ = some (.int .i64 num) ∧ w6.cell? ⟨wr.heap.size, 13, none⟩ = some (.slice A n c) ∧ w6.cell? ⟨wr.heap.size, 14, none⟩ = some (.int .i64 till) from ⟨nb6.cell 1, nb6.cell 4, nb6.cell 5, nb6.cell 6, nb6.cell 7, nb6.cell 8, nb6.cell 9, nb6.cell 10, nb6.cell 11, nb6.cell 12, nb6.cell 13, nb6.cell 14⟩))
                | (go_at_call 13; refine (ask_no S g gs cs wp b h t0 t1 t2 t3 t4 t5 t6 t7 num till A6 _ c6 zz _ (B4.below r6) ri6 (by omega) hE).mono ?_; rintro e w7 ⟨rfl, b7⟩; have nb7 := nb6.below b7 nb6.lt; have q7 := (show w7.cell? ⟨wr.heap.size, 1, none⟩ = some (.int .i64 h) ∧ w7.cell? ⟨wr.heap.size, 4, none⟩ = some (.int .u8 t0) ∧ w7.cell? ⟨wr.heap.size, 5, none⟩ = some (.int .u8 t1) ∧ w7.cell? ⟨wr.heap.size, 6, none⟩ = some (.int .u8 t2) ∧ w7.cell? ⟨wr.heap.size, 7, none⟩ = some (.int .u8 t3) ∧ w7.cell? ⟨wr.heap.size, 8, none⟩ = some (.int .u8 t4) ∧ w7.cell? ⟨wr.heap.size, 9, none⟩ = some (.int .u8 t5) ∧ w7.cell? ⟨wr.heap.size, 10, none⟩ = some (.int .u8 t6) ∧ w7.cell? ⟨wr.heap.size, 11, none⟩ = some (.int .u8 t7) ∧ w7.cell? ⟨wr.heap.size, 12, none⟩ = some (.int .i64 num) ∧ w7.cell? ⟨wr.heap.size, 13, none⟩ = some (.slice A n c) ∧ w7.cell? ⟨wr.heap.size, 14, none⟩ = some (.int .i64 till) from ⟨nb7.cell 1, nb7.cell 4, nb7.cell 5, nb7.cell 6, nb7.cell 7, nb7.cell 8, nb7.cell 9, nb7.cell 10, nb7.cell 11, nb7.cell 12, nb7.cell 13, nb7.cell 14⟩)))
            have f7 := (f4.then_ r6).then_ b7
            have B7 := (B4.below r6).below b7
            clear q q5 q6 q7 hE
            go_wp2_with fail
            have tt : (hd != hd) = false := by simp
            have p0 := (sum_range b.stakes B7.ok.right).1
            have p1 := heldB_ge B7.wok
            rw [HH.out] at p1
            refine (held_any S g gs cs wp b _ B7).mono ?_
            rintro e w9 ⟨rfl, b9⟩
            rw [HH.out]
            have B9 := B7.below b9
            have f9 := f7.then_ b9
            go_wp2_with fail
            refine (pot_any S g gs cs wp b _ B9).mono ?_
            rintro e w10 ⟨rfl, rfl⟩
            go_wp2_with fail
            refine (pot_any S g gs cs wp b _ B9).mono ?_
            rintro e w10 ⟨rfl, rfl⟩
            go_wp2_with fail
            go_roundw
            case rel => exact ⟨k + 1, hd, by omega, by go_num, rfl, ⟨S, wp, b, B9, HS.out, HH.out, f9⟩⟩
            case measure => simp [intOf]; omega
        have t0' : (kind == 0) = false := by simpa using k0
        by_cases k1 : kind = 1
        · subst k1
          by_cases hE : putE b h seat v = 0
          · have HH2 : Hid (heldB (putB b seat.toNat) = hd + v) := by rw [Hid, held_put B4.ok B4.wok hE, HH.out]
            have hrange := putE_zero hE
            have hv : 0 ≤ v ∧ v ≤ 1125899906842624 := by
              obtain ⟨x, hx, _, _, _, hv, _⟩ := hrange
              rw [hv, List.getD_eq_getElem?_getD]
              cases hi : x.adds[seat.toNat]? with
              | none => simp
              | some a =>
                have := rightB_iff.1 ((B4.wok x hx).range a (List.mem_of_getElem? hi))
                simpa using this
            have hh1 := heldB_ge B4.wok
            have hh2 := heldB_le B4.ok B4.wok
            rw [HH.out] at hh1 hh2
            have hp0 := (sum_range b.stakes B4.ok.right).1
            obtain ⟨hv0, hv1⟩ := hv
            clear hrange
            go_wp2_with fail
            refine (put_yes S g gs cs wp b h seat v _ B4 hE).mono ?_
            rintro e w5 ⟨rfl, wp5, B5, k5⟩
            have f5 : Below w.heap.size w w5 := f4.trans (k5.to_below f4.size (fun q hq hS => by have := HS.out q hS; omega))
            clear hE
            go_wp2_with fail
            have tt : ((hd + v) != (hd + v)) = false := by simp
            have p0 := (sum_range (putB b seat.toNat).stakes B5.ok.right).1
            have p1 := heldB_ge B5.wok
            rw [HH2.out] at p1
            refine (held_any S g gs cs wp5 (putB b seat.toNat) _ B5).mono ?_
            rintro e w9 ⟨rfl, b9⟩
            rw [HH2.out]
            have B9 := B5.below b9
            have f9 := f5.then_ b9
            go_wp2_with fail
            refine (pot_any S g gs cs wp5 (putB b seat.toNat) _ B9).mono ?_
            rintro e w10 ⟨rfl, rfl⟩
            go_wp2_with fail
            refine (pot_any S g gs cs wp5 (putB b seat.toNat) _ B9).mono ?_
            rintro e w10 ⟨rfl, rfl⟩
            go_wp2_with fail
            go_roundw
            case rel => exact ⟨k + 1, (hd + v), by omega, by go_num, rfl, ⟨S, wp5, (putB b seat.toNat), B9, HS.out, HH2.out, f9⟩⟩
            case measure => simp [intOf]; omega
          · have ht : (putE b h seat v == 0) = false := by rw [beq_eq_false_iff_ne]; exact hE
            go_wp2_with fail
            refine (put_no S g gs cs wp b h seat v _ B4 hE).mono ?_
            rintro e w5 ⟨rfl, b5⟩
            have B5 := B4.below b5
            have f5 := f4.then_ b5
            clear hE
            generalize putE b h seat v = pe at *
            go_wp2_with fail
            have tt : (hd != hd) = false := by simp
            have p0 := (sum_range b.stakes B5.ok.right).1
            have p1 := heldB_ge B5.wok
            rw [HH.out] at p1
            refine (held_any S g gs cs wp b _ B5).mono ?_
            rintro e w9 ⟨rfl, b9⟩
            rw [HH.out]
            have B9 := B5.below b9
            have f9 := f5.then_ b9
            go_wp2_with fail
            refine (pot_any S g gs cs wp b _ B9).mono ?_
            rintro e w10 ⟨rfl, rfl⟩
            go_wp2_with fail
            refine (pot_any S g gs cs wp b _ B9).mono ?_
            rintro e w10 ⟨rfl, rfl⟩
            go_wp2_with fail
            go_roundw
            case rel => exact ⟨k + 1, hd, by omega, by go_num, rfl, ⟨S, wp, b, B9, HS.out, HH.out, f9⟩⟩
            case measure => simp [intOf]; omega
        have t1' : (kind == 1) = false := by simpa using k1
        by_cases k2 : kind = 2
        · subst k2
          by_cases hE : backE b h seat = 0
          · obtain ⟨hb1, hb2⟩ := held_back B4.ok B4.wok hE
            have HH2 : Hid (heldB (backB b seat.toNat) = hd - gives (b.wt.getD noW) seat.toNat) := by rw [Hid, hb1, HH.out]
            have hh2 := heldB_le B4.ok B4.wok
            have hh3 := heldB_ge B4.wok
            rw [HH.out] at hh2 hh3
            have hp0 := (sum_range b.stakes B4.ok.right).1
            go_wp2_with fail
            refine (back_yes S g gs cs wp b h seat _ B4 hE).mono ?_
            rintro e w5 ⟨rfl, wp5, B5, k5⟩
            have f5 : Below w.heap.size w w5 := f4.trans (k5.to_below f4.size (fun q hq hS => by have := HS.out q hS; omega))
            have hg9 : gives (b.wt.getD noW) seat.toNat ≤ 18014398509481984 := by
              have h1 := heldB_ge B5.wok
              have h2 := (sum_range _ B5.ok.right).1
              rw [HH2.out] at h1
              omega
            clear hE hb1
            generalize gives (b.wt.getD noW) seat.toNat = gv at *
            go_wp2_with fail
            have tt : ((hd - gv) != (hd - gv)) = false := by simp
            have p0 := (sum_range (backB b seat.toNat).stakes B5.ok.right).1
            have p1 := heldB_ge B5.wok
            rw [HH2.out] at p1
            refine (held_any S g gs cs wp5 (backB b seat.toNat) _ B5).mono ?_
            rintro e w9 ⟨rfl, b9⟩
            rw [HH2.out]
            have B9 := B5.below b9
            have f9 := f5.then_ b9
            go_wp2_with fail
            refine (pot_any S g gs cs wp5 (backB b seat.toNat) _ B9).mono ?_
            rintro e w10 ⟨rfl, rfl⟩
            go_wp2_with fail
            refine (pot_any S g gs cs wp5 (backB b seat.toNat) _ B9).mono ?_
            rintro e w10 ⟨rfl, rfl⟩
            go_wp2_with fail
            go_roundw
            case rel => exact ⟨k + 1, (hd - gv), by omega, by go_num, rfl, ⟨S, wp5, (backB b seat.toNat), B9, HS.out, HH2.out, f9⟩⟩
            case measure => simp [intOf]; omega
          · have ht : (backE b h seat == 0) = false := by rw [beq_eq_false_iff_ne]; exact hE
            have hh2 := heldB_le B4.ok B4.wok
            have hh3 := heldB_ge B4.wok
            rw [HH.out] at hh2 hh3
            have hp0 := (sum_range b.stakes B4.ok.right).1
            go_wp2_with fail
            refine (back_no S g gs cs wp b h seat _ B4 hE).mono ?_
            rintro e w5 ⟨rfl, b5⟩
            have B5 := B4.below b5
            have f5 := f4.then_ b5
            obtain ⟨pe, hpe⟩ : ∃ pe, pe = backE b h seat := ⟨_, rfl⟩
            rw [← hpe] at ht ⊢
            clear hE hpe t0' t1' k0 k1
            have hnn : ¬ pe = 0 := by simpa using ht
            clear ht
            go_wp2_with fail
            have tt : (hd != hd) = false := by simp
            have p0 := (sum_range b.stakes B5.ok.right).1
            have p1 := heldB_ge B5.wok
            rw [HH.out] at p1
            refine (held_any S g gs cs wp b _ B5).mono ?_
            rintro e w9 ⟨rfl, b9⟩
            rw [HH.out]
            have B9 := B5.below b9
            have f9 := f5.then_ b9
            go_wp2_with fail
            refine (pot_any S g gs cs wp b _ B9).mono ?_
            rintro e w10 ⟨rfl, rfl⟩
            go_wp2_with fail
            refine (pot_any S g gs cs wp b _ B9).mono ?_
            rintro e w10 ⟨rfl, rfl⟩
            go_wp2_with fail
            go_roundw
            case rel => exact ⟨k + 1, hd, by omega, by go_num, rfl, ⟨S, wp, b, B9, HS.out, HH.out, f9⟩⟩
            case measure => simp [intOf]; omega
        have t2' : (kind == 2) = false := by simpa using k2
        have tt : (hd != hd) = false := by simp
        have p0 := (sum_range b.stakes B4.ok.right).1
        have p1 := heldB_ge B4.wok
        rw [HH.out] at p1
        go_wp2_with fail
        refine (held_any S g gs cs wp b _ B4).mono ?_
        rintro e w9 ⟨rfl, b9⟩
        rw [HH.out]
        have B9 := B4.below b9
        have f9 := f4.then_ b9
        go_wp2_with fail
        refine (pot_any S g gs cs wp b _ B9).mono ?_
        rintro e w10 ⟨rfl, rfl⟩
        go_wp2_with fail
        refine (pot_any S g gs cs wp b _ B9).mono ?_
        rintro e w10 ⟨rfl, rfl⟩
        go_wp2_with fail
        go_roundw
        case rel => exact ⟨k + 1, hd, by omega, by go_num, rfl, ⟨S, wp, b, B9, HS.out, HH.out, f9⟩⟩
        case measure => simp [intOf]; omega
end Go.Proofs.Ytdbffjipoiphpaa
