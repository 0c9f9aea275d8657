
/-
  The reference of layer 1, what it reads: number, Fail, Read, Some, End, Unfold.
-/
import Derived.Test.YtidppcaohkfnfaaReadB
import Derived.Test.YtidppcaohkfnfaaRef
import Derived.Test.YtidppcaohkfnfaaRound
namespace Go.Proofs.Ytidppcaohkfnfaa
open Go.RowKit

theorem valU_drop (L : List UInt8) (i : Nat) (h : i < L.length) : valU (L.drop i) = (L[i]'h).toNat % 128 + 128 * valU (L.drop (i + 1)) := by
  rw [List.drop_eq_getElem_cons h]
  rfl
theorem valU_drop_le (L : List UInt8) : ∀ i, valU (L.drop i) ≤ valU L := by
  intro i
  induction i with
  | zero => simp
  | succ i ih =>
    by_cases h : i < L.length
    · have := valU_drop L i h
      omega
    · rw [List.drop_eq_nil_of_le (by omega)]
      simp [valU]

set_option maxHeartbeats 4000000 in
set_option maxRecDepth 100000 in
theorem refNumber_any (A : Option Addr) (n c : Nat) (l : List UInt8) (w : World) (ha : RB w A n l) (hn : n ≤ 140737488355328) :
    Calls Try.prog 70 #[.slice A n c] w fun e w' => e = .returned (look3 (lookL l)) ∧ w = w' := by
  have hl := Lib.hid ha.len
  go_enter Try.func70, Try.ntmps70
  go_wp2
  go_loop [5] (fun i => ∃ k : Nat, k ≤ n ∧ k ≤ 10 ∧ i = .int .i64 k ∧ Hid (∀ j (hj : j < l.length), j < k → 128 ≤ (l[j]'hj).toNat)) (fun i => 10 - (intOf i).toNat)
  case atStart => exact ⟨0, by omega, by omega, rfl, fun j hj h => by omega⟩
  case round =>
    obtain ⟨k, hk, hk10, rfl, HA⟩ := hrel
    by_cases hkn : k < n
    · by_cases hk9 : k < 10
      · obtain ⟨b, o, rfl, hbl, hkl, hc⟩ := ha.at_ (k := k) (by omega)
        have hc256 : l[k].toNat < 256 := l[k].toNat_lt
        by_cases hb : l[k].toNat < 128
        · have HL := Lib.hid (lookL_some hkl (by omega) hb HA.out)
          have hne : ((k : Int) == (n : Int)) = false := by simp; omega
          have hne10 : ((k : Int) == 10) = false := by simp; omega
          by_cases hz : 0 < k ∧ l[k].toNat = 0
          · obtain ⟨hz1, hz2⟩ := hz
            have t1 : ((l[k].toNat : Int) == 0) = true := by rw [hz2]; rfl
            have HZ := Lib.hid hz2
            clear hz2
            go_wp2
            go_ret3
            refine ⟨?_, rfl⟩
            rw [HL.out, if_pos (Or.inl ⟨hz1, HZ.out⟩)]
            rfl
          · have HZ := Lib.hid hz
            by_cases h9 : k = 9
            · have t0 : ((l[k].toNat : Int) == 0) = false := by simp at hz ⊢; omega
              have t9 : ((k : Int) == 9) = true := by simp; omega
              have hc9 : w.cell? ⟨b, o + 9, none⟩ = some (.int .u8 (l[k].toNat : Int)) := by rw [← hc, h9]
              have hn9 : (9 : Int) < (n : Int) := by omega
              have H9 := Lib.hid h9
              have hk0 : 0 < k := by omega
              clear h9
              by_cases hone : 1 < l[k].toNat
              · clear hz
                go_wp2
                go_ret3
                refine ⟨?_, rfl⟩
                rw [HL.out, if_pos (Or.inr ⟨H9.out, hone⟩)]
                rfl
              · have HN : Hid (¬ ((0 < k ∧ l[k].toNat = 0) ∨ (k = 9 ∧ 1 < l[k].toNat))) := fun h => h.elim HZ.out (fun h => hone h.2)
                clear hz
                have HO := Lib.hid (look_ok hkl (by omega) (fun h => by omega))
                have HLT : Hid (valU (l.take (k + 1)) < 18446744073709551616) := by rw [Hid, ← HO.out]; exact Nat.mod_lt _ (by omega)
                have HLE : Hid ((l.take (k + 1)).length = k + 1) := by rw [Hid, List.length_take]; omega
                go_wp2
                go_loop [6, 7] (fun v i => ∃ d x : Nat, d ≤ k + 1 ∧ i = .int .i64 ((d : Int) - 1) ∧ v = .int .u64 x ∧ Hid (x = valU ((l.take (k + 1)).drop d))) (fun _ i => (intOf i + 1).toNat)
                case atStart => exact ⟨k + 1, 0, by omega, by go_num, rfl, by rw [Hid, List.drop_eq_nil_of_le (by have := HLE.out; omega)]; rfl⟩
                case round =>
                  obtain ⟨d, x, hd, rfl, rfl, HX⟩ := hrel
                  by_cases hd0 : 0 < d
                  · obtain ⟨d, rfl⟩ : ∃ e, d = e + 1 := ⟨d - 1, by omega⟩
                    obtain ⟨b', o', e', hbl', hdl, hcd⟩ := ha.at_ (k := d) (by omega)
                    obtain ⟨rfl, rfl⟩ : b' = b ∧ o' = o := by simp at e'; omega
                    have hLd : d < (l.take (k + 1)).length := by have := HLE.out; omega
                    have HV := Lib.hid (valU_drop (l.take (k + 1)) d hLd)
                    have HG : Hid ((l.take (k + 1))[d]'hLd = l[d]) := by rw [Hid, List.getElem_take]
                    have hle := valU_drop_le (l.take (k + 1)) d
                    have hxx : 128 * x + l[d].toNat % 128 < 18446744073709551616 := by
                      have h1 := HV.out
                      rw [HG.out, ← HX.out] at h1
                      have := HLT.out
                      omega
                    have HXX := Lib.hid hxx
                    have eD : (((d + 1 : Nat) : Int) - 1) = (d : Int) := by omega
                    rw [eD]
                    clear hle hxx eD
                    have w1 : IntKind.u64.wrap (128 * (x : Int)) = 128 * (x : Int) := wrap_u64_in _ (by omega) (by have := HXX.out; omega)
                    have w2 : IntKind.u64.wrap (128 * (x : Int) + (l[d].toNat : Int) % 128) = 128 * (x : Int) + (l[d].toNat : Int) % 128 := wrap_u64_in _ (by omega) (by have := HXX.out; omega)
                    go_wp2
                    go_round
                    case rel => exact ⟨d, 128 * x + l[d].toNat % 128, by omega, rfl, by go_num, by rw [Hid, HV.out, HG.out, ← HX.out]; omega⟩
                    case measure => (simp [intOf] <;> omega)
                  · obtain rfl : d = 0 := by omega
                    go_wp2
                    go_ret3
                    refine ⟨?_, rfl⟩
                    rw [HL.out, if_neg HN.out]
                    exact ret3 (by rw [HX.out, List.drop_zero]) (by show (k : Int) + 1 = ((k + 1 : Nat) : Int); omega) rfl
            · have t9 : ((k : Int) == 9) = false := by simp; omega
              have HN : Hid (¬ ((0 < k ∧ l[k].toNat = 0) ∨ (k = 9 ∧ 1 < l[k].toNat))) := fun h => h.elim HZ.out (fun h => h9 h.1)
              by_cases hk0 : 0 < k
              · have t0 : ((l[k].toNat : Int) == 0) = false := by simp at hz ⊢; omega
                clear hz
                have HO := Lib.hid (look_ok hkl (by omega) (fun h => by omega))
                have HLT : Hid (valU (l.take (k + 1)) < 18446744073709551616) := by rw [Hid, ← HO.out]; exact Nat.mod_lt _ (by omega)
                have HLE : Hid ((l.take (k + 1)).length = k + 1) := by rw [Hid, List.length_take]; omega
                go_wp2
                go_loop [6, 7] (fun v i => ∃ d x : Nat, d ≤ k + 1 ∧ i = .int .i64 ((d : Int) - 1) ∧ v = .int .u64 x ∧ Hid (x = valU ((l.take (k + 1)).drop d))) (fun _ i => (intOf i + 1).toNat)
                case atStart => exact ⟨k + 1, 0, by omega, by go_num, rfl, by rw [Hid, List.drop_eq_nil_of_le (by have := HLE.out; omega)]; rfl⟩
                case round =>
                  obtain ⟨d, x, hd, rfl, rfl, HX⟩ := hrel
                  by_cases hd0 : 0 < d
                  · obtain ⟨d, rfl⟩ : ∃ e, d = e + 1 := ⟨d - 1, by omega⟩
                    obtain ⟨b', o', e', hbl', hdl, hcd⟩ := ha.at_ (k := d) (by omega)
                    obtain ⟨rfl, rfl⟩ : b' = b ∧ o' = o := by simp at e'; omega
                    have hLd : d < (l.take (k + 1)).length := by have := HLE.out; omega
                    have HV := Lib.hid (valU_drop (l.take (k + 1)) d hLd)
                    have HG : Hid ((l.take (k + 1))[d]'hLd = l[d]) := by rw [Hid, List.getElem_take]
                    have hle := valU_drop_le (l.take (k + 1)) d
                    have hxx : 128 * x + l[d].toNat % 128 < 18446744073709551616 := by
                      have h1 := HV.out
                      rw [HG.out, ← HX.out] at h1
                      have := HLT.out
                      omega
                    have HXX := Lib.hid hxx
                    have eD : (((d + 1 : Nat) : Int) - 1) = (d : Int) := by omega
                    rw [eD]
                    clear hle hxx eD
                    have w1 : IntKind.u64.wrap (128 * (x : Int)) = 128 * (x : Int) := wrap_u64_in _ (by omega) (by have := HXX.out; omega)
                    have w2 : IntKind.u64.wrap (128 * (x : Int) + (l[d].toNat : Int) % 128) = 128 * (x : Int) + (l[d].toNat : Int) % 128 := wrap_u64_in _ (by omega) (by have := HXX.out; omega)
                    go_wp2
                    go_round
                    case rel => exact ⟨d, 128 * x + l[d].toNat % 128, by omega, rfl, by go_num, by rw [Hid, HV.out, HG.out, ← HX.out]; omega⟩
                    case measure => (simp [intOf] <;> omega)
                  · obtain rfl : d = 0 := by omega
                    go_wp2
                    go_ret3
                    refine ⟨?_, rfl⟩
                    rw [HL.out, if_neg HN.out]
                    exact ret3 (by rw [HX.out, List.drop_zero]) (by show (k : Int) + 1 = ((k + 1 : Nat) : Int); omega) rfl
              · clear hz
                have HO := Lib.hid (look_ok hkl (by omega) (fun h => by omega))
                have HLT : Hid (valU (l.take (k + 1)) < 18446744073709551616) := by rw [Hid, ← HO.out]; exact Nat.mod_lt _ (by omega)
                have HLE : Hid ((l.take (k + 1)).length = k + 1) := by rw [Hid, List.length_take]; omega
                go_wp2
                go_loop [6, 7] (fun v i => ∃ d x : Nat, d ≤ k + 1 ∧ i = .int .i64 ((d : Int) - 1) ∧ v = .int .u64 x ∧ Hid (x = valU ((l.take (k + 1)).drop d))) (fun _ i => (intOf i + 1).toNat)
                case atStart => exact ⟨k + 1, 0, by omega, by go_num, rfl, by rw [Hid, List.drop_eq_nil_of_le (by have := HLE.out; omega)]; rfl⟩
                case round =>
                  obtain ⟨d, x, hd, rfl, rfl, HX⟩ := hrel
                  by_cases hd0 : 0 < d
                  · obtain ⟨d, rfl⟩ : ∃ e, d = e + 1 := ⟨d - 1, by omega⟩
                    obtain ⟨b', o', e', hbl', hdl, hcd⟩ := ha.at_ (k := d) (by omega)
                    obtain ⟨rfl, rfl⟩ : b' = b ∧ o' = o := by simp at e'; omega
                    have hLd : d < (l.take (k + 1)).length := by have := HLE.out; omega
                    have HV := Lib.hid (valU_drop (l.take (k + 1)) d hLd)
                    have HG : Hid ((l.take (k + 1))[d]'hLd = l[d]) := by rw [Hid, List.getElem_take]
                    have hle := valU_drop_le (l.take (k + 1)) d
                    have hxx : 128 * x + l[d].toNat % 128 < 18446744073709551616 := by
                      have h1 := HV.out
                      rw [HG.out, ← HX.out] at h1
                      have := HLT.out
                      omega
                    have HXX := Lib.hid hxx
                    have eD : (((d + 1 : Nat) : Int) - 1) = (d : Int) := by omega
                    rw [eD]
                    clear hle hxx eD
                    have w1 : IntKind.u64.wrap (128 * (x : Int)) = 128 * (x : Int) := wrap_u64_in _ (by omega) (by have := HXX.out; omega)
                    have w2 : IntKind.u64.wrap (128 * (x : Int) + (l[d].toNat : Int) % 128) = 128 * (x : Int) + (l[d].toNat : Int) % 128 := wrap_u64_in _ (by omega) (by have := HXX.out; omega)
                    go_wp2
                    go_round
                    case rel => exact ⟨d, 128 * x + l[d].toNat % 128, by omega, rfl, by go_num, by rw [Hid, HV.out, HG.out, ← HX.out]; omega⟩
                    case measure => (simp [intOf] <;> omega)
                  · obtain rfl : d = 0 := by omega
                    go_wp2
                    go_ret3
                    refine ⟨?_, rfl⟩
                    rw [HL.out, if_neg HN.out]
                    exact ret3 (by rw [HX.out, List.drop_zero]) (by show (k : Int) + 1 = ((k + 1 : Nat) : Int); omega) rfl
        · go_wp2
          go_round
          case rel => exact ⟨k + 1, by omega, by omega, by go_num, fun j hj h => by rcases (show j < k ∨ j = k from by omega) with h' | rfl; exact HA.out j hj h'; omega⟩
          case measure => simp [intOf]; omega
      · obtain rfl : k = 10 := by omega
        have HL := Lib.hid (lookL_none (l := l) (fun j hj h => HA.out j hj h))
        have hne : ((10 : Int) == (n : Int)) = false := by simp; omega
        go_wp2
        go_ret3
        refine ⟨?_, rfl⟩
        rw [HL.out, if_neg (by have := hl.out; omega)]
        rfl
    · obtain rfl : k = n := by omega
      have HL := Lib.hid (lookL_none (l := l) (fun j hj h => HA.out j hj (by have := hl.out; omega)))
      by_cases h10 : k < 10
      · go_wp2
        go_ret3
        refine ⟨?_, rfl⟩
        rw [HL.out, if_pos (by have := hl.out; omega)]
        rfl
      · have hne10 : ((k : Int) == 10) = true := by simp; omega
        go_wp2
        go_ret3
        refine ⟨?_, rfl⟩
        rw [HL.out, if_neg (by have := hl.out; omega)]
        rfl

/-- A reader of the reference, as a value. -/
def rV (A : Option Addr) (n c at_ err : Nat) : Value := .agg #[.slice A n c, .int .i64 at_, .int .i64 err]

set_option maxHeartbeats 1000000 in
set_option maxRecDepth 100000 in
theorem refFail_any (A : Option Addr) (n c at_ err : Nat) (x : Nat) (w : World) :
    Calls Try.prog 71 #[rV A n c at_ err, .int .i64 x] w fun e w' => e = .returned (rV A n c at_ x) ∧ Below w.heap.size w w' := by
  unfold rV
  go_enter Try.func71, Try.ntmps71
  go_wp2
  refine bodyPost_ret (v := .agg #[.slice A n c, .int .i64 at_, .int .i64 x]) (by simp [results, Try.results71, go_sem]) rfl ⟨rfl, ?_⟩
  exact ((Below.refl _ w).al _).al _

theorem rblk {w w1 : World} {C D : Array Value} (b1 : Below ((w.alloc (.cells C 96)).alloc (.cells D 96)).heap.size ((w.alloc (.cells C 96)).alloc (.cells D 96)) w1) : Blk w1 (w.heap.size + 1) 96 D := by
  have h : Blk ((w.alloc (.cells C 96)).alloc (.cells D 96)) (w.heap.size + 1) 96 D := by
    have := Blk.new (w.alloc (.cells C 96)) 96 D
    simpa using this
  exact h.below b1 (by simp)
theorem readNum_err (b : List UInt8) (at_ err most : Nat) (h : err ≠ 0) : readNum b at_ err most = (0, at_, err) := by unfold readNum; rw [if_pos h]
theorem readNum_go (b : List UInt8) (at_ most : Nat) {x s e : Nat} (h : lookL (b.drop at_) = (x, s, e)) :
    readNum b at_ 0 most = if e ≠ 0 then (0, at_, e) else if most < x then (0, at_, 2) else (x, at_ + s, 0) := by
  unfold readNum stepN after
  rw [if_neg (by simp), h]
  by_cases he : e = 0
  · subst he
    by_cases hm : most < x
    · simp [hm]
    · simp [hm]
  · simp [he]

set_option maxHeartbeats 1000000 in
set_option maxRecDepth 100000 in
theorem refRead_any (A : Option Addr) (n c at_ err : Nat) (most : Nat) (y : Int) (hy : y = (most : Int)) (b : List UInt8) (w : World) (hr : RB w A n b) (hc : n ≤ c) (hn : n ≤ 140737488355328) (hat : at_ ≤ n) :
    Calls Try.prog 56 #[rV A n c at_ err, .int .u64 y] w
      fun e w' => e = .returned (.tuple #[rV A n c (readNum b at_ err most).2.1 (readNum b at_ err most).2.2, .int .u64 (readNum b at_ err most).1]) ∧ Below w.heap.size w w' := by
  by_cases he : err = 0
  · subst he
    obtain ⟨x, s, er, hlk⟩ : ∃ x s er, lookL (b.drop at_) = (x, s, er) := ⟨_, _, _, rfl⟩
    have HR := Lib.hid (readNum_go b at_ most hlk)
    have hsz : s ≤ n - at_ := by have h1 := lookL_size (b.drop at_); have h2 := hr.len; rw [hlk, List.length_drop] at h1; simp only at h1; omega
    have HK := Lib.hid hlk
    clear hlk
    have g1 : (0 : Int) ≤ (at_ : Int) := by omega
    have g2 : (at_ : Int) ≤ (n : Int) := by omega
    have g3 : (n : Int) ≤ (c : Int) := by omega
    have rd := (hr.cut hat hc).below (((Below.refl _ w).al (.cells #[.slice A n c, .int .i64 at_, .int .i64 0] 96)).al (.cells #[.slice none 0 0, .int .i64 0, .int .i64 0] 96))
    subst hy
    rcases Nat.lt_or_ge at_ c with hca | hca
    · rw [if_neg (by omega)] at rd
      unfold rV
      rcases Nat.eq_zero_or_pos er with her | her
      · subst her
        by_cases hm : most < x
        · have HN : Hid (readNum b at_ 0 most = (0, at_, 2)) := by rw [Hid, HR.out, if_neg (by simp), if_pos hm]
          clear HR
          generalize readNum b at_ 0 most = rn at HN
          go_enter Try.func56, Try.ntmps56
          go_wp2_with fail
          refine (refNumber_any _ _ _ _ _ rd (by omega)).mono ?_
          rintro e w1 ⟨rfl, rfl⟩
          rw [HK.out]
          unfold look3
          go_wp2_with fail
          refine (refFail_any A n c at_ 0 2 _).mono ?_
          rintro e w1 ⟨rfl, b1⟩
          have blk := rblk (C := #[.slice A n c, .int .i64 at_, .int .i64 0]) b1
          have k0 : w1.cell? ⟨w.heap.size + 1, 0, none⟩ = some (.slice none 0 0) := blk.cell 0
          have k1 : w1.cell? ⟨w.heap.size + 1, 1, none⟩ = some (.int .i64 0) := blk.cell 1
          have k2 : w1.cell? ⟨w.heap.size + 1, 2, none⟩ = some (.int .i64 0) := blk.cell 2
          have f0 := blk.frozen 0
          have f1 := blk.frozen 1
          have f2 := blk.frozen 2
          have bw := (((Below.refl _ w).al (.cells #[.slice A n c, .int .i64 at_, .int .i64 0] 96)).al (.cells #[.slice none 0 0, .int .i64 0, .int .i64 0] 96)).then_ b1
          unfold rV
          go_wp2_with fail
          rw [HN.out]
          refine bodyPost_ret (v := .tuple #[.agg #[.slice A n c, .int .i64 at_, .int .i64 2], .int .u64 0]) (by simp [results, Try.results56, go_sem, k0, k1, k2]) rfl ⟨rfl, ?_⟩
          exact ((bw.setCell (by simp) _).setCell (by simp) _).setCell (by simp) _
        · have HN : Hid (readNum b at_ 0 most = (x, at_ + s, 0)) := by rw [Hid, HR.out, if_neg (by simp), if_neg hm]
          clear HR
          generalize readNum b at_ 0 most = rn at HN
          go_enter Try.func56, Try.ntmps56
          go_wp2_with fail
          refine (refNumber_any _ _ _ _ _ rd (by omega)).mono ?_
          rintro e w1 ⟨rfl, rfl⟩
          rw [HK.out]
          unfold look3
          go_wp2_with fail
          rw [HN.out]
          refine bodyPost_ret (v := .tuple #[.agg #[.slice A n c, .int .i64 ((at_ : Int) + (s : Int)), .int .i64 0], .int .u64 x]) (by simp [results, Try.results56, go_sem]) rfl ⟨by rw [Int.natCast_add]; rfl, ?_⟩
          exact ((Below.refl _ w).al _).al _
      · have te : ((er : Int) == 0) = false := by simp; omega
        have te' : ((er : Int) != 0) = true := by simp; omega
        have HN : Hid (readNum b at_ 0 most = (0, at_, er)) := by rw [Hid, HR.out, if_pos (by omega)]
        clear HR
        generalize readNum b at_ 0 most = rn at HN
        go_enter Try.func56, Try.ntmps56
        go_wp2_with fail
        refine (refNumber_any _ _ _ _ _ rd (by omega)).mono ?_
        rintro e w1 ⟨rfl, rfl⟩
        rw [HK.out]
        unfold look3
        go_wp2_with fail
        refine (refFail_any A n c at_ 0 er _).mono ?_
        rintro e w1 ⟨rfl, b1⟩
        have blk := rblk (C := #[.slice A n c, .int .i64 at_, .int .i64 0]) b1
        have k0 : w1.cell? ⟨w.heap.size + 1, 0, none⟩ = some (.slice none 0 0) := blk.cell 0
        have k1 : w1.cell? ⟨w.heap.size + 1, 1, none⟩ = some (.int .i64 0) := blk.cell 1
        have k2 : w1.cell? ⟨w.heap.size + 1, 2, none⟩ = some (.int .i64 0) := blk.cell 2
        have f0 := blk.frozen 0
        have f1 := blk.frozen 1
        have f2 := blk.frozen 2
        have bw := (((Below.refl _ w).al (.cells #[.slice A n c, .int .i64 at_, .int .i64 0] 96)).al (.cells #[.slice none 0 0, .int .i64 0, .int .i64 0] 96)).then_ b1
        unfold rV
        go_wp2_with fail
        rw [HN.out]
        refine bodyPost_ret (v := .tuple #[.agg #[.slice A n c, .int .i64 at_, .int .i64 (er : Int)], .int .u64 0]) (by simp [results, Try.results56, go_sem, k0, k1, k2]) rfl ⟨rfl, ?_⟩
        exact ((bw.setCell (by simp) _).setCell (by simp) _).setCell (by simp) _
    · obtain rfl : c = at_ := by omega
      obtain rfl : n = c := by omega
      have hd : b.drop n = [] := List.drop_eq_nil_of_le (by have := hr.len; omega)
      have HN : Hid (readNum b n 0 most = (0, n, 4)) := by
        have h := HK.out
        rw [hd] at h
        have h4 : lookL [] = (0, 0, 4) := rfl
        rw [h4] at h
        simp only [Prod.mk.injEq] at h
        obtain ⟨_, _, rfl⟩ := h
        rw [Hid, HR.out, if_pos (by omega)]
      clear HR HK rd hd
      generalize readNum b n 0 most = rn at HN
      unfold rV
      go_enter Try.func56, Try.ntmps56
      go_wp2_with fail
      refine (refNumber_any _ 0 _ [] _ RB.none_ (by omega)).mono ?_
      rintro e w1 ⟨rfl, rfl⟩
      rw [show lookL [] = (0, 0, 4) from rfl]
      unfold look3
      go_wp2_with fail
      refine (refFail_any A n n n 0 4 _).mono ?_
      rintro e w1 ⟨rfl, b1⟩
      have blk := rblk (C := #[.slice A n n, .int .i64 n, .int .i64 0]) b1
      have k0 : w1.cell? ⟨w.heap.size + 1, 0, none⟩ = some (.slice none 0 0) := blk.cell 0
      have k1 : w1.cell? ⟨w.heap.size + 1, 1, none⟩ = some (.int .i64 0) := blk.cell 1
      have k2 : w1.cell? ⟨w.heap.size + 1, 2, none⟩ = some (.int .i64 0) := blk.cell 2
      have f0 := blk.frozen 0
      have f1 := blk.frozen 1
      have f2 := blk.frozen 2
      have bw := (((Below.refl _ w).al (.cells #[.slice A n n, .int .i64 n, .int .i64 0] 96)).al (.cells #[.slice none 0 0, .int .i64 0, .int .i64 0] 96)).then_ b1
      unfold rV
      go_wp2_with fail
      rw [HN.out]
      refine bodyPost_ret (v := .tuple #[.agg #[.slice A n n, .int .i64 n, .int .i64 4], .int .u64 0]) (by simp [results, Try.results56, go_sem, k0, k1, k2]) rfl ⟨rfl, ?_⟩
      exact ((bw.setCell (by simp) _).setCell (by simp) _).setCell (by simp) _
  · have HN := Lib.hid (readNum_err b at_ err most he)
    have t : ((err : Int) != 0) = true := by simp; omega
    generalize readNum b at_ err most = rn at HN
    unfold rV
    go_enter Try.func56, Try.ntmps56
    go_wp2_with fail
    rw [HN.out]
    refine bodyPost_ret (v := .tuple #[.agg #[.slice A n c, .int .i64 at_, .int .i64 err], .int .u64 0]) (by simp [results, Try.results56, go_sem]) rfl ⟨rfl, ?_⟩
    exact ((Below.refl _ w).al _).al _
end Go.Proofs.Ytidppcaohkfnfaa
