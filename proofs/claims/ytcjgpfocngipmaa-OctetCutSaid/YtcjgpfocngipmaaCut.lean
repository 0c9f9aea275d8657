/-
  OctetCut: the walk.
-/
import Derived.Test.YtcjgpfocngipmaaKnown
import Derived.Test.YtcjgpfocngipmaaReadB
import Derived.Test.YtcjgpfocngipmaaRound
namespace Go.Proofs.Ytcjgpfocngipmaa
open Go.RowKit

theorem lookL_short (k : Nat) (hk : k < 18446744073709551616) (j : Nat) (hj : j < (num k).length) : lookL ((num k).take j) = (0, 0, 4) := by
  obtain ⟨ini, last, e, hw⟩ := num_whole k
  have hl := num_le10 hk
  rw [e] at hj hl ⊢
  simp only [List.length_append, List.length_cons, List.length_nil] at hj hl
  rw [lookL_none (fun i hi _ => by
    rw [List.length_take] at hi
    rw [List.getElem_take, List.getElem_append_left (by omega)]
    exact hw.high _ (List.getElem_mem _)), if_pos (by rw [List.length_take]; omega)]

theorem readNum_short (k : Nat) (hk : k < 18446744073709551616) (j : Nat) (hj : j < (num k).length) (m : Nat) : readNum ((num k).take j) 0 0 m = (0, 0, 4) := by
  unfold readNum stepN
  rw [if_neg (by simp), List.drop_zero, lookL_short k hk j hj]
  simp [after]

theorem readBytes_short (x : List UInt8) (hx : x.length ≤ 50) (j : Nat) (hj : j < (num x.length ++ x).length) : readBytes ((num x.length ++ x).take j) 0 0 50 = ([], 0, 4) := by
  unfold readBytes stepB
  rw [if_neg (by simp), List.drop_zero]
  by_cases h : j < (num x.length).length
  · have e : (num x.length ++ x).take j = (num x.length).take j := List.take_append_of_le_length (by omega)
    rw [e, lookL_short x.length (by omega) j h]
    simp [afterB]
  · have e : (num x.length ++ x).take j = num x.length ++ x.take (j - (num x.length).length) := by
      rw [List.take_append, List.take_of_length_le (by omega)]
    rw [e, lookL_num (by omega)]
    simp only [List.length_append, List.length_take] at hj ⊢
    simp only [ne_eq, not_true_eq_false, if_false]
    rw [if_neg (by omega), if_pos (by omega)]
    simp [afterB]

set_option maxHeartbeats 2000000 in
set_option maxRecDepth 100000 in
theorem octetCut_any (n : Nat) (A1 : Option Addr) (m1 c1 : Nat) (at_ : Int) (l1 : List UInt8) (w : World) (hn : U64 n) (hc1 : m1 ≤ c1) (r1 : RB w A1 m1 l1) :
    Calls Try.prog 8 #[.int .u64 n, .slice A1 m1 c1, .int .i64 at_] w (Tells w true) := by
  have hu1 : 0 ≤ IntKind.u64.wrap at_ := by rw [IntKind.wrap_u64]; omega
  have hu2 : IntKind.u64.wrap at_ < 18446744073709551616 := by rw [IntKind.wrap_u64]; omega
  have HU2 := Lib.hid hu2
  clear hu2
  generalize hux : IntKind.u64.wrap at_ = u at hu1 HU2
  go_enter Try.func8, Try.ntmps8
  go_upto_region 1 with fail
  go_cut [1] (fun s0 wx => ∃ p0 : Nat, p0 ≤ m1 ∧ p0 ≤ 50 ∧ s0 = .slice A1 p0 c1 ∧ wx = w)
  case first =>
    go_wp2_with fail
    all_goals
      go_meet
      first
        | exact ⟨50, by omega, by omega, rfl, rfl⟩
        | exact ⟨m1, by omega, by omega, rfl, rfl⟩
  case rest =>
    obtain ⟨p, hp, hp50, rfl, rfl⟩ := hcut
    rename World => w
    replace r1 := r1.upto hp
    generalize l1.take p = x at r1
    clear hp hc1
    have hl := Lib.hid r1.len
    have hx50 : x.length ≤ 50 := by have := hl.out; omega
    go_wp2_with fail
    refine (putNum_any none 0 0 n [] _ RB.none_ hn (by omega)).mono ?_
    rintro e w2 ⟨v2, rfl, o2, b2⟩
    obtain ⟨A2, m2, c2, rfl, hc2, -, r2⟩ := o2.got
    have r2 : RB w2 A2 m2 (num n) := r2
    have hm2 := Lib.hid r2.len
    go_wp2_with fail
    refine (putBytes_any none _ 0 0 _ _ [] x _ RB.none_ (r1.below b2) (by omega)).mono ?_
    rintro e w3 ⟨v3, rfl, o3, b3⟩
    obtain ⟨A3, m3, c3, rfl, hc3, -, r3⟩ := o3.got
    have r3 : RB w3 A3 m3 (num x.length ++ x) := r3
    have hm3 := Lib.hid r3.len
    have g2 : 0 < m2 ∧ m2 ≤ 10 := by have := hm2.out; have := num_pos n; have := num_le10 hn; omega
    have g3 : 0 < m3 ∧ m3 ≤ 60 := by have := hm3.out; have := num_pos x.length; have := num_le10 (n := x.length) (by omega); simp only [List.length_append] at *; omega
    obtain ⟨g2a, g2b⟩ := g2
    obtain ⟨g3a, g3b⟩ := g3
    have t2 : ((m2 : Int) == 0) = false := by simp; omega
    have t3 : ((m3 : Int) == 0) = false := by simp; omega
    obtain ⟨k2, hk2, hk2'⟩ : ∃ k : Nat, u % (m2 : Int) = (k : Int) ∧ k < m2 := by
      have h1 := Int.emod_nonneg u (b := (m2 : Int)) (by omega)
      have h2 := Int.emod_lt_of_pos u (b := (m2 : Int)) (by omega)
      exact ⟨(u % (m2 : Int)).toNat, by omega, by omega⟩
    obtain ⟨k3, hk3, hk3'⟩ : ∃ k : Nat, u % (m3 : Int) = (k : Int) ∧ k < m3 := by
      have h1 := Int.emod_nonneg u (b := (m3 : Int)) (by omega)
      have h2 := Int.emod_lt_of_pos u (b := (m3 : Int)) (by omega)
      exact ⟨(u % (m3 : Int)).toNat, by omega, by omega⟩
    have HA := Lib.hid (readNum_short n hn k2 (by have := hm2.out; omega) n)
    have HB := Lib.hid (readBytes_short x hx50 k3 (by have := hm3.out; omega))
    have rr2 := (r2.below b3).upto (k := k2) (by omega)
    have rr3 := r3.upto (k := k3) (by omega)
    have hb3 := b2.then_ b3
    clear o2 o3 r2 r3 b2 b3 r1
    go_wp2_with fail
    refine (newReader_any _ _ _ _ _ rr2 (by omega)).mono ?_
    rintro e w4 ⟨ga, rfl, ra4, b4⟩
    go_wp2_with fail
    refine (newReader_any _ _ _ _ _ (rr3.below b4) (by omega)).mono ?_
    rintro e w5 ⟨gb, rfl, rb5, b5⟩
    have ra5 := ra4.below b5
    have hga := ra4.lt
    have hgb := rb5.lo_le
    have hgc := ra4.lo_le
    have hb5 := (hb3.then_ b4).then_ b5
    have s34 := hb3.size
    have s45 := b4.size
    clear ra4 b4 b5 rr2 rr3
    go_wp2_with fail
    refine (known_any _).mono ?_
    rintro e w6 ⟨rfl, b6⟩
    have s56 := b6.size
    go_wp2_with fail
    refine (num_any _ ga 0 0 n _ _ (ra5.below b6)).mono ?_
    rw [HA.out]
    rintro e w7 ⟨rfl, ra7, k7⟩
    have rb7 := (rb5.below b6).kept k7 (fun k h1 h2 h3 => by omega)
    have hs5 := rb5.lt
    have hb7 : Below w.heap.size w w7 := (hb5.then_ b6).trans (k7.to_below (by omega) (fun k h1 h2 => by omega))
    go_wp2_with fail
    refine (err_any _ ga 0 4 _ _ ra7).mono ?_
    rintro e w8 ⟨rfl, rfl⟩
    go_wp2_with fail
    refine (bytes_any _ gb 0 0 50 50 _ _ rb7 rfl (by omega)).mono ?_
    rw [HB.out]
    rintro e w8 ⟨v8, rfl, o8, rb8, k8⟩
    obtain ⟨A8, m8, c8, rfl, -, -, r8⟩ := o8.got
    obtain rfl : m8 = 0 := r8.len
    have hs7 := hb7.size
    have hb8 : Below w.heap.size w w8 := hb7.trans (k8.to_below hs7 (fun k h1 h2 => by omega))
    go_wp2_with fail
    refine (err_any _ gb 0 4 _ _ rb8).mono ?_
    rintro e w9 ⟨rfl, rfl⟩
    go_wp2_with fail
    refine (num_any _ gb 0 4 5 _ _ rb8).mono ?_
    have e5 : ∀ b, readNum b 0 4 5 = (0, 0, 4) := fun b => by unfold readNum; rw [if_pos (by omega)]
    rw [e5]
    rintro e w9 ⟨rfl, rb9, k9⟩
    have hs8 := hb8.size
    have hb9 : Below w.heap.size w w9 := hb8.trans (k9.to_below hs8 (fun k h1 h2 => by omega))
    clear e5
    go_wp2_with fail
    refine (end_any _ gb 0 4 _ _ rb9).mono ?_
    have e6 : ∀ b, endOf b 0 4 = 4 := fun b => by unfold endOf; rw [if_pos (by omega)]
    rw [e6]
    rintro e wa ⟨rfl, ba⟩
    clear e6
    go_wp2_with fail
    go_ret
    exact ⟨rfl, hb9.then_ ba⟩
end Go.Proofs.Ytcjgpfocngipmaa
