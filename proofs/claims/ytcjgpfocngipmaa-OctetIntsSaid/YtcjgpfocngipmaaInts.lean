/-
  OctetInts: the walk.
-/
import Derived.Test.YtcjgpfocngipmaaKnown
import Derived.Test.YtcjgpfocngipmaaReadN
import Derived.Test.YtcjgpfocngipmaaRound
import Derived.Deep.RegionHeld3
import Derived.Deep.DeepCutAuto
namespace Go.Proofs.Ytcjgpfocngipmaa
open Go.RowKit

theorem readNum_num {k : Nat} (hk : k < 18446744073709551616) : readNum (num k) 0 0 maxU = (k, (num k).length, 0) := by
  have h := lookL_num hk []
  rw [List.append_nil] at h
  unfold readNum stepN
  rw [if_neg (by simp), List.drop_zero, h]
  simp only [ne_eq, not_true_eq_false, if_false]
  rw [if_neg (by unfold maxU; omega)]
  simp [after]

set_option maxHeartbeats 4000000 in
set_option maxRecDepth 100000 in
theorem ints_core (n : Nat) (w : World) (hn : n ≤ 9223372036854775807) :
    ∀ x : Int, (x = (n : Int) ∨ x = -(n : Int) - 1) → Calls Try.prog 6 #[.int .i64 x] w (Tells w true) := by
  obtain ⟨ca, cb, t, ea, eb, hcd, ht⟩ := num_pair n
  have fa : fold (n : Int) = 2 * n := by unfold fold; rw [if_neg (by omega)]; omega
  have fb : fold (-(n : Int) - 1) = 2 * n + 1 := by unfold fold; rw [if_pos (by omega)]; omega
  have ua : unfold_ (2 * n) = (n : Int) := by rw [← fa]; exact unfold_fold _
  have ub : unfold_ (2 * n + 1) = -(n : Int) - 1 := by rw [← fb]; exact unfold_fold _
  have ra := readNum_num (k := 2 * n) (by omega)
  have rb := readNum_num (k := 2 * n + 1) (by omega)
  have la := num_le10 (n := 2 * n) (by omega)
  intro x hx
  have g0 : (n : Int) ≤ 9223372036854775807 := by omega
  go_enter Try.func6, Try.ntmps6
  have HFA := Lib.hid fa
  have HFB := Lib.hid fb
  have HUA := Lib.hid ua
  have HUB := Lib.hid ub
  have HRA := Lib.hid ra
  have HRB := Lib.hid rb
  have HEA := Lib.hid ea
  have HEB := Lib.hid eb
  have HCD := Lib.hid hcd
  clear fa fb ua ub ra rb ea eb hcd
  rcases hx with rfl | rfl
  case' inl => have hcase : (0 : Int) ≤ (n : Int) := by omega
  case' inr => have hcase : -(n : Int) - 1 < 0 := by omega
  all_goals
    go_upto_if 8 with fail
    go_cut [0] (fun s0 wx => s0 = .int .i64 n ∧ wx = w)
    case first =>
      go_wp2_with fail
      go_meet
      exact ⟨by go_num, rfl⟩
    case rest =>
      obtain ⟨rfl, rfl⟩ := hcut
      rename World => w
      clear hcase
      go_wp2_with fail
      refine (putInt_any none 0 0 n [] _ RB.none_ (by omega) (by omega) (by omega)).mono ?_
      rintro e w1 ⟨v1, rfl, o1, b1⟩
      obtain ⟨A1, m1, c1, rfl, hc1, -, r1⟩ := o1.got
      rw [HFA.out, HEA.out] at r1
      go_wp2_with fail
      refine (putInt_any none 0 0 _ [] _ RB.none_ (by omega) (by omega) (by omega)).mono ?_
      rintro e w2 ⟨v2, rfl, o2, b2⟩
      obtain ⟨A2, m2, c2, rfl, hc2, -, r2⟩ := o2.got
      rw [HFB.out, HEB.out] at r2
      have hm1 : m1 = t.length + 1 := r1.len
      have hm2 : m2 = t.length + 1 := r2.len
      obtain rfl : m1 = m2 := by omega
      have hm10 : m1 ≤ 10 := by have := la; rw [HEA.out] at this; simp at this; omega
      have hm0 : 0 < m1 := by omega
      have ht64 : n < 64 → m1 = 1 := fun h => by rw [hm1, ht h]; rfl
      have HM := Lib.hid hm1
      clear hm1 hm2 la ht
      have r1b := r1.below b2
      obtain ⟨g1, p1, rfl, _, hk1, cell1⟩ := r1b.at_ (k := 0) hm0
      obtain ⟨g2, p2, rfl, _, hk2, cell2⟩ := r2.at_ (k := 0) hm0
      have cell1 : w2.cell? ⟨g1, p1, none⟩ = some (.int .u8 (ca.toNat : Int)) := cell1
      have cell2 : w2.cell? ⟨g2, p2, none⟩ = some (.int .u8 (cb.toNat : Int)) := cell2
      have hcb : cb.toNat < 256 := cb.toNat_lt
      have tw : IntKind.u8.wrap ((ca.toNat : Int) + 1) = (cb.toNat : Int) := by have := HCD.out; rw [IntKind.wrap_u8']; omega
      have t1 : ((m1 : Int) == 0) = false := by simp; omega
      have tz : (0 : Int) < (m1 : Int) := by omega
      clear hcb
      go_wp2_with fail
      go_cut [46] (fun s46 wx => s46 = .bool false ∧ ∃ q, wx = w2.drewN q)
      case first =>
        by_cases h64 : n < 64
        · have t2 : decide ((n : Int) < 64) = true := by simp; omega
          have t3 : ((m1 : Int) != 1) = false := by have := ht64 h64; simp; omega
          clear ht64
          go_quiet (fail)
          go_wp2_with fail
          go_meet
          exact ⟨rfl, _, rfl⟩
        · have t2 : decide ((n : Int) < 64) = false := by simp; omega
          clear ht64
          go_quiet (fail)
          go_wp2_with fail
          go_meet
          exact ⟨rfl, _, rfl⟩
      case rest =>
        obtain ⟨rfl, q, rfl⟩ := hcut
        have ra3 : RB (w2.drewN q) (some ⟨g1, p1, none⟩) m1 (num (2 * n)) := by rw [HEA.out]; exact r1b.drewN q
        have rb3 : RB (w2.drewN q) (some ⟨g2, p2, none⟩) m1 (num (2 * n + 1)) := by rw [HEB.out]; exact r2.drewN q
        have hb3 : Below w.heap.size w (w2.drewN q) := below_drewN (b1.then_ b2) q
        have xa : RB (w2.drewN q) (if c1 = 1 then some ⟨g1, p1, none⟩ else some ⟨g1, p1 + 1, none⟩) (m1 - 1) t := by
          have := (r1b.drewN q).cut (k := 1) (by omega) hc1
          simpa [Addr.add_lit] using this
        have xb : RB (w2.drewN q) (if c2 = 1 then some ⟨g2, p2, none⟩ else some ⟨g2, p2 + 1, none⟩) (m1 - 1) t := by
          have := (r2.drewN q).cut (k := 1) (by omega) hc2
          simpa [Addr.add_lit] using this
        generalize w2.drewN q = w3 at ra3 rb3 hb3 xa xb ⊢
        clear r1b r2 cell1 cell2 tw o1 o2 b1 b2 r1 ht64
        go_wp2_with fail
        refine (newReader_any _ _ _ (num (2 * n)) _ ra3 (by omega)).mono ?_
        rintro e w4 ⟨ga, rfl, ra4, b4⟩
        go_wp2_with fail
        refine (newReader_any _ _ _ (num (2 * n + 1)) _ (rb3.below b4) (by omega)).mono ?_
        rintro e w5 ⟨gb, rfl, rb5, b5⟩
        have ra5 := ra4.below b5
        have hga := ra4.lt
        have hgb := rb5.lo_le
        have hgc := ra4.lo_le
        have hb5 := b4.then_ b5
        have e1 : (1 : Int) ≤ (m1 : Int) := by omega
        have e2 : (m1 : Int) ≤ (c1 : Int) := by omega
        have e3 : (m1 : Int) ≤ (c2 : Int) := by omega
        have tt : ((n : Int) == (n : Int)) = true := by simp
        have hwn : IntKind.i64.wrap (-(n : Int)) = -(n : Int) := wrap_i64_in _ (by omega) (by omega)
        have hwn1 : IntKind.i64.wrap (-(n : Int) - 1) = -(n : Int) - 1 := wrap_i64_in _ (by omega) (by omega)
        have d5 : Below w5.heap.size w5 w5.drew := below_drewN (Below.refl _ _) 1
        have CA : ∀ W, Rdr W w3.heap.size ga (num (2 * n)) 0 0 → Calls Try.prog 22 #[.pointer (some ⟨ga, 0, none⟩)] W fun e w' => e = .returned (.int .i64 n) ∧ Kept (fun k => k = ga) W w' := fun W h =>
          (int_any _ ga 0 0 (num (2 * n)) W h).mono fun e w' ⟨h1, h2, h3⟩ => ⟨by rw [h1, HRA.out, HUA.out], h3⟩
        have CB : ∀ W, Rdr W w4.heap.size gb (num (2 * n + 1)) 0 0 → Calls Try.prog 22 #[.pointer (some ⟨gb, 0, none⟩)] W fun e w' => e = .returned (.int .i64 (-(n : Int) - 1)) ∧ Kept (fun k => k = gb) W w' := fun W h =>
          (int_any _ gb 0 0 (num (2 * n + 1)) W h).mono fun e w' ⟨h1, h2, h3⟩ => ⟨by rw [h1, HRB.out, HUB.out], h3⟩
        have HCA := Lib.hid CA
        have HCB := Lib.hid CB
        clear CA CB
        have s45 := b5.size
        have s34 := b4.size
        go_upto_region 9 with fail
        go_region_held3 (fun _ => True) (trivial) (first
          | (go_at_call 13; refine (known_any _).mono ?_; rintro e w6 ⟨rfl, b6⟩)
          | (go_at_call_of 22 (Value.pointer (some (⟨ga, 0, none⟩ : Addr))); refine (HCA.out _ ((ra5.below d5).below b6)).mono ?_; rintro e w7 ⟨rfl, k7⟩)
          | (go_at_call_of 22 (Value.pointer (some (⟨gb, 0, none⟩ : Addr))); refine (HCB.out _ (((rb5.below d5).below b6).kept k7 (fun k h1 h2 h3 => by omega))).mono ?_; rintro e w8 ⟨rfl, k8⟩; have f8 : Below w3.heap.size w3 w8 := ((hb5.then_ d5).then_ b6).trans ((k7.to_below (by have := b6.size; have : w5.drew.heap.size = w5.heap.size := rfl; omega) (fun k h1 h2 => by omega)).trans (k8.to_below (by have := b6.size; have := k7.size; have : w5.drew.heap.size = w5.heap.size := rfl; omega) (fun k h1 h2 => by omega))))
          | (go_at_call 17; generalize (if c1 = 1 then (some ⟨g1, p1, none⟩ : Option Addr) else some ⟨g1, p1 + 1, none⟩) = Ax at xa ⊢; generalize (if c2 = 1 then (some ⟨g2, p2, none⟩ : Option Addr) else some ⟨g2, p2 + 1, none⟩) = Bx at xb ⊢; refine (same_true _ _ _ _ _ _ t t _ (xa.below f8) (xb.below f8) (by omega) rfl).mono ?_; rintro e w9 ⟨rfl, b9⟩))
        go_wp2_with fail
        go_ret
        exact ⟨rfl, (hb3.then_ f8).then_ b9⟩

theorem octetInts_any (x : Int) (w : World) (h1 : -9223372036854775808 ≤ x) (h2 : x ≤ 9223372036854775807) :
    Calls Try.prog 6 #[.int .i64 x] w (Tells w true) := by
  by_cases h : 0 ≤ x
  · exact ints_core x.toNat w (by omega) x (.inl (by omega))
  · exact ints_core (-x - 1).toNat w (by omega) x (.inr (by omega))
end Go.Proofs.Ytcjgpfocngipmaa
