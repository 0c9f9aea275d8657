
/-
  What 'look' of package octet gives.
-/
import Derived.Test.YtidppcaohkfnfaaOctet
import Derived.Test.YtidppcaohkfnfaaLookL
import Derived.Deep.RegionWith
import Derived.Deep.DeepCutAuto
import Derived.WalkSpells
import Derived.WalkMore
namespace Go.Proofs.Ytidppcaohkfnfaa
open Go.RowKit

/-- Three numbers as 'look' gives them. -/
def look3 (r : Nat × Nat × Nat) : Value := .tuple #[.int .u64 r.1, .int .i64 r.2.1, .int .i64 r.2.2]

theorem lookL_none {l : List UInt8} (h : ∀ j (hj : j < l.length), j < 10 → 128 ≤ (l[j]'hj).toNat) : lookL l = (0, 0, if l.length < 10 then 4 else 3) := by
  unfold lookL stop
  rw [stopF_none 10 l h]
theorem lookL_some {l : List UInt8} {k : Nat} (hk : k < l.length) (h10 : k < 10) (hc : (l[k]'hk).toNat < 128) (h : ∀ j (hj : j < l.length), j < k → 128 ≤ (l[j]'hj).toNat) :
    lookL l = if (0 < k ∧ (l[k]'hk).toNat = 0) ∨ (k = 9 ∧ 1 < (l[k]'hk).toNat) then (0, 0, 3) else (valU (l.take (k + 1)), k + 1, 0) := by
  unfold lookL stop
  rw [stopF_some 10 l k hk h10 hc (fun j hj => h j (by omega) hj)]
  simp [List.getD, hk]

theorem valU_small {l : List UInt8} {k : Nat} : valU (l.take k) < 128 ^ k := by
  refine Nat.lt_of_lt_of_le (valU_lt _) (Nat.pow_le_pow_right (by omega) ?_)
  rw [List.length_take]; omega

theorem look_ok {l : List UInt8} {k : Nat} (hk : k < l.length) (h10 : k ≤ 9) (h : k = 9 → (l[k]'hk).toNat ≤ 1) :
    (valU (l.take k) + ((l[k]'hk).toNat % 128) * 128 ^ k) % 18446744073709551616 = valU (l.take (k + 1)) := by
  rw [← valU_take l k hk]
  refine Nat.mod_eq_of_lt ?_
  by_cases h9 : k = 9
  · subst h9
    rw [valU_take l 9 hk]
    have h1 := valU_small (l := l) (k := 9)
    have h2 := h rfl
    have h3 : (l[9]'hk).toNat % 128 = (l[9]'hk).toNat := Nat.mod_eq_of_lt (by omega)
    rw [h3]
    have : (l[9]'hk).toNat * 128 ^ 9 ≤ 1 * 128 ^ 9 := Nat.mul_le_mul_right _ h2
    omega
  · refine Nat.lt_of_lt_of_le (valU_small (l := l) (k := k + 1)) ?_
    exact Nat.le_trans (Nat.pow_le_pow_right (by omega) (show k + 1 ≤ 9 by omega)) (by decide)

theorem ret3 {a b c a' b' c' : Int} (h1 : a = a') (h2 : b = b') (h3 : c = c') : Ending.returned (.tuple #[.int .u64 a, .int .i64 b, .int .i64 c]) = .returned (.tuple #[.int .u64 a', .int .i64 b', .int .i64 c']) := by rw [h1, h2, h3]

set_option maxHeartbeats 4000000 in
set_option maxRecDepth 100000 in
theorem look_any (A : Option Addr) (n c : Nat) (l : List UInt8) (w : World) (ha : RB w A n l) :
    Calls Try.prog 68 #[.slice A n c] w fun e w' => e = .returned (look3 (lookL l)) ∧ w = w' := by
  have hl := Lib.hid ha.len
  by_cases h10 : n ≤ 10
  · go_enter Try.func68, Try.ntmps68
    go_wp2
    go_step3
    go_wp2
    go_step3
    go_wp2
    go_loop [5, 6, 7, 11] (fun v la _ j => ∃ k : Nat, k ≤ n ∧ j = .int .i64 k ∧ la = .int .i64 (-1) ∧ v = .int .u64 (((valU (l.take k)) % 18446744073709551616 : Nat) : Int) ∧ Hid (∀ j (hj : j < l.length), j < k → 128 ≤ (l[j]'hj).toNat)) (fun _ _ _ j => n - (intOf j).toNat)
    case atStart => exact ⟨0, by omega, rfl, rfl, rfl, fun j hj h => by omega⟩
    case round =>
      obtain ⟨k, hk, rfl, rfl, rfl, HA⟩ := hrel
      by_cases hlt : k < n
      · obtain ⟨b, o, rfl, hbl, hkl, hc⟩ := ha.at_ (k := k) (by omega)
        have hV := valU_small (l := l) (k := k)
        have HM := Lib.hid (show valU (l.take k) % 18446744073709551616 = valU (l.take k) from Nat.mod_eq_of_lt (Nat.lt_of_lt_of_le hV (Nat.le_trans (Nat.pow_le_pow_right (by omega) (show k ≤ 9 by omega)) (by decide))))
        have HS := Lib.hid (or_step (valU (l.take k)) k l[k] (by omega) hV)
        rw [HM.out]
        clear hV
        have hc256 : l[k].toNat < 256 := l[k].toNat_lt
        by_cases hb : l[k].toNat < 128
        · have HL := Lib.hid (lookL_some hkl (by omega) hb HA.out)
          have HO := Lib.hid (look_ok hkl (by omega) : _ → _)
          by_cases hz : 0 < k ∧ l[k].toNat = 0
          · obtain ⟨hz1, hz2⟩ := hz
            have t1 : ((l[k].toNat : Int) == 0) = true := by rw [hz2]; rfl
            have HZ := Lib.hid hz2
            clear hz2 HO
            go_wp2
            go_ret3
            refine ⟨?_, rfl⟩
            rw [HL.out, if_pos (Or.inl ⟨hz1, HZ.out⟩)]
            rfl
          · have HZ := Lib.hid hz
            by_cases h9 : k = 9
            · have t0 : ((l[k].toNat : Int) == 0) = false := by simp at hz ⊢; omega
              have t9 : ((k : Int) == 9) = true := by simp; omega
              have H9 := Lib.hid h9
              have hk0 : 0 < k := by omega
              clear h9
              by_cases hone : 1 < l[k].toNat
              · clear HO hz
                go_wp2
                go_ret3
                refine ⟨?_, rfl⟩
                rw [HL.out, if_pos (Or.inr ⟨H9.out, hone⟩)]
                rfl
              · clear hz
                go_wp2
                go_ret3
                refine ⟨?_, rfl⟩
                rw [HL.out, if_neg (fun h => h.elim HZ.out (fun h => hone h.2))]
                exact ret3 (by rw [HS.out, HO.out (fun _ => by omega)]) (by show (k : Int) + 1 = ((k + 1 : Nat) : Int); omega) rfl
            · have t9 : ((k : Int) == 9) = false := by simp; omega
              by_cases hk0 : 0 < k
              · have t0 : ((l[k].toNat : Int) == 0) = false := by simp at hz ⊢; omega
                clear hz
                go_wp2
                go_ret3
                refine ⟨?_, rfl⟩
                rw [HL.out, if_neg (fun h => h.elim HZ.out (fun h => h9 h.1))]
                exact ret3 (by rw [HS.out, HO.out (fun h => absurd h h9)]) (by show (k : Int) + 1 = ((k + 1 : Nat) : Int); omega) rfl
              · clear hz
                go_wp2
                go_ret3
                refine ⟨?_, rfl⟩
                rw [HL.out, if_neg (fun h => h.elim HZ.out (fun h => h9 h.1))]
                exact ret3 (by rw [HS.out, HO.out (fun h => absurd h h9)]) (by show (k : Int) + 1 = ((k + 1 : Nat) : Int); omega) rfl
        · go_wp2
          go_round
          case rel => exact ⟨k + 1, by omega, by go_num, rfl, by rw [HS.out, valU_take l k hkl], fun j hj h => by rcases (show j < k ∨ j = k from by omega) with h' | rfl; exact HA.out j hj h'; omega⟩
          case measure => simp [intOf]; omega
      · have hkN : k = n := by omega
        subst hkN
        have HL := Lib.hid (lookL_none (l := l) (fun j hj h => HA.out j hj (by have := hl.out; omega)))
        by_cases h9 : k < 10
        · go_wp2
          go_ret3
          refine ⟨?_, rfl⟩
          rw [HL.out, if_pos (by have := hl.out; omega)]
          rfl
        · go_wp2
          go_ret3
          refine ⟨?_, rfl⟩
          rw [HL.out, if_neg (by have := hl.out; omega)]
          rfl
  · go_enter Try.func68, Try.ntmps68
    go_wp2
    go_step3
    go_wp2
    go_step3
    go_wp2
    go_loop [5, 6, 7, 11] (fun v la _ j => ∃ k : Nat, k ≤ 10 ∧ j = .int .i64 k ∧ la = .int .i64 (-1) ∧ v = .int .u64 (((valU (l.take k)) % 18446744073709551616 : Nat) : Int) ∧ Hid (∀ j (hj : j < l.length), j < k → 128 ≤ (l[j]'hj).toNat)) (fun _ _ _ j => 10 - (intOf j).toNat)
    case atStart => exact ⟨0, by omega, rfl, rfl, rfl, fun j hj h => by omega⟩
    case round =>
      obtain ⟨k, hk, rfl, rfl, rfl, HA⟩ := hrel
      by_cases hlt : k < 10
      · obtain ⟨b, o, rfl, hbl, hkl, hc⟩ := ha.at_ (k := k) (by omega)
        have hV := valU_small (l := l) (k := k)
        have HM := Lib.hid (show valU (l.take k) % 18446744073709551616 = valU (l.take k) from Nat.mod_eq_of_lt (Nat.lt_of_lt_of_le hV (Nat.le_trans (Nat.pow_le_pow_right (by omega) (show k ≤ 9 by omega)) (by decide))))
        have HS := Lib.hid (or_step (valU (l.take k)) k l[k] (by omega) hV)
        rw [HM.out]
        clear hV
        have hc256 : l[k].toNat < 256 := l[k].toNat_lt
        by_cases hb : l[k].toNat < 128
        · have HL := Lib.hid (lookL_some hkl (by omega) hb HA.out)
          have HO := Lib.hid (look_ok hkl (by omega) : _ → _)
          by_cases hz : 0 < k ∧ l[k].toNat = 0
          · obtain ⟨hz1, hz2⟩ := hz
            have t1 : ((l[k].toNat : Int) == 0) = true := by rw [hz2]; rfl
            have HZ := Lib.hid hz2
            clear hz2 HO
            go_wp2
            go_ret3
            refine ⟨?_, rfl⟩
            rw [HL.out, if_pos (Or.inl ⟨hz1, HZ.out⟩)]
            rfl
          · have HZ := Lib.hid hz
            by_cases h9 : k = 9
            · have t0 : ((l[k].toNat : Int) == 0) = false := by simp at hz ⊢; omega
              have t9 : ((k : Int) == 9) = true := by simp; omega
              have H9 := Lib.hid h9
              have hk0 : 0 < k := by omega
              clear h9
              by_cases hone : 1 < l[k].toNat
              · clear HO hz
                go_wp2
                go_ret3
                refine ⟨?_, rfl⟩
                rw [HL.out, if_pos (Or.inr ⟨H9.out, hone⟩)]
                rfl
              · clear hz
                go_wp2
                go_ret3
                refine ⟨?_, rfl⟩
                rw [HL.out, if_neg (fun h => h.elim HZ.out (fun h => hone h.2))]
                exact ret3 (by rw [HS.out, HO.out (fun _ => by omega)]) (by show (k : Int) + 1 = ((k + 1 : Nat) : Int); omega) rfl
            · have t9 : ((k : Int) == 9) = false := by simp; omega
              by_cases hk0 : 0 < k
              · have t0 : ((l[k].toNat : Int) == 0) = false := by simp at hz ⊢; omega
                clear hz
                go_wp2
                go_ret3
                refine ⟨?_, rfl⟩
                rw [HL.out, if_neg (fun h => h.elim HZ.out (fun h => h9 h.1))]
                exact ret3 (by rw [HS.out, HO.out (fun h => absurd h h9)]) (by show (k : Int) + 1 = ((k + 1 : Nat) : Int); omega) rfl
              · clear hz
                go_wp2
                go_ret3
                refine ⟨?_, rfl⟩
                rw [HL.out, if_neg (fun h => h.elim HZ.out (fun h => h9 h.1))]
                exact ret3 (by rw [HS.out, HO.out (fun h => absurd h h9)]) (by show (k : Int) + 1 = ((k + 1 : Nat) : Int); omega) rfl
        · go_wp2
          go_round
          case rel => exact ⟨k + 1, by omega, by go_num, rfl, by rw [HS.out, valU_take l k hkl], fun j hj h => by rcases (show j < k ∨ j = k from by omega) with h' | rfl; exact HA.out j hj h'; omega⟩
          case measure => simp [intOf]; omega
      · have hkN : k = 10 := by omega
        subst hkN
        have HL := Lib.hid (lookL_none (l := l) (fun j hj h => HA.out j hj (by have := hl.out; omega)))
        go_wp2
        go_ret3
        refine ⟨?_, rfl⟩
        rw [HL.out, if_neg (by have := hl.out; omega)]
        rfl
end Go.Proofs.Ytidppcaohkfnfaa
