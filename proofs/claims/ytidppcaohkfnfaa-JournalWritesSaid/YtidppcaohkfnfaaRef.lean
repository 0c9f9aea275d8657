
/-
  The reference of layer 1, what it puts: Num, Fold, Bytes; and the law's own example 'known'.
-/
import Derived.Test.YtidppcaohkfnfaaOctet

namespace Go.Proofs.Ytidppcaohkfnfaa
open Go.RowKit

theorem u8_rem (m : Nat) : (128 + (m : Int) % 128) = ((UInt8.ofNat (m % 128 + 128)).toNat : Int) := by
  rw [UInt8.toNat_ofNat']; omega

set_option maxHeartbeats 400000 in
set_option maxRecDepth 100000 in
theorem refNum_any (n : Nat) (w : World) (HN : U64 n) :
    Calls Try.prog 43 #[.int .u64 n] w (Got w.heap.size w (num n)) := by
  go_enter Try.func43, Try.ntmps43
  go_wp2
  go_loopw [0, 3] (fun i vv wr => ∃ (m : Nat) (pre : List UInt8), U64 m ∧ i = .int .u64 m ∧ OB wr w.heap.size vv pre ∧ Below w.heap.size w wr ∧ pre ++ num m = num n) (fun i _ _ => (intOf i).toNat)
  case atStart => exact ⟨n, [], HN, rfl, OB.nil _ _, Below.refl _ _, rfl⟩
  case round =>
    obtain ⟨m, pre, hm, rfl, ho, hbr, hp⟩ := hrel
    have HP := Lib.hid hp
    clear hp
    have hpre : pre.length ≤ 9 := by
      have h1 := congrArg List.length HP.out
      have h2 := num_le10 HN
      have h3 := num_pos m
      simp only [List.length_append] at h1
      omega
    have hsz := hbr.size
    by_cases hlt : m < 128
    · have HX := Lib.hid (u8_small hlt)
      go_wp2_with (at_builtin; refine wpList_app8 _ rfl (.tmp 15) (.tmp 18) rfl w.heap.size _ pre rfl (ho.alloc _) _ 1 1 [UInt8.ofNat m] rfl (RB.one wr HX.out _) (by omega) (by simp; omega) ?_; intro v2 w2 ho2 hb2)
      go_ret
      refine ⟨v2, rfl, ?_, hbr.trans (((Below.refl _ _).alloc (by omega) _).trans hb2)⟩
      rw [← HP.out, num_small hlt]
      exact ho2
    · have HX := Lib.hid (u8_rem m)
      have HW := Lib.hid (wrap_u64_in ((m : Int) / 128) (by omega) (by unfold U64 at hm; omega))
      go_wp2_with (at_builtin; refine wpList_app8 _ rfl (.tmp 6) (.tmp 11) rfl w.heap.size _ pre rfl (ho.alloc _) _ 1 1 [UInt8.ofNat (m % 128 + 128)] rfl (RB.one wr HX.out _) (by omega) (by simp; omega) ?_; intro v2 w2 ho2 hb2)
      go_roundw
      case rel => exact ⟨m / 128, pre ++ [UInt8.ofNat (m % 128 + 128)], by unfold U64 at hm ⊢; omega, by rw [HW.out]; go_num, ho2, hbr.trans (((Below.refl _ _).alloc (by omega) _).trans hb2), by rw [← HP.out, num_big (n := m) (by omega), List.append_assoc]; rfl⟩
      case measure => rw [HW.out]; simp [intOf]; omega

set_option maxHeartbeats 400000 in
set_option maxRecDepth 100000 in
theorem refBytes_any (A : Option Addr) (n c : Nat) (l : List UInt8) (w : World) (ha : RB w A n l) (hn : n ≤ 140737488355318) :
    Calls Try.prog 44 #[.slice A n c] w (Got w.heap.size w (num l.length ++ l)) := by
  have hl := Lib.hid ha.len
  go_enter Try.func44, Try.ntmps44
  go_wp2_with fail
  refine (refNum_any n w (u64_of_len (by omega))).mono ?_
  rintro e w1 ⟨v1, rfl, ho1, hb1⟩
  have hnl : (num n).length ≤ 10 := num_le10 (by omega)
  go_wp2_with (at_builtin; refine wpList_app8 _ rfl _ _ rfl w.heap.size v1 (num n) rfl ho1 A n c l rfl (ha.below hb1) (by omega) hb1.size ?_; intro v3 w3 ho3 hb3)
  go_ret
  refine ⟨v3, rfl, ?_, hb1.trans hb3⟩
  rw [← hl.out]
  exact ho3
end Go.Proofs.Ytidppcaohkfnfaa
