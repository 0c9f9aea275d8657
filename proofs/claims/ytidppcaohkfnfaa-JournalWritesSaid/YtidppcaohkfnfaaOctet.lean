
/-
  What the package octet puts: fresh, number, PutNum, PutInt, PutBytes, PutText.
-/
import Derived.Test.YtidppcaohkfnfaaBytes
import Derived.Test.YtidppcaohkfnfaaArith
import Derived.Deep.DeepMust
import Derived.Laws.BitsAllLaws
namespace Go.Proofs.Ytidppcaohkfnfaa
open Go.RowKit

/-- A number that fits 64 bits. -/
def U64 (m : Nat) : Prop := m < 18446744073709551616

/-- A call that gives bytes l in a row of its own from 'base' on, and turns nothing below. -/
def Got (base : Nat) (w : World) (l : List UInt8) (e : Ending) (w' : World) : Prop := ∃ v, e = .returned v ∧ OB w' base v l ∧ Below base w w'

set_option maxHeartbeats 400000 in
theorem fresh_any (A : Option Addr) (n c : Nat) (m : Int) (l : List UInt8) (w : World) (ha : RB w A n l) (h0 : 0 ≤ m) (hm : (n : Int) + m ≤ 140737488355328) :
    Calls Try.prog 62 #[.slice A n c, .int .i64 m] w (Got w.heap.size w l) := by
  have hl := Lib.hid ha.len
  go_enter Try.func62, Try.ntmps62
  go_wp2_with (first
    | (at_make; refine wpList_make8 _ rfl _ _ rfl w.heap.size _ ((n : Int) + m).toNat rfl rfl (by omega) (by omega) (Nat.le_refl _) ?_; intro v1 w1 ho1 hb1)
    | (at_builtin; refine wpList_app8 _ rfl _ _ rfl w.heap.size v1 [] rfl ho1 A n c l rfl (ha.below hb1) (by simp; omega) hb1.size ?_; intro v2 w2 ho2 hb2))
  go_ret
  exact ⟨v2, rfl, ho2, hb1.trans hb2⟩

theorem u8_small {m : Nat} (h : m < 128) : (m : Int) = ((UInt8.ofNat m).toNat : Int) := by
  rw [UInt8.toNat_ofNat']; omega
theorem or128 : ∀ x : Fin 256, x.val ||| 128 = x.val % 128 + 128 := by decide +kernel
theorem u8_more (m : Nat) : bits .or .u8 ((m : Int) % 256) 128 = ((UInt8.ofNat (m % 128 + 128)).toNat : Int) := by
  have h1 : (m : Int) % 256 = ((m % 256 : Nat) : Int) := by omega
  have h2 := u8_or_nat (m % 256) 128 (by omega) (by omega)
  have h3 := or128 ⟨m % 256, by omega⟩
  rw [h1]
  refine h2.trans ?_
  simp only at h3
  rw [h3, UInt8.toNat_ofNat']
  omega
set_option maxHeartbeats 400000 in
set_option maxRecDepth 100000 in
theorem number_any (base : Nat) (v : Value) (n : Nat) (l : List UInt8) (w : World) (HN : U64 n) (ho : OB w base v l) (hb : base ≤ w.heap.size) (hl : l.length ≤ 140737488355318) :
    Calls Try.prog 61 #[v, .int .u64 n] w (Got base w (l ++ num n)) := by
  go_enter Try.func61, Try.ntmps61
  go_wp2
  go_loopw [0, 1] (fun vv i wr => ∃ (m : Nat) (pre : List UInt8), U64 m ∧ i = .int .u64 m ∧ OB wr base vv (l ++ pre) ∧ Below base w wr ∧ pre ++ num m = num n) (fun _ i _ => (intOf i).toNat)
  case atStart => exact ⟨n, [], HN, rfl, by simpa using ho, Below.refl _ _, rfl⟩
  case round =>
    obtain ⟨m, pre, hm, rfl, ho, hbr, hp⟩ := hrel
    have HP := Lib.hid hp
    clear hp
    have hpre : pre.length ≤ 9 := by
      have h1 := congrArg List.length HP.out
      have h2 := num_le10 HN
      have h3 := num_pos m
      simp only [List.length_append] at h1
      omega
    have hsz := hbr.size
    by_cases hlt : m < 128
    · have HX := Lib.hid (u8_small hlt)
      go_wp2_with (at_builtin; refine wpList_app8 _ rfl (.tmp 15) (.tmp 18) rfl base _ (l ++ pre) rfl (ho.alloc _) _ 1 1 [UInt8.ofNat m] rfl (RB.one wr HX.out _) (by simp; omega) (by simp; omega) ?_; intro v2 w2 ho2 hb2)
      go_ret
      refine ⟨v2, rfl, ?_, hbr.trans (((Below.refl _ _).alloc (by omega) _).trans hb2)⟩
      rw [← HP.out, num_small hlt, ← List.append_assoc]
      exact ho2
    · have HX := Lib.hid (u8_more m)
      go_wp2_with (at_builtin; refine wpList_app8 _ rfl (.tmp 7) (.tmp 11) rfl base _ (l ++ pre) rfl (ho.alloc _) _ 1 1 [UInt8.ofNat (m % 128 + 128)] rfl (RB.one wr HX.out _) (by simp; omega) (by simp; omega) ?_; intro v2 w2 ho2 hb2)
      go_roundw
      case rel => exact ⟨m / 128, pre ++ [UInt8.ofNat (m % 128 + 128)], by unfold U64 at hm ⊢; omega, by go_num, by rw [← List.append_assoc]; exact ho2, hbr.trans (((Below.refl _ _).alloc (by omega) _).trans hb2), by rw [← HP.out, num_big (n := m) (by omega), List.append_assoc]; rfl⟩
      case measure => simp [intOf]; omega

set_option maxHeartbeats 400000 in
theorem putNum_any (A : Option Addr) (n c : Nat) (m : Nat) (l : List UInt8) (w : World) (ha : RB w A n l) (hm : U64 m) (hn : n ≤ 140737488355318) :
    Calls Try.prog 46 #[.slice A n c, .int .u64 m] w (Got w.heap.size w (l ++ num m)) := by
  have hl := Lib.hid ha.len
  go_enter Try.func46, Try.ntmps46
  go_wp2_with fail
  refine (fresh_any A n c 10 l w ha (by omega) (by omega)).mono ?_
  rintro e w1 ⟨v1, rfl, ho1, hb1⟩
  go_wp2_with fail
  refine (number_any w.heap.size v1 m l w1 hm ho1 hb1.size (by have := hl.out; omega)).mono ?_
  rintro e w2 ⟨v2, rfl, ho2, hb2⟩
  go_wp2_with fail
  go_ret
  exact ⟨v2, rfl, ho2, hb1.trans hb2⟩

theorem u64_of_len {n : Nat} (h : n ≤ 140737488355328) : U64 n := by unfold U64; omega

set_option maxHeartbeats 400000 in
set_option maxRecDepth 100000 in
theorem putBytes_any (A A' : Option Addr) (n c n' c' : Nat) (l l' : List UInt8) (w : World) (ha : RB w A n l) (ha' : RB w A' n' l') (hn : n + n' ≤ 140737488355318) :
    Calls Try.prog 48 #[.slice A n c, .slice A' n' c'] w (Got w.heap.size w (l ++ num l'.length ++ l')) := by
  have hl := Lib.hid ha.len
  have hl' := Lib.hid ha'.len
  go_enter Try.func48, Try.ntmps48
  go_wp2_with fail
  refine (fresh_any A n c _ l w ha (by omega) (by omega)).mono ?_
  rintro e w1 ⟨v1, rfl, ho1, hb1⟩
  go_wp2_with fail
  refine (number_any w.heap.size v1 n' l w1 (u64_of_len (by omega)) ho1 hb1.size (by have := hl.out; omega)).mono ?_
  rintro e w2 ⟨v2, rfl, ho2, hb2⟩
  have hb12 := hb1.trans hb2
  have hnl : (l ++ num n').length ≤ n + 10 := by
    have h1 := num_le10 (n := n') (by omega)
    have := hl.out
    simp only [List.length_append]
    omega
  go_wp2_with (at_builtin; refine wpList_app8 _ rfl _ _ rfl w.heap.size v2 (l ++ num n') rfl ho2 A' n' c' l' rfl (ha'.below hb12) (by omega) hb12.size ?_; intro v3 w3 ho3 hb3)
  go_ret
  refine ⟨v3, rfl, ?_, hb12.trans hb3⟩
  rw [← hl'.out]
  exact ho3

set_option maxHeartbeats 400000 in
set_option maxRecDepth 100000 in
theorem putText_any (A : Option Addr) (n c : Nat) (t : ByteArray) (l : List UInt8) (w : World) (ha : RB w A n l) (hn : n + t.size ≤ 140737488355318) :
    Calls Try.prog 47 #[.slice A n c, .string t] w (Got w.heap.size w (l ++ num t.size ++ t.data.toList)) := by
  have hl := Lib.hid ha.len
  go_enter Try.func47, Try.ntmps47
  go_wp2_with fail
  refine (fresh_any A n c _ l w ha (by omega) (by omega)).mono ?_
  rintro e w1 ⟨v1, rfl, ho1, hb1⟩
  go_wp2_with fail
  refine (number_any w.heap.size v1 t.size l w1 (u64_of_len (by omega)) ho1 hb1.size (by have := hl.out; omega)).mono ?_
  rintro e w2 ⟨v2, rfl, ho2, hb2⟩
  have hb12 := hb1.trans hb2
  have hnl : (l ++ num t.size).length ≤ n + 10 := by
    have h1 := num_le10 (n := t.size) (by omega)
    have := hl.out
    simp only [List.length_append]
    omega
  go_wp2_with (at_builtin; refine wpList_app8s _ rfl _ _ rfl w.heap.size v2 (l ++ num t.size) rfl ho2 t rfl (by omega) hb12.size ?_; intro v3 w3 ho3 hb3)
  go_ret
  exact ⟨v3, rfl, ho3, hb12.trans hb3⟩
end Go.Proofs.Ytidppcaohkfnfaa
