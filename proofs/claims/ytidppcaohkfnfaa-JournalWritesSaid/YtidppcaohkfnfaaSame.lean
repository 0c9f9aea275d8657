
/-
  The reference's Same: two slices of bytes hold the same bytes.
-/
import Derived.Test.YtidppcaohkfnfaaProg
import Derived.Test.YtidppcaohkfnfaaBase
namespace Go.Proofs.Ytidppcaohkfnfaa
open Go.RowKit

theorem take_succ_get {α : Type} (l : List α) (k : Nat) (h : k < l.length) : l.take (k + 1) = l.take k ++ [l[k]'h] := List.take_succ_eq_append_getElem h

theorem ne_of_at {l m : List UInt8} {k : Nat} (h1 : k < l.length) (h2 : k < m.length) (h : (((l[k]'h1).toNat : Int) != ((m[k]'h2).toNat : Int)) = true) : l ≠ m := by
  rintro rfl
  simp at h

theorem eq_of_at {l m : List UInt8} {k : Nat} (h1 : k < l.length) (h2 : k < m.length) (h : (((l[k]'h1).toNat : Int) != ((m[k]'h2).toNat : Int)) = false) (ht : l.take k = m.take k) : l.take (k + 1) = m.take (k + 1) := by
  rw [take_succ_get l k h1, take_succ_get m k h2, ht]
  have : (l[k]'h1) = (m[k]'h2) := by
    have h' : ((l[k]'h1).toNat : Int) = ((m[k]'h2).toNat : Int) := by simpa using h
    exact UInt8.toNat_inj.1 (by omega)
  rw [this]

set_option maxHeartbeats 400000 in
theorem same_any (A A' : Option Addr) (n c n' c' : Nat) (l m : List UInt8) (w : World) (ha : RB w A n l) (hb : RB w A' n' m) (hn : n ≤ 140737488355328) (hn' : n' ≤ 140737488355328) :
    Calls Try.prog 16 #[.slice A n c, .slice A' n' c'] w fun e w' => e = .returned (.bool (decide (l = m))) ∧ ∃ q, w' = w.drewN q := by
  have hl := ha.len
  have hm := hb.len
  by_cases hnn : n = n'
  · subst hnn
    have HL := Lib.hid hl
    have HM := Lib.hid hm
    clear hl hm
    go_enter Try.func16, Try.ntmps16
    go_wp2
    go_loopw [5] (fun i wr => ∃ k q : Nat, k ≤ n ∧ i = .int .i64 k ∧ wr = w.drewN q ∧ l.take k = m.take k) (fun i _ => n - (intOf i).toNat)
    case atStart => exact ⟨0, 0, Nat.zero_le _, rfl, rfl, rfl⟩
    case round =>
      obtain ⟨k, q, hk, rfl, rfl, ht⟩ := hrel
      have HT := Lib.hid ht
      clear ht
      by_cases hlt : k < n
      · obtain ⟨b, o, rfl, hbl, hkl, hc⟩ := ha.at_ hlt
        obtain ⟨b', o', rfl, hbl', hkm, hc'⟩ := hb.at_ hlt
        have g1 : (0 : Int) ≤ (k : Int) := by omega
        have g2 : (k : Int) < (n : Int) := by omega
        go_wp2
        go_quiet (fail)
        go_wp2
        · go_ret
          have e := ne_of_at hkl hkm ‹_›
          exact ⟨by simp [e], q + nq, by first | rfl | rw [World.drewN_drewN]⟩
        · have e := Lib.hid (eq_of_at hkl hkm ‹_› HT.out)
          go_roundw
          case rel => exact ⟨k + 1, _, by omega, by go_num, rfl, e.out⟩
          case measure => simp [intOf]; omega
      · go_wp2
        go_ret
        have : k = n := by omega
        subst this
        refine ⟨?_, q, rfl⟩
        have e : l = m := by
          have h1 := HT.out
          rwa [List.take_of_length_le (by have := HL.out; omega), List.take_of_length_le (by have := HM.out; omega)] at h1
        simp [e]
  · have e : l ≠ m := fun e => hnn (by rw [hl, hm, e])
    have e' : decide (l = m) = false := by simp [e]
    have E := Lib.hid e'
    have g : ((n : Int) != (n' : Int)) = true := by simp; omega
    clear hl hm e e'
    go_enter Try.func16, Try.ntmps16
    go_wp2
    go_ret
    exact ⟨by rw [E.out]; rfl, 0, rfl⟩

theorem same_true (A A' : Option Addr) (n c n' c' : Nat) (l m : List UInt8) (w : World) (ha : RB w A n l) (hb : RB w A' n' m) (hn : n ≤ 140737488355328) (h : l = m) :
    Calls Try.prog 16 #[.slice A n c, .slice A' n' c'] w (Tells w true) :=
  (same_any A A' n c n' c' l m w ha hb hn (by have h1 := ha.len; have h2 := hb.len; rw [h] at h1; omega)).mono fun _ _ ⟨he, q, hq⟩ => ⟨by rw [he]; simp [h], by rw [hq]; exact below_drewN (Below.refl _ _) q⟩
end Go.Proofs.Ytidppcaohkfnfaa
