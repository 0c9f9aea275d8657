/-
  What is held is what was laid: the plain law.
-/
import Derived.Test.YtdbffjipoiphpaaT17
namespace Go.Proofs.Ytdbffjipoiphpaa
open Go.RowKit

theorem gives_lay_other (x : Wt) (i j : Nat) (v : Bool) (h : j ≠ i) : gives (layW x i v) j = gives x j := by
  unfold gives layW
  simp only [List.getD_eq_getElem?_getD, List.getElem?_set_ne (Ne.symm h)]
theorem gives_lay_same (x : Wt) (i : Nat) (v : Bool) (h : i < x.laid.length) : gives (layW x i v) i = if v then x.adds.getD i 0 else 0 := by
  unfold gives layW
  simp only [List.getD_eq_getElem?_getD, List.getElem?_set_self h]
  rfl
theorem sumTo_lay (x : Wt) (i : Nat) (v : Bool) : ∀ k, sumTo (layW x i v) k = if i < k then sumTo x k - gives x i + gives (layW x i v) i else sumTo x k := by
  intro k
  induction k with
  | zero => simp [sumTo]
  | succ k ih =>
    simp only [sumTo]
    rw [ih]
    by_cases hk : k = i
    · subst hk
      rw [if_neg (by omega), if_pos (by omega)]
      omega
    · rw [gives_lay_other x i k v hk]
      by_cases h2 : i < k
      · rw [if_pos h2, if_pos (by omega)]; omega
      · rw [if_neg h2, if_neg (by omega)]
theorem sumW_lay (x : Wt) (i : Nat) (v : Bool) (h : i < x.adds.length) : sumW (layW x i v) = sumW x - gives x i + gives (layW x i v) i := by
  have := sumTo_lay x i v x.adds.length
  rw [if_pos h] at this
  exact this
theorem sumTo_full (x : Wt) (hl : x.laid.length = 8) (h8 : x.adds.length ≤ 8) (hf : fullW x = true) : ∀ k, k ≤ x.adds.length → sumTo x k = (x.adds.take k).sum := by
  intro k
  induction k with
  | zero => intro _; simp [sumTo]
  | succ k ih =>
    intro hk
    simp only [sumTo]
    rw [ih (by omega), List.take_succ_eq_append_getElem (show k < x.adds.length by omega), List.sum_append]
    have hkl : k < x.laid.length := by omega
    have hlk : x.laid[k] = true := by
      have := List.all_eq_true.1 hf x.laid[k] (List.mem_of_getElem? (i := k) (by rw [List.getElem?_take, if_pos (by omega)]; exact List.getElem?_eq_getElem hkl))
      simpa using this
    have hg : gives x k = x.adds[k] := by
      unfold gives
      simp only [List.getD_eq_getElem?_getD, List.getElem?_eq_getElem hkl, List.getElem?_eq_getElem (show k < x.adds.length by omega)]
      simp [hlk]
    rw [hg]
    simp
theorem sumW_full (x : Wt) (hl : x.laid.length = 8) (h8 : x.adds.length ≤ 8) (hf : fullW x = true) : sumW x = x.adds.sum := by
  unfold sumW
  rw [sumTo_full x hl h8 hf _ (Nat.le_refl _), List.take_of_length_le (Nat.le_refl _)]

/-- What a raise that waits must be like. -/
structure Wt.Ok (x : Wt) : Prop where
  tab : x.tab.length = 8
  laid : x.laid.length = 8
  few : x.adds.length ≤ 8
  range : ∀ a ∈ x.adds, rightB a = true
theorem BAt.wok {w : World} {S : Nat → Prop} {g gs cs : Nat} {wp : Option Addr} {b : Bk} (h : BAt w S g gs cs wp b) : ∀ x, b.wt = some x → x.Ok := by
  intro x hx
  obtain ⟨gw, ga, ca, _, hw, _⟩ := h.some_ x hx
  exact ⟨hw.tab, hw.laid, hw.few, hw.range⟩

theorem heldB_none {b : Bk} (h : b.wt = none) : heldB b = b.stakes.sum := by unfold heldB; rw [h]; simp
theorem heldB_some {b : Bk} {x : Wt} (h : b.wt = some x) : heldB b = b.stakes.sum + sumW x := by unfold heldB; rw [h]
theorem heldB_ge {b : Bk} (hw : ∀ x, b.wt = some x → x.Ok) : b.stakes.sum ≤ heldB b := by
  cases h : b.wt with
  | none => rw [heldB_none h]; omega
  | some x =>
    rw [heldB_some h]
    have := (sumTo_range (hw x h).range x.adds.length).1
    have e : sumW x = sumTo x x.adds.length := rfl
    omega

theorem heldB_le {b : Bk} (hb : b.Ok) (hw : ∀ x, b.wt = some x → x.Ok) : heldB b ≤ 18014398509481984 := by
  have h1 := hb.pot
  cases h : b.wt with
  | none => rw [heldB_none h]; omega
  | some x =>
    rw [heldB_some h]
    have h2 := (sumTo_range (hw x h).range x.adds.length).2
    have h3 := (hw x h).few
    have e : sumW x = sumTo x x.adds.length := rfl
    omega
theorem putE_zero {b : Bk} {h seat amt : Int} (he : putE b h seat amt = 0) : ∃ x, b.wt = some x ∧ 0 ≤ seat ∧ seat < b.stakes.length ∧ x.laid.getD seat.toNat false = false ∧ amt = x.adds.getD seat.toNat 0 ∧ h ≤ x.till := by
  have hz := firstOf_zero he
  obtain ⟨e1, e2, e3, _⟩ := askedE_zero (hz (askedE b h seat) (by simp [putL]))
  obtain ⟨x, hx⟩ := Option.isSome_iff_exists.1 e1
  have h2 := un_zero (by omega) (hz (un (!decide ((b.wt.getD noW).till < h)) 19) (by simp [putL]))
  have h3 := un_zero (by omega) (hz (un (!((b.wt.getD noW).laid.getD seat.toNat false)) 7) (by simp [putL]))
  have h4 := un_zero (by omega) (hz (un (amt == (b.wt.getD noW).adds.getD seat.toNat 0) 22) (by simp [putL]))
  rw [hx, Option.getD_some] at h2 h3 h4
  exact ⟨x, hx, e2, e3, by simpa using h3, by simpa using h4, by simpa using h2⟩
theorem held_put {b : Bk} {h seat amt : Int} (hb : b.Ok) (hw : ∀ x, b.wt = some x → x.Ok) (he : putE b h seat amt = 0) : heldB (putB b seat.toNat) = heldB b + amt := by
  obtain ⟨x, hx, h0, h1, h2, h3, _⟩ := putE_zero he
  have hok := hw x hx
  have hal := (hb.adds x hx).1
  have hj : seat.toNat < x.adds.length := by omega
  have hl8 : seat.toNat < x.laid.length := by have := hok.laid; have := hok.few; omega
  have hg0 : gives x seat.toNat = 0 := by unfold gives; rw [h2]; rfl
  have hg1 := gives_lay_same x seat.toNat true hl8
  rw [if_pos rfl, ← h3] at hg1
  have hs := sumW_lay x seat.toNat true hj
  rw [hg0, hg1] at hs
  rw [heldB_some hx]
  unfold putB
  rw [hx]
  simp only
  split
  · rename_i hf
    rw [heldB_none rfl]
    simp only
    rw [zip_sum hal]
    have := sumW_full (layW x seat.toNat true) (by simpa [layW] using hok.laid) hok.few hf
    rw [hs] at this
    have e : (layW x seat.toNat true).adds = x.adds := rfl
    rw [e] at this
    omega
  · rw [heldB_some rfl]
    simp only
    omega
theorem backE_zero {b : Bk} {h seat : Int} (he : backE b h seat = 0) : ∃ x, b.wt = some x ∧ 0 ≤ seat ∧ seat < b.stakes.length ∧ 0 < gives x seat.toNat := by
  have hz := firstOf_zero he
  obtain ⟨e1, e2, e3, _⟩ := askedE_zero (hz (askedE b h seat) (by simp [backL]))
  obtain ⟨x, hx⟩ := Option.isSome_iff_exists.1 e1
  have h3 := un_zero (by omega) (hz (un (decide (0 < gives (b.wt.getD noW) seat.toNat)) 21) (by simp [backL]))
  rw [hx, Option.getD_some] at h3
  exact ⟨x, hx, e2, e3, by simpa using h3⟩
theorem held_back {b : Bk} {h seat : Int} (hb : b.Ok) (hw : ∀ x, b.wt = some x → x.Ok) (he : backE b h seat = 0) : heldB (backB b seat.toNat) = heldB b - gives (b.wt.getD noW) seat.toNat ∧ 0 < gives (b.wt.getD noW) seat.toNat := by
  obtain ⟨x, hx, h0, h1, h2⟩ := backE_zero he
  have hok := hw x hx
  have hal := (hb.adds x hx).1
  have hj : seat.toNat < x.adds.length := by omega
  have hl8 : seat.toNat < x.laid.length := by have := hok.laid; have := hok.few; omega
  have hg1 := gives_lay_same x seat.toNat false hl8
  rw [if_neg (by decide)] at hg1
  have hs := sumW_lay x seat.toNat false hj
  rw [hg1] at hs
  rw [heldB_some hx]
  unfold backB
  rw [hx, Option.getD_some]
  simp only
  refine ⟨?_, h2⟩
  split
  · rename_i hf
    rw [heldB_none rfl]
    simp only
    omega
  · rw [heldB_some rfl]
    simp only
    omega
theorem sumTo_asked (tab : List Int) (num : Int) (adds : List Int) (till : Int) : ∀ k, sumTo (askW tab num adds till) k = 0 := by
  intro k
  induction k with
  | zero => rfl
  | succ k ih =>
    simp only [sumTo]
    rw [ih]
    have : gives (askW tab num adds till) k = 0 := by
      unfold gives askW laidTo
      simp only [List.take_of_length_le (Nat.le_refl _), List.getD_eq_getElem?_getD]
      by_cases hk : k < adds.length
      · rw [List.getElem?_append_left (by simpa using hk)]
        simp [hk]
      · rw [List.getElem?_append_right (by simpa using hk)]
        rw [List.getElem?_replicate]
        split <;> simp
    omega
theorem held_ask {b : Bk} {h num till : Int} {adds : List Int} (tab : List Int) (he : askE b h num adds till = 0) : heldB (askB b tab num adds till) = heldB b := by
  have hfree := (askE_zero he).free
  have e1 : heldB (askB b tab num adds till) = b.stakes.sum := by
    rw [heldB_some (x := askW tab num adds till) rfl]
    have : sumW (askW tab num adds till) = 0 := sumTo_asked tab num adds till _
    rw [this]
    simp [askB]
  rw [e1]
  cases hx : b.wt with
  | none => rw [heldB_none hx]
  | some x =>
    rw [heldB_some hx]
    unfold freeB at hfree
    rw [hx] at hfree
    simp at hfree
    omega
end Go.Proofs.Ytdbffjipoiphpaa
