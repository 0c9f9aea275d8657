
/-
  The number that bytes begin with, in plain Lean.
-/
import Derived.Test.YtidppcaohkfnfaaArith
namespace Go.Proofs.Ytidppcaohkfnfaa

/-- The number of bytes, seven bits each, the lowest first. -/
def valU : List UInt8 → Nat
  | [] => 0
  | c :: r => c.toNat % 128 + 128 * valU r
theorem valU_snoc (l : List UInt8) (c : UInt8) : valU (l ++ [c]) = valU l + (c.toNat % 128) * 128 ^ l.length := by
  induction l with
  | nil => simp [valU]
  | cons d l ih =>
    simp only [List.cons_append, valU, ih, List.length_cons, Nat.pow_succ]
    rw [Nat.mul_add, Nat.add_assoc]
    congr 2
    rw [← Nat.mul_assoc, Nat.mul_comm 128, Nat.mul_assoc, Nat.mul_comm 128]
theorem valU_lt (l : List UInt8) : valU l < 128 ^ l.length := by
  induction l with
  | nil => simp [valU]
  | cons d l ih =>
    simp only [valU, List.length_cons, Nat.pow_succ]
    have : d.toNat % 128 < 128 := Nat.mod_lt _ (by omega)
    omega
theorem valU_take (l : List UInt8) (k : Nat) (h : k < l.length) : valU (l.take (k + 1)) = valU (l.take k) + ((l[k]'h).toNat % 128) * 128 ^ k := by
  rw [List.take_succ_eq_append_getElem h, valU_snoc, List.length_take, Nat.min_eq_left (by omega)]

/-- Where the first byte below 128 stands, among the first f. -/
def stopF : Nat → List UInt8 → Option Nat
  | 0, _ => none
  | _ + 1, [] => none
  | f + 1, c :: r => if c.toNat < 128 then some 0 else (stopF f r).map (· + 1)
def stop (l : List UInt8) : Option Nat := stopF 10 l

theorem stopF_some : ∀ (f : Nat) (l : List UInt8) (k : Nat) (h : k < l.length), k < f → (l[k]'h).toNat < 128 → (∀ j (hj : j < k), 128 ≤ (l[j]'(by omega)).toNat) → stopF f l = some k := by
  intro f
  induction f with
  | zero => intro l k h hk; omega
  | succ f ih =>
    intro l k h hk hc hall
    cases l with
    | nil => simp at h
    | cons c r =>
      cases k with
      | zero =>
        simp only [List.getElem_cons_zero] at hc
        simp [stopF, hc]
      | succ k =>
        have h0 := hall 0 (by omega)
        simp only [List.getElem_cons_zero] at h0
        simp only [List.getElem_cons_succ] at hc
        rw [stopF, if_neg (by omega), ih r k (by simpa using h) (by omega) hc (fun j hj => by have := hall (j + 1) (by omega); simpa using this)]
        rfl
theorem stopF_none : ∀ (f : Nat) (l : List UInt8), (∀ j (hj : j < l.length), j < f → 128 ≤ (l[j]'hj).toNat) → stopF f l = none := by
  intro f
  induction f with
  | zero => intro l _; rfl
  | succ f ih =>
    intro l hall
    cases l with
    | nil => rfl
    | cons c r =>
      have h0 := hall 0 (by simp) (by omega)
      simp only [List.getElem_cons_zero] at h0
      rw [stopF, if_neg (by omega), ih r (fun j hj hf => by have := hall (j + 1) (by simpa using hj) (by omega); simpa using this)]
      rfl
theorem stopF_get : ∀ (f : Nat) (l : List UInt8) (k : Nat), stopF f l = some k → ∃ h : k < l.length, k < f ∧ (l[k]'h).toNat < 128 ∧ ∀ j (hj : j < k), 128 ≤ (l[j]'(by omega)).toNat := by
  intro f
  induction f with
  | zero => intro l k h; simp [stopF] at h
  | succ f ih =>
    intro l k h
    cases l with
    | nil => simp [stopF] at h
    | cons c r =>
      rw [stopF] at h
      by_cases hc : c.toNat < 128
      · rw [if_pos hc] at h
        obtain rfl := Option.some.inj h
        exact ⟨by simp, by omega, by simpa using hc, fun j hj => by omega⟩
      · rw [if_neg hc] at h
        obtain ⟨i, hi, rfl⟩ := Option.map_eq_some_iff.1 h
        obtain ⟨h1, h2, h3, h4⟩ := ih r i hi
        refine ⟨by simpa using h1, by omega, by simpa using h3, fun j hj => ?_⟩
        cases j with
        | zero => simp; omega
        | succ j => simpa using h4 j (by omega)

/-- The number that bytes begin with, how many bytes it has, the error. -/
def lookL (l : List UInt8) : Nat × Nat × Nat :=
  match stop l with
  | none => (0, 0, if l.length < 10 then 4 else 3)
  | some k => if (0 < k ∧ (l.getD k 0).toNat = 0) ∨ (k = 9 ∧ 1 < (l.getD k 0).toNat) then (0, 0, 3) else (valU (l.take (k + 1)), k + 1, 0)

theorem and127 : ∀ x : Fin 256, x.val &&& 127 = x.val % 128 := by decide +kernel
theorem pow7 (k : Nat) : 2 ^ (7 * k) = 128 ^ k := by rw [Nat.pow_mul]

/-- One step of the walk. -/
theorem or_step (V k : Nat) (c : UInt8) (hk : k ≤ 9) (hV : V < 128 ^ k) :
    bits .or .u64 (V : Int) (IntKind.u64.wrap (IntKind.u64.wrap (bits .and .u8 (c.toNat : Int) 127) * 2 ^ (7 * k))) = (((V + (c.toNat % 128) * 128 ^ k) % 18446744073709551616 : Nat) : Int) := by
  have hc : c.toNat < 256 := c.toNat_lt
  have h1 := u8_and_nat c.toNat 127 hc (by omega)
  have h2 := and127 ⟨c.toNat, hc⟩
  simp only at h2
  have e1 : bits .and .u8 (c.toNat : Int) 127 = ((c.toNat % 128 : Nat) : Int) := by
    refine h1.trans ?_
    rw [h2]
  have hm : c.toNat % 128 < 128 := Nat.mod_lt _ (by omega)
  rw [e1, wrap_u64_in ((c.toNat % 128 : Nat) : Int) (by omega) (by omega)]
  have e2 : (((c.toNat % 128 : Nat) : Int) * 2 ^ (7 * k)) = (((c.toNat % 128) * 128 ^ k : Nat) : Int) := by
    rw [← pow7 k]
    simp
  rw [e2, IntKind.wrap_u64]
  have e3 : ((((c.toNat % 128) * 128 ^ k : Nat) : Int) % 18446744073709551616) = (((c.toNat % 128) * 128 ^ k % 18446744073709551616 : Nat) : Int) := by omega
  rw [e3]
  have hP : (128 : Nat) ^ k ∣ 18446744073709551616 := ⟨2 ^ (64 - 7 * k), by rw [← pow7, ← Nat.pow_add]; rw [show 7 * k + (64 - 7 * k) = 64 from by omega]⟩
  have hle : (128 : Nat) ^ k ≤ 18446744073709551616 := Nat.le_of_dvd (by omega) hP
  have hd : 128 ^ k ∣ (c.toNat % 128) * 128 ^ k % 18446744073709551616 := by
    rw [Nat.dvd_mod_iff hP]
    exact Nat.dvd_mul_left _ _
  have hlt : (c.toNat % 128) * 128 ^ k % 18446744073709551616 < 18446744073709551616 := Nat.mod_lt _ (by omega)
  rw [u64_or_nat V _ (by omega) hlt]
  congr 1
  rw [Nat.or_comm, nat_join (7 * k) _ V (by rw [pow7]; exact Nat.mod_eq_zero_of_dvd hd) (by rw [pow7]; exact hV)]
  rw [Nat.add_comm V, Nat.add_mod]
  obtain ⟨q, hq⟩ := hd
  obtain ⟨r, hr⟩ := hP
  rw [Nat.mod_eq_of_lt (a := V) (by omega)]
  refine (Nat.mod_eq_of_lt ?_).symm
  rw [hq]
  rw [hq, hr] at hlt
  have hqr : q < r := Nat.lt_of_mul_lt_mul_left hlt
  calc 128 ^ k * q + V < 128 ^ k * q + 128 ^ k := by omega
    _ = 128 ^ k * (q + 1) := by rw [Nat.mul_add, Nat.mul_one]
    _ ≤ 128 ^ k * r := Nat.mul_le_mul_left _ hqr
    _ = 18446744073709551616 := hr.symm
end Go.Proofs.Ytidppcaohkfnfaa
