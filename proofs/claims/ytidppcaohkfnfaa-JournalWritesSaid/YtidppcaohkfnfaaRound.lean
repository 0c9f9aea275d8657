
/-
  Numbers' bytes: what is put is read, what is read is put. Plain Lean; no program is named here.
-/
import Derived.Test.YtidppcaohkfnfaaLookL
namespace Go.Proofs.Ytidppcaohkfnfaa

/-- Bytes that are a number's: all but the last have their highest bit set; the last one isn't 0 unless it is alone. -/
structure Whole (ini : List UInt8) (last : UInt8) : Prop where
  high : ∀ c ∈ ini, 128 ≤ c.toNat
  low : last.toNat < 128
  one : ini ≠ [] → last.toNat ≠ 0

theorem num_whole : ∀ k : Nat, ∃ ini last, num k = ini ++ [last] ∧ Whole ini last := by
  intro k
  induction k using Nat.strongRecOn with
  | ind k ih =>
    by_cases h : k < 128
    · refine ⟨[], UInt8.ofNat k, num_small h, ⟨fun c hc => by simp at hc, ?_, fun h => absurd rfl h⟩⟩
      rw [UInt8.toNat_ofNat']; omega
    · obtain ⟨ini, last, e, hw⟩ := ih (k / 128) (by omega)
      refine ⟨UInt8.ofNat (k % 128 + 128) :: ini, last, by rw [num_big (by omega), e]; rfl, ⟨?_, hw.low, fun _ => ?_⟩⟩
      · intro c hc
        rcases List.mem_cons.1 hc with rfl | hc
        · rw [UInt8.toNat_ofNat']; omega
        · exact hw.high c hc
      · by_cases hi : ini = []
        · subst hi
          intro h0
          have hk : k / 128 < 128 := by
            rcases Nat.lt_or_ge (k / 128) 128 with h1 | h1
            · exact h1
            · rw [num_big h1] at e
              have := congrArg List.length e
              have h2 := num_pos (k / 128 / 128)
              simp only [List.length_cons, List.nil_append, List.length_nil] at this
              omega
          rw [num_small hk] at e
          have e' : UInt8.ofNat (k / 128) = last := by simpa using e
          rw [← e', UInt8.toNat_ofNat'] at h0
          omega
        · exact hw.one hi

theorem valU_num : ∀ k : Nat, valU (num k) = k := by
  intro k
  induction k using Nat.strongRecOn with
  | ind k ih =>
    by_cases h : k < 128
    · rw [num_small h]
      simp only [valU, UInt8.toNat_ofNat']
      omega
    · rw [num_big (by omega)]
      simp only [valU, ih (k / 128) (by omega), UInt8.toNat_ofNat']
      omega

theorem whole_val_pos : ∀ (ini : List UInt8) (last : UInt8), last.toNat ≠ 0 → last.toNat < 128 → 1 ≤ valU (ini ++ [last]) := by
  intro ini
  induction ini with
  | nil => intro last h0 h1; simp only [List.nil_append, valU]; omega
  | cons c ini ih =>
    intro last h0 h1
    have := ih last h0 h1
    simp only [List.cons_append, valU]
    omega

theorem num_of_whole : ∀ (ini : List UInt8) (last : UInt8), Whole ini last → num (valU (ini ++ [last])) = ini ++ [last] := by
  intro ini
  induction ini with
  | nil =>
    intro last hw
    have e : valU ([] ++ [last]) = last.toNat := by simp only [List.nil_append, valU]; have := hw.low; omega
    rw [e, num_small hw.low]
    simp
  | cons c ini ih =>
    intro last hw
    have h0 := hw.one (by simp)
    have hp := whole_val_pos ini last h0 hw.low
    have hc := hw.high c (by simp)
    have hc' : c.toNat < 256 := c.toNat_lt
    have hi : Whole ini last := ⟨fun d hd => hw.high d (List.mem_cons_of_mem _ hd), hw.low, fun _ => h0⟩
    have e : valU (c :: ini ++ [last]) = c.toNat % 128 + 128 * valU (ini ++ [last]) := rfl
    rw [e, num_big (by omega), show (c.toNat % 128 + 128 * valU (ini ++ [last])) % 128 + 128 = c.toNat from by omega, show (c.toNat % 128 + 128 * valU (ini ++ [last])) / 128 = valU (ini ++ [last]) from by omega, ih last hi]
    simp

theorem lookL_whole (ini : List UInt8) (last : UInt8) (r : List UInt8) (hw : Whole ini last) (h10 : ini.length ≤ 9) (h9 : ini.length = 9 → last.toNat ≤ 1) :
    lookL (ini ++ [last] ++ r) = (valU (ini ++ [last]), ini.length + 1, 0) := by
  have hk : ini.length < (ini ++ [last] ++ r).length := by simp
  have hget : (ini ++ [last] ++ r)[ini.length]'hk = last := by simp
  unfold lookL stop
  rw [stopF_some 10 _ ini.length hk (by omega) (by rw [hget]; exact hw.low) (fun j hj => by
    have e : (ini ++ [last] ++ r)[j]'(by omega) = ini[j] := by
      rw [List.getElem_append_left (by simp; omega), List.getElem_append_left hj]
    rw [e]
    exact hw.high _ (List.getElem_mem hj))]
  simp only
  have hd : (ini ++ [last] ++ r).getD ini.length 0 = last := by rw [List.getD_eq_getElem?_getD, List.getElem?_eq_getElem hk, hget]; rfl
  rw [hd, if_neg]
  · have e : (ini ++ [last] ++ r).take (ini.length + 1) = ini ++ [last] := by
      rw [List.take_append_of_le_length (by simp)]
      exact List.take_of_length_le (by simp)
    rw [e]
  · rintro (⟨h1, h2⟩ | ⟨h1, h2⟩)
    · exact hw.one (by intro e; rw [e] at h1; simp at h1) h2
    · have := h9 h1; omega

/-- What is put is read. -/
theorem lookL_num {k : Nat} (hk : k < 18446744073709551616) (r : List UInt8) : lookL (num k ++ r) = (k, (num k).length, 0) := by
  obtain ⟨ini, last, e, hw⟩ := num_whole k
  have hl := num_le10 hk
  have hv := valU_num k
  rw [e] at hl hv ⊢
  simp only [List.length_append, List.length_cons, List.length_nil] at hl
  rw [lookL_whole ini last r hw (by omega) (fun h9 => by
    rw [valU_snoc, h9] at hv
    have h1 : last.toNat % 128 = last.toNat := Nat.mod_eq_of_lt hw.low
    rw [h1] at hv
    rcases Nat.lt_or_ge last.toNat 2 with h2 | h2
    · omega
    · have : 2 * 128 ^ 9 ≤ last.toNat * 128 ^ 9 := Nat.mul_le_mul_right _ h2
      omega), hv]
  simp

/-- What is read as a number, put again, are the bytes that were read. -/
theorem num_of_lookL {l : List UInt8} {n s : Nat} (h : lookL l = (n, s, 0)) : num n = l.take s ∧ 1 ≤ s ∧ s ≤ 10 ∧ s ≤ l.length := by
  unfold lookL at h
  split at h
  · simp only [Prod.mk.injEq] at h
    obtain ⟨_, _, h⟩ := h
    split at h <;> omega
  · rename_i k hk
    obtain ⟨h1, h2, h3, h4⟩ := stopF_get 10 l k hk
    have hd : l.getD k 0 = l[k] := by simp [List.getD, h1]
    rw [hd] at h
    split at h
    · simp only [Prod.mk.injEq] at h
      omega
    · rename_i hn
      simp only [Prod.mk.injEq] at h
      obtain ⟨rfl, rfl, _⟩ := h
      have e : l.take (k + 1) = l.take k ++ [l[k]] := List.take_succ_eq_append_getElem h1
      refine ⟨?_, by omega, by omega, by omega⟩
      rw [e]
      refine num_of_whole _ _ ⟨fun c hc => ?_, h3, fun hi h0 => hn (.inl ⟨?_, h0⟩)⟩
      · obtain ⟨j, hj, rfl⟩ := List.getElem_of_mem hc
        rw [List.length_take] at hj
        rw [List.getElem_take]
        exact h4 j (by omega)
      · rcases Nat.eq_zero_or_pos k with h5 | h5
        · subst h5; simp at hi
        · exact h5

/-- A number and the next one, the first even: they differ in the first byte alone. -/
theorem num_pair (n : Nat) : ∃ c d t, num (2 * n) = c :: t ∧ num (2 * n + 1) = d :: t ∧ d.toNat = c.toNat + 1 ∧ (n < 64 → t = []) := by
  by_cases h : n < 64
  · refine ⟨UInt8.ofNat (2 * n), UInt8.ofNat (2 * n + 1), [], num_small (by omega), num_small (by omega), ?_, fun _ => rfl⟩
    rw [UInt8.toNat_ofNat', UInt8.toNat_ofNat']; omega
  · refine ⟨UInt8.ofNat (2 * n % 128 + 128), UInt8.ofNat ((2 * n + 1) % 128 + 128), num (2 * n / 128), num_big (by omega), ?_, ?_, fun h' => absurd h' h⟩
    · rw [num_big (by omega), show (2 * n + 1) / 128 = 2 * n / 128 from by omega]
    · rw [UInt8.toNat_ofNat', UInt8.toNat_ofNat']; omega
end Go.Proofs.Ytidppcaohkfnfaa
