/-
  The document's number.
-/
import Derived.Test.YtlfckmekfncboaaDoorL16
import Derived.IntWalk
namespace Go.Proofs.YtlfckmekfncboaaDoor
open Go.RowKit

/-- The number of digits, as long as it is no greater than 2147483647. -/
def capF (a : Nat) : List UInt8 → Nat
  | [] => a
  | c :: l => capF (if a ≤ 2147483647 then 10 * a + (c.toNat - 48) else a) l
theorem capF_snoc (c : UInt8) : ∀ (l : List UInt8) (a : Nat), capF a (l ++ [c]) = if capF a l ≤ 2147483647 then 10 * capF a l + (c.toNat - 48) else capF a l
  | [], a => rfl
  | d :: l, a => by
    rw [List.cons_append]
    simp only [capF]
    exact capF_snoc c l _
theorem capF_big : ∀ (l : List UInt8) (a : Nat), 2147483647 < a → capF a l = a
  | [], _, _ => rfl
  | c :: l, a, h => by
    simp only [capF]
    rw [if_neg (by omega)]
    exact capF_big l a h
theorem capF_le : ∀ (l : List UInt8) (a : Nat), a ≤ 30000000000 → capF a l ≤ 30000000000
  | [], _, h => h
  | c :: l, a, h => by
    simp only [capF]
    have := c.toNat_lt
    split
    · exact capF_le l _ (by omega)
    · exact capF_le l a h
theorem numF_cap : ∀ (l : List UInt8) (a : Nat), a ≤ 2147483647 → (∀ c ∈ l, digB c = true) → numF a l = if 2147483647 < capF a l then (0, 2) else ((capF a l : Int), 0)
  | [], a, h, _ => by
    have e : capF a [] = a := rfl
    rw [e, if_neg (by omega)]
    rfl
  | c :: l, a, h, hd => by
    have hc := digB_t.1 (hd c (List.mem_cons_self ..))
    have e : (10 * (a : Int) + ((c.toNat : Int) - 48)) = ((10 * a + (c.toNat - 48) : Nat) : Int) := by omega
    unfold numF
    have e2 : capF a (c :: l) = capF (10 * a + (c.toNat - 48)) l := by simp only [capF]; rw [if_pos h]
    rw [e, e2]
    by_cases hb : 2147483647 < 10 * a + (c.toNat - 48)
    · rw [if_pos (by omega), capF_big l _ hb, if_pos hb]
    · rw [if_neg (by omega)]
      exact numF_cap l _ (by omega) (fun x hx => hd x (List.mem_cons_of_mem _ hx))
theorem numS_cap {l : List UInt8} (h0 : l ≠ []) (hd : ∀ c ∈ l, digB c = true) : numS l = if 1 < l.length ∧ l.head? = some 48 then (0, 3) else if 2147483647 < capF 0 l then (0, 2) else ((capF 0 l : Int), 0) := by
  have hp : preN digB l = l.length := preN_all hd
  unfold numS
  by_cases h : 1 < l.length ∧ l.head? = some 48
  · rw [if_pos (.inr (.inr h)), if_pos h]
  · rw [if_neg (by rintro (h1 | h1 | h1); exact h0 h1; exact h1 hp; exact h h1), if_neg h]
    exact numF_cap l 0 (by omega) hd
theorem numS_bad {l : List UInt8} {c : UInt8} (hc : c ∈ l) (hd : digB c = false) : numS l = (0, 3) := by
  unfold numS
  rw [if_pos]
  refine .inr (.inl fun h => ?_)
  rw [all_pre h c hc] at hd
  cases hd

set_option maxHeartbeats 4000000 in
set_option maxRecDepth 100000 in
theorem refNumber_any (s : ByteArray) (w : World) (h0 : 0 < s.size) (hs : s.size ≤ 9223372036854775807) :
    Calls Tryd.prog 51 #[.string s] w fun e w' => e = .returned (.tuple #[.int .i64 (numS s.data.toList).1, .int .i64 (numS s.data.toList).2]) ∧ w' = w := by
  obtain ⟨X, hX⟩ : ∃ X, s.data.toList = X := ⟨_, rfl⟩
  have hlen : X.length = s.size := by rw [← hX, size_list]
  rw [hX]
  have HX := Lib.hid hX
  have HL := Lib.hid hlen
  obtain ⟨c0, hc0⟩ : ∃ c : UInt8, s[0] = c := ⟨_, rfl⟩
  have hhd : X.head? = some c0 := by
    have := at_list s h0
    rw [hX, hc0] at this
    rw [List.head?_eq_getElem?]
    exact this
  have HH := Lib.hid hhd
  clear hX hlen hhd
  go_enter Tryd.func51, Tryd.ntmps51
  go_wp2_with fail
  go_loopw [4, 5] (fun v i wr => ∃ k : Nat, k ≤ s.size ∧ i = .int .i64 k ∧ v = .int .i64 (capF 0 (X.take k) : Nat) ∧ Hid (∀ c ∈ X.take k, digB c = true) ∧ w = wr) (fun _ i _ => s.size - (intOf i).toNat)
  case atStart => exact ⟨0, by omega, rfl, rfl, (by rw [Hid]; simp), rfl⟩
  case round =>
    obtain ⟨k, hk, rfl, rfl, hd, rfl⟩ := hrel
    by_cases hlt : k < s.size
    · have hkX : k < X.length := by rw [HL.out]; exact hlt
      obtain ⟨c, hcc⟩ : ∃ c : UInt8, s[k] = c := ⟨_, rfl⟩
      have hXc : X[k] = c := by
        have h1 := at_list s hlt
        rw [HX.out, List.getElem?_eq_getElem hkX, hcc] at h1
        exact Option.some.inj h1
      have htk := List.take_succ_eq_append_getElem hkX
      rw [hXc] at htk
      have hq := capF_le (X.take k) 0 (by omega)
      have hsn := capF_snoc c (X.take k) 0
      rw [← htk] at hsn
      generalize capF 0 (X.take k) = q at hq hsn
      have HTK := Lib.hid htk
      have HSN := Lib.hid hsn
      clear htk hsn hc0
      cases hdc : digB c
      · have HN : Hid (numS X = (0, 3)) := numS_bad (c := c) (by rw [← hXc]; exact List.getElem_mem hkX) hdc
        have HDC := Lib.hid hdc
        clear hdc hXc
        go_wp2_with (first | (go_at_call 42; refine (refDigit_any c _).mono ?_; rintro e w' ⟨rfl, rfl⟩; rw [HDC.out]))
        refine bodyPost_ret (v := .tuple #[.int .i64 0, .int .i64 3]) (by simp [results, Tryd.results51, go_sem]) rfl ?_
        exact ⟨by rw [HN.out], rfl⟩
      · have hcd := digB_t.1 hdc
        have hnext : Hid (∀ c ∈ X.take (k + 1), digB c = true) := by
          rw [Hid, HTK.out]
          intro x hx
          rcases List.mem_append.1 hx with h | h
          · exact hd.out x h
          · simp only [List.mem_singleton] at h
            rw [h]
            exact hdc
        have HDC := Lib.hid hdc
        clear hdc hXc
        by_cases hqb : q ≤ 2147483647
        · have z1 : (q : Int) ≤ 2147483647 := by omega
          have z2 : IntKind.i64.wrap (c.toNat : Int) = (c.toNat : Int) := by rw [IntKind.wrap_i64]; omega
          have e : (10 * (q : Int) + (c.toNat : Int) - 48) = ((10 * q + (c.toNat - 48) : Nat) : Int) := by omega
          have E := Lib.hid e
          have QB := Lib.hid hqb
          clear e
          go_wp2_with (first | (go_at_call 42; refine (refDigit_any c _).mono ?_; rintro e w' ⟨rfl, rfl⟩; rw [HDC.out]))
          go_roundw
          case rel => exact ⟨k + 1, by omega, by go_num, by rw [HSN.out, if_pos QB.out, ← E.out], hnext, trivial⟩
          case measure => simp [intOf]; omega
        · have z1 : ¬ (q : Int) ≤ 2147483647 := by omega
          have QB := Lib.hid hqb
          go_wp2_with (first | (go_at_call 42; refine (refDigit_any c _).mono ?_; rintro e w' ⟨rfl, rfl⟩; rw [HDC.out]))
          go_roundw
          case rel => exact ⟨k + 1, by omega, by go_num, by rw [HSN.out, if_neg QB.out], hnext, trivial⟩
          case measure => simp [intOf]; omega
    · obtain rfl : k = s.size := by omega
      have htk : X.take s.size = X := List.take_of_length_le (by rw [HL.out]; omega)
      rw [htk] at hd ⊢
      have hn := numS_cap (l := X) (by intro h; have := HL.out; rw [h] at this; simp at this; omega) hd.out
      rw [HL.out, HH.out] at hn
      have hq := capF_le X 0 (by omega)
      generalize capF 0 X = q at hq hn
      clear htk hlt
      by_cases h48 : c0 = 48
      · have e1 : (c0.toNat : Int) = 48 := by rw [h48]; rfl
        by_cases h1 : 1 < s.size
        · have z1 : (1 : Int) < (s.size : Int) := by omega
          rw [if_pos ⟨h1, by rw [h48]⟩] at hn
          have HN := Lib.hid hn
          clear hn h48
          go_wp2_with fail
          refine bodyPost_ret (v := .tuple #[.int .i64 0, .int .i64 3]) (by simp [results, Tryd.results51, go_sem]) rfl ?_
          exact ⟨by rw [HN.out], rfl⟩
        · have z1 : ¬ (1 : Int) < (s.size : Int) := by omega
          rw [if_neg (fun h => h1 h.1)] at hn
          clear h48
          by_cases hb : 2147483647 < q
          · rw [if_pos hb] at hn
            have HN := Lib.hid hn
            have z2 : (2147483647 : Int) < (q : Int) := by omega
            clear hn
            go_wp2_with fail
            refine bodyPost_ret (v := .tuple #[.int .i64 0, .int .i64 2]) (by simp [results, Tryd.results51, go_sem]) rfl ?_
            exact ⟨by rw [HN.out], rfl⟩
          · rw [if_neg hb] at hn
            have HN := Lib.hid hn
            have z2 : ¬ (2147483647 : Int) < (q : Int) := by omega
            clear hn
            go_wp2_with fail
            refine bodyPost_ret (v := .tuple #[.int .i64 (q : Int), .int .i64 0]) (by simp [results, Tryd.results51, go_sem]) rfl ?_
            exact ⟨by rw [HN.out], rfl⟩
      · have e1 : ¬ (c0.toNat : Int) = 48 := fun h => h48 (UInt8.toNat_inj.1 (by rw [show c0.toNat = 48 by omega]; rfl))
        rw [if_neg (fun h => h48 (Option.some.inj h.2))] at hn
        clear h48
        by_cases hb : 2147483647 < q
        · rw [if_pos hb] at hn
          have HN := Lib.hid hn
          have z2 : (2147483647 : Int) < (q : Int) := by omega
          clear hn
          go_wp2_with fail
          refine bodyPost_ret (v := .tuple #[.int .i64 0, .int .i64 2]) (by simp [results, Tryd.results51, go_sem]) rfl ?_
          exact ⟨by rw [HN.out], rfl⟩
        · rw [if_neg hb] at hn
          have HN := Lib.hid hn
          have z2 : ¬ (2147483647 : Int) < (q : Int) := by omega
          clear hn
          go_wp2_with fail
          refine bodyPost_ret (v := .tuple #[.int .i64 (q : Int), .int .i64 0]) (by simp [results, Tryd.results51, go_sem]) rfl ?_
          exact ⟨by rw [HN.out], rfl⟩
end Go.Proofs.YtlfckmekfncboaaDoor
