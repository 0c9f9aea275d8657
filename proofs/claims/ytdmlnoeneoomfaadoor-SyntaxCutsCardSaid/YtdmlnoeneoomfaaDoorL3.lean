
/-
  package lex: the number that a text is.
-/
import Derived.Test.YtdmlnoeneoomfaaDoorL2
namespace Go.Proofs.YtdmlnoeneoomfaaDoor
open Go.RowKit

/-- The number of digits; past 2147483647: the error. -/
def numF (a : Int) : List UInt8 → Int × Int
  | [] => (a, 0)
  | c :: r => if 10 * a + ((c.toNat : Int) - 48) > 2147483647 then (0, 2) else numF (10 * a + ((c.toNat : Int) - 48)) r
def numS (l : List UInt8) : Int × Int := if l = [] ∨ preN digB l ≠ l.length ∨ (1 < l.length ∧ l.head? = some 48) then (0, 3) else numF 0 l
/-- Two results. -/
theorem size_list (s : ByteArray) : s.data.toList.length = s.size := Array.length_toList
theorem at_list (s : ByteArray) {k : Nat} (h : k < s.size) : s.data.toList[k]? = some s[k] := by
  rw [List.getElem?_eq_getElem (by rw [size_list]; exact h)]
  rfl
theorem tl_eq (s : ByteArray) : s.toList = s.data.toList := ByteArray.toList_eq s
theorem ba_ext {a b : ByteArray} (h : a.data.toList = b.data.toList) : a = b := by
  obtain ⟨⟨x⟩⟩ := a
  obtain ⟨⟨y⟩⟩ := b
  simp at h
  subst h
  rfl
theorem take_of_pre {p : UInt8 → Bool} : ∀ {l : List UInt8}, l.takeWhile p = l.take (preN p l)
  | [] => by simp
  | c :: l => by
    unfold preN
    cases h : p c
    · simp [h]
    · simp [h]
      exact take_of_pre (l := l)
theorem all_pre {p : UInt8 → Bool} : ∀ {l : List UInt8}, preN p l = l.length → ∀ c ∈ l, p c = true
  | [], _, c, h => by cases h
  | a :: l, h, c, hc => by
    unfold preN at h
    cases ha : p a
    · simp [ha] at h
    · simp [ha] at h
      rcases List.mem_cons.1 hc with rfl | h1
      · exact ha
      · exact all_pre (l := l) h c h1
theorem numF_step (a : Int) (l : List UInt8) {k : Nat} (hk : k < l.length) : numF a (l.drop k) = if 10 * a + (((l[k]'hk).toNat : Int) - 48) > 2147483647 then (0, 2) else numF (10 * a + (((l[k]'hk).toNat : Int) - 48)) (l.drop (k + 1)) := by
  rw [List.drop_eq_getElem_cons hk]
  rfl

set_option maxHeartbeats 2000000 in
set_option maxRecDepth 100000 in
theorem number_any (s : ByteArray) (w : World) (hs : s.size ≤ 9223372036854775807) :
    Calls Tryd.prog 55 #[.string s] w fun e w' => e = .returned (.tuple #[.int .i64 (numS s.data.toList).1, .int .i64 (numS s.data.toList).2]) ∧ w = w' := by
  by_cases h0 : s.size = 0
  · have hl : s.data.toList = [] := List.eq_nil_of_length_eq_zero (by rw [size_list]; exact h0)
    have hn : numS s.data.toList = (0, 3) := by rw [hl]; rfl
    obtain rfl : s = ByteArray.empty := ba_ext hl
    have HN := Lib.hid hn
    clear hn h0 hl
    go_enter Tryd.func55, Tryd.ntmps55
    go_wp2_with fail
    go_ret2
    exact ⟨by rw [HN.out]; rfl, rfl⟩
  · have h1 : 0 < s.size := by omega
    have hne : s.toList ≠ [] := by
      rw [tl_eq]
      intro h
      have := size_list s
      rw [h] at this
      simp at this
      omega
    have hie : s.toList.isEmpty = false := by
      cases hq : s.toList
      · exact absurd hq hne
      · rfl
    by_cases hd : preN digB s.data.toList = s.size
    · obtain ⟨c0, hc0⟩ : ∃ c : UInt8, s[0] = c := ⟨_, rfl⟩
      have hh : s.data.toList.head? = some c0 := by
        rw [List.head?_eq_getElem?, at_list s h1, hc0]
      have hext : s.extract 0 (preN digB s.data.toList) = s := by rw [hd, ext_all]
      have HX := Lib.hid hext
      have HD : Hid (∀ c ∈ s.data.toList, digB c = true) := all_pre (by rw [size_list]; exact hd)
      have HH := Lib.hid hh
      have HDN := Lib.hid hd
      clear hext hh hd
      by_cases hz : 1 < s.size ∧ c0 = 48
      · obtain ⟨hz1, rfl⟩ := hz
        have hn : numS s.data.toList = (0, 3) := by
          unfold numS
          rw [if_pos (.inr (.inr ⟨by rw [size_list]; exact hz1, HH.out⟩))]
        have HN := Lib.hid hn
        clear hn
        have t1 : decide ((1 : Int) < (s.size : Int)) = true := by simp; omega
        go_enter Tryd.func55, Tryd.ntmps55
        go_wp2_with (first | (go_at_call 31; refine (runDigit_any s w hs).mono ?_; rintro e w' ⟨rfl, rfl⟩; rw [HX.out]))
        go_ret2
        exact ⟨by rw [HN.out]; rfl, rfl⟩
      · have hn : numS s.data.toList = numF 0 s.data.toList := by
          unfold numS
          rw [if_neg]
          rintro (h | h | ⟨h, h'⟩)
          · rw [← tl_eq] at h; exact hne h
          · exact h (by rw [HDN.out, size_list])
          · rw [HH.out] at h'
            injection h' with h'
            exact hz ⟨by rw [size_list] at h; exact h, h'⟩
        have HN := Lib.hid hn
        clear hn
        have hcut : Hid (decide ((1 : Int) < (s.size : Int)) = false ∨ decide ((1 : Int) < (s.size : Int)) = true ∧ (((c0.toNat : Int)) == 48) = false) := by
          by_cases h : 1 < s.size
          · refine .inr ⟨by simp; omega, ?_⟩
            have : c0 ≠ 48 := fun e => hz ⟨h, e⟩
            have h2 : c0.toNat ≠ 48 := fun e => this (UInt8.toNat_inj.1 e)
            simp
            omega
          · exact .inl (by simp; omega)
        clear hz
        rcases hcut.out with t1 | ⟨t1, t2⟩
        all_goals
          clear hcut
          go_enter Tryd.func55, Tryd.ntmps55
          go_wp2_with (first | (go_at_call 31; refine (runDigit_any s w hs).mono ?_; rintro e w' ⟨rfl, rfl⟩; rw [HX.out]))
          clear t1
          try clear t2
          go_loop [4, 26] (fun v i => ∃ (k : Nat) (a : Int), k ≤ s.size ∧ i = .int .i64 k ∧ v = .int .i64 a ∧ 0 ≤ a ∧ a ≤ 2147483647 ∧ Hid (numF a (s.data.toList.drop k) = numS s.data.toList)) (fun _ i => s.size - (intOf i).toNat)
          case atStart => exact ⟨0, 0, by omega, rfl, rfl, by omega, by omega, by rw [Hid, HN.out]; rfl⟩
          case round =>
            obtain ⟨k, a, hk, rfl, rfl, ha0, ha1, hf⟩ := hrel
            clear HN
            by_cases hlt : k < s.size
            · have hs' := numF_step a s.data.toList (k := k) (by rw [size_list]; exact hlt)
              have hd := HD.out _ (List.getElem_mem (l := s.data.toList) (n := k) (by rw [size_list]; exact hlt))
              have hsk : s.data.toList[k]'(by rw [size_list]; exact hlt) = s[k] := rfl
              rw [hsk] at hs' hd
              rw [digB_t] at hd
              obtain ⟨x, hx⟩ : ∃ x : Nat, s[k].toNat = x := ⟨_, rfl⟩
              rw [hx] at hs' hd
              obtain ⟨hd0, hd1⟩ := hd
              have hd0' : (48 : Int) ≤ (x : Int) := by omega
              have hd1' : (x : Int) ≤ 57 := by omega
              have HS := Lib.hid hs'
              clear hs' hsk hc0
              by_cases hgt : 2147483647 < 10 * a + ((x : Int) - 48)
              · have hres : numS s.data.toList = (0, 2) := by rw [← hf.out, HS.out, if_pos hgt]
                have HRES := Lib.hid hres
                clear hres
                go_wp2_with fail
                go_ret2
                exact ⟨by rw [HRES.out]; rfl, rfl⟩
              · have hres : numF (10 * a + ((x : Int) - 48)) (s.data.toList.drop (k + 1)) = numS s.data.toList := by rw [← hf.out, HS.out, if_neg hgt]
                have HRES := Lib.hid hres
                clear hres
                have hle : 10 * a + ((x : Int) - 48) ≤ 2147483647 := by omega
                go_wp2_with fail
                go_round
                case rel => exact ⟨k + 1, 10 * a + ((x : Int) - 48), by omega, by go_num, rfl, by omega, hle, HRES⟩
                case measure => simp [intOf]; omega
            · obtain rfl : k = s.size := by omega
              have hres : numS s.data.toList = (a, 0) := by
                rw [← hf.out, List.drop_of_length_le (by rw [size_list]; omega)]
                rfl
              have HRES := Lib.hid hres
              clear hres
              go_wp2_with fail
              go_ret2
              exact ⟨by rw [HRES.out]; rfl, rfl⟩
    · obtain ⟨t, ht⟩ : ∃ t, s.extract 0 (preN digB s.data.toList) = t := ⟨_, rfl⟩
      have hn : numS s.data.toList = (0, 3) := by
        unfold numS
        rw [if_pos (.inr (.inl (by rw [size_list]; exact hd)))]
      have htn : ¬ t.toList = s.toList := by
        rw [tl_eq, tl_eq]
        intro h
        have h2 := ba_ext h
        rw [← ht] at h2
        have h3 := congrArg ByteArray.size h2
        have := preN_le digB s.data.toList
        rw [size_list] at this
        simp at h3
        omega
      have HN := Lib.hid hn
      have HT := Lib.hid ht
      clear hn ht
      go_enter Tryd.func55, Tryd.ntmps55
      go_wp2_with (first | (go_at_call 31; refine (runDigit_any s w hs).mono ?_; rintro e w' ⟨rfl, rfl⟩; rw [HT.out]))
      go_ret2
      exact ⟨by rw [HN.out]; rfl, rfl⟩
end Go.Proofs.YtdmlnoeneoomfaaDoor
