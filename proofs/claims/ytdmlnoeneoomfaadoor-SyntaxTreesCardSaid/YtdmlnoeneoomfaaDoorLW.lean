
/-
  Names: lex.IsName, and the document's. The document's run: a letter, and letters, digits and _ behind it. lex.IsName. The document's IsName.
-/
import Derived.Test.YtdmlnoeneoomfaaDoorL10
import Derived.Test.YtdmlnoeneoomfaaDoorL7
import Derived.Laws.Closers25b
import Derived.Deep.RegionHeld3
namespace Go.Proofs.YtdmlnoeneoomfaaDoor
open Go.RowKit

set_option maxHeartbeats 1000000 in
set_option maxRecDepth 100000 in
theorem refWords_any (w : World) : Calls Tryd.prog 44 #[] w fun e w' => e = .returned (.slice (some ⟨w.heap.size, 0, none⟩) 23 23) ∧ w' = w.alloc (textsO wordsB) := by
  go_enter Tryd.func44, Tryd.ntmps44
  go_wp2_with fail
  go_ret
  exact ⟨rfl, rfl⟩

set_option maxHeartbeats 1000000 in
set_option maxRecDepth 100000 in
theorem refHas_any (l : List (List UInt8)) (A : Option Addr) (n c : Nat) (x : List UInt8) (w : World) (hr : RV w A n ((l.map str).map Value.string)) (hn : n ≤ 1000) :
    Calls Tryd.prog 43 #[.slice A n c, .string (str x)] w fun e w' => e = .returned (.bool (decide (x ∈ l))) ∧ w' = w := by
  have hlen : l.length = n := by have := hr.len; simpa using this.symm
  obtain ⟨S, hS⟩ : ∃ S, str x = S := ⟨_, rfl⟩
  have hSl : S.toList = x := by rw [← hS, str_tl]
  rw [hS]
  have HR := Lib.hid hr
  have HN := Lib.hid hlen
  clear hr hlen hS
  go_enter Tryd.func43, Tryd.ntmps43
  go_wp2_with fail
  go_loopw [5] (fun i wr => ∃ k : Nat, k ≤ n ∧ i = .int .i64 k ∧ Hid (¬ x ∈ l.take k) ∧ wr = w) (fun i _ => n - (intOf i).toNat)
  case atStart => exact ⟨0, by omega, rfl, (by rw [Hid]; simp), rfl⟩
  case round =>
    obtain ⟨k, hkl, rfl, hs, rfl⟩ := hrel
    by_cases hlt : k < n
    · obtain ⟨b, o, rfl, hb, hl, hc⟩ := HR.out.at_ hlt
      have hkl' : k < l.length := by rw [HN.out]; exact hlt
      rw [List.getElem_map, List.getElem_map] at hc
      have htk := Lib.hid (List.take_succ_eq_append_getElem hkl')
      generalize l[k]'hkl' = y at hc htk
      obtain ⟨T, hT⟩ : ∃ T, str y = T := ⟨_, rfl⟩
      have hTl : T.toList = y := by rw [← hT, str_tl]
      rw [hT] at hc
      clear hT hl
      by_cases hxy : y = x
      · have e1 : T.toList = S.toList := by rw [hTl, hSl, hxy]
        have e2 : (T.toList == S.toList) = true := by rw [e1]; simp
        have HM := Lib.hid (show x ∈ l from List.mem_of_mem_take (i := k + 1) (by rw [htk.out, hxy]; simp))
        clear hSl hTl hxy
        go_wp2_with fail
        go_ret
        exact ⟨by rw [decide_eq_true HM.out]; rfl, rfl⟩
      · have e1 : ¬ T.toList = S.toList := by rw [hTl, hSl]; exact hxy
        have e2 : (T.toList == S.toList) = false := by simpa using e1
        have hnext : Hid (¬ x ∈ l.take (k + 1)) := by
          rw [Hid, htk.out, List.mem_append]
          rintro (h | h)
          · exact hs.out h
          · simp at h
            exact hxy h.symm
        clear hSl hTl hxy
        go_wp2_with fail
        go_roundw
        case rel => exact ⟨k + 1, by omega, by go_num, hnext, trivial⟩
        case measure => simp [intOf]; omega
    · obtain rfl : k = n := by omega
      have HM : Hid (¬ x ∈ l) := by
        have := hs.out
        rw [List.take_of_length_le (by rw [HN.out]; omega)] at this
        exact this
      go_wp2_with fail
      go_ret
      exact ⟨by rw [decide_eq_false HM.out]; rfl, rfl⟩
/-- A letter, and then letters, digits and _. -/
def runS (l : List UInt8) : Bool := decide (l ≠ [] ∧ letB (l.headD 0) = true ∧ ∀ c ∈ l, innB c = true)
def nameS (l : List UInt8) : Bool := runS l && decide (l.length ≤ 30) && !decide (l ∈ wordsL)
end Go.Proofs.YtdmlnoeneoomfaaDoor
namespace Go.Proofs.YtdmlnoeneoomfaaDoor
open Go.RowKit

set_option maxHeartbeats 2000000 in
set_option maxRecDepth 100000 in
theorem refRun_any (s : ByteArray) (w : World) (hs : s.size ≤ 9223372036854775807) :
    Calls Tryd.prog 42 #[.string s] w fun e w' => e = .returned (.bool (runS s.data.toList)) ∧ w' = w := by
  have hlen : s.data.toList.length = s.size := Array.length_toList
  have HL := Lib.hid hlen
  have htl : s.toList = s.data.toList := tl_eq s
  have HTL := Lib.hid htl
  clear hlen htl
  go_enter Tryd.func42, Tryd.ntmps42
  go_wp2_with fail
  go_loopw [3] (fun i wr => ∃ k : Nat, k ≤ s.size ∧ i = .int .i64 k ∧ Hid (∀ j (hj : j < s.data.toList.length), j < k → innB (s.data.toList[j]'hj) = true ∧ (j = 0 → letB (s.data.toList[j]'hj) = true)) ∧ wr = w) (fun i _ => s.size - (intOf i).toNat)
  case atStart => exact ⟨0, by omega, rfl, fun j hj h => absurd h (by omega), rfl⟩
  case round =>
    obtain ⟨k, hk, rfl, hp, rfl⟩ := hrel
    by_cases hlt : k < s.size
    · obtain ⟨c, hcc⟩ : ∃ c : UInt8, s[k] = c := ⟨_, rfl⟩
      have hq : ∃ hj : k < s.data.toList.length, s.data.toList[k]'hj = c := ⟨by rw [HL.out]; exact hlt, by rw [← hcc]; rfl⟩
      have HQ := Lib.hid hq
      clear hq
      by_cases hok : letB c = true ∨ (k ≠ 0 ∧ innB c = true)
      · have hnext : Hid (∀ j (hj : j < s.data.toList.length), j < k + 1 → innB (s.data.toList[j]'hj) = true ∧ (j = 0 → letB (s.data.toList[j]'hj) = true)) := fun j hj h => by
          rcases Nat.lt_or_ge j k with h1 | h1
          · exact hp.out j hj h1
          · obtain rfl : j = k := by omega
            obtain ⟨_, h2⟩ := HQ.out
            rw [h2]
            rcases hok with h3 | ⟨h3, h4⟩
            · exact ⟨by unfold innB; simp [h3], fun _ => h3⟩
            · exact ⟨h4, fun h => absurd h h3⟩
        have HOK := Lib.hid hok
        clear hok hp HQ
        cases hlc : letB c
        · have hok := HOK.out.resolve_left (by rw [hlc]; simp)
          have z1 : ¬ (k : Int) = 0 := by have := hok.1; omega
          have z2 : ((k : Int) == 0) = false := by simpa using z1
          have HLC := Lib.hid hlc
          clear hlc
          cases hdc : digB c
          · have e95 : (c.toNat : Int) = 95 := by
              have := hok.2
              unfold innB at this
              rw [HLC.out, hdc] at this
              simp at this
              omega
            have e96 : ((c.toNat : Int) != 95) = false := by rw [e95]; rfl
            clear e95
            have HDC := Lib.hid hdc
            clear hdc hok
            go_wp2_with (first | (go_at_call 70; refine (refLetter_any c _).mono ?_; rintro e w' ⟨rfl, rfl⟩; rw [HLC.out]) | (go_at_call 71; refine (refDigit_any c _).mono ?_; rintro e w' ⟨rfl, rfl⟩; rw [HDC.out]))
            go_roundw
            case rel => exact ⟨k + 1, by omega, by go_num, hnext, trivial⟩
            case measure => simp [intOf]; omega
          · have HDC := Lib.hid hdc
            clear hdc hok
            go_wp2_with (first | (go_at_call 70; refine (refLetter_any c _).mono ?_; rintro e w' ⟨rfl, rfl⟩; rw [HLC.out]) | (go_at_call 71; refine (refDigit_any c _).mono ?_; rintro e w' ⟨rfl, rfl⟩; rw [HDC.out]))
            go_roundw
            case rel => exact ⟨k + 1, by omega, by go_num, hnext, trivial⟩
            case measure => simp [intOf]; omega
        · have HLC := Lib.hid hlc
          clear hlc
          go_wp2_with (first | (go_at_call 70; refine (refLetter_any c _).mono ?_; rintro e w' ⟨rfl, rfl⟩; rw [HLC.out]))
          go_roundw
          case rel => exact ⟨k + 1, by omega, by go_num, hnext, trivial⟩
          case measure => simp [intOf]; omega
      · have hlc : letB c = false := by
          cases h : letB c
          · rfl
          · exact absurd (.inl h) hok
        have HF : Hid (runS s.data.toList = false) := by
          rw [Hid]
          unfold runS
          rw [decide_eq_false_iff_not]
          rintro ⟨h1, h2, h3⟩
          obtain ⟨hj, h4⟩ := HQ.out
          have h5 := h3 c (by rw [← h4]; exact List.getElem_mem hj)
          rcases Nat.eq_zero_or_pos k with h6 | h6
          · subst h6
            rw [List.headD_eq_head?_getD, List.head?_eq_getElem?, List.getElem?_eq_getElem hj, h4] at h2
            exact hok (.inl h2)
          · exact hok (.inr ⟨by omega, h5⟩)
        have hdc : k = 0 ∨ digB c = false := by
          rcases Nat.eq_zero_or_pos k with h6 | h6
          · exact .inl h6
          · right
            cases h : digB c
            · rfl
            · exact absurd (.inr ⟨by omega, by unfold innB; simp [h]⟩) hok
        have h95 : k = 0 ∨ ¬ (c.toNat : Int) = 95 := by
          rcases Nat.eq_zero_or_pos k with h6 | h6
          · exact .inl h6
          · right
            intro h
            exact hok (.inr ⟨by omega, by unfold innB; simp; omega⟩)
        have HLC := Lib.hid hlc
        clear hok hlc HQ hp
        by_cases hk0 : k = 0
        · subst hk0
          clear hdc h95
          go_wp2_with (first | (go_at_call 70; refine (refLetter_any c _).mono ?_; rintro e w' ⟨rfl, rfl⟩; rw [HLC.out]))
          go_ret
          exact ⟨by rw [HF.out]; rfl, rfl⟩
        · have z1 : ¬ (k : Int) = 0 := by omega
          have z2 : ((k : Int) == 0) = false := by simpa using z1
          have HDC := Lib.hid (hdc.resolve_left hk0)
          have e95 := h95.resolve_left hk0
          clear hdc h95
          go_wp2_with (first | (go_at_call 70; refine (refLetter_any c _).mono ?_; rintro e w' ⟨rfl, rfl⟩; rw [HLC.out]) | (go_at_call 71; refine (refDigit_any c _).mono ?_; rintro e w' ⟨rfl, rfl⟩; rw [HDC.out]))
          go_ret
          exact ⟨by rw [HF.out]; rfl, rfl⟩
    · obtain rfl : k = s.size := by omega
      have HR : Hid (runS s.data.toList = !s.toList.isEmpty) := by
        rw [Hid, HTL.out]
        unfold runS
        rcases hsl : s.data.toList with _ | ⟨c, r⟩
        · simp
        · simp only [List.isEmpty_cons, Bool.not_false, decide_eq_true_iff]
          have h := hp.out
          rw [hsl] at h
          have hsz : s.size = (c :: r).length := by rw [← HL.out, hsl]
          refine ⟨by simp, ?_, ?_⟩
          · exact (h 0 (by simp) (by rw [hsz]; simp)).2 rfl
          · intro x hx
            obtain ⟨j, hj, rfl⟩ := List.getElem_of_mem hx
            exact (h j hj (by rw [hsz]; exact hj)).1
      cases hemp : s.toList.isEmpty
      · have e1 : ¬ s.toList = [] := by simpa using hemp
        go_wp2_with fail
        go_ret
        exact ⟨by rw [HR.out, hemp]; rfl, rfl⟩
      · have e1 : s.toList = [] := by simpa using hemp
        go_wp2_with fail
        go_ret
        exact ⟨by rw [HR.out, hemp]; rfl, rfl⟩
end Go.Proofs.YtdmlnoeneoomfaaDoor
namespace Go.Proofs.YtdmlnoeneoomfaaDoor
open Go.RowKit

theorem preN_of_all {p : UInt8 → Bool} {l : List UInt8} : preN p l = l.length ↔ ∀ c ∈ l, p c = true := ⟨all_pre, preN_all⟩

set_option maxHeartbeats 4000000 in
set_option maxRecDepth 100000 in
theorem name_any (r1 r2 : Nat) (s : ByteArray) (w : World) (h1 : SetIs w r1 wordsB) (hs : s.size ≤ 9223372036854775807) :
    Calls Tryd.prog 66 #[.agg #[.map (some r1), .map (some r2)], .string s] w (Tells w (nameS s.data.toList)) := by
  obtain ⟨X, hX⟩ : ∃ X, s.data.toList = X := ⟨_, rfl⟩
  have htl : s.toList = X := by rw [← hX, tl_eq]
  have hsz : s.size = X.length := by rw [← hX, size_list]
  have hst : s = str X := ba_ext (by rw [str_list, hX])
  have f0 : Below w.heap.size w (w.alloc (.cells #[.map (some r1), .map (some r2)] 82)) := (Below.refl _ w).al _
  have lk := lookup_set (l := wordsL) (h1.below f0) X
  rw [← hst] at lk
  rw [hX]
  have c0 : (w.alloc (.cells #[.map (some r1), .map (some r2)] 82)).cell? ⟨w.heap.size, 0, none⟩ = some (.map (some r1)) := (Blk.new w 82 #[.map (some r1), .map (some r2)]).cell 0
  have HX := Lib.hid hX
  have HST := Lib.hid hst
  have HSZ := Lib.hid hsz
  clear hX hst h1
  go_enter Tryd.func66, Tryd.ntmps66
  cases X with
  | nil =>
    have e2 : s.toList.isEmpty = true := by rw [htl]; rfl
    clear lk c0 hsz HSZ
    go_wp2_with fail
    go_ret
    exact ⟨rfl, f0⟩
  | cons c X =>
    have e1 : ¬ s.toList = [] := by rw [htl]; simp
    have e2 : s.toList.isEmpty = false := by rw [htl]; rfl
    have hpos : 0 < s.size := by rw [hsz]; simp
    have hc : s[0] = c := by
      have := at_list s hpos
      rw [HX.out] at this
      simpa using this.symm
    cases hl : letB c
    · have HL := Lib.hid hl
      have HF : Hid (nameS (c :: X) = false) := by
        rw [Hid]; unfold nameS runS; simp [HL.out]
      clear hl lk c0 hsz htl
      go_wp2_with (first | (go_at_call 53; refine (letter_any c _).mono ?_; rintro e w' ⟨rfl, rfl⟩; rw [HL.out]))
      go_ret
      exact ⟨by rw [HF.out]; rfl, f0⟩
    · have HL := Lib.hid hl
      clear hl
      obtain ⟨R, hR⟩ : ∃ R, s.extract 0 (preN innB (c :: X)) = R := ⟨_, rfl⟩
      have hRl : R.toList = (c :: X).take (preN innB (c :: X)) := by rw [← hR, HST.out, ext_str, str_tl, str_list]
      have hRR : s.extract 0 (preN innB s.data.toList) = R := by rw [HX.out, hR]
      have HR := Lib.hid hRR
      clear hRR hR
      by_cases hall : preN innB (c :: X) = (c :: X).length
      · have e3 : R.toList = s.toList := by rw [hRl, htl, hall, List.take_length]
        have e4 : (R.toList == s.toList) = true := by rw [e3]; simp
        have HA := Lib.hid (preN_of_all.1 hall)
        have HRUN : Hid (runS (c :: X) = true) := by
          rw [Hid]; unfold runS
          rw [decide_eq_true_iff]
          exact ⟨by simp, HL.out, HA.out⟩
        clear hRl hall
        by_cases h30 : (c :: X).length ≤ 30
        · have z1 : (s.size : Int) ≤ 30 := by omega
          have HF : Hid (nameS (c :: X) = !decide ((c :: X) ∈ wordsL)) := by
            rw [Hid]; unfold nameS; rw [HRUN.out, decide_eq_true h30]; simp
          have LK := Lib.hid lk
          clear lk
          generalize decide ((c :: X) ∈ wordsL) = b at LK HF
          have lk2 := LK.out
          clear h30 hsz htl
          go_wp2_with (first | (go_at_call 53; refine (letter_any c _).mono ?_; rintro e w' ⟨rfl, rfl⟩; rw [HL.out]) | (go_at_call 31; refine (runInner_any s _ hs).mono ?_; rintro e w' ⟨rfl, rfl⟩; rw [HR.out]))
          go_ret
          exact ⟨by rw [HF.out]; rfl, f0⟩
        · have z1 : ¬ (s.size : Int) ≤ 30 := by omega
          have HF : Hid (nameS (c :: X) = false) := by
            rw [Hid]; unfold nameS; rw [HRUN.out, decide_eq_false h30]; simp
          clear lk h30 hsz htl
          go_wp2_with (first | (go_at_call 53; refine (letter_any c _).mono ?_; rintro e w' ⟨rfl, rfl⟩; rw [HL.out]) | (go_at_call 31; refine (runInner_any s _ hs).mono ?_; rintro e w' ⟨rfl, rfl⟩; rw [HR.out]))
          go_ret
          exact ⟨by rw [HF.out]; rfl, f0⟩
      · have e3 : ¬ R.toList = s.toList := by
          rw [hRl, htl]
          intro h
          have := congrArg List.length h
          rw [List.length_take] at this
          have := preN_le innB (c :: X)
          omega
        have e4 : (R.toList == s.toList) = false := by simpa using e3
        have HF : Hid (nameS (c :: X) = false) := by
          rw [Hid]; unfold nameS runS
          rw [decide_eq_false (fun h => hall (preN_all h.2.2))]
          simp
        clear lk hall hsz htl hRl
        go_wp2_with (first | (go_at_call 53; refine (letter_any c _).mono ?_; rintro e w' ⟨rfl, rfl⟩; rw [HL.out]) | (go_at_call 31; refine (runInner_any s _ hs).mono ?_; rintro e w' ⟨rfl, rfl⟩; rw [HR.out]))
        go_ret
        exact ⟨by rw [HF.out]; rfl, f0⟩

end Go.Proofs.YtdmlnoeneoomfaaDoor
namespace Go.Proofs.YtdmlnoeneoomfaaDoor
open Go.RowKit

set_option maxHeartbeats 1000000 in
set_option maxRecDepth 100000 in
theorem refIsName_any (s : ByteArray) (w : World) (hs : s.size ≤ 9223372036854775807) :
    Calls Tryd.prog 20 #[.string s] w (Tells w (nameS s.data.toList)) := by
  obtain ⟨X, hX⟩ : ∃ X, s.data.toList = X := ⟨_, rfl⟩
  have hsz : s.size = X.length := by rw [← hX, size_list]
  have hst : s = str X := ba_ext (by rw [str_list, hX])
  rw [hX]
  have HX := Lib.hid hX
  have HST := Lib.hid hst
  clear hX hst
  go_enter Tryd.func20, Tryd.ntmps20
  have hn : nameS X = (runS X && decide (X.length ≤ 30) && !decide (X ∈ wordsL)) := rfl
  have HN := Lib.hid hn
  clear hn
  cases hr : runS X
  · have HR := Lib.hid hr
    clear hr hsz
    go_wp2_with (first | (go_at_call 42; refine (refRun_any s _ hs).mono ?_; rintro e w' ⟨rfl, rfl⟩; rw [HX.out, HR.out]))
    go_ret
    exact ⟨by rw [HN.out, HR.out]; rfl, Below.refl _ _⟩
  · have HR := Lib.hid hr
    clear hr
    by_cases h30 : X.length ≤ 30
    · have z1 : (s.size : Int) ≤ 30 := by omega
      have HL := Lib.hid (decide_eq_true h30)
      clear h30 hsz
      obtain ⟨b, hb⟩ : ∃ b, decide (X ∈ wordsL) = b := ⟨_, rfl⟩
      have HB := Lib.hid hb
      clear hb
      have f1 : Below w.heap.size w (w.alloc (textsO wordsB)) := (Below.refl _ w).al _
      go_wp2_with (first | (go_at_call 42; refine (refRun_any s _ hs).mono ?_; rintro e w' ⟨rfl, rfl⟩; rw [HX.out, HR.out]) | (go_at_call 44; refine (refWords_any _).mono ?_; rintro e w' ⟨rfl, rfl⟩) | (go_at_call 43; rw [HST.out]; refine (refHas_any wordsL _ 23 23 X _ (texts_rv _ wordsB) (by omega)).mono ?_; rintro e w' ⟨rfl, rfl⟩; rw [HB.out]))
      go_ret
      exact ⟨by rw [HN.out, HR.out, HL.out, HB.out]; simp, f1⟩
    · have z1 : ¬ (s.size : Int) ≤ 30 := by omega
      have HL := Lib.hid (decide_eq_false h30)
      clear h30 hsz
      go_wp2_with (first | (go_at_call 42; refine (refRun_any s _ hs).mono ?_; rintro e w' ⟨rfl, rfl⟩; rw [HX.out, HR.out]))
      go_ret
      exact ⟨by rw [HN.out, HR.out, HL.out]; rfl, Below.refl _ _⟩

end Go.Proofs.YtdmlnoeneoomfaaDoor
