/-
  lex.IsName.
-/
import Derived.Test.YtlfckmekfncboaaDoorL16
import Derived.Deep.RegionHeld3
namespace Go.Proofs.YtlfckmekfncboaaDoor
open Go.RowKit

theorem preN_of_all {p : UInt8 → Bool} {l : List UInt8} : preN p l = l.length ↔ ∀ c ∈ l, p c = true := ⟨all_pre, preN_all⟩

set_option maxHeartbeats 4000000 in
set_option maxRecDepth 100000 in
theorem name_any (r1 r2 : Nat) (s : ByteArray) (w : World) (h1 : SetIs w r1 wordsB) (hs : s.size ≤ 9223372036854775807) :
    Calls Tryd.prog 28 #[.agg #[.map (some r1), .map (some r2)], .string s] w (Tells w (nameS s.data.toList)) := by
  obtain ⟨X, hX⟩ : ∃ X, s.data.toList = X := ⟨_, rfl⟩
  have htl : s.toList = X := by rw [← hX, tl_eq]
  have hsz : s.size = X.length := by rw [← hX, size_list]
  have hst : s = str X := ba_ext (by rw [str_list, hX])
  have f0 : Below w.heap.size w (w.alloc (.cells #[.map (some r1), .map (some r2)] 54)) := (Below.refl _ w).al _
  have lk := lookup_set (l := wordsL) (h1.below f0) X
  rw [← hst] at lk
  rw [hX]
  have c0 : (w.alloc (.cells #[.map (some r1), .map (some r2)] 54)).cell? ⟨w.heap.size, 0, none⟩ = some (.map (some r1)) := (Blk.new w 54 #[.map (some r1), .map (some r2)]).cell 0
  have HX := Lib.hid hX
  have HST := Lib.hid hst
  have HSZ := Lib.hid hsz
  clear hX hst h1
  go_enter Tryd.func28, Tryd.ntmps28
  cases X with
  | nil =>
    have e2 : s.toList.isEmpty = true := by rw [htl]; rfl
    clear lk c0 hsz HSZ
    go_wp2_with fail
    go_ret
    exact ⟨rfl, f0⟩
  | cons c X =>
    have e1 : ¬ s.toList = [] := by rw [htl]; simp
    have e2 : s.toList.isEmpty = false := by rw [htl]; rfl
    have hpos : 0 < s.size := by rw [hsz]; simp
    have hc : s[0] = c := by
      have := at_list s hpos
      rw [HX.out] at this
      simpa using this.symm
    cases hl : letB c
    · have HL := Lib.hid hl
      have HF : Hid (nameS (c :: X) = false) := by
        rw [Hid]; unfold nameS runS; simp [HL.out]
      clear hl lk c0 hsz htl
      go_wp2_with (first | (go_at_call 36; refine (letter_any c _).mono ?_; rintro e w' ⟨rfl, rfl⟩; rw [HL.out]))
      go_ret
      exact ⟨by rw [HF.out]; rfl, f0⟩
    · have HL := Lib.hid hl
      clear hl
      obtain ⟨R, hR⟩ : ∃ R, s.extract 0 (preN innB (c :: X)) = R := ⟨_, rfl⟩
      have hRl : R.toList = (c :: X).take (preN innB (c :: X)) := by rw [← hR, HST.out, ext_str, str_tl, str_list]
      have hRR : s.extract 0 (preN innB s.data.toList) = R := by rw [HX.out, hR]
      have HR := Lib.hid hRR
      clear hRR hR
      by_cases hall : preN innB (c :: X) = (c :: X).length
      · have e3 : R.toList = s.toList := by rw [hRl, htl, hall, List.take_length]
        have e4 : (R.toList == s.toList) = true := by rw [e3]; simp
        have HA := Lib.hid (preN_of_all.1 hall)
        have HRUN : Hid (runS (c :: X) = true) := by
          rw [Hid]; unfold runS
          rw [decide_eq_true_iff]
          exact ⟨by simp, HL.out, HA.out⟩
        clear hRl hall
        by_cases h30 : (c :: X).length ≤ 30
        · have z1 : (s.size : Int) ≤ 30 := by omega
          have HF : Hid (nameS (c :: X) = !decide ((c :: X) ∈ wordsL)) := by
            rw [Hid]; unfold nameS; rw [HRUN.out, decide_eq_true h30]; simp
          have LK := Lib.hid lk
          clear lk
          generalize decide ((c :: X) ∈ wordsL) = b at LK HF
          have lk2 := LK.out
          clear h30 hsz htl
          go_wp2_with (first | (go_at_call 36; refine (letter_any c _).mono ?_; rintro e w' ⟨rfl, rfl⟩; rw [HL.out]) | (go_at_call 24; refine (runInner_any s _ hs).mono ?_; rintro e w' ⟨rfl, rfl⟩; rw [HR.out]))
          go_ret
          exact ⟨by rw [HF.out]; rfl, f0⟩
        · have z1 : ¬ (s.size : Int) ≤ 30 := by omega
          have HF : Hid (nameS (c :: X) = false) := by
            rw [Hid]; unfold nameS; rw [HRUN.out, decide_eq_false h30]; simp
          clear lk h30 hsz htl
          go_wp2_with (first | (go_at_call 36; refine (letter_any c _).mono ?_; rintro e w' ⟨rfl, rfl⟩; rw [HL.out]) | (go_at_call 24; refine (runInner_any s _ hs).mono ?_; rintro e w' ⟨rfl, rfl⟩; rw [HR.out]))
          go_ret
          exact ⟨by rw [HF.out]; rfl, f0⟩
      · have e3 : ¬ R.toList = s.toList := by
          rw [hRl, htl]
          intro h
          have := congrArg List.length h
          rw [List.length_take] at this
          have := preN_le innB (c :: X)
          omega
        have e4 : (R.toList == s.toList) = false := by simpa using e3
        have HF : Hid (nameS (c :: X) = false) := by
          rw [Hid]; unfold nameS runS
          rw [decide_eq_false (fun h => hall (preN_all h.2.2))]
          simp
        clear lk hall hsz htl hRl
        go_wp2_with (first | (go_at_call 36; refine (letter_any c _).mono ?_; rintro e w' ⟨rfl, rfl⟩; rw [HL.out]) | (go_at_call 24; refine (runInner_any s _ hs).mono ?_; rintro e w' ⟨rfl, rfl⟩; rw [HR.out]))
        go_ret
        exact ⟨by rw [HF.out]; rfl, f0⟩

set_option maxHeartbeats 1000000 in
set_option maxRecDepth 100000 in
theorem isName_any (s : ByteArray) (w : World) (hT : Spaces w) (hs : s.size ≤ 9223372036854775807) :
    Calls Tryd.prog 16 #[.string s] w (Tells w (nameS s.data.toList)) := by
  go_enter Tryd.func16, Tryd.ntmps16
  go_wp2_with fail
  refine (start_any w hT).mono ?_
  rintro e w1 ⟨r1, r2, rfl, h1, _, b1⟩
  go_wp2_with fail
  refine (name_any r1 r2 s w1 h1 hs).mono ?_
  rintro e w2 ⟨rfl, b2⟩
  go_wp2_with fail
  go_ret
  exact ⟨rfl, b1.then_ b2⟩
end Go.Proofs.YtlfckmekfncboaaDoor
