
/-
  Names: lex.IsName, and the document's. lex.IsName. LexJoins: is it a token? lex.right.
-/
import Derived.Test.YtdmlnoeneoomfaaDoorL10
import Derived.Test.YtdmlnoeneoomfaaDoorL7
import Derived.Laws.Closers25b
import Derived.Deep.RegionHeld3
namespace Go.Proofs.YtdmlnoeneoomfaaDoor
open Go.RowKit

set_option maxHeartbeats 1000000 in
set_option maxRecDepth 100000 in
theorem refWords_any (w : World) : Calls Tryd.prog 44 #[] w fun e w' => e = .returned (.slice (some ⟨w.heap.size, 0, none⟩) 23 23) ∧ w' = w.alloc (textsO wordsB) := by
  go_enter Tryd.func44, Tryd.ntmps44
  go_wp2_with fail
  go_ret
  exact ⟨rfl, rfl⟩

set_option maxHeartbeats 1000000 in
set_option maxRecDepth 100000 in
theorem refHas_any (l : List (List UInt8)) (A : Option Addr) (n c : Nat) (x : List UInt8) (w : World) (hr : RV w A n ((l.map str).map Value.string)) (hn : n ≤ 1000) :
    Calls Tryd.prog 43 #[.slice A n c, .string (str x)] w fun e w' => e = .returned (.bool (decide (x ∈ l))) ∧ w' = w := by
  have hlen : l.length = n := by have := hr.len; simpa using this.symm
  obtain ⟨S, hS⟩ : ∃ S, str x = S := ⟨_, rfl⟩
  have hSl : S.toList = x := by rw [← hS, str_tl]
  rw [hS]
  have HR := Lib.hid hr
  have HN := Lib.hid hlen
  clear hr hlen hS
  go_enter Tryd.func43, Tryd.ntmps43
  go_wp2_with fail
  go_loopw [5] (fun i wr => ∃ k : Nat, k ≤ n ∧ i = .int .i64 k ∧ Hid (¬ x ∈ l.take k) ∧ wr = w) (fun i _ => n - (intOf i).toNat)
  case atStart => exact ⟨0, by omega, rfl, (by rw [Hid]; simp), rfl⟩
  case round =>
    obtain ⟨k, hkl, rfl, hs, rfl⟩ := hrel
    by_cases hlt : k < n
    · obtain ⟨b, o, rfl, hb, hl, hc⟩ := HR.out.at_ hlt
      have hkl' : k < l.length := by rw [HN.out]; exact hlt
      rw [List.getElem_map, List.getElem_map] at hc
      have htk := Lib.hid (List.take_succ_eq_append_getElem hkl')
      generalize l[k]'hkl' = y at hc htk
      obtain ⟨T, hT⟩ : ∃ T, str y = T := ⟨_, rfl⟩
      have hTl : T.toList = y := by rw [← hT, str_tl]
      rw [hT] at hc
      clear hT hl
      by_cases hxy : y = x
      · have e1 : T.toList = S.toList := by rw [hTl, hSl, hxy]
        have e2 : (T.toList == S.toList) = true := by rw [e1]; simp
        have HM := Lib.hid (show x ∈ l from List.mem_of_mem_take (i := k + 1) (by rw [htk.out, hxy]; simp))
        clear hSl hTl hxy
        go_wp2_with fail
        go_ret
        exact ⟨by rw [decide_eq_true HM.out]; rfl, rfl⟩
      · have e1 : ¬ T.toList = S.toList := by rw [hTl, hSl]; exact hxy
        have e2 : (T.toList == S.toList) = false := by simpa using e1
        have hnext : Hid (¬ x ∈ l.take (k + 1)) := by
          rw [Hid, htk.out, List.mem_append]
          rintro (h | h)
          · exact hs.out h
          · simp at h
            exact hxy h.symm
        clear hSl hTl hxy
        go_wp2_with fail
        go_roundw
        case rel => exact ⟨k + 1, by omega, by go_num, hnext, trivial⟩
        case measure => simp [intOf]; omega
    · obtain rfl : k = n := by omega
      have HM : Hid (¬ x ∈ l) := by
        have := hs.out
        rw [List.take_of_length_le (by rw [HN.out]; omega)] at this
        exact this
      go_wp2_with fail
      go_ret
      exact ⟨by rw [decide_eq_false HM.out]; rfl, rfl⟩
/-- A letter, and then letters, digits and _. -/
def runS (l : List UInt8) : Bool := decide (l ≠ [] ∧ letB (l.headD 0) = true ∧ ∀ c ∈ l, innB c = true)
def nameS (l : List UInt8) : Bool := runS l && decide (l.length ≤ 30) && !decide (l ∈ wordsL)
end Go.Proofs.YtdmlnoeneoomfaaDoor
namespace Go.Proofs.YtdmlnoeneoomfaaDoor
open Go.RowKit

theorem preN_of_all {p : UInt8 → Bool} {l : List UInt8} : preN p l = l.length ↔ ∀ c ∈ l, p c = true := ⟨all_pre, preN_all⟩

set_option maxHeartbeats 4000000 in
set_option maxRecDepth 100000 in
theorem name_any (r1 r2 : Nat) (s : ByteArray) (w : World) (h1 : SetIs w r1 wordsB) (hs : s.size ≤ 9223372036854775807) :
    Calls Tryd.prog 66 #[.agg #[.map (some r1), .map (some r2)], .string s] w (Tells w (nameS s.data.toList)) := by
  obtain ⟨X, hX⟩ : ∃ X, s.data.toList = X := ⟨_, rfl⟩
  have htl : s.toList = X := by rw [← hX, tl_eq]
  have hsz : s.size = X.length := by rw [← hX, size_list]
  have hst : s = str X := ba_ext (by rw [str_list, hX])
  have f0 : Below w.heap.size w (w.alloc (.cells #[.map (some r1), .map (some r2)] 82)) := (Below.refl _ w).al _
  have lk := lookup_set (l := wordsL) (h1.below f0) X
  rw [← hst] at lk
  rw [hX]
  have c0 : (w.alloc (.cells #[.map (some r1), .map (some r2)] 82)).cell? ⟨w.heap.size, 0, none⟩ = some (.map (some r1)) := (Blk.new w 82 #[.map (some r1), .map (some r2)]).cell 0
  have HX := Lib.hid hX
  have HST := Lib.hid hst
  have HSZ := Lib.hid hsz
  clear hX hst h1
  go_enter Tryd.func66, Tryd.ntmps66
  cases X with
  | nil =>
    have e2 : s.toList.isEmpty = true := by rw [htl]; rfl
    clear lk c0 hsz HSZ
    go_wp2_with fail
    go_ret
    exact ⟨rfl, f0⟩
  | cons c X =>
    have e1 : ¬ s.toList = [] := by rw [htl]; simp
    have e2 : s.toList.isEmpty = false := by rw [htl]; rfl
    have hpos : 0 < s.size := by rw [hsz]; simp
    have hc : s[0] = c := by
      have := at_list s hpos
      rw [HX.out] at this
      simpa using this.symm
    cases hl : letB c
    · have HL := Lib.hid hl
      have HF : Hid (nameS (c :: X) = false) := by
        rw [Hid]; unfold nameS runS; simp [HL.out]
      clear hl lk c0 hsz htl
      go_wp2_with (first | (go_at_call 53; refine (letter_any c _).mono ?_; rintro e w' ⟨rfl, rfl⟩; rw [HL.out]))
      go_ret
      exact ⟨by rw [HF.out]; rfl, f0⟩
    · have HL := Lib.hid hl
      clear hl
      obtain ⟨R, hR⟩ : ∃ R, s.extract 0 (preN innB (c :: X)) = R := ⟨_, rfl⟩
      have hRl : R.toList = (c :: X).take (preN innB (c :: X)) := by rw [← hR, HST.out, ext_str, str_tl, str_list]
      have hRR : s.extract 0 (preN innB s.data.toList) = R := by rw [HX.out, hR]
      have HR := Lib.hid hRR
      clear hRR hR
      by_cases hall : preN innB (c :: X) = (c :: X).length
      · have e3 : R.toList = s.toList := by rw [hRl, htl, hall, List.take_length]
        have e4 : (R.toList == s.toList) = true := by rw [e3]; simp
        have HA := Lib.hid (preN_of_all.1 hall)
        have HRUN : Hid (runS (c :: X) = true) := by
          rw [Hid]; unfold runS
          rw [decide_eq_true_iff]
          exact ⟨by simp, HL.out, HA.out⟩
        clear hRl hall
        by_cases h30 : (c :: X).length ≤ 30
        · have z1 : (s.size : Int) ≤ 30 := by omega
          have HF : Hid (nameS (c :: X) = !decide ((c :: X) ∈ wordsL)) := by
            rw [Hid]; unfold nameS; rw [HRUN.out, decide_eq_true h30]; simp
          have LK := Lib.hid lk
          clear lk
          generalize decide ((c :: X) ∈ wordsL) = b at LK HF
          have lk2 := LK.out
          clear h30 hsz htl
          go_wp2_with (first | (go_at_call 53; refine (letter_any c _).mono ?_; rintro e w' ⟨rfl, rfl⟩; rw [HL.out]) | (go_at_call 31; refine (runInner_any s _ hs).mono ?_; rintro e w' ⟨rfl, rfl⟩; rw [HR.out]))
          go_ret
          exact ⟨by rw [HF.out]; rfl, f0⟩
        · have z1 : ¬ (s.size : Int) ≤ 30 := by omega
          have HF : Hid (nameS (c :: X) = false) := by
            rw [Hid]; unfold nameS; rw [HRUN.out, decide_eq_false h30]; simp
          clear lk h30 hsz htl
          go_wp2_with (first | (go_at_call 53; refine (letter_any c _).mono ?_; rintro e w' ⟨rfl, rfl⟩; rw [HL.out]) | (go_at_call 31; refine (runInner_any s _ hs).mono ?_; rintro e w' ⟨rfl, rfl⟩; rw [HR.out]))
          go_ret
          exact ⟨by rw [HF.out]; rfl, f0⟩
      · have e3 : ¬ R.toList = s.toList := by
          rw [hRl, htl]
          intro h
          have := congrArg List.length h
          rw [List.length_take] at this
          have := preN_le innB (c :: X)
          omega
        have e4 : (R.toList == s.toList) = false := by simpa using e3
        have HF : Hid (nameS (c :: X) = false) := by
          rw [Hid]; unfold nameS runS
          rw [decide_eq_false (fun h => hall (preN_all h.2.2))]
          simp
        clear lk hall hsz htl hRl
        go_wp2_with (first | (go_at_call 53; refine (letter_any c _).mono ?_; rintro e w' ⟨rfl, rfl⟩; rw [HL.out]) | (go_at_call 31; refine (runInner_any s _ hs).mono ?_; rintro e w' ⟨rfl, rfl⟩; rw [HR.out]))
        go_ret
        exact ⟨by rw [HF.out]; rfl, f0⟩

end Go.Proofs.YtdmlnoeneoomfaaDoor
namespace Go.Proofs.YtdmlnoeneoomfaaDoor
open Go.RowKit

/-- Is it a token, by its kind, its text and its number? -/
def rightS (k : Int) (x : List UInt8) (n : Int) : Bool :=
  if k = 2 then decide ((numS x).2 = 0 ∧ (numS x).1 = n)
  else if n ≠ 0 then false
  else if k = 0 then decide (x = [])
  else if k = 1 then nameS x
  else if k = 3 then decide (x ∈ wordsL)
  else if k = 4 then decide (x ∈ marksL)
  else false

set_option maxHeartbeats 4000000 in
set_option maxRecDepth 100000 in
theorem right_any (r1 r2 : Nat) (k : Int) (x : List UInt8) (n ln co : Int) (w : World) (h1 : SetIs w r1 wordsB) (h2 : SetIs w r2 marksB) (hx : x.length ≤ 1000) :
    Calls Tryd.prog 36 #[.agg #[.map (some r1), .map (some r2)], .agg #[.int .i64 k, .string (str x), .int .i64 n, .int .i64 ln, .int .i64 co]] w (Tells w (rightS k x n)) := by
  obtain ⟨S, hS⟩ : ∃ S, str x = S := ⟨_, rfl⟩
  have hSl : S.data.toList = x := by rw [← hS, str_list]
  have htl : S.toList = x := by rw [tl_eq, hSl]
  have hsz : S.size ≤ 1000 := by rw [← hS, str_size]; exact hx
  have LK1 : Hid (∀ W, Below w.heap.size w W → (Instr.lookup 80 (.map (some r1)) (.string S) false).run Tryd.prog W = .ok (.bool (decide (x ∈ wordsL))) W) := fun W hW => by rw [← hS]; exact lookup_set (l := wordsL) (h1.below hW) x
  have LK2 : Hid (∀ W, Below w.heap.size w W → (Instr.lookup 80 (.map (some r2)) (.string S) false).run Tryd.prog W = .ok (.bool (decide (x ∈ marksL))) W) := fun W hW => by rw [← hS]; exact lookup_set (l := marksL) (h2.below hW) x
  have H1 := Lib.hid h1
  rw [hS]
  have HSL := Lib.hid hSl
  have HTL := Lib.hid htl
  clear hS hSl htl h1 h2 hx
  go_enter Tryd.func36, Tryd.ntmps36
  have f0 : ∀ o1 o2, Below w.heap.size w ((w.alloc o1).alloc o2) := fun _ _ => ((Below.refl _ w).al _).al _
  by_cases k2 : k = 2
  · have HF : Hid (rightS k x n = decide ((numS x).2 = 0 ∧ (numS x).1 = n)) := by rw [Hid]; unfold rightS; rw [if_pos k2]
    obtain ⟨v, er, hve⟩ : ∃ v er, numS x = (v, er) := ⟨_, _, rfl⟩
    rw [hve] at HF
    have HV := Lib.hid hve
    clear hve
    subst k2
    by_cases he : er = 0
    · subst he
      by_cases hv : v = n
      · have hb : (v == n) = true := by simpa using hv
        go_wp2_with (go_at_call 55; refine (number_any S _ (by omega)).mono ?_; rw [HSL.out, HV.out]; rintro e w' ⟨rfl, rfl⟩)
        go_ret
        exact ⟨by rw [HF.out]; simp [hv], f0 _ _⟩
      · have hb : (v == n) = false := by simpa using hv
        go_wp2_with (go_at_call 55; refine (number_any S _ (by omega)).mono ?_; rw [HSL.out, HV.out]; rintro e w' ⟨rfl, rfl⟩)
        go_ret
        exact ⟨by rw [HF.out]; simp [hv], f0 _ _⟩
    · have hb : (er == 0) = false := by simpa using he
      go_wp2_with (go_at_call 55; refine (number_any S _ (by omega)).mono ?_; rw [HSL.out, HV.out]; rintro e w' ⟨rfl, rfl⟩)
      go_ret
      exact ⟨by rw [HF.out]; simp [he], f0 _ _⟩
  · have kk : (k == 2) = false := by simpa using k2
    by_cases hn : n = 0
    · subst hn
      by_cases k0 : k = 0
      · have HF : Hid (rightS k x 0 = decide (x = [])) := by rw [Hid]; unfold rightS; simp [k0]
        subst k0
        by_cases hx0 : x = []
        · have e1 : S.toList = [] := by rw [HTL.out, hx0]
          have e2 : S.toList.isEmpty = true := by rw [e1]; rfl
          go_wp2_with fail
          go_ret
          exact ⟨by rw [HF.out, decide_eq_true hx0]; rfl, f0 _ _⟩
        · have e1 : ¬ S.toList = [] := by rw [HTL.out]; exact hx0
          have e2 : S.toList.isEmpty = false := by simpa using e1
          go_wp2_with fail
          go_ret
          exact ⟨by rw [HF.out, decide_eq_false hx0]; rfl, f0 _ _⟩
      · have k0b : (k == 0) = false := by simpa using k0
        by_cases k1 : k = 1
        · have HF : Hid (rightS k x 0 = nameS x) := by rw [Hid]; unfold rightS; simp [k1]
          subst k1
          clear k0b kk
          go_wp2_with (go_at_call 66; refine (name_any r1 r2 S _ (H1.out.below (f0 _ _)) (by omega)).mono ?_; rw [HSL.out]; rintro e w' ⟨rfl, b1⟩)
          go_ret
          exact ⟨by rw [HF.out]; rfl, (f0 _ _).then_ b1⟩
        · have k1b : (k == 1) = false := by simpa using k1
          by_cases k3 : k = 3
          · have HF : Hid (rightS k x 0 = decide (x ∈ wordsL)) := by rw [Hid]; unfold rightS; simp [k3]
            subst k3
            have lk := LK1.out _ (f0 (.cells #[.map (some r1), .map (some r2)] 82) (.cells #[.int .i64 3, .string S, .int .i64 0, .int .i64 ln, .int .i64 co] 87))
            generalize decide (x ∈ wordsL) = b at lk HF
            clear k0b k1b kk
            go_wp2_with fail
            go_ret
            exact ⟨by rw [HF.out]; rfl, f0 _ _⟩
          · have k3b : (k == 3) = false := by simpa using k3
            by_cases k4 : k = 4
            · have HF : Hid (rightS k x 0 = decide (x ∈ marksL)) := by rw [Hid]; unfold rightS; simp [k4]
              subst k4
              have lk := LK2.out _ (f0 (.cells #[.map (some r1), .map (some r2)] 82) (.cells #[.int .i64 4, .string S, .int .i64 0, .int .i64 ln, .int .i64 co] 87))
              generalize decide (x ∈ marksL) = b at lk HF
              clear k0b k1b k3b kk
              go_wp2_with fail
              go_ret
              exact ⟨by rw [HF.out]; rfl, f0 _ _⟩
            · have k4b : (k == 4) = false := by simpa using k4
              have HF : Hid (rightS k x 0 = false) := by rw [Hid]; unfold rightS; simp [k0, k1, k2, k3, k4]
              go_wp2_with fail
              go_ret
              exact ⟨by rw [HF.out]; rfl, f0 _ _⟩
    · have HF : Hid (rightS k x n = false) := by rw [Hid]; unfold rightS; rw [if_neg k2, if_pos hn]
      have hnb : (n != 0) = true := by simpa using hn
      go_wp2_with fail
      go_ret
      exact ⟨by rw [HF.out]; rfl, f0 _ _⟩
end Go.Proofs.YtdmlnoeneoomfaaDoor
