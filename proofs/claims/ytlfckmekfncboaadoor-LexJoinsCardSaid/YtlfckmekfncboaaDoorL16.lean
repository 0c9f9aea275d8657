/-
  Names: lex.IsName, and the document's.
-/
import Derived.Test.YtlfckmekfncboaaDoorL10
import Derived.Test.YtlfckmekfncboaaDoorL7
import Derived.Laws.Closers25b
namespace Go.Proofs.YtlfckmekfncboaaDoor
open Go.RowKit

set_option maxHeartbeats 1000000 in
set_option maxRecDepth 100000 in
theorem refWords_any (w : World) : Calls Tryd.prog 15 #[] w fun e w' => e = .returned (.slice (some ⟨w.heap.size, 0, none⟩) 23 23) ∧ w' = w.alloc (textsO wordsB) := by
  go_enter Tryd.func15, Tryd.ntmps15
  go_wp2_with fail
  go_ret
  exact ⟨rfl, rfl⟩

set_option maxHeartbeats 1000000 in
set_option maxRecDepth 100000 in
theorem refHas_any (l : List (List UInt8)) (A : Option Addr) (n c : Nat) (x : List UInt8) (w : World) (hr : RV w A n ((l.map str).map Value.string)) (hn : n ≤ 1000) :
    Calls Tryd.prog 30 #[.slice A n c, .string (str x)] w fun e w' => e = .returned (.bool (decide (x ∈ l))) ∧ w' = w := by
  have hlen : l.length = n := by have := hr.len; simpa using this.symm
  obtain ⟨S, hS⟩ : ∃ S, str x = S := ⟨_, rfl⟩
  have hSl : S.toList = x := by rw [← hS, str_tl]
  rw [hS]
  have HR := Lib.hid hr
  have HN := Lib.hid hlen
  clear hr hlen hS
  go_enter Tryd.func30, Tryd.ntmps30
  go_wp2_with fail
  go_loopw [5] (fun i wr => ∃ k : Nat, k ≤ n ∧ i = .int .i64 k ∧ Hid (¬ x ∈ l.take k) ∧ wr = w) (fun i _ => n - (intOf i).toNat)
  case atStart => exact ⟨0, by omega, rfl, (by rw [Hid]; simp), rfl⟩
  case round =>
    obtain ⟨k, hkl, rfl, hs, rfl⟩ := hrel
    by_cases hlt : k < n
    · obtain ⟨b, o, rfl, hb, hl, hc⟩ := HR.out.at_ hlt
      have hkl' : k < l.length := by rw [HN.out]; exact hlt
      rw [List.getElem_map, List.getElem_map] at hc
      have htk := Lib.hid (List.take_succ_eq_append_getElem hkl')
      generalize l[k]'hkl' = y at hc htk
      obtain ⟨T, hT⟩ : ∃ T, str y = T := ⟨_, rfl⟩
      have hTl : T.toList = y := by rw [← hT, str_tl]
      rw [hT] at hc
      clear hT hl
      by_cases hxy : y = x
      · have e1 : T.toList = S.toList := by rw [hTl, hSl, hxy]
        have e2 : (T.toList == S.toList) = true := by rw [e1]; simp
        have HM := Lib.hid (show x ∈ l from List.mem_of_mem_take (i := k + 1) (by rw [htk.out, hxy]; simp))
        clear hSl hTl hxy
        go_wp2_with fail
        go_ret
        exact ⟨by rw [decide_eq_true HM.out]; rfl, rfl⟩
      · have e1 : ¬ T.toList = S.toList := by rw [hTl, hSl]; exact hxy
        have e2 : (T.toList == S.toList) = false := by simpa using e1
        have hnext : Hid (¬ x ∈ l.take (k + 1)) := by
          rw [Hid, htk.out, List.mem_append]
          rintro (h | h)
          · exact hs.out h
          · simp at h
            exact hxy h.symm
        clear hSl hTl hxy
        go_wp2_with fail
        go_roundw
        case rel => exact ⟨k + 1, by omega, by go_num, hnext, trivial⟩
        case measure => simp [intOf]; omega
    · obtain rfl : k = n := by omega
      have HM : Hid (¬ x ∈ l) := by
        have := hs.out
        rw [List.take_of_length_le (by rw [HN.out]; omega)] at this
        exact this
      go_wp2_with fail
      go_ret
      exact ⟨by rw [decide_eq_false HM.out]; rfl, rfl⟩
/-- A letter, and then letters, digits and _. -/
def runS (l : List UInt8) : Bool := decide (l ≠ [] ∧ letB (l.headD 0) = true ∧ ∀ c ∈ l, innB c = true)
def nameS (l : List UInt8) : Bool := runS l && decide (l.length ≤ 30) && !decide (l ∈ wordsL)
end Go.Proofs.YtlfckmekfncboaaDoor
