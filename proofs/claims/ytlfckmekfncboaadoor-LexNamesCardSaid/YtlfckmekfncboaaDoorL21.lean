/-
  The document's IsName.
-/
import Derived.Test.YtlfckmekfncboaaDoorL17
import Derived.Test.YtlfckmekfncboaaDoorL18
namespace Go.Proofs.YtlfckmekfncboaaDoor
open Go.RowKit

set_option maxHeartbeats 1000000 in
set_option maxRecDepth 100000 in
theorem refIsName_any (s : ByteArray) (w : World) (hs : s.size ≤ 9223372036854775807) :
    Calls Tryd.prog 17 #[.string s] w (Tells w (nameS s.data.toList)) := by
  obtain ⟨X, hX⟩ : ∃ X, s.data.toList = X := ⟨_, rfl⟩
  have hsz : s.size = X.length := by rw [← hX, size_list]
  have hst : s = str X := ba_ext (by rw [str_list, hX])
  rw [hX]
  have HX := Lib.hid hX
  have HST := Lib.hid hst
  clear hX hst
  go_enter Tryd.func17, Tryd.ntmps17
  have hn : nameS X = (runS X && decide (X.length ≤ 30) && !decide (X ∈ wordsL)) := rfl
  have HN := Lib.hid hn
  clear hn
  cases hr : runS X
  · have HR := Lib.hid hr
    clear hr hsz
    go_wp2_with (first | (go_at_call 29; refine (refRun_any s _ hs).mono ?_; rintro e w' ⟨rfl, rfl⟩; rw [HX.out, HR.out]))
    go_ret
    exact ⟨by rw [HN.out, HR.out]; rfl, Below.refl _ _⟩
  · have HR := Lib.hid hr
    clear hr
    by_cases h30 : X.length ≤ 30
    · have z1 : (s.size : Int) ≤ 30 := by omega
      have HL := Lib.hid (decide_eq_true h30)
      clear h30 hsz
      obtain ⟨b, hb⟩ : ∃ b, decide (X ∈ wordsL) = b := ⟨_, rfl⟩
      have HB := Lib.hid hb
      clear hb
      have f1 : Below w.heap.size w (w.alloc (textsO wordsB)) := (Below.refl _ w).al _
      go_wp2_with (first | (go_at_call 29; refine (refRun_any s _ hs).mono ?_; rintro e w' ⟨rfl, rfl⟩; rw [HX.out, HR.out]) | (go_at_call 15; refine (refWords_any _).mono ?_; rintro e w' ⟨rfl, rfl⟩) | (go_at_call 30; rw [HST.out]; refine (refHas_any wordsL _ 23 23 X _ (texts_rv _ wordsB) (by omega)).mono ?_; rintro e w' ⟨rfl, rfl⟩; rw [HB.out]))
      go_ret
      exact ⟨by rw [HN.out, HR.out, HL.out, HB.out]; simp, f1⟩
    · have z1 : ¬ (s.size : Int) ≤ 30 := by omega
      have HL := Lib.hid (decide_eq_false h30)
      clear h30 hsz
      go_wp2_with (first | (go_at_call 29; refine (refRun_any s _ hs).mono ?_; rintro e w' ⟨rfl, rfl⟩; rw [HX.out, HR.out]))
      go_ret
      exact ⟨by rw [HN.out, HR.out, HL.out]; rfl, Below.refl _ _⟩

end Go.Proofs.YtlfckmekfncboaaDoor
