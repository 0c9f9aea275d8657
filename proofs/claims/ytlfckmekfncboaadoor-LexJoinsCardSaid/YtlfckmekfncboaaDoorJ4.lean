/-
  The document's piece, and its Right.
-/
import Derived.Test.YtlfckmekfncboaaDoorJ1
import Derived.Test.YtlfckmekfncboaaDoorJ2
import Derived.Test.YtlfckmekfncboaaDoorJ3
namespace Go.Proofs.YtlfckmekfncboaaDoor
open Go.RowKit

/-- The token that a piece is. -/
def refPc (x : List UInt8) : Pc := if digB (x.headD 0) = true then ⟨2, x, (numS x).1, (numS x).2⟩ else if letB (x.headD 0) = false then (if x ∈ marksL then ⟨4, x, 0, 0⟩ else noPc 3) else if 30 < x.length then noPc 2 else if x ∈ wordsL then ⟨3, x, 0, 0⟩ else ⟨1, x, 0, 0⟩

theorem texts_rv1 (w : World) (o : Obj) (l : List ByteArray) : RV ((w.alloc o).alloc (textsO l)) (some ⟨w.heap.size + 1, 0, none⟩) l.length (l.map Value.string) := by
  have h := texts_rv (w.alloc o) l
  rw [show (w.alloc o).heap.size = w.heap.size + 1 by simp] at h
  exact h

set_option maxHeartbeats 1000000 in
set_option maxRecDepth 100000 in
theorem refPiece_any (x : List UInt8) (w : World) (h0 : x ≠ []) (hx : x.length ≤ 1000) :
    Calls Tryd.prog 47 #[.string (str x)] w fun e w' => e = .returned (pcV (refPc x)) ∧ Below w.heap.size w w' := by
  obtain ⟨c0, r, hcr⟩ := List.exists_cons_of_ne_nil h0
  obtain ⟨s, hs⟩ : ∃ s, str x = s := ⟨_, rfl⟩
  have hsz : s.size = x.length := by rw [← hs, str_size]
  have hpos : 0 < s.size := by rw [hsz, hcr]; simp
  have hsl : s.data.toList = x := by rw [← hs, str_list]
  have hc0 : s[0] = c0 := by
    have := at_list s hpos
    rw [hsl, hcr] at this
    simpa using this.symm
  have hp : refPc x = if digB c0 = true then ⟨2, x, (numS x).1, (numS x).2⟩ else if letB c0 = false then (if x ∈ marksL then ⟨4, x, 0, 0⟩ else noPc 3) else if 30 < x.length then noPc 2 else if x ∈ wordsL then ⟨3, x, 0, 0⟩ else ⟨1, x, 0, 0⟩ := by
    unfold refPc
    rw [hcr]
    rfl
  have HP := Lib.hid hp
  have HSL := Lib.hid hsl
  have HS := Lib.hid hs
  rw [hs]
  clear hp hsl hs hcr h0
  have f0 : ∀ o, Below w.heap.size w (w.alloc o) := fun _ => (Below.refl _ w).al _
  have f1 : ∀ o o2, Below w.heap.size w ((w.alloc o).alloc o2) := fun _ _ => ((Below.refl _ w).al _).al _
  go_enter Tryd.func47, Tryd.ntmps47
  cases hd : digB c0
  · have HD := Lib.hid hd
    clear hd
    cases hl : letB c0
    · have HL := Lib.hid hl
      clear hl
      by_cases hm : x ∈ marksL
      · have HF : Hid (refPc x = ⟨4, x, 0, 0⟩) := by rw [Hid, HP.out, if_neg (by rw [HD.out]; simp), if_pos HL.out, if_pos hm]
        have HM := Lib.hid (decide_eq_true hm)
        clear hm
        go_wp2_with (first | (go_at_call 41; refine (refLetter_any c0 _).mono ?_; rintro e w' ⟨rfl, rfl⟩; rw [HL.out]) | (go_at_call 42; refine (refDigit_any c0 _).mono ?_; rintro e w' ⟨rfl, rfl⟩; rw [HD.out]) | (go_at_call 13; refine (refMarks_any _).mono ?_; rintro e w5 ⟨rfl, rfl⟩) | (go_at_call 30; rw [← HS.out]; refine (refHas_any marksL _ 16 16 x _ (texts_rv1 _ _ marksB) (by omega)).mono ?_; rintro e w6 ⟨rfl, rfl⟩; rw [HM.out, HS.out]))
        refine bodyPost_ret (v := .tuple #[.agg #[.int .i64 4, .string s, .int .i64 0, .int .i64 0, .int .i64 0], .int .i64 0]) (by simp [results, Tryd.results47, go_sem]) rfl ?_
        exact ⟨by rw [HF.out]; unfold pcV; (first | rw [HS.out] | rfl), by first | exact f1 _ _ | exact f0 _⟩
      · have HF : Hid (refPc x = noPc 3) := by rw [Hid, HP.out, if_neg (by rw [HD.out]; simp), if_pos HL.out, if_neg hm]
        have HM := Lib.hid (decide_eq_false hm)
        clear hm
        go_wp2_with (first | (go_at_call 41; refine (refLetter_any c0 _).mono ?_; rintro e w' ⟨rfl, rfl⟩; rw [HL.out]) | (go_at_call 42; refine (refDigit_any c0 _).mono ?_; rintro e w' ⟨rfl, rfl⟩; rw [HD.out]) | (go_at_call 13; refine (refMarks_any _).mono ?_; rintro e w5 ⟨rfl, rfl⟩) | (go_at_call 30; rw [← HS.out]; refine (refHas_any marksL _ 16 16 x _ (texts_rv1 _ _ marksB) (by omega)).mono ?_; rintro e w6 ⟨rfl, rfl⟩; rw [HM.out, HS.out]))
        refine bodyPost_ret (v := .tuple #[.agg #[.int .i64 0, .string ⟨#[]⟩, .int .i64 0, .int .i64 0, .int .i64 0], .int .i64 3]) (by simp [results, Tryd.results47, go_sem]) rfl ?_
        exact ⟨by rw [HF.out]; unfold pcV; (first | rw [HS.out] | rfl), by first | exact f1 _ _ | exact f0 _⟩
    · have HL := Lib.hid hl
      clear hl
      by_cases h30 : 30 < x.length
      · have HF : Hid (refPc x = noPc 2) := by rw [Hid, HP.out, if_neg (by rw [HD.out]; simp), if_neg (by rw [HL.out]; simp), if_pos h30]
        have z1 : (30 : Int) < (s.size : Int) := by omega
        clear h30 hsz
        go_wp2_with (first | (go_at_call 41; refine (refLetter_any c0 _).mono ?_; rintro e w' ⟨rfl, rfl⟩; rw [HL.out]) | (go_at_call 42; refine (refDigit_any c0 _).mono ?_; rintro e w' ⟨rfl, rfl⟩; rw [HD.out]))
        refine bodyPost_ret (v := .tuple #[.agg #[.int .i64 0, .string ⟨#[]⟩, .int .i64 0, .int .i64 0, .int .i64 0], .int .i64 2]) (by simp [results, Tryd.results47, go_sem]) rfl ?_
        exact ⟨by rw [HF.out]; unfold pcV; (first | rw [HS.out] | rfl), by first | exact f1 _ _ | exact f0 _⟩
      · have z1 : ¬ (30 : Int) < (s.size : Int) := by omega
        by_cases hm : x ∈ wordsL
        · have HF : Hid (refPc x = ⟨3, x, 0, 0⟩) := by rw [Hid, HP.out, if_neg (by rw [HD.out]; simp), if_neg (by rw [HL.out]; simp), if_neg h30, if_pos hm]
          have HM := Lib.hid (decide_eq_true hm)
          clear hm h30 hsz
          go_wp2_with (first | (go_at_call 41; refine (refLetter_any c0 _).mono ?_; rintro e w' ⟨rfl, rfl⟩; rw [HL.out]) | (go_at_call 42; refine (refDigit_any c0 _).mono ?_; rintro e w' ⟨rfl, rfl⟩; rw [HD.out]) | (go_at_call 15; refine (refWords_any _).mono ?_; rintro e w5 ⟨rfl, rfl⟩) | (go_at_call 30; rw [← HS.out]; refine (refHas_any wordsL _ 23 23 x _ (texts_rv1 _ _ wordsB) (by omega)).mono ?_; rintro e w6 ⟨rfl, rfl⟩; rw [HM.out, HS.out]))
          refine bodyPost_ret (v := .tuple #[.agg #[.int .i64 3, .string s, .int .i64 0, .int .i64 0, .int .i64 0], .int .i64 0]) (by simp [results, Tryd.results47, go_sem]) rfl ?_
          exact ⟨by rw [HF.out]; unfold pcV; (first | rw [HS.out] | rfl), by first | exact f1 _ _ | exact f0 _⟩
        · have HF : Hid (refPc x = ⟨1, x, 0, 0⟩) := by rw [Hid, HP.out, if_neg (by rw [HD.out]; simp), if_neg (by rw [HL.out]; simp), if_neg h30, if_neg hm]
          have HM := Lib.hid (decide_eq_false hm)
          clear hm h30 hsz
          go_wp2_with (first | (go_at_call 41; refine (refLetter_any c0 _).mono ?_; rintro e w' ⟨rfl, rfl⟩; rw [HL.out]) | (go_at_call 42; refine (refDigit_any c0 _).mono ?_; rintro e w' ⟨rfl, rfl⟩; rw [HD.out]) | (go_at_call 15; refine (refWords_any _).mono ?_; rintro e w5 ⟨rfl, rfl⟩) | (go_at_call 30; rw [← HS.out]; refine (refHas_any wordsL _ 23 23 x _ (texts_rv1 _ _ wordsB) (by omega)).mono ?_; rintro e w6 ⟨rfl, rfl⟩; rw [HM.out, HS.out]))
          refine bodyPost_ret (v := .tuple #[.agg #[.int .i64 1, .string s, .int .i64 0, .int .i64 0, .int .i64 0], .int .i64 0]) (by simp [results, Tryd.results47, go_sem]) rfl ?_
          exact ⟨by rw [HF.out]; unfold pcV; (first | rw [HS.out] | rfl), by first | exact f1 _ _ | exact f0 _⟩
  · have HD := Lib.hid hd
    have HF : Hid (refPc x = ⟨2, x, (numS x).1, (numS x).2⟩) := by rw [Hid, HP.out, if_pos HD.out]
    obtain ⟨v, er, hve⟩ : ∃ v er, numS x = (v, er) := ⟨_, _, rfl⟩
    rw [hve] at HF
    have HV := Lib.hid hve
    clear hd hve
    go_wp2_with (first | (go_at_call 42; refine (refDigit_any c0 _).mono ?_; rintro e w' ⟨rfl, rfl⟩; rw [HD.out]) | (go_at_call 51; refine (refNumber_any s _ hpos (by omega)).mono ?_; rw [HSL.out, HV.out]; rintro e w' ⟨rfl, rfl⟩))
    refine bodyPost_ret (v := .tuple #[.agg #[.int .i64 2, .string s, .int .i64 v, .int .i64 0, .int .i64 0], .int .i64 er]) (by simp [results, Tryd.results47, go_sem]) rfl ?_
    exact ⟨by rw [HF.out]; unfold pcV; (first | rw [HS.out] | rfl), by first | exact f1 _ _ | exact f0 _⟩
end Go.Proofs.YtlfckmekfncboaaDoor
