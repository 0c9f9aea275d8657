/-
  LexJoins: is it a token? lex.right.
-/
import Derived.Test.YtlfckmekfncboaaDoorL18
namespace Go.Proofs.YtlfckmekfncboaaDoor
open Go.RowKit

/-- Is it a token, by its kind, its text and its number? -/
def rightS (k : Int) (x : List UInt8) (n : Int) : Bool :=
  if k = 2 then decide ((numS x).2 = 0 ∧ (numS x).1 = n)
  else if n ≠ 0 then false
  else if k = 0 then decide (x = [])
  else if k = 1 then nameS x
  else if k = 3 then decide (x ∈ wordsL)
  else if k = 4 then decide (x ∈ marksL)
  else false

set_option maxHeartbeats 4000000 in
set_option maxRecDepth 100000 in
theorem right_any (r1 r2 : Nat) (k : Int) (x : List UInt8) (n ln co : Int) (w : World) (h1 : SetIs w r1 wordsB) (h2 : SetIs w r2 marksB) (hx : x.length ≤ 1000) :
    Calls Tryd.prog 31 #[.agg #[.map (some r1), .map (some r2)], .agg #[.int .i64 k, .string (str x), .int .i64 n, .int .i64 ln, .int .i64 co]] w (Tells w (rightS k x n)) := by
  obtain ⟨S, hS⟩ : ∃ S, str x = S := ⟨_, rfl⟩
  have hSl : S.data.toList = x := by rw [← hS, str_list]
  have htl : S.toList = x := by rw [tl_eq, hSl]
  have hsz : S.size ≤ 1000 := by rw [← hS, str_size]; exact hx
  have LK1 : Hid (∀ W, Below w.heap.size w W → (Instr.lookup 52 (.map (some r1)) (.string S) false).run Tryd.prog W = .ok (.bool (decide (x ∈ wordsL))) W) := fun W hW => by rw [← hS]; exact lookup_set (l := wordsL) (h1.below hW) x
  have LK2 : Hid (∀ W, Below w.heap.size w W → (Instr.lookup 52 (.map (some r2)) (.string S) false).run Tryd.prog W = .ok (.bool (decide (x ∈ marksL))) W) := fun W hW => by rw [← hS]; exact lookup_set (l := marksL) (h2.below hW) x
  have H1 := Lib.hid h1
  rw [hS]
  have HSL := Lib.hid hSl
  have HTL := Lib.hid htl
  clear hS hSl htl h1 h2 hx
  go_enter Tryd.func31, Tryd.ntmps31
  have f0 : ∀ o1 o2, Below w.heap.size w ((w.alloc o1).alloc o2) := fun _ _ => ((Below.refl _ w).al _).al _
  by_cases k2 : k = 2
  · have HF : Hid (rightS k x n = decide ((numS x).2 = 0 ∧ (numS x).1 = n)) := by rw [Hid]; unfold rightS; rw [if_pos k2]
    obtain ⟨v, er, hve⟩ : ∃ v er, numS x = (v, er) := ⟨_, _, rfl⟩
    rw [hve] at HF
    have HV := Lib.hid hve
    clear hve
    subst k2
    by_cases he : er = 0
    · subst he
      by_cases hv : v = n
      · have hb : (v == n) = true := by simpa using hv
        go_wp2_with (go_at_call 38; refine (number_any S _ (by omega)).mono ?_; rw [HSL.out, HV.out]; rintro e w' ⟨rfl, rfl⟩)
        go_ret
        exact ⟨by rw [HF.out]; simp [hv], f0 _ _⟩
      · have hb : (v == n) = false := by simpa using hv
        go_wp2_with (go_at_call 38; refine (number_any S _ (by omega)).mono ?_; rw [HSL.out, HV.out]; rintro e w' ⟨rfl, rfl⟩)
        go_ret
        exact ⟨by rw [HF.out]; simp [hv], f0 _ _⟩
    · have hb : (er == 0) = false := by simpa using he
      go_wp2_with (go_at_call 38; refine (number_any S _ (by omega)).mono ?_; rw [HSL.out, HV.out]; rintro e w' ⟨rfl, rfl⟩)
      go_ret
      exact ⟨by rw [HF.out]; simp [he], f0 _ _⟩
  · have kk : (k == 2) = false := by simpa using k2
    by_cases hn : n = 0
    · subst hn
      by_cases k0 : k = 0
      · have HF : Hid (rightS k x 0 = decide (x = [])) := by rw [Hid]; unfold rightS; simp [k0]
        subst k0
        by_cases hx0 : x = []
        · have e1 : S.toList = [] := by rw [HTL.out, hx0]
          have e2 : S.toList.isEmpty = true := by rw [e1]; rfl
          go_wp2_with fail
          go_ret
          exact ⟨by rw [HF.out, decide_eq_true hx0]; rfl, f0 _ _⟩
        · have e1 : ¬ S.toList = [] := by rw [HTL.out]; exact hx0
          have e2 : S.toList.isEmpty = false := by simpa using e1
          go_wp2_with fail
          go_ret
          exact ⟨by rw [HF.out, decide_eq_false hx0]; rfl, f0 _ _⟩
      · have k0b : (k == 0) = false := by simpa using k0
        by_cases k1 : k = 1
        · have HF : Hid (rightS k x 0 = nameS x) := by rw [Hid]; unfold rightS; simp [k1]
          subst k1
          clear k0b kk
          go_wp2_with (go_at_call 28; refine (name_any r1 r2 S _ (H1.out.below (f0 _ _)) (by omega)).mono ?_; rw [HSL.out]; rintro e w' ⟨rfl, b1⟩)
          go_ret
          exact ⟨by rw [HF.out]; rfl, (f0 _ _).then_ b1⟩
        · have k1b : (k == 1) = false := by simpa using k1
          by_cases k3 : k = 3
          · have HF : Hid (rightS k x 0 = decide (x ∈ wordsL)) := by rw [Hid]; unfold rightS; simp [k3]
            subst k3
            have lk := LK1.out _ (f0 (.cells #[.map (some r1), .map (some r2)] 54) (.cells #[.int .i64 3, .string S, .int .i64 0, .int .i64 ln, .int .i64 co] 31))
            generalize decide (x ∈ wordsL) = b at lk HF
            clear k0b k1b kk
            go_wp2_with fail
            go_ret
            exact ⟨by rw [HF.out]; rfl, f0 _ _⟩
          · have k3b : (k == 3) = false := by simpa using k3
            by_cases k4 : k = 4
            · have HF : Hid (rightS k x 0 = decide (x ∈ marksL)) := by rw [Hid]; unfold rightS; simp [k4]
              subst k4
              have lk := LK2.out _ (f0 (.cells #[.map (some r1), .map (some r2)] 54) (.cells #[.int .i64 4, .string S, .int .i64 0, .int .i64 ln, .int .i64 co] 31))
              generalize decide (x ∈ marksL) = b at lk HF
              clear k0b k1b k3b kk
              go_wp2_with fail
              go_ret
              exact ⟨by rw [HF.out]; rfl, f0 _ _⟩
            · have k4b : (k == 4) = false := by simpa using k4
              have HF : Hid (rightS k x 0 = false) := by rw [Hid]; unfold rightS; simp [k0, k1, k2, k3, k4]
              go_wp2_with fail
              go_ret
              exact ⟨by rw [HF.out]; rfl, f0 _ _⟩
    · have HF : Hid (rightS k x n = false) := by rw [Hid]; unfold rightS; rw [if_neg k2, if_pos hn]
      have hnb : (n != 0) = true := by simpa using hn
      go_wp2_with fail
      go_ret
      exact ⟨by rw [HF.out]; rfl, f0 _ _⟩
end Go.Proofs.YtlfckmekfncboaaDoor
