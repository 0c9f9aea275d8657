
/-
  LexJoins: is it a token? lex.right. The document's number. The document's end: where the piece that a text begins with ends. The document's piece, and its Right. The document's Right is the program's: the law. The document's Right: the walk.
-/
import Derived.Test.YtdmlnoeneoomfaaDoorLW
import Derived.IntWalk
import Derived.Test.YtdmlnoeneoomfaaDoorL11
import Derived.Deep.RegionHeld3
import Derived.Test.YtdmlnoeneoomfaaDoorL9
namespace Go.Proofs.YtdmlnoeneoomfaaDoor
open Go.RowKit

/-- Is it a token, by its kind, its text and its number? -/
def rightS (k : Int) (x : List UInt8) (n : Int) : Bool :=
  if k = 2 then decide ((numS x).2 = 0 ∧ (numS x).1 = n)
  else if n ≠ 0 then false
  else if k = 0 then decide (x = [])
  else if k = 1 then nameS x
  else if k = 3 then decide (x ∈ wordsL)
  else if k = 4 then decide (x ∈ marksL)
  else false

set_option maxHeartbeats 4000000 in
set_option maxRecDepth 100000 in
theorem right_any (r1 r2 : Nat) (k : Int) (x : List UInt8) (n ln co : Int) (w : World) (h1 : SetIs w r1 wordsB) (h2 : SetIs w r2 marksB) (hx : x.length ≤ 1000) :
    Calls Tryd.prog 36 #[.agg #[.map (some r1), .map (some r2)], .agg #[.int .i64 k, .string (str x), .int .i64 n, .int .i64 ln, .int .i64 co]] w (Tells w (rightS k x n)) := by
  obtain ⟨S, hS⟩ : ∃ S, str x = S := ⟨_, rfl⟩
  have hSl : S.data.toList = x := by rw [← hS, str_list]
  have htl : S.toList = x := by rw [tl_eq, hSl]
  have hsz : S.size ≤ 1000 := by rw [← hS, str_size]; exact hx
  have LK1 : Hid (∀ W, Below w.heap.size w W → (Instr.lookup 80 (.map (some r1)) (.string S) false).run Tryd.prog W = .ok (.bool (decide (x ∈ wordsL))) W) := fun W hW => by rw [← hS]; exact lookup_set (l := wordsL) (h1.below hW) x
  have LK2 : Hid (∀ W, Below w.heap.size w W → (Instr.lookup 80 (.map (some r2)) (.string S) false).run Tryd.prog W = .ok (.bool (decide (x ∈ marksL))) W) := fun W hW => by rw [← hS]; exact lookup_set (l := marksL) (h2.below hW) x
  have H1 := Lib.hid h1
  rw [hS]
  have HSL := Lib.hid hSl
  have HTL := Lib.hid htl
  clear hS hSl htl h1 h2 hx
  go_enter Tryd.func36, Tryd.ntmps36
  have f0 : ∀ o1 o2, Below w.heap.size w ((w.alloc o1).alloc o2) := fun _ _ => ((Below.refl _ w).al _).al _
  by_cases k2 : k = 2
  · have HF : Hid (rightS k x n = decide ((numS x).2 = 0 ∧ (numS x).1 = n)) := by rw [Hid]; unfold rightS; rw [if_pos k2]
    obtain ⟨v, er, hve⟩ : ∃ v er, numS x = (v, er) := ⟨_, _, rfl⟩
    rw [hve] at HF
    have HV := Lib.hid hve
    clear hve
    subst k2
    by_cases he : er = 0
    · subst he
      by_cases hv : v = n
      · have hb : (v == n) = true := by simpa using hv
        go_wp2_with (go_at_call 55; refine (number_any S _ (by omega)).mono ?_; rw [HSL.out, HV.out]; rintro e w' ⟨rfl, rfl⟩)
        go_ret
        exact ⟨by rw [HF.out]; simp [hv], f0 _ _⟩
      · have hb : (v == n) = false := by simpa using hv
        go_wp2_with (go_at_call 55; refine (number_any S _ (by omega)).mono ?_; rw [HSL.out, HV.out]; rintro e w' ⟨rfl, rfl⟩)
        go_ret
        exact ⟨by rw [HF.out]; simp [hv], f0 _ _⟩
    · have hb : (er == 0) = false := by simpa using he
      go_wp2_with (go_at_call 55; refine (number_any S _ (by omega)).mono ?_; rw [HSL.out, HV.out]; rintro e w' ⟨rfl, rfl⟩)
      go_ret
      exact ⟨by rw [HF.out]; simp [he], f0 _ _⟩
  · have kk : (k == 2) = false := by simpa using k2
    by_cases hn : n = 0
    · subst hn
      by_cases k0 : k = 0
      · have HF : Hid (rightS k x 0 = decide (x = [])) := by rw [Hid]; unfold rightS; simp [k0]
        subst k0
        by_cases hx0 : x = []
        · have e1 : S.toList = [] := by rw [HTL.out, hx0]
          have e2 : S.toList.isEmpty = true := by rw [e1]; rfl
          go_wp2_with fail
          go_ret
          exact ⟨by rw [HF.out, decide_eq_true hx0]; rfl, f0 _ _⟩
        · have e1 : ¬ S.toList = [] := by rw [HTL.out]; exact hx0
          have e2 : S.toList.isEmpty = false := by simpa using e1
          go_wp2_with fail
          go_ret
          exact ⟨by rw [HF.out, decide_eq_false hx0]; rfl, f0 _ _⟩
      · have k0b : (k == 0) = false := by simpa using k0
        by_cases k1 : k = 1
        · have HF : Hid (rightS k x 0 = nameS x) := by rw [Hid]; unfold rightS; simp [k1]
          subst k1
          clear k0b kk
          go_wp2_with (go_at_call 66; refine (name_any r1 r2 S _ (H1.out.below (f0 _ _)) (by omega)).mono ?_; rw [HSL.out]; rintro e w' ⟨rfl, b1⟩)
          go_ret
          exact ⟨by rw [HF.out]; rfl, (f0 _ _).then_ b1⟩
        · have k1b : (k == 1) = false := by simpa using k1
          by_cases k3 : k = 3
          · have HF : Hid (rightS k x 0 = decide (x ∈ wordsL)) := by rw [Hid]; unfold rightS; simp [k3]
            subst k3
            have lk := LK1.out _ (f0 (.cells #[.map (some r1), .map (some r2)] 82) (.cells #[.int .i64 3, .string S, .int .i64 0, .int .i64 ln, .int .i64 co] 87))
            generalize decide (x ∈ wordsL) = b at lk HF
            clear k0b k1b kk
            go_wp2_with fail
            go_ret
            exact ⟨by rw [HF.out]; rfl, f0 _ _⟩
          · have k3b : (k == 3) = false := by simpa using k3
            by_cases k4 : k = 4
            · have HF : Hid (rightS k x 0 = decide (x ∈ marksL)) := by rw [Hid]; unfold rightS; simp [k4]
              subst k4
              have lk := LK2.out _ (f0 (.cells #[.map (some r1), .map (some r2)] 82) (.cells #[.int .i64 4, .string S, .int .i64 0, .int .i64 ln, .int .i64 co] 87))
              generalize decide (x ∈ marksL) = b at lk HF
              clear k0b k1b k3b kk
              go_wp2_with fail
              go_ret
              exact ⟨by rw [HF.out]; rfl, f0 _ _⟩
            · have k4b : (k == 4) = false := by simpa using k4
              have HF : Hid (rightS k x 0 = false) := by rw [Hid]; unfold rightS; simp [k0, k1, k2, k3, k4]
              go_wp2_with fail
              go_ret
              exact ⟨by rw [HF.out]; rfl, f0 _ _⟩
    · have HF : Hid (rightS k x n = false) := by rw [Hid]; unfold rightS; rw [if_neg k2, if_pos hn]
      have hnb : (n != 0) = true := by simpa using hn
      go_wp2_with fail
      go_ret
      exact ⟨by rw [HF.out]; rfl, f0 _ _⟩
end Go.Proofs.YtdmlnoeneoomfaaDoor
namespace Go.Proofs.YtdmlnoeneoomfaaDoor
open Go.RowKit

/-- The number of digits, as long as it is no greater than 2147483647. -/
def capF (a : Nat) : List UInt8 → Nat
  | [] => a
  | c :: l => capF (if a ≤ 2147483647 then 10 * a + (c.toNat - 48) else a) l
theorem capF_snoc (c : UInt8) : ∀ (l : List UInt8) (a : Nat), capF a (l ++ [c]) = if capF a l ≤ 2147483647 then 10 * capF a l + (c.toNat - 48) else capF a l
  | [], a => rfl
  | d :: l, a => by
    rw [List.cons_append]
    simp only [capF]
    exact capF_snoc c l _
theorem capF_big : ∀ (l : List UInt8) (a : Nat), 2147483647 < a → capF a l = a
  | [], _, _ => rfl
  | c :: l, a, h => by
    simp only [capF]
    rw [if_neg (by omega)]
    exact capF_big l a h
theorem capF_le : ∀ (l : List UInt8) (a : Nat), a ≤ 30000000000 → capF a l ≤ 30000000000
  | [], _, h => h
  | c :: l, a, h => by
    simp only [capF]
    have := c.toNat_lt
    split
    · exact capF_le l _ (by omega)
    · exact capF_le l a h
theorem numF_cap : ∀ (l : List UInt8) (a : Nat), a ≤ 2147483647 → (∀ c ∈ l, digB c = true) → numF a l = if 2147483647 < capF a l then (0, 2) else ((capF a l : Int), 0)
  | [], a, h, _ => by
    have e : capF a [] = a := rfl
    rw [e, if_neg (by omega)]
    rfl
  | c :: l, a, h, hd => by
    have hc := digB_t.1 (hd c (List.mem_cons_self ..))
    have e : (10 * (a : Int) + ((c.toNat : Int) - 48)) = ((10 * a + (c.toNat - 48) : Nat) : Int) := by omega
    unfold numF
    have e2 : capF a (c :: l) = capF (10 * a + (c.toNat - 48)) l := by simp only [capF]; rw [if_pos h]
    rw [e, e2]
    by_cases hb : 2147483647 < 10 * a + (c.toNat - 48)
    · rw [if_pos (by omega), capF_big l _ hb, if_pos hb]
    · rw [if_neg (by omega)]
      exact numF_cap l _ (by omega) (fun x hx => hd x (List.mem_cons_of_mem _ hx))
theorem numS_cap {l : List UInt8} (h0 : l ≠ []) (hd : ∀ c ∈ l, digB c = true) : numS l = if 1 < l.length ∧ l.head? = some 48 then (0, 3) else if 2147483647 < capF 0 l then (0, 2) else ((capF 0 l : Int), 0) := by
  have hp : preN digB l = l.length := preN_all hd
  unfold numS
  by_cases h : 1 < l.length ∧ l.head? = some 48
  · rw [if_pos (.inr (.inr h)), if_pos h]
  · rw [if_neg (by rintro (h1 | h1 | h1); exact h0 h1; exact h1 hp; exact h h1), if_neg h]
    exact numF_cap l 0 (by omega) hd
theorem numS_bad {l : List UInt8} {c : UInt8} (hc : c ∈ l) (hd : digB c = false) : numS l = (0, 3) := by
  unfold numS
  rw [if_pos]
  refine .inr (.inl fun h => ?_)
  rw [all_pre h c hc] at hd
  cases hd

end Go.Proofs.YtdmlnoeneoomfaaDoor
namespace Go.Proofs.YtdmlnoeneoomfaaDoor
open Go.RowKit

def endS (l : List UInt8) : Nat := if letB (l.headD 0) = true ∨ digB (l.headD 0) = true then preN innB l else if 1 < l.length ∧ l.take 2 ∈ marksL then 2 else 1

end Go.Proofs.YtdmlnoeneoomfaaDoor
namespace Go.Proofs.YtdmlnoeneoomfaaDoor
open Go.RowKit

/-- The token that a piece is. -/
def refPc (x : List UInt8) : Pc := if digB (x.headD 0) = true then ⟨2, x, (numS x).1, (numS x).2⟩ else if letB (x.headD 0) = false then (if x ∈ marksL then ⟨4, x, 0, 0⟩ else noPc 3) else if 30 < x.length then noPc 2 else if x ∈ wordsL then ⟨3, x, 0, 0⟩ else ⟨1, x, 0, 0⟩

theorem texts_rv1 (w : World) (o : Obj) (l : List ByteArray) : RV ((w.alloc o).alloc (textsO l)) (some ⟨w.heap.size + 1, 0, none⟩) l.length (l.map Value.string) := by
  have h := texts_rv (w.alloc o) l
  rw [show (w.alloc o).heap.size = w.heap.size + 1 by simp] at h
  exact h

end Go.Proofs.YtdmlnoeneoomfaaDoor
namespace Go.Proofs.YtdmlnoeneoomfaaDoor
open Go.RowKit

theorem words_ok : ∀ X ∈ wordsL, endS X = X.length ∧ (refPc X).kind = 3 ∧ (refPc X).n = 0 ∧ (refPc X).err = 0 := by decide +kernel
theorem marks_ok : ∀ X ∈ marksL, endS X = X.length ∧ (refPc X).kind = 4 ∧ (refPc X).n = 0 ∧ (refPc X).err = 0 := by decide +kernel
theorem end_all {x : List UInt8} (hin : letB (x.headD 0) = true ∨ digB (x.headD 0) = true) : endS x = x.length ↔ ∀ c ∈ x, innB c = true := by
  unfold endS
  rw [if_pos hin]
  exact ⟨all_pre, preN_all⟩
theorem numS_dig_all {x : List UInt8} (h : (numS x).2 = 0) : x ≠ [] ∧ ∀ c ∈ x, digB c = true := by
  by_cases h1 : x = [] ∨ preN digB x ≠ x.length ∨ (1 < x.length ∧ x.head? = some 48)
  · unfold numS at h
    rw [if_pos h1] at h
    exact absurd h (by decide)
  · refine ⟨fun e => h1 (.inl e), all_pre ?_⟩
    by_cases h2 : preN digB x = x.length
    · exact h2
    · exact absurd (.inr (.inl h2)) h1
theorem head_mem {x : List UInt8} (h : x ≠ []) : x.headD 0 ∈ x := by
  obtain ⟨c, r, rfl⟩ := List.exists_cons_of_ne_nil h
  exact List.mem_cons_self ..
theorem nameS_iff {x : List UInt8} : nameS x = true ↔ (x ≠ [] ∧ letB (x.headD 0) = true ∧ ∀ c ∈ x, innB c = true) ∧ x.length ≤ 30 ∧ ¬ x ∈ wordsL := by
  unfold nameS runS
  simp only [Bool.and_eq_true, decide_eq_true_eq, Bool.not_eq_true', decide_eq_false_iff_not, and_assoc]
/-- What the program's right says, in the document's words. -/
theorem right_law {k : Int} {x : List UInt8} {n : Int} (hk : k ≠ 0) (h0 : x ≠ []) : rightS k x n = true ↔ (endS x = x.length ∧ (refPc x).err = 0 ∧ (refPc x).kind = k ∧ (refPc x).n = n) := by
  have hmem := head_mem h0
  by_cases hd : digB (x.headD 0) = true
  · have hp : refPc x = ⟨2, x, (numS x).1, (numS x).2⟩ := by unfold refPc; rw [if_pos hd]
    have hl : letB (x.headD 0) = false := (dig_not hd).1
    rw [end_all (.inr hd), hp]
    simp only
    unfold rightS
    by_cases k2 : k = 2
    · rw [if_pos k2]
      simp only [decide_eq_true_eq]
      constructor
      · rintro ⟨h1, h2⟩
        exact ⟨fun c hc => inn_dig ((numS_dig_all h1).2 c hc), h1, k2.symm, h2⟩
      · rintro ⟨_, h1, _, h2⟩
        exact ⟨h1, h2⟩
    · rw [if_neg k2]
      refine ⟨fun h => ?_, fun h => absurd h.2.2.1.symm k2⟩
      exfalso
      by_cases hn : n ≠ 0
      · rw [if_pos hn] at h; cases h
      · rw [if_neg hn, if_neg hk] at h
        by_cases k1 : k = 1
        · rw [if_pos k1, nameS_iff, hl] at h
          exact absurd h.1.2.1 (by simp)
        · rw [if_neg k1] at h
          by_cases k3 : k = 3
          · rw [if_pos k3, decide_eq_true_eq] at h
            have := (words_ok x h).2.1
            rw [hp] at this
            exact absurd this (by simp)
          · rw [if_neg k3] at h
            by_cases k4 : k = 4
            · rw [if_pos k4, decide_eq_true_eq] at h
              have := (marks_ok x h).2.1
              rw [hp] at this
              exact absurd this (by simp)
            · rw [if_neg k4] at h; cases h
  · have h2 : ∀ h : (numS x).2 = 0, False := fun h => hd ((numS_dig_all h).2 _ hmem)
    by_cases hl : letB (x.headD 0) = true
    · have hp : refPc x = if 30 < x.length then noPc 2 else if x ∈ wordsL then ⟨3, x, 0, 0⟩ else ⟨1, x, 0, 0⟩ := by unfold refPc; rw [if_neg hd, if_neg (by rw [hl]; simp)]
      rw [end_all (.inl hl)]
      have hkn : (refPc x).n = 0 ∧ (refPc x).kind ≠ 2 ∧ (refPc x).kind ≠ 4 := by
        rw [hp]
        split
        · exact ⟨rfl, by simp [noPc], by simp [noPc]⟩
        · split
          · exact ⟨rfl, by simp, by simp⟩
          · exact ⟨rfl, by simp, by simp⟩
      unfold rightS
      by_cases k2 : k = 2
      · rw [if_pos k2, decide_eq_true_eq]
        exact ⟨fun h => (h2 h.1).elim, fun h => absurd (h.2.2.1.trans k2) hkn.2.1⟩
      · rw [if_neg k2]
        by_cases hn : n ≠ 0
        · rw [if_pos hn]
          exact ⟨fun h => (by cases h), fun h => absurd (h.2.2.2.symm.trans hkn.1) hn⟩
        · have hn0 : n = 0 := by simpa using hn
          rw [if_neg hn, if_neg hk]
          by_cases k1 : k = 1
          · rw [if_pos k1, nameS_iff, hp]
            constructor
            · rintro ⟨⟨_, _, h3⟩, h4, h5⟩
              rw [if_neg (by omega), if_neg h5]
              exact ⟨h3, rfl, k1.symm, hn0.symm⟩
            · rintro ⟨h3, h4, h5, _⟩
              by_cases h6 : 30 < x.length
              · rw [if_pos h6] at h4; exact absurd h4 (by simp [noPc])
              · rw [if_neg h6] at h4 h5
                by_cases h7 : x ∈ wordsL
                · rw [if_pos h7, k1] at h5; exact absurd h5 (by simp)
                · exact ⟨⟨h0, hl, h3⟩, by omega, h7⟩
          · rw [if_neg k1]
            by_cases k3 : k = 3
            · rw [if_pos k3, decide_eq_true_eq]
              constructor
              · intro h
                have hw := words_ok x h
                exact ⟨(end_all (.inl hl)).1 hw.1, hw.2.2.2, hw.2.1.trans k3.symm, hw.2.2.1.trans hn0.symm⟩
              · rintro ⟨_, h4, h5, _⟩
                rw [hp] at h4 h5
                by_cases h6 : 30 < x.length
                · rw [if_pos h6] at h4; exact absurd h4 (by simp [noPc])
                · rw [if_neg h6] at h5
                  by_cases h7 : x ∈ wordsL
                  · exact h7
                  · rw [if_neg h7, k3] at h5; exact absurd h5 (by simp)
            · rw [if_neg k3]
              by_cases k4 : k = 4
              · rw [if_pos k4, decide_eq_true_eq]
                exact ⟨fun h => absurd (marks_ok x h).2.1 hkn.2.2, fun h => absurd (h.2.2.1.trans k4) hkn.2.2⟩
              · rw [if_neg k4]
                refine ⟨fun h => (by cases h), ?_⟩
                rintro ⟨_, h4, h5, _⟩
                exfalso
                rw [hp] at h4 h5
                by_cases h6 : 30 < x.length
                · rw [if_pos h6] at h4; exact absurd h4 (by simp [noPc])
                · rw [if_neg h6] at h5
                  by_cases h7 : x ∈ wordsL
                  · rw [if_pos h7] at h5; exact k3 h5.symm
                  · rw [if_neg h7] at h5; exact k1 h5.symm
    · have hl' : letB (x.headD 0) = false := by simpa using hl
      have hp : refPc x = if x ∈ marksL then ⟨4, x, 0, 0⟩ else noPc 3 := by unfold refPc; rw [if_neg hd, if_pos hl']
      have hkn : (refPc x).n = 0 ∧ ((refPc x).err = 0 → (refPc x).kind = 4 ∧ x ∈ marksL) := by
        rw [hp]
        split
        · exact ⟨rfl, fun _ => ⟨rfl, by assumption⟩⟩
        · exact ⟨rfl, fun h => absurd h (by simp [noPc])⟩
      unfold rightS
      by_cases k2 : k = 2
      · rw [if_pos k2, decide_eq_true_eq]
        refine ⟨fun h => (h2 h.1).elim, fun h => ?_⟩
        have := (hkn.2 h.2.1).1
        rw [h.2.2.1, k2] at this
        exact absurd this (by simp)
      · rw [if_neg k2]
        by_cases hn : n ≠ 0
        · rw [if_pos hn]
          exact ⟨fun h => (by cases h), fun h => absurd (h.2.2.2.symm.trans hkn.1) hn⟩
        · have hn0 : n = 0 := by simpa using hn
          rw [if_neg hn, if_neg hk]
          by_cases k1 : k = 1
          · rw [if_pos k1, nameS_iff]
            refine ⟨fun h => absurd h.1.2.1 hl, fun h => ?_⟩
            have := (hkn.2 h.2.1).1
            rw [h.2.2.1, k1] at this
            exact absurd this (by simp)
          · rw [if_neg k1]
            by_cases k3 : k = 3
            · rw [if_pos k3, decide_eq_true_eq]
              constructor
              · intro h
                have hw := words_ok x h
                have := (hkn.2 hw.2.2.2).1
                rw [hw.2.1] at this
                exact absurd this (by simp)
              · intro h
                have := (hkn.2 h.2.1).1
                rw [h.2.2.1, k3] at this
                exact absurd this (by simp)
            · rw [if_neg k3]
              by_cases k4 : k = 4
              · rw [if_pos k4, decide_eq_true_eq]
                constructor
                · intro h
                  have hw := marks_ok x h
                  exact ⟨hw.1, hw.2.2.2, hw.2.1.trans k4.symm, hw.2.2.1.trans hn0.symm⟩
                · intro h
                  exact (hkn.2 h.2.1).2
              · rw [if_neg k4]
                refine ⟨fun h => (by cases h), fun h => ?_⟩
                have := (hkn.2 h.2.1).1
                rw [h.2.2.1] at this
                exact absurd this k4
/-- The document's Right. -/
theorem right_zero (x : List UInt8) (n : Int) : rightS 0 x n = (decide (x = []) && decide (n = 0)) := by
  unfold rightS
  rw [if_neg (by decide)]
  by_cases hn : n = 0
  · rw [if_neg (by simpa using hn), if_pos rfl]
    simp [hn]
  · rw [if_pos hn]
    simp [hn]
theorem right_nil {k : Int} (hk : k ≠ 0) (n : Int) : rightS k [] n = false := by
  unfold rightS
  by_cases k2 : k = 2
  · rw [if_pos k2, decide_eq_false_iff_not]
    rintro ⟨h, _⟩
    exact absurd h (by decide)
  · rw [if_neg k2]
    by_cases hn : n ≠ 0
    · rw [if_pos hn]
    · rw [if_neg hn, if_neg hk]
      split
      · rfl
      · split
        · decide
        · split
          · decide
          · rfl
end Go.Proofs.YtdmlnoeneoomfaaDoor
namespace Go.Proofs.YtdmlnoeneoomfaaDoor
open Go.RowKit

end Go.Proofs.YtdmlnoeneoomfaaDoor
