
/-
  Names: lex.IsName, and the document's. The document's run: a letter, and letters, digits and _ behind it. lex.IsName. LexJoins: is it a token? lex.right. The document's number. The document's end: where the piece that a text begins with ends. The document's piece, and its Right. The document's Right is the program's: the law.
-/
import Derived.Test.YtdgekckedchjbaaGreatDoorQC
import Derived.Test.YtdgekckedchjbaaGreatDoorQB
import Derived.Laws.Closers25b
import Derived.Deep.RegionHeld3
import Derived.IntWalk
import Derived.Test.YtdgekckedchjbaaGreatDoorLM
namespace Go.Proofs.YtdgekckedchjbaaGreatDoor
open Go.RowKit

set_option maxHeartbeats 1000000 in
set_option maxRecDepth 100000 in
theorem refWords_any (w : World) : Calls Tryz.prog 118 #[] w fun e w' => e = .returned (.slice (some ⟨w.heap.size, 0, none⟩) 23 23) ∧ w' = w.alloc (textsO wordsB) := by
  go_enter Tryz.func118, Tryz.ntmps118
  go_wp2_with fail
  go_ret
  exact ⟨rfl, rfl⟩

set_option maxHeartbeats 1000000 in
set_option maxRecDepth 100000 in
theorem refHas_any (l : List (List UInt8)) (A : Option Addr) (n c : Nat) (x : List UInt8) (w : World) (hr : RV w A n ((l.map str).map Value.string)) (hn : n ≤ 1000) :
    Calls Tryz.prog 115 #[.slice A n c, .string (str x)] w fun e w' => e = .returned (.bool (decide (x ∈ l))) ∧ w' = w := by
  have hlen : l.length = n := by have := hr.len; simpa using this.symm
  obtain ⟨S, hS⟩ : ∃ S, str x = S := ⟨_, rfl⟩
  have hSl : S.toList = x := by rw [← hS, str_tl]
  rw [hS]
  have HR := Lib.hid hr
  have HN := Lib.hid hlen
  clear hr hlen hS
  go_enter Tryz.func115, Tryz.ntmps115
  go_wp2_with fail
  go_loopw [5] (fun i wr => ∃ k : Nat, k ≤ n ∧ i = .int .i64 k ∧ Hid (¬ x ∈ l.take k) ∧ wr = w) (fun i _ => n - (intOf i).toNat)
  case atStart => exact ⟨0, by omega, rfl, (by rw [Hid]; simp), rfl⟩
  case round =>
    obtain ⟨k, hkl, rfl, hs, rfl⟩ := hrel
    by_cases hlt : k < n
    · obtain ⟨b, o, rfl, hb, hl, hc⟩ := HR.out.at_ hlt
      have hkl' : k < l.length := by rw [HN.out]; exact hlt
      rw [List.getElem_map, List.getElem_map] at hc
      have htk := Lib.hid (List.take_succ_eq_append_getElem hkl')
      generalize l[k]'hkl' = y at hc htk
      obtain ⟨T, hT⟩ : ∃ T, str y = T := ⟨_, rfl⟩
      have hTl : T.toList = y := by rw [← hT, str_tl]
      rw [hT] at hc
      clear hT hl
      by_cases hxy : y = x
      · have e1 : T.toList = S.toList := by rw [hTl, hSl, hxy]
        have e2 : (T.toList == S.toList) = true := by rw [e1]; simp
        have HM := Lib.hid (show x ∈ l from List.mem_of_mem_take (i := k + 1) (by rw [htk.out, hxy]; simp))
        clear hSl hTl hxy
        go_wp2_with fail
        go_ret
        exact ⟨by rw [decide_eq_true HM.out]; rfl, rfl⟩
      · have e1 : ¬ T.toList = S.toList := by rw [hTl, hSl]; exact hxy
        have e2 : (T.toList == S.toList) = false := by simpa using e1
        have hnext : Hid (¬ x ∈ l.take (k + 1)) := by
          rw [Hid, htk.out, List.mem_append]
          rintro (h | h)
          · exact hs.out h
          · simp at h
            exact hxy h.symm
        clear hSl hTl hxy
        go_wp2_with fail
        go_roundw
        case rel => exact ⟨k + 1, by omega, by go_num, hnext, trivial⟩
        case measure => simp [intOf]; omega
    · obtain rfl : k = n := by omega
      have HM : Hid (¬ x ∈ l) := by
        have := hs.out
        rw [List.take_of_length_le (by rw [HN.out]; omega)] at this
        exact this
      go_wp2_with fail
      go_ret
      exact ⟨by rw [decide_eq_false HM.out]; rfl, rfl⟩
/-- A letter, and then letters, digits and _. -/
def runS (l : List UInt8) : Bool := decide (l ≠ [] ∧ letB (l.headD 0) = true ∧ ∀ c ∈ l, innB c = true)
def nameS (l : List UInt8) : Bool := runS l && decide (l.length ≤ 30) && !decide (l ∈ wordsL)
end Go.Proofs.YtdgekckedchjbaaGreatDoor
namespace Go.Proofs.YtdgekckedchjbaaGreatDoor
open Go.RowKit

end Go.Proofs.YtdgekckedchjbaaGreatDoor
namespace Go.Proofs.YtdgekckedchjbaaGreatDoor
open Go.RowKit

end Go.Proofs.YtdgekckedchjbaaGreatDoor
namespace Go.Proofs.YtdgekckedchjbaaGreatDoor
open Go.RowKit

/-- Is it a token, by its kind, its text and its number? -/
def rightS (k : Int) (x : List UInt8) (n : Int) : Bool :=
  if k = 2 then decide ((numS x).2 = 0 ∧ (numS x).1 = n)
  else if n ≠ 0 then false
  else if k = 0 then decide (x = [])
  else if k = 1 then nameS x
  else if k = 3 then decide (x ∈ wordsL)
  else if k = 4 then decide (x ∈ marksL)
  else false

end Go.Proofs.YtdgekckedchjbaaGreatDoor
namespace Go.Proofs.YtdgekckedchjbaaGreatDoor
open Go.RowKit

/-- The number of digits, as long as it is no greater than 2147483647. -/
def capF (a : Nat) : List UInt8 → Nat
  | [] => a
  | c :: l => capF (if a ≤ 2147483647 then 10 * a + (c.toNat - 48) else a) l
theorem capF_snoc (c : UInt8) : ∀ (l : List UInt8) (a : Nat), capF a (l ++ [c]) = if capF a l ≤ 2147483647 then 10 * capF a l + (c.toNat - 48) else capF a l
  | [], a => rfl
  | d :: l, a => by
    rw [List.cons_append]
    simp only [capF]
    exact capF_snoc c l _
theorem capF_big : ∀ (l : List UInt8) (a : Nat), 2147483647 < a → capF a l = a
  | [], _, _ => rfl
  | c :: l, a, h => by
    simp only [capF]
    rw [if_neg (by omega)]
    exact capF_big l a h
theorem capF_le : ∀ (l : List UInt8) (a : Nat), a ≤ 30000000000 → capF a l ≤ 30000000000
  | [], _, h => h
  | c :: l, a, h => by
    simp only [capF]
    have := c.toNat_lt
    split
    · exact capF_le l _ (by omega)
    · exact capF_le l a h
theorem numF_cap : ∀ (l : List UInt8) (a : Nat), a ≤ 2147483647 → (∀ c ∈ l, digB c = true) → numF a l = if 2147483647 < capF a l then (0, 2) else ((capF a l : Int), 0)
  | [], a, h, _ => by
    have e : capF a [] = a := rfl
    rw [e, if_neg (by omega)]
    rfl
  | c :: l, a, h, hd => by
    have hc := digB_t.1 (hd c (List.mem_cons_self ..))
    have e : (10 * (a : Int) + ((c.toNat : Int) - 48)) = ((10 * a + (c.toNat - 48) : Nat) : Int) := by omega
    unfold numF
    have e2 : capF a (c :: l) = capF (10 * a + (c.toNat - 48)) l := by simp only [capF]; rw [if_pos h]
    rw [e, e2]
    by_cases hb : 2147483647 < 10 * a + (c.toNat - 48)
    · rw [if_pos (by omega), capF_big l _ hb, if_pos hb]
    · rw [if_neg (by omega)]
      exact numF_cap l _ (by omega) (fun x hx => hd x (List.mem_cons_of_mem _ hx))
theorem numS_cap {l : List UInt8} (h0 : l ≠ []) (hd : ∀ c ∈ l, digB c = true) : numS l = if 1 < l.length ∧ l.head? = some 48 then (0, 3) else if 2147483647 < capF 0 l then (0, 2) else ((capF 0 l : Int), 0) := by
  have hp : preN digB l = l.length := preN_all hd
  unfold numS
  by_cases h : 1 < l.length ∧ l.head? = some 48
  · rw [if_pos (.inr (.inr h)), if_pos h]
  · rw [if_neg (by rintro (h1 | h1 | h1); exact h0 h1; exact h1 hp; exact h h1), if_neg h]
    exact numF_cap l 0 (by omega) hd
theorem numS_bad {l : List UInt8} {c : UInt8} (hc : c ∈ l) (hd : digB c = false) : numS l = (0, 3) := by
  unfold numS
  rw [if_pos]
  refine .inr (.inl fun h => ?_)
  rw [all_pre h c hc] at hd
  cases hd

set_option maxHeartbeats 4000000 in
set_option maxRecDepth 100000 in
theorem refNumber_any (s : ByteArray) (w : World) (h0 : 0 < s.size) (hs : s.size ≤ 9223372036854775807) :
    Calls Tryz.prog 117 #[.string s] w fun e w' => e = .returned (.tuple #[.int .i64 (numS s.data.toList).1, .int .i64 (numS s.data.toList).2]) ∧ w' = w := by
  obtain ⟨X, hX⟩ : ∃ X, s.data.toList = X := ⟨_, rfl⟩
  have hlen : X.length = s.size := by rw [← hX, size_list]
  rw [hX]
  have HX := Lib.hid hX
  have HL := Lib.hid hlen
  obtain ⟨c0, hc0⟩ : ∃ c : UInt8, s[0] = c := ⟨_, rfl⟩
  have hhd : X.head? = some c0 := by
    have := at_list s h0
    rw [hX, hc0] at this
    rw [List.head?_eq_getElem?]
    exact this
  have HH := Lib.hid hhd
  clear hX hlen hhd
  go_enter Tryz.func117, Tryz.ntmps117
  go_wp2_with fail
  go_loopw [4, 5] (fun v i wr => ∃ k : Nat, k ≤ s.size ∧ i = .int .i64 k ∧ v = .int .i64 (capF 0 (X.take k) : Nat) ∧ Hid (∀ c ∈ X.take k, digB c = true) ∧ w = wr) (fun _ i _ => s.size - (intOf i).toNat)
  case atStart => exact ⟨0, by omega, rfl, rfl, (by rw [Hid]; simp), rfl⟩
  case round =>
    obtain ⟨k, hk, rfl, rfl, hd, rfl⟩ := hrel
    by_cases hlt : k < s.size
    · have hkX : k < X.length := by rw [HL.out]; exact hlt
      obtain ⟨c, hcc⟩ : ∃ c : UInt8, s[k] = c := ⟨_, rfl⟩
      have hXc : X[k] = c := by
        have h1 := at_list s hlt
        rw [HX.out, List.getElem?_eq_getElem hkX, hcc] at h1
        exact Option.some.inj h1
      have htk := List.take_succ_eq_append_getElem hkX
      rw [hXc] at htk
      have hq := capF_le (X.take k) 0 (by omega)
      have hsn := capF_snoc c (X.take k) 0
      rw [← htk] at hsn
      generalize capF 0 (X.take k) = q at hq hsn
      have HTK := Lib.hid htk
      have HSN := Lib.hid hsn
      clear htk hsn hc0
      cases hdc : digB c
      · have HN : Hid (numS X = (0, 3)) := numS_bad (c := c) (by rw [← hXc]; exact List.getElem_mem hkX) hdc
        have HDC := Lib.hid hdc
        clear hdc hXc
        go_wp2_with (first | (go_at_call 114; refine (refDigit_any c _).mono ?_; rintro e w' ⟨rfl, rfl⟩; rw [HDC.out]))
        refine bodyPost_ret (v := .tuple #[.int .i64 0, .int .i64 3]) (by simp [results, Tryz.results117, go_sem]) rfl ?_
        exact ⟨by rw [HN.out], rfl⟩
      · have hcd := digB_t.1 hdc
        have hnext : Hid (∀ c ∈ X.take (k + 1), digB c = true) := by
          rw [Hid, HTK.out]
          intro x hx
          rcases List.mem_append.1 hx with h | h
          · exact hd.out x h
          · simp only [List.mem_singleton] at h
            rw [h]
            exact hdc
        have HDC := Lib.hid hdc
        clear hdc hXc
        by_cases hqb : q ≤ 2147483647
        · have z1 : (q : Int) ≤ 2147483647 := by omega
          have z2 : IntKind.i64.wrap (c.toNat : Int) = (c.toNat : Int) := by rw [IntKind.wrap_i64]; omega
          have e : (10 * (q : Int) + (c.toNat : Int) - 48) = ((10 * q + (c.toNat - 48) : Nat) : Int) := by omega
          have E := Lib.hid e
          have QB := Lib.hid hqb
          clear e
          go_wp2_with (first | (go_at_call 114; refine (refDigit_any c _).mono ?_; rintro e w' ⟨rfl, rfl⟩; rw [HDC.out]))
          go_roundw
          case rel => exact ⟨k + 1, by omega, by go_num, by rw [HSN.out, if_pos QB.out, ← E.out], hnext, trivial⟩
          case measure => simp [intOf]; omega
        · have z1 : ¬ (q : Int) ≤ 2147483647 := by omega
          have QB := Lib.hid hqb
          go_wp2_with (first | (go_at_call 114; refine (refDigit_any c _).mono ?_; rintro e w' ⟨rfl, rfl⟩; rw [HDC.out]))
          go_roundw
          case rel => exact ⟨k + 1, by omega, by go_num, by rw [HSN.out, if_neg QB.out], hnext, trivial⟩
          case measure => simp [intOf]; omega
    · obtain rfl : k = s.size := by omega
      have htk : X.take s.size = X := List.take_of_length_le (by rw [HL.out]; omega)
      rw [htk] at hd ⊢
      have hn := numS_cap (l := X) (by intro h; have := HL.out; rw [h] at this; simp at this; omega) hd.out
      rw [HL.out, HH.out] at hn
      have hq := capF_le X 0 (by omega)
      generalize capF 0 X = q at hq hn
      clear htk hlt
      by_cases h48 : c0 = 48
      · have e1 : (c0.toNat : Int) = 48 := by rw [h48]; rfl
        by_cases h1 : 1 < s.size
        · have z1 : (1 : Int) < (s.size : Int) := by omega
          rw [if_pos ⟨h1, by rw [h48]⟩] at hn
          have HN := Lib.hid hn
          clear hn h48
          go_wp2_with fail
          refine bodyPost_ret (v := .tuple #[.int .i64 0, .int .i64 3]) (by simp [results, Tryz.results117, go_sem]) rfl ?_
          exact ⟨by rw [HN.out], rfl⟩
        · have z1 : ¬ (1 : Int) < (s.size : Int) := by omega
          rw [if_neg (fun h => h1 h.1)] at hn
          clear h48
          by_cases hb : 2147483647 < q
          · rw [if_pos hb] at hn
            have HN := Lib.hid hn
            have z2 : (2147483647 : Int) < (q : Int) := by omega
            clear hn
            go_wp2_with fail
            refine bodyPost_ret (v := .tuple #[.int .i64 0, .int .i64 2]) (by simp [results, Tryz.results117, go_sem]) rfl ?_
            exact ⟨by rw [HN.out], rfl⟩
          · rw [if_neg hb] at hn
            have HN := Lib.hid hn
            have z2 : ¬ (2147483647 : Int) < (q : Int) := by omega
            clear hn
            go_wp2_with fail
            refine bodyPost_ret (v := .tuple #[.int .i64 (q : Int), .int .i64 0]) (by simp [results, Tryz.results117, go_sem]) rfl ?_
            exact ⟨by rw [HN.out], rfl⟩
      · have e1 : ¬ (c0.toNat : Int) = 48 := fun h => h48 (UInt8.toNat_inj.1 (by rw [show c0.toNat = 48 by omega]; rfl))
        rw [if_neg (fun h => h48 (Option.some.inj h.2))] at hn
        clear h48
        by_cases hb : 2147483647 < q
        · rw [if_pos hb] at hn
          have HN := Lib.hid hn
          have z2 : (2147483647 : Int) < (q : Int) := by omega
          clear hn
          go_wp2_with fail
          refine bodyPost_ret (v := .tuple #[.int .i64 0, .int .i64 2]) (by simp [results, Tryz.results117, go_sem]) rfl ?_
          exact ⟨by rw [HN.out], rfl⟩
        · rw [if_neg hb] at hn
          have HN := Lib.hid hn
          have z2 : ¬ (2147483647 : Int) < (q : Int) := by omega
          clear hn
          go_wp2_with fail
          refine bodyPost_ret (v := .tuple #[.int .i64 (q : Int), .int .i64 0]) (by simp [results, Tryz.results117, go_sem]) rfl ?_
          exact ⟨by rw [HN.out], rfl⟩
end Go.Proofs.YtdgekckedchjbaaGreatDoor
namespace Go.Proofs.YtdgekckedchjbaaGreatDoor
open Go.RowKit

def endS (l : List UInt8) : Nat := if letB (l.headD 0) = true ∨ digB (l.headD 0) = true then preN innB l else if 1 < l.length ∧ l.take 2 ∈ marksL then 2 else 1

end Go.Proofs.YtdgekckedchjbaaGreatDoor
namespace Go.Proofs.YtdgekckedchjbaaGreatDoor
open Go.RowKit

/-- The token that a piece is. -/
def refPc (x : List UInt8) : Pc := if digB (x.headD 0) = true then ⟨2, x, (numS x).1, (numS x).2⟩ else if letB (x.headD 0) = false then (if x ∈ marksL then ⟨4, x, 0, 0⟩ else noPc 3) else if 30 < x.length then noPc 2 else if x ∈ wordsL then ⟨3, x, 0, 0⟩ else ⟨1, x, 0, 0⟩

theorem texts_rv1 (w : World) (o : Obj) (l : List ByteArray) : RV ((w.alloc o).alloc (textsO l)) (some ⟨w.heap.size + 1, 0, none⟩) l.length (l.map Value.string) := by
  have h := texts_rv (w.alloc o) l
  rw [show (w.alloc o).heap.size = w.heap.size + 1 by simp] at h
  exact h

set_option maxHeartbeats 1000000 in
set_option maxRecDepth 100000 in
theorem refPiece_any (x : List UInt8) (w : World) (h0 : x ≠ []) (hx : x.length ≤ 65536) :
    Calls Tryz.prog 79 #[.string (str x)] w fun e w' => e = .returned (pcV (refPc x)) ∧ Below w.heap.size w w' := by
  obtain ⟨c0, r, hcr⟩ := List.exists_cons_of_ne_nil h0
  obtain ⟨s, hs⟩ : ∃ s, str x = s := ⟨_, rfl⟩
  have hsz : s.size = x.length := by rw [← hs, str_size]
  have hpos : 0 < s.size := by rw [hsz, hcr]; simp
  have hsl : s.data.toList = x := by rw [← hs, str_list]
  have hc0 : s[0] = c0 := by
    have := at_list s hpos
    rw [hsl, hcr] at this
    simpa using this.symm
  have hp : refPc x = if digB c0 = true then ⟨2, x, (numS x).1, (numS x).2⟩ else if letB c0 = false then (if x ∈ marksL then ⟨4, x, 0, 0⟩ else noPc 3) else if 30 < x.length then noPc 2 else if x ∈ wordsL then ⟨3, x, 0, 0⟩ else ⟨1, x, 0, 0⟩ := by
    unfold refPc
    rw [hcr]
    rfl
  have HP := Lib.hid hp
  have HSL := Lib.hid hsl
  have HS := Lib.hid hs
  rw [hs]
  clear hp hsl hs hcr h0
  have f0 : ∀ o, Below w.heap.size w (w.alloc o) := fun _ => (Below.refl _ w).al _
  have f1 : ∀ o o2, Below w.heap.size w ((w.alloc o).alloc o2) := fun _ _ => ((Below.refl _ w).al _).al _
  go_enter Tryz.func79, Tryz.ntmps79
  cases hd : digB c0
  · have HD := Lib.hid hd
    clear hd
    cases hl : letB c0
    · have HL := Lib.hid hl
      clear hl
      by_cases hm : x ∈ marksL
      · have HF : Hid (refPc x = ⟨4, x, 0, 0⟩) := by rw [Hid, HP.out, if_neg (by rw [HD.out]; simp), if_pos HL.out, if_pos hm]
        have HM := Lib.hid (decide_eq_true hm)
        clear hm
        go_wp2_with (first | (go_at_call 113; refine (refLetter_any c0 _).mono ?_; rintro e w' ⟨rfl, rfl⟩; rw [HL.out]) | (go_at_call 114; refine (refDigit_any c0 _).mono ?_; rintro e w' ⟨rfl, rfl⟩; rw [HD.out]) | (go_at_call 116; refine (refMarks_any _).mono ?_; rintro e w5 ⟨rfl, rfl⟩) | (go_at_call 115; rw [← HS.out]; refine (refHas_any marksL _ 16 16 x _ (texts_rv1 _ _ marksB) (by omega)).mono ?_; rintro e w6 ⟨rfl, rfl⟩; rw [HM.out, HS.out]))
        refine bodyPost_ret (v := .tuple #[.agg #[.int .i64 4, .string s, .int .i64 0, .int .i64 0, .int .i64 0], .int .i64 0]) (by simp [results, Tryz.results79, go_sem]) rfl ?_
        exact ⟨by rw [HF.out]; unfold pcV; (first | rw [HS.out] | rfl), by first | exact f1 _ _ | exact f0 _⟩
      · have HF : Hid (refPc x = noPc 3) := by rw [Hid, HP.out, if_neg (by rw [HD.out]; simp), if_pos HL.out, if_neg hm]
        have HM := Lib.hid (decide_eq_false hm)
        clear hm
        go_wp2_with (first | (go_at_call 113; refine (refLetter_any c0 _).mono ?_; rintro e w' ⟨rfl, rfl⟩; rw [HL.out]) | (go_at_call 114; refine (refDigit_any c0 _).mono ?_; rintro e w' ⟨rfl, rfl⟩; rw [HD.out]) | (go_at_call 116; refine (refMarks_any _).mono ?_; rintro e w5 ⟨rfl, rfl⟩) | (go_at_call 115; rw [← HS.out]; refine (refHas_any marksL _ 16 16 x _ (texts_rv1 _ _ marksB) (by omega)).mono ?_; rintro e w6 ⟨rfl, rfl⟩; rw [HM.out, HS.out]))
        refine bodyPost_ret (v := .tuple #[.agg #[.int .i64 0, .string ⟨#[]⟩, .int .i64 0, .int .i64 0, .int .i64 0], .int .i64 3]) (by simp [results, Tryz.results79, go_sem]) rfl ?_
        exact ⟨by rw [HF.out]; unfold pcV; (first | rw [HS.out] | rfl), by first | exact f1 _ _ | exact f0 _⟩
    · have HL := Lib.hid hl
      clear hl
      by_cases h30 : 30 < x.length
      · have HF : Hid (refPc x = noPc 2) := by rw [Hid, HP.out, if_neg (by rw [HD.out]; simp), if_neg (by rw [HL.out]; simp), if_pos h30]
        have z1 : (30 : Int) < (s.size : Int) := by omega
        clear h30 hsz
        go_wp2_with (first | (go_at_call 113; refine (refLetter_any c0 _).mono ?_; rintro e w' ⟨rfl, rfl⟩; rw [HL.out]) | (go_at_call 114; refine (refDigit_any c0 _).mono ?_; rintro e w' ⟨rfl, rfl⟩; rw [HD.out]))
        refine bodyPost_ret (v := .tuple #[.agg #[.int .i64 0, .string ⟨#[]⟩, .int .i64 0, .int .i64 0, .int .i64 0], .int .i64 2]) (by simp [results, Tryz.results79, go_sem]) rfl ?_
        exact ⟨by rw [HF.out]; unfold pcV; (first | rw [HS.out] | rfl), by first | exact f1 _ _ | exact f0 _⟩
      · have z1 : ¬ (30 : Int) < (s.size : Int) := by omega
        by_cases hm : x ∈ wordsL
        · have HF : Hid (refPc x = ⟨3, x, 0, 0⟩) := by rw [Hid, HP.out, if_neg (by rw [HD.out]; simp), if_neg (by rw [HL.out]; simp), if_neg h30, if_pos hm]
          have HM := Lib.hid (decide_eq_true hm)
          clear hm h30 hsz
          go_wp2_with (first | (go_at_call 113; refine (refLetter_any c0 _).mono ?_; rintro e w' ⟨rfl, rfl⟩; rw [HL.out]) | (go_at_call 114; refine (refDigit_any c0 _).mono ?_; rintro e w' ⟨rfl, rfl⟩; rw [HD.out]) | (go_at_call 118; refine (refWords_any _).mono ?_; rintro e w5 ⟨rfl, rfl⟩) | (go_at_call 115; rw [← HS.out]; refine (refHas_any wordsL _ 23 23 x _ (texts_rv1 _ _ wordsB) (by omega)).mono ?_; rintro e w6 ⟨rfl, rfl⟩; rw [HM.out, HS.out]))
          refine bodyPost_ret (v := .tuple #[.agg #[.int .i64 3, .string s, .int .i64 0, .int .i64 0, .int .i64 0], .int .i64 0]) (by simp [results, Tryz.results79, go_sem]) rfl ?_
          exact ⟨by rw [HF.out]; unfold pcV; (first | rw [HS.out] | rfl), by first | exact f1 _ _ | exact f0 _⟩
        · have HF : Hid (refPc x = ⟨1, x, 0, 0⟩) := by rw [Hid, HP.out, if_neg (by rw [HD.out]; simp), if_neg (by rw [HL.out]; simp), if_neg h30, if_neg hm]
          have HM := Lib.hid (decide_eq_false hm)
          clear hm h30 hsz
          go_wp2_with (first | (go_at_call 113; refine (refLetter_any c0 _).mono ?_; rintro e w' ⟨rfl, rfl⟩; rw [HL.out]) | (go_at_call 114; refine (refDigit_any c0 _).mono ?_; rintro e w' ⟨rfl, rfl⟩; rw [HD.out]) | (go_at_call 118; refine (refWords_any _).mono ?_; rintro e w5 ⟨rfl, rfl⟩) | (go_at_call 115; rw [← HS.out]; refine (refHas_any wordsL _ 23 23 x _ (texts_rv1 _ _ wordsB) (by omega)).mono ?_; rintro e w6 ⟨rfl, rfl⟩; rw [HM.out, HS.out]))
          refine bodyPost_ret (v := .tuple #[.agg #[.int .i64 1, .string s, .int .i64 0, .int .i64 0, .int .i64 0], .int .i64 0]) (by simp [results, Tryz.results79, go_sem]) rfl ?_
          exact ⟨by rw [HF.out]; unfold pcV; (first | rw [HS.out] | rfl), by first | exact f1 _ _ | exact f0 _⟩
  · have HD := Lib.hid hd
    have HF : Hid (refPc x = ⟨2, x, (numS x).1, (numS x).2⟩) := by rw [Hid, HP.out, if_pos HD.out]
    obtain ⟨v, er, hve⟩ : ∃ v er, numS x = (v, er) := ⟨_, _, rfl⟩
    rw [hve] at HF
    have HV := Lib.hid hve
    clear hd hve
    go_wp2_with (first | (go_at_call 114; refine (refDigit_any c0 _).mono ?_; rintro e w' ⟨rfl, rfl⟩; rw [HD.out]) | (go_at_call 117; refine (refNumber_any s _ hpos (by omega)).mono ?_; rw [HSL.out, HV.out]; rintro e w' ⟨rfl, rfl⟩))
    refine bodyPost_ret (v := .tuple #[.agg #[.int .i64 2, .string s, .int .i64 v, .int .i64 0, .int .i64 0], .int .i64 er]) (by simp [results, Tryz.results79, go_sem]) rfl ?_
    exact ⟨by rw [HF.out]; unfold pcV; (first | rw [HS.out] | rfl), by first | exact f1 _ _ | exact f0 _⟩
end Go.Proofs.YtdgekckedchjbaaGreatDoor
namespace Go.Proofs.YtdgekckedchjbaaGreatDoor
open Go.RowKit

end Go.Proofs.YtdgekckedchjbaaGreatDoor
