
/-
  package lex: the token that a text begins with.
-/
import Derived.Test.YtdmlnoeneoomfaaDoorL3
import Derived.Test.YtdmlnoeneoomfaaDoorL5
import Derived.LoopN
import Derived.Deep.RegionHeld3
namespace Go.Proofs.YtdmlnoeneoomfaaDoor
open Go.RowKit

/-- What a text begins with: a token's kind, text and number; the error. -/
structure Pc where
  kind : Int
  text : List UInt8
  n : Int
  err : Int
def noPc (e : Int) : Pc := ⟨0, [], 0, e⟩
def pieceS (l : List UInt8) : Pc :=
  if letB (l.headD 0) = true then
    (if 30 < preN innB l then noPc 2
    else if l.take (preN innB l) ∈ wordsL then ⟨3, l.take (preN innB l), 0, 0⟩
    else ⟨1, l.take (preN innB l), 0, 0⟩)
  else if digB (l.headD 0) = true then
    (if (numS (l.take (preN innB l))).2 ≠ 0 then noPc (numS (l.take (preN innB l))).2
    else ⟨2, l.take (preN innB l), (numS (l.take (preN innB l))).1, 0⟩)
  else if 2 ≤ l.length ∧ l.take 2 ∈ marksL then ⟨4, l.take 2, 0, 0⟩
  else if l.take 1 ∈ marksL then ⟨4, l.take 1, 0, 0⟩
  else noPc 3
theorem ext_str (s : ByteArray) (k : Nat) : s.extract 0 k = str (s.data.toList.take k) := by
  apply ba_ext
  rw [str_list]
  simp
theorem inL_str {l : List (List UInt8)} {x : List UInt8} : inL (l.map str) (str x) = decide (x ∈ l) := by
  unfold inL
  rw [List.map_map, str_list]
  have : (fun s : ByteArray => s.data.toList) ∘ str = id := by
    funext y
    simp [str]
  rw [this, List.map_id]
  rw [Bool.eq_iff_iff]
  simp
/-- A piece's token, without its place, and the error. -/
def pcV (p : Pc) : Value := .tuple #[.agg #[.int .i64 p.kind, .string (str p.text), .int .i64 p.n, .int .i64 0, .int .i64 0], .int .i64 p.err]
theorem str_nil : str [] = ByteArray.empty := rfl

theorem lookup_set {w : World} {r : Nat} {l : List (List UInt8)} (h : SetIs w r (l.map str)) (x : List UInt8) : (Instr.lookup 80 (.map (some r)) (.string (str x)) false).run Tryd.prog w = .ok (.bool (decide (x ∈ l))) w := by
  rw [← inL_str]
  exact h.lookup Tryd.underlying80 Tryd.underlying9 (by kernel_rfl) (str x)

set_option maxHeartbeats 4000000 in
set_option maxRecDepth 100000 in
theorem piece_any (r1 r2 : Nat) (s : ByteArray) (w : World) (h1 : SetIs w r1 wordsB) (h2 : SetIs w r2 marksB) (h0 : 0 < s.size) (hs : s.size ≤ 9223372036854775807) :
    Calls Tryd.prog 33 #[.agg #[.map (some r1), .map (some r2)], .string s] w fun e w' => e = .returned (pcV (pieceS s.data.toList)) ∧ Below w.heap.size w w' := by
  obtain ⟨c, hc⟩ : ∃ c : UInt8, s[0] = c := ⟨_, rfl⟩
  have hhd : s.data.toList.headD 0 = c := by
    rw [List.headD_eq_head?_getD, List.head?_eq_getElem?, at_list s h0, hc]
    rfl
  obtain ⟨n, hn⟩ : ∃ n, preN innB s.data.toList = n := ⟨_, rfl⟩
  have hnl : n ≤ s.size := by rw [← hn, ← size_list]; exact preN_le _ _
  obtain ⟨t, ht⟩ : ∃ t, s.data.toList.take n = t := ⟨_, rfl⟩
  have hts : (str t).size = n := by rw [← size_list, str_list, ← ht, List.length_take, size_list]; omega
  have hrun : s.extract 0 (preN innB s.data.toList) = str t := by rw [hn, ext_str, ht]
  have hp : pieceS s.data.toList = if letB c = true then (if 30 < n then noPc 2 else if t ∈ wordsL then ⟨3, t, 0, 0⟩ else ⟨1, t, 0, 0⟩) else if digB c = true then (if (numS t).2 ≠ 0 then noPc (numS t).2 else ⟨2, t, (numS t).1, 0⟩) else if 2 ≤ s.size ∧ s.data.toList.take 2 ∈ marksL then ⟨4, s.data.toList.take 2, 0, 0⟩ else if s.data.toList.take 1 ∈ marksL then ⟨4, s.data.toList.take 1, 0, 0⟩ else noPc 3 := by
    unfold pieceS
    rw [hhd, hn, ht, size_list]
  have HP := Lib.hid hp
  have HRUN := Lib.hid hrun
  have HT := Lib.hid ht
  have HTS := Lib.hid hts
  have H1 := Lib.hid h1
  have H2 := Lib.hid h2
  clear hp hrun ht hts h1 h2 hn hhd
  have f0 : Below w.heap.size w ((w.alloc (.cells #[.map (some r1), .map (some r2)] 82)).alloc (.cells #[.int .i64 0, .string ⟨#[]⟩, .int .i64 0, .int .i64 0, .int .i64 0] 87)) := ((Below.refl _ w).al _).al _
  have lk1 := lookup_set (l := wordsL) (H1.out.below f0) t
  have LK2 : Hid (∀ x W, Below w.heap.size w W → (Instr.lookup 80 (.map (some r2)) (.string (str x)) false).run Tryd.prog W = .ok (.bool (decide (x ∈ marksL))) W) := fun x W hW => lookup_set (l := marksL) (H2.out.below hW) x
  have hc' := hc
  cases hl : letB c
  · have HL := Lib.hid hl
    clear hl
    have hp1 := HP.out
    rw [if_neg (by rw [HL.out]; simp)] at hp1
    clear lk1
    cases hdg : digB c
    · have HDG := Lib.hid hdg
      clear hdg
      rw [if_neg (by rw [HDG.out]; simp)] at hp1
      have b0 : Blk ((w.alloc (.cells #[.map (some r1), .map (some r2)] 82)).alloc (.cells #[.int .i64 0, .string ⟨#[]⟩, .int .i64 0, .int .i64 0, .int .i64 0] 87)) w.heap.size 82 #[.map (some r1), .map (some r2)] := (Blk.new w _ _).alloc _
      have c1 : ((w.alloc (.cells #[.map (some r1), .map (some r2)] 82)).alloc (.cells #[.int .i64 0, .string ⟨#[]⟩, .int .i64 0, .int .i64 0, .int .i64 0] 87)).cell? ⟨w.heap.size, 1, none⟩ = some (.map (some r2)) := b0.cell 1
      obtain ⟨y1, hy1⟩ : ∃ y, s.data.toList.take 1 = y := ⟨_, rfl⟩
      obtain ⟨y2, hy2⟩ : ∃ y, s.data.toList.take 2 = y := ⟨_, rfl⟩
      have x1 : s.extract 0 1 = str y1 := by rw [ext_str, hy1]
      have x2 : s.extract 0 2 = str y2 := by rw [ext_str, hy2]
      rw [hy1, hy2] at hp1
      have CB0 : ((w.alloc (.cells #[.map (some r1), .map (some r2)] 82)).alloc (.cells #[.int .i64 0, .string ⟨#[]⟩, .int .i64 0, .int .i64 0, .int .i64 0] 87)).drew.cell? ⟨w.heap.size, 1, none⟩ = some (.map (some r2)) := c1
      have CB1 : ((w.alloc (.cells #[.map (some r1), .map (some r2)] 82)).alloc (.cells #[.int .i64 0, .string ⟨#[]⟩, .int .i64 0, .int .i64 0, .int .i64 0] 87)).drew.drew.cell? ⟨w.heap.size, 1, none⟩ = some (.map (some r2)) := c1
      have z1 : (1 : Int) ≤ (s.size : Int) := by omega
      have B0 := Lib.hid b0
      clear hy1 hy2 b0 c1
      have L1b : ∀ b, decide (y1 ∈ marksL) = b → ∀ W, Below w.heap.size w W → (Instr.lookup 80 (.map (some r2)) (.string (str y1)) false).run Tryd.prog W = .ok (.bool b) W := fun b hb W hW => by rw [LK2.out y1 W hW, hb]
      have L2b : ∀ b, decide (y2 ∈ marksL) = b → ∀ W, Below w.heap.size w W → (Instr.lookup 80 (.map (some r2)) (.string (str y2)) false).run Tryd.prog W = .ok (.bool b) W := fun b hb W hW => by rw [LK2.out y2 W hW, hb]
      have HL1 := Lib.hid L1b
      have HL2 := Lib.hid L2b
      clear L1b L2b LK2
      by_cases h2s : 2 ≤ s.size
      · have z2 : (2 : Int) ≤ (s.size : Int) := by omega
        have hmin : min (2 : Int) (s.size : Int) = 2 := by omega
        by_cases hm2 : y2 ∈ marksL
        · rw [if_pos ⟨h2s, hm2⟩] at hp1
          have HP1 := Lib.hid hp1
          have LC0 := HL2.out true (decide_eq_true hm2) _ f0.drew
          clear hp1
          go_enter Tryd.func33, Tryd.ntmps33
          go_wp2_with (first | (go_at_call 31; refine (runInner_any s _ hs).mono ?_; rintro e w' ⟨rfl, rfl⟩; rw [HRUN.out]) | (go_at_call 53; refine (letter_any c _).mono ?_; rintro e w' ⟨rfl, rfl⟩; rw [HL.out]) | (go_at_call 54; refine (digit_any c _).mono ?_; rintro e w' ⟨rfl, rfl⟩; rw [HDG.out]))
          refine wp_loop_rounds 3 ?_
          rw [rounds_succ]
          go_wp2_with fail
          go_region_held3 (fun w' => w'.cell? ⟨w.heap.size, 1, none⟩ = some (.map (some r2)) ∧ (Instr.lookup 80 (.map (some r2)) (.string (str y2)) false).run Tryd.prog w' = .ok (.bool true) w') (exact ⟨CB0, LC0⟩) (fail)
          go_wp2_with fail
          refine bodyPost_ret (v := .tuple #[.agg #[.int .i64 4, .string (str y2), .int .i64 0, .int .i64 0, .int .i64 0], .int .i64 0]) (by simp [results, Tryd.results33, go_sem]) rfl ⟨by rw [HP1.out]; rfl, ?_⟩
          first | exact ((Below.refl _ w).al _).al _ | exact (((Below.refl _ w).al _).al _).drew | exact (((Below.refl _ w).al _).al _).drew.drew | exact below_drewN (((Below.refl _ w).al _).al _) _
        · rw [if_neg (fun h => hm2 h.2)] at hp1
          have LC0 := HL2.out false (decide_eq_false hm2) _ f0.drew
          by_cases hm1 : y1 ∈ marksL
          · rw [if_pos hm1] at hp1
            have HP1 := Lib.hid hp1
            have LC1 := HL1.out true (decide_eq_true hm1) _ f0.drew.drew
            clear hp1
            go_enter Tryd.func33, Tryd.ntmps33
            go_wp2_with (first | (go_at_call 31; refine (runInner_any s _ hs).mono ?_; rintro e w' ⟨rfl, rfl⟩; rw [HRUN.out]) | (go_at_call 53; refine (letter_any c _).mono ?_; rintro e w' ⟨rfl, rfl⟩; rw [HL.out]) | (go_at_call 54; refine (digit_any c _).mono ?_; rintro e w' ⟨rfl, rfl⟩; rw [HDG.out]))
            refine wp_loop_rounds 3 ?_
            rw [rounds_succ]
            go_wp2_with fail
            go_region_held3 (fun w' => w'.cell? ⟨w.heap.size, 1, none⟩ = some (.map (some r2)) ∧ (Instr.lookup 80 (.map (some r2)) (.string (str y2)) false).run Tryd.prog w' = .ok (.bool false) w') (exact ⟨CB0, LC0⟩) (fail)
            go_wp2_with fail
            rw [rounds_succ]
            go_wp2_with fail
            go_region_held3 (fun w' => w'.cell? ⟨w.heap.size, 1, none⟩ = some (.map (some r2)) ∧ (Instr.lookup 80 (.map (some r2)) (.string (str y1)) false).run Tryd.prog w' = .ok (.bool true) w') (exact ⟨CB1, LC1⟩) (fail)
            go_wp2_with fail
            refine bodyPost_ret (v := .tuple #[.agg #[.int .i64 4, .string (str y1), .int .i64 0, .int .i64 0, .int .i64 0], .int .i64 0]) (by simp [results, Tryd.results33, go_sem]) rfl ⟨by rw [HP1.out]; rfl, ?_⟩
            first | exact ((Below.refl _ w).al _).al _ | exact (((Below.refl _ w).al _).al _).drew | exact (((Below.refl _ w).al _).al _).drew.drew | exact below_drewN (((Below.refl _ w).al _).al _) _
          · rw [if_neg hm1] at hp1
            have HP1 := Lib.hid hp1
            have LC1 := HL1.out false (decide_eq_false hm1) _ f0.drew.drew
            clear hp1
            go_enter Tryd.func33, Tryd.ntmps33
            go_wp2_with (first | (go_at_call 31; refine (runInner_any s _ hs).mono ?_; rintro e w' ⟨rfl, rfl⟩; rw [HRUN.out]) | (go_at_call 53; refine (letter_any c _).mono ?_; rintro e w' ⟨rfl, rfl⟩; rw [HL.out]) | (go_at_call 54; refine (digit_any c _).mono ?_; rintro e w' ⟨rfl, rfl⟩; rw [HDG.out]))
            refine wp_loop_rounds 3 ?_
            rw [rounds_succ]
            go_wp2_with fail
            go_region_held3 (fun w' => w'.cell? ⟨w.heap.size, 1, none⟩ = some (.map (some r2)) ∧ (Instr.lookup 80 (.map (some r2)) (.string (str y2)) false).run Tryd.prog w' = .ok (.bool false) w') (exact ⟨CB0, LC0⟩) (fail)
            go_wp2_with fail
            rw [rounds_succ]
            go_wp2_with fail
            go_region_held3 (fun w' => w'.cell? ⟨w.heap.size, 1, none⟩ = some (.map (some r2)) ∧ (Instr.lookup 80 (.map (some r2)) (.string (str y1)) false).run Tryd.prog w' = .ok (.bool false) w') (exact ⟨CB1, LC1⟩) (fail)
            go_wp2_with fail
            rw [rounds_succ]
            go_wp2_with fail
            refine bodyPost_ret (v := .tuple #[.agg #[.int .i64 0, .string ⟨#[]⟩, .int .i64 0, .int .i64 0, .int .i64 0], .int .i64 3]) (by simp [results, Tryd.results33, go_sem]) rfl ⟨by rw [HP1.out]; rfl, ?_⟩
            first | exact ((Below.refl _ w).al _).al _ | exact (((Below.refl _ w).al _).al _).drew | exact (((Below.refl _ w).al _).al _).drew.drew | exact below_drewN (((Below.refl _ w).al _).al _) _
      · have hmin : min (2 : Int) (s.size : Int) = 1 := by omega
        rw [if_neg (fun h => h2s h.1)] at hp1
        by_cases hm1 : y1 ∈ marksL
        · rw [if_pos hm1] at hp1
          have HP1 := Lib.hid hp1
          have LC0 := HL1.out true (decide_eq_true hm1) _ f0.drew
          clear hp1
          go_enter Tryd.func33, Tryd.ntmps33
          go_wp2_with (first | (go_at_call 31; refine (runInner_any s _ hs).mono ?_; rintro e w' ⟨rfl, rfl⟩; rw [HRUN.out]) | (go_at_call 53; refine (letter_any c _).mono ?_; rintro e w' ⟨rfl, rfl⟩; rw [HL.out]) | (go_at_call 54; refine (digit_any c _).mono ?_; rintro e w' ⟨rfl, rfl⟩; rw [HDG.out]))
          refine wp_loop_rounds 3 ?_
          rw [rounds_succ]
          go_wp2_with fail
          go_region_held3 (fun w' => w'.cell? ⟨w.heap.size, 1, none⟩ = some (.map (some r2)) ∧ (Instr.lookup 80 (.map (some r2)) (.string (str y1)) false).run Tryd.prog w' = .ok (.bool true) w') (exact ⟨CB0, LC0⟩) (fail)
          go_wp2_with fail
          refine bodyPost_ret (v := .tuple #[.agg #[.int .i64 4, .string (str y1), .int .i64 0, .int .i64 0, .int .i64 0], .int .i64 0]) (by simp [results, Tryd.results33, go_sem]) rfl ⟨by rw [HP1.out]; rfl, ?_⟩
          first | exact ((Below.refl _ w).al _).al _ | exact (((Below.refl _ w).al _).al _).drew | exact (((Below.refl _ w).al _).al _).drew.drew | exact below_drewN (((Below.refl _ w).al _).al _) _
        · rw [if_neg hm1] at hp1
          have HP1 := Lib.hid hp1
          have LC0 := HL1.out false (decide_eq_false hm1) _ f0.drew
          clear hp1
          go_enter Tryd.func33, Tryd.ntmps33
          go_wp2_with (first | (go_at_call 31; refine (runInner_any s _ hs).mono ?_; rintro e w' ⟨rfl, rfl⟩; rw [HRUN.out]) | (go_at_call 53; refine (letter_any c _).mono ?_; rintro e w' ⟨rfl, rfl⟩; rw [HL.out]) | (go_at_call 54; refine (digit_any c _).mono ?_; rintro e w' ⟨rfl, rfl⟩; rw [HDG.out]))
          refine wp_loop_rounds 3 ?_
          rw [rounds_succ]
          go_wp2_with fail
          go_region_held3 (fun w' => w'.cell? ⟨w.heap.size, 1, none⟩ = some (.map (some r2)) ∧ (Instr.lookup 80 (.map (some r2)) (.string (str y1)) false).run Tryd.prog w' = .ok (.bool false) w') (exact ⟨CB0, LC0⟩) (fail)
          go_wp2_with fail
          rw [rounds_succ]
          go_wp2_with fail
          refine bodyPost_ret (v := .tuple #[.agg #[.int .i64 0, .string ⟨#[]⟩, .int .i64 0, .int .i64 0, .int .i64 0], .int .i64 3]) (by simp [results, Tryd.results33, go_sem]) rfl ⟨by rw [HP1.out]; rfl, ?_⟩
          first | exact ((Below.refl _ w).al _).al _ | exact (((Below.refl _ w).al _).al _).drew | exact (((Below.refl _ w).al _).al _).drew.drew | exact below_drewN (((Below.refl _ w).al _).al _) _
    · have HDG := Lib.hid hdg
      clear hdg LK2
      rw [if_pos HDG.out] at hp1
      obtain ⟨⟨nv, ne⟩, hnum⟩ : ∃ q, numS t = q := ⟨_, rfl⟩
      rw [hnum] at hp1
      have hnum' : numS (str t).data.toList = (nv, ne) := by rw [str_list, hnum]
      have HNUM := Lib.hid hnum'
      clear hnum hnum'
      by_cases hne : ne = 0
      · subst hne
        rw [if_neg (by simp)] at hp1
        have HP1 := Lib.hid hp1
        clear hp1
        go_enter Tryd.func33, Tryd.ntmps33
        go_wp2_with (first | (go_at_call 31; refine (runInner_any s _ hs).mono ?_; rintro e w' ⟨rfl, rfl⟩; rw [HRUN.out]) | (go_at_call 53; refine (letter_any c _).mono ?_; rintro e w' ⟨rfl, rfl⟩; rw [HL.out]) | (go_at_call 54; refine (digit_any c _).mono ?_; rintro e w' ⟨rfl, rfl⟩; rw [HDG.out]) | (go_at_call 55; refine (number_any (str t) _ (by rw [HTS.out]; omega)).mono ?_; rintro e w' ⟨rfl, rfl⟩; rw [HNUM.out]))
        refine bodyPost_ret (v := .tuple #[.agg #[.int .i64 2, .string (str t), .int .i64 nv, .int .i64 0, .int .i64 0], .int .i64 0]) (by simp [results, Tryd.results33, go_sem]) rfl ⟨by rw [HP1.out]; rfl, ((Below.refl _ w).al _).al _⟩
      · rw [if_pos hne] at hp1
        have HP1 := Lib.hid hp1
        have t1 : (ne != 0) = true := by simpa using hne
        clear hp1
        go_enter Tryd.func33, Tryd.ntmps33
        go_wp2_with (first | (go_at_call 31; refine (runInner_any s _ hs).mono ?_; rintro e w' ⟨rfl, rfl⟩; rw [HRUN.out]) | (go_at_call 53; refine (letter_any c _).mono ?_; rintro e w' ⟨rfl, rfl⟩; rw [HL.out]) | (go_at_call 54; refine (digit_any c _).mono ?_; rintro e w' ⟨rfl, rfl⟩; rw [HDG.out]) | (go_at_call 55; refine (number_any (str t) _ (by rw [HTS.out]; omega)).mono ?_; rintro e w' ⟨rfl, rfl⟩; rw [HNUM.out]))
        refine bodyPost_ret (v := .tuple #[.agg #[.int .i64 0, .string ⟨#[]⟩, .int .i64 0, .int .i64 0, .int .i64 0], .int .i64 ne]) (by simp [results, Tryd.results33, go_sem]) rfl ⟨by rw [HP1.out]; rfl, ((Below.refl _ w).al _).al _⟩
  · have HL := Lib.hid hl
    clear hl
    have hp1 := HP.out
    rw [if_pos HL.out] at hp1
    clear LK2
    by_cases h30 : 30 < n
    · rw [if_pos h30] at hp1
      have HP1 := Lib.hid hp1
      have t1 : decide ((30 : Int) < ((str t).size : Int)) = true := by rw [HTS.out]; simp; omega
      clear hp1 lk1
      go_enter Tryd.func33, Tryd.ntmps33
      go_wp2_with (first | (go_at_call 31; refine (runInner_any s _ hs).mono ?_; rintro e w' ⟨rfl, rfl⟩; rw [HRUN.out]) | (go_at_call 53; refine (letter_any c _).mono ?_; rintro e w' ⟨rfl, rfl⟩; rw [HL.out]) | (go_at_call 54; refine (digit_any c _).mono ?_; rintro e w' ⟨rfl, rfl⟩; rw [HDG.out]) | (go_at_call 55; refine (number_any (str t) _ (by rw [HTS.out]; omega)).mono ?_; rintro e w' ⟨rfl, rfl⟩; rw [HNUM.out]))
      refine bodyPost_ret (v := .tuple #[.agg #[.int .i64 0, .string ⟨#[]⟩, .int .i64 0, .int .i64 0, .int .i64 0], .int .i64 2]) (by simp [results, Tryd.results33, go_sem]) rfl ⟨by rw [HP1.out]; rfl, ((Below.refl _ w).al _).al _⟩
    · rw [if_neg h30] at hp1
      have t1 : decide ((30 : Int) < ((str t).size : Int)) = false := by rw [HTS.out]; simp; omega
      by_cases hw : t ∈ wordsL
      · rw [if_pos hw] at hp1
        have HP1 := Lib.hid hp1
        rw [decide_eq_true hw] at lk1
        clear hp1
        go_enter Tryd.func33, Tryd.ntmps33
        go_wp2_with (first | (go_at_call 31; refine (runInner_any s _ hs).mono ?_; rintro e w' ⟨rfl, rfl⟩; rw [HRUN.out]) | (go_at_call 53; refine (letter_any c _).mono ?_; rintro e w' ⟨rfl, rfl⟩; rw [HL.out]) | (go_at_call 54; refine (digit_any c _).mono ?_; rintro e w' ⟨rfl, rfl⟩; rw [HDG.out]) | (go_at_call 55; refine (number_any (str t) _ (by rw [HTS.out]; omega)).mono ?_; rintro e w' ⟨rfl, rfl⟩; rw [HNUM.out]))
        refine bodyPost_ret (v := .tuple #[.agg #[.int .i64 3, .string (str t), .int .i64 0, .int .i64 0, .int .i64 0], .int .i64 0]) (by simp [results, Tryd.results33, go_sem]) rfl ⟨by rw [HP1.out]; rfl, ((Below.refl _ w).al _).al _⟩
      · rw [if_neg hw] at hp1
        have HP1 := Lib.hid hp1
        rw [decide_eq_false hw] at lk1
        clear hp1
        go_enter Tryd.func33, Tryd.ntmps33
        go_wp2_with (first | (go_at_call 31; refine (runInner_any s _ hs).mono ?_; rintro e w' ⟨rfl, rfl⟩; rw [HRUN.out]) | (go_at_call 53; refine (letter_any c _).mono ?_; rintro e w' ⟨rfl, rfl⟩; rw [HL.out]) | (go_at_call 54; refine (digit_any c _).mono ?_; rintro e w' ⟨rfl, rfl⟩; rw [HDG.out]) | (go_at_call 55; refine (number_any (str t) _ (by rw [HTS.out]; omega)).mono ?_; rintro e w' ⟨rfl, rfl⟩; rw [HNUM.out]))
        refine bodyPost_ret (v := .tuple #[.agg #[.int .i64 1, .string (str t), .int .i64 0, .int .i64 0, .int .i64 0], .int .i64 0]) (by simp [results, Tryd.results33, go_sem]) rfl ⟨by rw [HP1.out]; rfl, ((Below.refl _ w).al _).al _⟩
end Go.Proofs.YtdmlnoeneoomfaaDoor
