
/-
  package lex: the words and the marks; a scanner. package lex: the token that a text begins with. append onto a row of the call's own, in a region that draws its order. No program is named here. package lex: the tokens of a text. Expressions: their trees, and how tokens are parsed. No program is named here. Expressions: what stands behind plays no part; less depth gives the same, or is too deep. Programs: their trees, and how tokens are parsed. No program is named here.
-/
import Derived.Test.YtdgekckedchjbaaGreatDoorQA
import Derived.Test.YtdgekckedchjbaaGreatDoorLShelf
import Derived.LoopN
import Derived.Deep.RegionHeld3
import Derived.Deep.DeepCutAuto
import Derived.Deep.CutBlock
namespace Go.Proofs.YtdgekckedchjbaaGreatDoor
open Go.RowKit

/-- What the library's table of blanks holds. -/
def Spaces (w : World) : Prop := ∀ c : Nat, c < 256 → w.cell? ⟨Tryz.lays157_ren.g 0, c, none⟩ = some (.int .u8 (if Lib.isSp (UInt8.ofNat c) then 1 else 0))
theorem Spaces.below {w w' : World} (h : Spaces w) (hb : Below w.heap.size w w') : Spaces w' := fun c hc => by
  have h1 := h c hc
  exact (hb.cell (p := ⟨Tryz.lays157_ren.g 0, c, none⟩) (World.block_lt_of_cell? _ _ h1)).trans h1
/-- A text of bytes. -/
def str (l : List UInt8) : ByteArray := ⟨l.toArray⟩
theorem str_list (l : List UInt8) : (str l).data.toList = l := by simp [str]
def wordsT : List UInt8 := [103, 97, 109, 101, 32, 115, 101, 97, 116, 115, 32, 115, 116, 97, 107, 101, 32, 118, 97, 114, 32, 115, 116, 97, 114, 116, 32, 116, 117, 114, 110, 32, 112, 108, 97, 121, 32, 115, 105, 108, 101, 110, 116, 32, 112, 97, 121, 32, 101, 110, 100, 32, 105, 102, 32, 116, 104, 101, 110, 32, 101, 108, 115, 101, 32, 102, 111, 114, 32, 100, 111, 32, 114, 101, 102, 117, 115, 101, 32, 114, 111, 108, 108, 32, 115, 101, 97, 116, 32, 111, 118, 101, 114, 32, 114, 101, 115, 116, 32, 97, 110, 100, 32, 111, 114, 32, 110, 111, 116]
def marksT : List UInt8 := [91, 32, 93, 32, 40, 32, 41, 32, 61, 32, 33, 61, 32, 60, 32, 60, 61, 32, 62, 32, 62, 61, 32, 43, 32, 45, 32, 42, 32, 47, 32, 37, 32, 44]
def wordsL : List (List UInt8) := [[103, 97, 109, 101], [115, 101, 97, 116, 115], [115, 116, 97, 107, 101], [118, 97, 114], [115, 116, 97, 114, 116], [116, 117, 114, 110], [112, 108, 97, 121], [115, 105, 108, 101, 110, 116], [112, 97, 121], [101, 110, 100], [105, 102], [116, 104, 101, 110], [101, 108, 115, 101], [102, 111, 114], [100, 111], [114, 101, 102, 117, 115, 101], [114, 111, 108, 108], [115, 101, 97, 116], [111, 118, 101, 114], [114, 101, 115, 116], [97, 110, 100], [111, 114], [110, 111, 116]]
def marksL : List (List UInt8) := [[91], [93], [40], [41], [61], [33, 61], [60], [60, 61], [62], [62, 61], [43], [45], [42], [47], [37], [44]]
theorem fields_words : Lib.fields wordsT = wordsL := by decide +kernel
theorem fields_marks : Lib.fields marksT = marksL := by decide +kernel
theorem ascii_words : ∀ b ∈ wordsT, b.toNat < 128 := by decide +kernel
theorem ascii_marks : ∀ b ∈ marksT, b.toNat < 128 := by decide +kernel
def wordsB : List ByteArray := wordsL.map str
def marksB : List ByteArray := marksL.map str
theorem nodup_str {l : List (List UInt8)} (h : l.Nodup) : (l.map str).Nodup := by
  refine List.pairwise_map.2 (h.imp ?_)
  intro a b hab he
  have := congrArg (fun s : ByteArray => s.data.toList) he
  exact hab (by simpa [str] using this)
theorem wordsB_nodup : wordsB.Nodup := nodup_str (by decide +kernel)
theorem marksB_nodup : marksB.Nodup := nodup_str (by decide +kernel)

/-- The texts l in a block of their own. -/
def textsO (l : List ByteArray) : Obj := .cells (l.map Value.string).toArray 9
theorem fields_any (s : ByteArray) (l : List (List UInt8)) (w : World) (hs : s.size < 4294967281) (ha : ∀ b ∈ s.data.toList, b.toNat < 128) (hl : Lib.fields s.data.toList = l) (hT : Spaces w) :
    Calls Tryz.prog 142 #[.string s] w fun e w' => e = .returned (.slice (some ⟨w.heap.size, 0, none⟩) l.length l.length) ∧ w' = w.alloc (textsO (l.map str)) := by
  subst hl
  refine (Any.strings_Fields_core Tryz.lays157 (by kernel_rfl) s w hs (fun j b h => ha b (List.mem_of_getElem? h)) hT).mono ?_
  rintro e w' ⟨rfl, rfl⟩
  refine ⟨rfl, ?_⟩
  unfold textsO
  congr 3
  simp [str]

set_option maxHeartbeats 1000000 in
set_option maxRecDepth 100000 in
theorem words_any (w : World) (hT : Spaces w) :
    Calls Tryz.prog 123 #[] w fun e w' => e = .returned (.slice (some ⟨w.heap.size, 0, none⟩) 23 23) ∧ w' = w.alloc (textsO wordsB) := by
  go_enter Tryz.func123, Tryz.ntmps123
  go_wp2_with fail
  refine (fields_any (str wordsT) wordsL w (by decide +kernel) (by rw [str_list]; exact ascii_words) (by rw [str_list]; exact fields_words) hT).mono ?_
  rintro e w' ⟨rfl, rfl⟩
  go_wp2_with fail
  go_ret
  exact ⟨rfl, rfl⟩
set_option maxHeartbeats 1000000 in
set_option maxRecDepth 100000 in
theorem marks_any (w : World) (hT : Spaces w) :
    Calls Tryz.prog 124 #[] w fun e w' => e = .returned (.slice (some ⟨w.heap.size, 0, none⟩) 16 16) ∧ w' = w.alloc (textsO marksB) := by
  go_enter Tryz.func124, Tryz.ntmps124
  go_wp2_with fail
  refine (fields_any (str marksT) marksL w (by decide +kernel) (by rw [str_list]; exact ascii_marks) (by rw [str_list]; exact fields_marks) hT).mono ?_
  rintro e w' ⟨rfl, rfl⟩
  go_wp2_with fail
  go_ret
  exact ⟨rfl, rfl⟩
theorem texts_rv (w : World) (l : List ByteArray) : RV (w.alloc (textsO l)) (some ⟨w.heap.size, 0, none⟩) l.length (l.map Value.string) := by
  refine ⟨by simp, fun _ => ⟨_, rfl, by simp, fun j u hu => ?_⟩⟩
  rw [Addr.add_lit, Nat.zero_add]
  have h := (Blk.new w 9 (l.map Value.string).toArray).cell j
  have h2 : (w.alloc (textsO l)).cell? ⟨w.heap.size, j, none⟩ = (l.map Value.string).toArray[j]? := h
  rw [h2]
  simpa using hu

/-- A scanner. -/
def ScMade (w : World) (e : Ending) (w' : World) : Prop := ∃ r1 r2, e = .returned (.agg #[.map (some r1), .map (some r2)]) ∧ SetIs w' r1 wordsB ∧ SetIs w' r2 marksB ∧ Below w.heap.size w w'
set_option maxHeartbeats 1000000 in
set_option maxRecDepth 100000 in
theorem start_any (w : World) (hT : Spaces w) :
    Calls Tryz.prog 82 #[] w (ScMade w) := by
  have HT := Lib.hid hT
  clear hT
  go_enter Tryz.func82, Tryz.ntmps82
  go_wp2_with fail
  have f0 : Below w.heap.size w (w.alloc (.cells #[.map none, .map none] 153)) := (Below.refl _ w).al _
  have y0 := Blk.new w 153 #[.map none, .map none]
  have T0 := Lib.hid (HT.out.below f0)
  have z0 : (w.alloc (.cells #[.map none, .map none] 153)).heap.size = w.heap.size + 1 := by simp
  generalize w.alloc (.cells #[.map none, .map none] 153) = W0 at *
  have HZ := Lib.hid z0
  have HY := Lib.hid y0
  clear z0 y0
  refine (words_any W0 T0.out).mono ?_
  rintro e w1 ⟨rfl, rfl⟩
  have r1 : RV (W0.alloc (textsO wordsB)) (some ⟨W0.heap.size, 0, none⟩) 23 (wordsB.map Value.string) := texts_rv W0 wordsB
  have f1 : Below W0.heap.size W0 (W0.alloc (textsO wordsB)) := (Below.refl _ W0).al _
  go_wp2_with fail
  refine (set_any _ 23 23 wordsB _ r1 wordsB_nodup (by omega)).mono ?_
  rintro e w2 ⟨r, rfl, s2, l2, b2⟩
  have f2 := f1.then_ b2
  have T2 := Lib.hid (T0.out.below f2)
  have S2 := Lib.hid s2
  clear r1 s2 f1
  go_wp2_with fail
  refine (marks_any w2 T2.out).mono ?_
  rintro e w3 ⟨rfl, rfl⟩
  have r3 : RV (w2.alloc (textsO marksB)) (some ⟨w2.heap.size, 0, none⟩) 16 (marksB.map Value.string) := texts_rv w2 marksB
  have f3 := f2.al (textsO marksB)
  have S3 := Lib.hid (S2.out.below ((Below.refl _ w2).al (textsO marksB)))
  go_wp2_with fail
  refine (set_any _ 16 16 marksB _ r3 marksB_nodup (by omega)).mono ?_
  rintro e w4 ⟨r', rfl, s4, l4, b4⟩
  have f4 := f3.then_ b4
  have S4 := Lib.hid (S3.out.below b4)
  have S4' := Lib.hid s4
  have y4 := HY.out.below f4 HY.out.lt
  have g4 := f0.then_ f4
  have k0 : w4.cell? ⟨w.heap.size, 0, none⟩ = some (.map none) := y4.cell 0
  have k1 : w4.cell? ⟨w.heap.size, 1, none⟩ = some (.map none) := y4.cell 1
  have q0 := y4.frozen 0
  have q1 := y4.frozen 1
  have n1 : r ≠ w.heap.size := by have := HZ.out; simp at l2; omega
  have n2 : r' ≠ w.heap.size := by have := f2.size; have := HZ.out; simp at l4; omega
  have kk : Kept (fun q => q = w.heap.size) w4 ((w4.setCell ⟨w.heap.size, 0, none⟩ (.map (some r))).setCell ⟨w.heap.size, 1, none⟩ (.map (some r'))) := ((Kept.refl (fun q => q = w.heap.size) w4).setCell (p := ⟨w.heap.size, 0, none⟩) (fun _ => rfl) _).setCell (p := ⟨w.heap.size, 1, none⟩) (fun _ => rfl) _
  have HK := Lib.hid kk
  clear r3 s4 kk y4
  go_wp2_with fail
  refine bodyPost_ret (v := .agg #[.map (some r), .map (some r')]) (by simp [results, Tryz.results82, go_sem, k0, k1]) rfl ⟨r, r', rfl, S4.out.kept HK.out n1, S4'.out.kept HK.out n2, ?_⟩
  exact g4.trans (HK.out.to_below g4.size (fun q hq e => by omega))
end Go.Proofs.YtdgekckedchjbaaGreatDoor
namespace Go.Proofs.YtdgekckedchjbaaGreatDoor
open Go.RowKit

/-- What a text begins with: a token's kind, text and number; the error. -/
structure Pc where
  kind : Int
  text : List UInt8
  n : Int
  err : Int
def noPc (e : Int) : Pc := ⟨0, [], 0, e⟩
def pieceS (l : List UInt8) : Pc :=
  if letB (l.headD 0) = true then
    (if 30 < preN innB l then noPc 2
    else if l.take (preN innB l) ∈ wordsL then ⟨3, l.take (preN innB l), 0, 0⟩
    else ⟨1, l.take (preN innB l), 0, 0⟩)
  else if digB (l.headD 0) = true then
    (if (numS (l.take (preN innB l))).2 ≠ 0 then noPc (numS (l.take (preN innB l))).2
    else ⟨2, l.take (preN innB l), (numS (l.take (preN innB l))).1, 0⟩)
  else if 2 ≤ l.length ∧ l.take 2 ∈ marksL then ⟨4, l.take 2, 0, 0⟩
  else if l.take 1 ∈ marksL then ⟨4, l.take 1, 0, 0⟩
  else noPc 3
theorem ext_str (s : ByteArray) (k : Nat) : s.extract 0 k = str (s.data.toList.take k) := by
  apply ba_ext
  rw [str_list]
  simp
theorem inL_str {l : List (List UInt8)} {x : List UInt8} : inL (l.map str) (str x) = decide (x ∈ l) := by
  unfold inL
  rw [List.map_map, str_list]
  have : (fun s : ByteArray => s.data.toList) ∘ str = id := by
    funext y
    simp [str]
  rw [this, List.map_id]
  rw [Bool.eq_iff_iff]
  simp
/-- A piece's token, without its place, and the error. -/
def pcV (p : Pc) : Value := .tuple #[.agg #[.int .i64 p.kind, .string (str p.text), .int .i64 p.n, .int .i64 0, .int .i64 0], .int .i64 p.err]
theorem lookup_set {w : World} {r : Nat} {l : List (List UInt8)} (h : SetIs w r (l.map str)) (x : List UInt8) : (Instr.lookup 151 (.map (some r)) (.string (str x)) false).run Tryz.prog w = .ok (.bool (decide (x ∈ l))) w := by
  rw [← inL_str]
  exact h.lookup Tryz.underlying151 Tryz.underlying9 (by kernel_rfl) (str x)

set_option maxHeartbeats 4000000 in
set_option maxRecDepth 100000 in
theorem piece_any (r1 r2 : Nat) (s : ByteArray) (w : World) (h1 : SetIs w r1 wordsB) (h2 : SetIs w r2 marksB) (h0 : 0 < s.size) (hs : s.size ≤ 9223372036854775807) :
    Calls Tryz.prog 85 #[.agg #[.map (some r1), .map (some r2)], .string s] w fun e w' => e = .returned (pcV (pieceS s.data.toList)) ∧ Below w.heap.size w w' := by
  obtain ⟨c, hc⟩ : ∃ c : UInt8, s[0] = c := ⟨_, rfl⟩
  have hhd : s.data.toList.headD 0 = c := by
    rw [List.headD_eq_head?_getD, List.head?_eq_getElem?, at_list s h0, hc]
    rfl
  obtain ⟨n, hn⟩ : ∃ n, preN innB s.data.toList = n := ⟨_, rfl⟩
  have hnl : n ≤ s.size := by rw [← hn, ← size_list]; exact preN_le _ _
  obtain ⟨t, ht⟩ : ∃ t, s.data.toList.take n = t := ⟨_, rfl⟩
  have hts : (str t).size = n := by rw [← size_list, str_list, ← ht, List.length_take, size_list]; omega
  have hrun : s.extract 0 (preN innB s.data.toList) = str t := by rw [hn, ext_str, ht]
  have hp : pieceS s.data.toList = if letB c = true then (if 30 < n then noPc 2 else if t ∈ wordsL then ⟨3, t, 0, 0⟩ else ⟨1, t, 0, 0⟩) else if digB c = true then (if (numS t).2 ≠ 0 then noPc (numS t).2 else ⟨2, t, (numS t).1, 0⟩) else if 2 ≤ s.size ∧ s.data.toList.take 2 ∈ marksL then ⟨4, s.data.toList.take 2, 0, 0⟩ else if s.data.toList.take 1 ∈ marksL then ⟨4, s.data.toList.take 1, 0, 0⟩ else noPc 3 := by
    unfold pieceS
    rw [hhd, hn, ht, size_list]
  have HP := Lib.hid hp
  have HRUN := Lib.hid hrun
  have HT := Lib.hid ht
  have HTS := Lib.hid hts
  have H1 := Lib.hid h1
  have H2 := Lib.hid h2
  clear hp hrun ht hts h1 h2 hn hhd
  have f0 : Below w.heap.size w ((w.alloc (.cells #[.map (some r1), .map (some r2)] 153)).alloc (.cells #[.int .i64 0, .string ⟨#[]⟩, .int .i64 0, .int .i64 0, .int .i64 0] 122)) := ((Below.refl _ w).al _).al _
  have lk1 := lookup_set (l := wordsL) (H1.out.below f0) t
  have LK2 : Hid (∀ x W, Below w.heap.size w W → (Instr.lookup 151 (.map (some r2)) (.string (str x)) false).run Tryz.prog W = .ok (.bool (decide (x ∈ marksL))) W) := fun x W hW => lookup_set (l := marksL) (H2.out.below hW) x
  have hc' := hc
  cases hl : letB c
  · have HL := Lib.hid hl
    clear hl
    have hp1 := HP.out
    rw [if_neg (by rw [HL.out]; simp)] at hp1
    clear lk1
    cases hdg : digB c
    · have HDG := Lib.hid hdg
      clear hdg
      rw [if_neg (by rw [HDG.out]; simp)] at hp1
      have b0 : Blk ((w.alloc (.cells #[.map (some r1), .map (some r2)] 153)).alloc (.cells #[.int .i64 0, .string ⟨#[]⟩, .int .i64 0, .int .i64 0, .int .i64 0] 122)) w.heap.size 153 #[.map (some r1), .map (some r2)] := (Blk.new w _ _).alloc _
      have c1 : ((w.alloc (.cells #[.map (some r1), .map (some r2)] 153)).alloc (.cells #[.int .i64 0, .string ⟨#[]⟩, .int .i64 0, .int .i64 0, .int .i64 0] 122)).cell? ⟨w.heap.size, 1, none⟩ = some (.map (some r2)) := b0.cell 1
      obtain ⟨y1, hy1⟩ : ∃ y, s.data.toList.take 1 = y := ⟨_, rfl⟩
      obtain ⟨y2, hy2⟩ : ∃ y, s.data.toList.take 2 = y := ⟨_, rfl⟩
      have x1 : s.extract 0 1 = str y1 := by rw [ext_str, hy1]
      have x2 : s.extract 0 2 = str y2 := by rw [ext_str, hy2]
      rw [hy1, hy2] at hp1
      have CB0 : ((w.alloc (.cells #[.map (some r1), .map (some r2)] 153)).alloc (.cells #[.int .i64 0, .string ⟨#[]⟩, .int .i64 0, .int .i64 0, .int .i64 0] 122)).drew.cell? ⟨w.heap.size, 1, none⟩ = some (.map (some r2)) := c1
      have CB1 : ((w.alloc (.cells #[.map (some r1), .map (some r2)] 153)).alloc (.cells #[.int .i64 0, .string ⟨#[]⟩, .int .i64 0, .int .i64 0, .int .i64 0] 122)).drew.drew.cell? ⟨w.heap.size, 1, none⟩ = some (.map (some r2)) := c1
      have z1 : (1 : Int) ≤ (s.size : Int) := by omega
      have B0 := Lib.hid b0
      clear hy1 hy2 b0 c1
      have L1b : ∀ b, decide (y1 ∈ marksL) = b → ∀ W, Below w.heap.size w W → (Instr.lookup 151 (.map (some r2)) (.string (str y1)) false).run Tryz.prog W = .ok (.bool b) W := fun b hb W hW => by rw [LK2.out y1 W hW, hb]
      have L2b : ∀ b, decide (y2 ∈ marksL) = b → ∀ W, Below w.heap.size w W → (Instr.lookup 151 (.map (some r2)) (.string (str y2)) false).run Tryz.prog W = .ok (.bool b) W := fun b hb W hW => by rw [LK2.out y2 W hW, hb]
      have HL1 := Lib.hid L1b
      have HL2 := Lib.hid L2b
      clear L1b L2b LK2
      by_cases h2s : 2 ≤ s.size
      · have z2 : (2 : Int) ≤ (s.size : Int) := by omega
        have hmin : min (2 : Int) (s.size : Int) = 2 := by omega
        by_cases hm2 : y2 ∈ marksL
        · rw [if_pos ⟨h2s, hm2⟩] at hp1
          have HP1 := Lib.hid hp1
          have LC0 := HL2.out true (decide_eq_true hm2) _ f0.drew
          clear hp1
          go_enter Tryz.func85, Tryz.ntmps85
          go_wp2_with (first | (go_at_call 83; refine (runInner_any s _ hs).mono ?_; rintro e w' ⟨rfl, rfl⟩; rw [HRUN.out]) | (go_at_call 126; refine (letter_any c _).mono ?_; rintro e w' ⟨rfl, rfl⟩; rw [HL.out]) | (go_at_call 127; refine (digit_any c _).mono ?_; rintro e w' ⟨rfl, rfl⟩; rw [HDG.out]))
          refine wp_loop_rounds 3 ?_
          rw [rounds_succ]
          go_wp2_with fail
          go_region_held3 (fun w' => w'.cell? ⟨w.heap.size, 1, none⟩ = some (.map (some r2)) ∧ (Instr.lookup 151 (.map (some r2)) (.string (str y2)) false).run Tryz.prog w' = .ok (.bool true) w') (exact ⟨CB0, LC0⟩) (fail)
          go_wp2_with fail
          refine bodyPost_ret (v := .tuple #[.agg #[.int .i64 4, .string (str y2), .int .i64 0, .int .i64 0, .int .i64 0], .int .i64 0]) (by simp [results, Tryz.results85, go_sem]) rfl ⟨by rw [HP1.out]; rfl, ?_⟩
          first | exact ((Below.refl _ w).al _).al _ | exact (((Below.refl _ w).al _).al _).drew | exact (((Below.refl _ w).al _).al _).drew.drew | exact below_drewN (((Below.refl _ w).al _).al _) _
        · rw [if_neg (fun h => hm2 h.2)] at hp1
          have LC0 := HL2.out false (decide_eq_false hm2) _ f0.drew
          by_cases hm1 : y1 ∈ marksL
          · rw [if_pos hm1] at hp1
            have HP1 := Lib.hid hp1
            have LC1 := HL1.out true (decide_eq_true hm1) _ f0.drew.drew
            clear hp1
            go_enter Tryz.func85, Tryz.ntmps85
            go_wp2_with (first | (go_at_call 83; refine (runInner_any s _ hs).mono ?_; rintro e w' ⟨rfl, rfl⟩; rw [HRUN.out]) | (go_at_call 126; refine (letter_any c _).mono ?_; rintro e w' ⟨rfl, rfl⟩; rw [HL.out]) | (go_at_call 127; refine (digit_any c _).mono ?_; rintro e w' ⟨rfl, rfl⟩; rw [HDG.out]))
            refine wp_loop_rounds 3 ?_
            rw [rounds_succ]
            go_wp2_with fail
            go_region_held3 (fun w' => w'.cell? ⟨w.heap.size, 1, none⟩ = some (.map (some r2)) ∧ (Instr.lookup 151 (.map (some r2)) (.string (str y2)) false).run Tryz.prog w' = .ok (.bool false) w') (exact ⟨CB0, LC0⟩) (fail)
            go_wp2_with fail
            rw [rounds_succ]
            go_wp2_with fail
            go_region_held3 (fun w' => w'.cell? ⟨w.heap.size, 1, none⟩ = some (.map (some r2)) ∧ (Instr.lookup 151 (.map (some r2)) (.string (str y1)) false).run Tryz.prog w' = .ok (.bool true) w') (exact ⟨CB1, LC1⟩) (fail)
            go_wp2_with fail
            refine bodyPost_ret (v := .tuple #[.agg #[.int .i64 4, .string (str y1), .int .i64 0, .int .i64 0, .int .i64 0], .int .i64 0]) (by simp [results, Tryz.results85, go_sem]) rfl ⟨by rw [HP1.out]; rfl, ?_⟩
            first | exact ((Below.refl _ w).al _).al _ | exact (((Below.refl _ w).al _).al _).drew | exact (((Below.refl _ w).al _).al _).drew.drew | exact below_drewN (((Below.refl _ w).al _).al _) _
          · rw [if_neg hm1] at hp1
            have HP1 := Lib.hid hp1
            have LC1 := HL1.out false (decide_eq_false hm1) _ f0.drew.drew
            clear hp1
            go_enter Tryz.func85, Tryz.ntmps85
            go_wp2_with (first | (go_at_call 83; refine (runInner_any s _ hs).mono ?_; rintro e w' ⟨rfl, rfl⟩; rw [HRUN.out]) | (go_at_call 126; refine (letter_any c _).mono ?_; rintro e w' ⟨rfl, rfl⟩; rw [HL.out]) | (go_at_call 127; refine (digit_any c _).mono ?_; rintro e w' ⟨rfl, rfl⟩; rw [HDG.out]))
            refine wp_loop_rounds 3 ?_
            rw [rounds_succ]
            go_wp2_with fail
            go_region_held3 (fun w' => w'.cell? ⟨w.heap.size, 1, none⟩ = some (.map (some r2)) ∧ (Instr.lookup 151 (.map (some r2)) (.string (str y2)) false).run Tryz.prog w' = .ok (.bool false) w') (exact ⟨CB0, LC0⟩) (fail)
            go_wp2_with fail
            rw [rounds_succ]
            go_wp2_with fail
            go_region_held3 (fun w' => w'.cell? ⟨w.heap.size, 1, none⟩ = some (.map (some r2)) ∧ (Instr.lookup 151 (.map (some r2)) (.string (str y1)) false).run Tryz.prog w' = .ok (.bool false) w') (exact ⟨CB1, LC1⟩) (fail)
            go_wp2_with fail
            rw [rounds_succ]
            go_wp2_with fail
            refine bodyPost_ret (v := .tuple #[.agg #[.int .i64 0, .string ⟨#[]⟩, .int .i64 0, .int .i64 0, .int .i64 0], .int .i64 3]) (by simp [results, Tryz.results85, go_sem]) rfl ⟨by rw [HP1.out]; rfl, ?_⟩
            first | exact ((Below.refl _ w).al _).al _ | exact (((Below.refl _ w).al _).al _).drew | exact (((Below.refl _ w).al _).al _).drew.drew | exact below_drewN (((Below.refl _ w).al _).al _) _
      · have hmin : min (2 : Int) (s.size : Int) = 1 := by omega
        rw [if_neg (fun h => h2s h.1)] at hp1
        by_cases hm1 : y1 ∈ marksL
        · rw [if_pos hm1] at hp1
          have HP1 := Lib.hid hp1
          have LC0 := HL1.out true (decide_eq_true hm1) _ f0.drew
          clear hp1
          go_enter Tryz.func85, Tryz.ntmps85
          go_wp2_with (first | (go_at_call 83; refine (runInner_any s _ hs).mono ?_; rintro e w' ⟨rfl, rfl⟩; rw [HRUN.out]) | (go_at_call 126; refine (letter_any c _).mono ?_; rintro e w' ⟨rfl, rfl⟩; rw [HL.out]) | (go_at_call 127; refine (digit_any c _).mono ?_; rintro e w' ⟨rfl, rfl⟩; rw [HDG.out]))
          refine wp_loop_rounds 3 ?_
          rw [rounds_succ]
          go_wp2_with fail
          go_region_held3 (fun w' => w'.cell? ⟨w.heap.size, 1, none⟩ = some (.map (some r2)) ∧ (Instr.lookup 151 (.map (some r2)) (.string (str y1)) false).run Tryz.prog w' = .ok (.bool true) w') (exact ⟨CB0, LC0⟩) (fail)
          go_wp2_with fail
          refine bodyPost_ret (v := .tuple #[.agg #[.int .i64 4, .string (str y1), .int .i64 0, .int .i64 0, .int .i64 0], .int .i64 0]) (by simp [results, Tryz.results85, go_sem]) rfl ⟨by rw [HP1.out]; rfl, ?_⟩
          first | exact ((Below.refl _ w).al _).al _ | exact (((Below.refl _ w).al _).al _).drew | exact (((Below.refl _ w).al _).al _).drew.drew | exact below_drewN (((Below.refl _ w).al _).al _) _
        · rw [if_neg hm1] at hp1
          have HP1 := Lib.hid hp1
          have LC0 := HL1.out false (decide_eq_false hm1) _ f0.drew
          clear hp1
          go_enter Tryz.func85, Tryz.ntmps85
          go_wp2_with (first | (go_at_call 83; refine (runInner_any s _ hs).mono ?_; rintro e w' ⟨rfl, rfl⟩; rw [HRUN.out]) | (go_at_call 126; refine (letter_any c _).mono ?_; rintro e w' ⟨rfl, rfl⟩; rw [HL.out]) | (go_at_call 127; refine (digit_any c _).mono ?_; rintro e w' ⟨rfl, rfl⟩; rw [HDG.out]))
          refine wp_loop_rounds 3 ?_
          rw [rounds_succ]
          go_wp2_with fail
          go_region_held3 (fun w' => w'.cell? ⟨w.heap.size, 1, none⟩ = some (.map (some r2)) ∧ (Instr.lookup 151 (.map (some r2)) (.string (str y1)) false).run Tryz.prog w' = .ok (.bool false) w') (exact ⟨CB0, LC0⟩) (fail)
          go_wp2_with fail
          rw [rounds_succ]
          go_wp2_with fail
          refine bodyPost_ret (v := .tuple #[.agg #[.int .i64 0, .string ⟨#[]⟩, .int .i64 0, .int .i64 0, .int .i64 0], .int .i64 3]) (by simp [results, Tryz.results85, go_sem]) rfl ⟨by rw [HP1.out]; rfl, ?_⟩
          first | exact ((Below.refl _ w).al _).al _ | exact (((Below.refl _ w).al _).al _).drew | exact (((Below.refl _ w).al _).al _).drew.drew | exact below_drewN (((Below.refl _ w).al _).al _) _
    · have HDG := Lib.hid hdg
      clear hdg LK2
      rw [if_pos HDG.out] at hp1
      obtain ⟨⟨nv, ne⟩, hnum⟩ : ∃ q, numS t = q := ⟨_, rfl⟩
      rw [hnum] at hp1
      have hnum' : numS (str t).data.toList = (nv, ne) := by rw [str_list, hnum]
      have HNUM := Lib.hid hnum'
      clear hnum hnum'
      by_cases hne : ne = 0
      · subst hne
        rw [if_neg (by simp)] at hp1
        have HP1 := Lib.hid hp1
        clear hp1
        go_enter Tryz.func85, Tryz.ntmps85
        go_wp2_with (first | (go_at_call 83; refine (runInner_any s _ hs).mono ?_; rintro e w' ⟨rfl, rfl⟩; rw [HRUN.out]) | (go_at_call 126; refine (letter_any c _).mono ?_; rintro e w' ⟨rfl, rfl⟩; rw [HL.out]) | (go_at_call 127; refine (digit_any c _).mono ?_; rintro e w' ⟨rfl, rfl⟩; rw [HDG.out]) | (go_at_call 128; refine (number_any (str t) _ (by rw [HTS.out]; omega)).mono ?_; rintro e w' ⟨rfl, rfl⟩; rw [HNUM.out]))
        refine bodyPost_ret (v := .tuple #[.agg #[.int .i64 2, .string (str t), .int .i64 nv, .int .i64 0, .int .i64 0], .int .i64 0]) (by simp [results, Tryz.results85, go_sem]) rfl ⟨by rw [HP1.out]; rfl, ((Below.refl _ w).al _).al _⟩
      · rw [if_pos hne] at hp1
        have HP1 := Lib.hid hp1
        have t1 : (ne != 0) = true := by simpa using hne
        clear hp1
        go_enter Tryz.func85, Tryz.ntmps85
        go_wp2_with (first | (go_at_call 83; refine (runInner_any s _ hs).mono ?_; rintro e w' ⟨rfl, rfl⟩; rw [HRUN.out]) | (go_at_call 126; refine (letter_any c _).mono ?_; rintro e w' ⟨rfl, rfl⟩; rw [HL.out]) | (go_at_call 127; refine (digit_any c _).mono ?_; rintro e w' ⟨rfl, rfl⟩; rw [HDG.out]) | (go_at_call 128; refine (number_any (str t) _ (by rw [HTS.out]; omega)).mono ?_; rintro e w' ⟨rfl, rfl⟩; rw [HNUM.out]))
        refine bodyPost_ret (v := .tuple #[.agg #[.int .i64 0, .string ⟨#[]⟩, .int .i64 0, .int .i64 0, .int .i64 0], .int .i64 ne]) (by simp [results, Tryz.results85, go_sem]) rfl ⟨by rw [HP1.out]; rfl, ((Below.refl _ w).al _).al _⟩
  · have HL := Lib.hid hl
    clear hl
    have hp1 := HP.out
    rw [if_pos HL.out] at hp1
    clear LK2
    by_cases h30 : 30 < n
    · rw [if_pos h30] at hp1
      have HP1 := Lib.hid hp1
      have t1 : decide ((30 : Int) < ((str t).size : Int)) = true := by rw [HTS.out]; simp; omega
      clear hp1 lk1
      go_enter Tryz.func85, Tryz.ntmps85
      go_wp2_with (first | (go_at_call 83; refine (runInner_any s _ hs).mono ?_; rintro e w' ⟨rfl, rfl⟩; rw [HRUN.out]) | (go_at_call 126; refine (letter_any c _).mono ?_; rintro e w' ⟨rfl, rfl⟩; rw [HL.out]) | (go_at_call 127; refine (digit_any c _).mono ?_; rintro e w' ⟨rfl, rfl⟩; rw [HDG.out]) | (go_at_call 128; refine (number_any (str t) _ (by rw [HTS.out]; omega)).mono ?_; rintro e w' ⟨rfl, rfl⟩; rw [HNUM.out]))
      refine bodyPost_ret (v := .tuple #[.agg #[.int .i64 0, .string ⟨#[]⟩, .int .i64 0, .int .i64 0, .int .i64 0], .int .i64 2]) (by simp [results, Tryz.results85, go_sem]) rfl ⟨by rw [HP1.out]; rfl, ((Below.refl _ w).al _).al _⟩
    · rw [if_neg h30] at hp1
      have t1 : decide ((30 : Int) < ((str t).size : Int)) = false := by rw [HTS.out]; simp; omega
      by_cases hw : t ∈ wordsL
      · rw [if_pos hw] at hp1
        have HP1 := Lib.hid hp1
        rw [decide_eq_true hw] at lk1
        clear hp1
        go_enter Tryz.func85, Tryz.ntmps85
        go_wp2_with (first | (go_at_call 83; refine (runInner_any s _ hs).mono ?_; rintro e w' ⟨rfl, rfl⟩; rw [HRUN.out]) | (go_at_call 126; refine (letter_any c _).mono ?_; rintro e w' ⟨rfl, rfl⟩; rw [HL.out]) | (go_at_call 127; refine (digit_any c _).mono ?_; rintro e w' ⟨rfl, rfl⟩; rw [HDG.out]) | (go_at_call 128; refine (number_any (str t) _ (by rw [HTS.out]; omega)).mono ?_; rintro e w' ⟨rfl, rfl⟩; rw [HNUM.out]))
        refine bodyPost_ret (v := .tuple #[.agg #[.int .i64 3, .string (str t), .int .i64 0, .int .i64 0, .int .i64 0], .int .i64 0]) (by simp [results, Tryz.results85, go_sem]) rfl ⟨by rw [HP1.out]; rfl, ((Below.refl _ w).al _).al _⟩
      · rw [if_neg hw] at hp1
        have HP1 := Lib.hid hp1
        rw [decide_eq_false hw] at lk1
        clear hp1
        go_enter Tryz.func85, Tryz.ntmps85
        go_wp2_with (first | (go_at_call 83; refine (runInner_any s _ hs).mono ?_; rintro e w' ⟨rfl, rfl⟩; rw [HRUN.out]) | (go_at_call 126; refine (letter_any c _).mono ?_; rintro e w' ⟨rfl, rfl⟩; rw [HL.out]) | (go_at_call 127; refine (digit_any c _).mono ?_; rintro e w' ⟨rfl, rfl⟩; rw [HDG.out]) | (go_at_call 128; refine (number_any (str t) _ (by rw [HTS.out]; omega)).mono ?_; rintro e w' ⟨rfl, rfl⟩; rw [HNUM.out]))
        refine bodyPost_ret (v := .tuple #[.agg #[.int .i64 1, .string (str t), .int .i64 0, .int .i64 0, .int .i64 0], .int .i64 0]) (by simp [results, Tryz.results85, go_sem]) rfl ⟨by rw [HP1.out]; rfl, ((Below.refl _ w).al _).al _⟩
end Go.Proofs.YtdgekckedchjbaaGreatDoor
namespace Go.Proofs.YtdgekckedchjbaaGreatDoor
open Go.RowKit

theorem step_append_any {P : Program} (w : World) {ops : Array Oper} {o : Oper} {a : Act} {K : Act → World → Prop} {Q : Exit → Act → World → Prop} {E : Prop} (hgd : o.guard = none) (s x : Operand) (t : TypeId)
    (ho : o.op = .call { callee := .builtin .append, args := #[s, x], argTypes := #[t, t] })
    (base : Nat) (e : TypeId) (i : TypeInfo) (z : Value) (size bytes : Nat) (ht : P.underlying t = some (.slice e)) (hi : P.info? e = some i) (hz : i.zero = some z)
    (hsize : i.size = size) (hby : i.bytes = bytes) (hzs : z.cells.size = size) (hsz : 0 < size)
    (v : Value) (n : Nat) (xs : List Value) (hs : a.eval s = v) (hown : w.ownsRow base e size v n xs)
    (B : Nat) (A : Option Addr) (m c : Nat) (news : List Value) (hx : a.eval x = .slice A m c) (hr : Reads w B size A m news) (h1 : ∀ u ∈ news, u.oneCell' = true)
    (h63 : n + m ≤ maxLen) (hbytes : (n + m) * bytes ≤ 140737488355328) (hbase : base ≤ w.heap.size)
    (h : ∀ v' w', w'.ownsRow base e size v' (n + m) (xs ++ news) → w.grownBy w' v.ownBlock → (v'.ownBlock = v.ownBlock ∨ v'.ownBlock = some w.heap.size) → K (a.put o.dst v') w') :
    if Region.wanted o (yielded ops a.tmps) = true then Oper.wp P o a w K Q else E := by
  have hw : Region.wanted o (yielded ops a.tmps) = true := by simp [Region.wanted, hgd]
  rw [if_pos hw]
  exact wp_append_any w s x t ho base e i z size bytes ht hi hz hsize hby hzs hsz v n xs hs hown B A m c news hx hr h1 h63 hbytes hbase h

theorem Blk.grown {w w' : World} {g : Nat} {t : TypeId} {cs : Array Value} {row : Option Nat} (h : Blk w g t cs) (hb : w.grownBy w' row) (hg : some g ≠ row) : Blk w' g t cs := (hb.block g h.lt hg).trans h
theorem own_slice {w : World} {base size n : Nat} {e : TypeId} {v : Value} {xs : List Value} (h : w.ownsRow base e size v n xs) : ∃ A c, v = .slice A n c := by
  rcases h.2 with ⟨rfl, rfl⟩ | ⟨g, cap, cur, rfl, _⟩
  · exact ⟨none, 0, rfl⟩
  · exact ⟨_, _, rfl⟩
end Go.Proofs.YtdgekckedchjbaaGreatDoor
namespace Go.Proofs.YtdgekckedchjbaaGreatDoor
open Go.RowKit

/-- A token. -/
structure Tk where
  kind : Int
  text : List UInt8
  n : Int
  line : Int
  col : Int
inductive Res where
  | ok (ts : List Tk)
  | err (line col e : Int)
/-- The tokens of what is left, behind those that were found. -/
def lexF : Nat → List UInt8 → Int → Int → List Tk → Res
  | 0, _, _, _, acc => .ok acc
  | _ + 1, [], line, col, acc => .ok (acc ++ [⟨0, [], 0, line, col⟩])
  | f + 1, c :: r, line, col, acc =>
    if c = 10 then lexF f r (line + 1) 1 acc
    else if c = 32 ∨ c = 9 then lexF f r line (col + 1) acc
    else if c = 35 then lexF f ((c :: r).drop (preN nlB (c :: r))) line (col + preN nlB (c :: r)) acc
    else if (pieceS (c :: r)).err ≠ 0 then .err line col (pieceS (c :: r)).err
    else lexF f ((c :: r).drop (pieceS (c :: r)).text.length) line (col + (pieceS (c :: r)).text.length) (acc ++ [⟨(pieceS (c :: r)).kind, (pieceS (c :: r)).text, (pieceS (c :: r)).n, line, col⟩])
def lexS (l : List UInt8) : Res := lexF (l.length + 1) l 1 1 []
def tkCells (t : Tk) : List Value := [.int .i64 t.kind, .string (str t.text), .int .i64 t.n, .int .i64 t.line, .int .i64 t.col]
def tksCells (ts : List Tk) : List Value := ts.flatMap tkCells
theorem tksCells_snoc (ts : List Tk) (t : Tk) : tksCells (ts ++ [t]) = tksCells ts ++ tkCells t := by simp [tksCells]
theorem tkCells_one (t : Tk) : ∀ u ∈ tkCells t, u.oneCell' = true := by
  intro u hu
  simp only [tkCells, List.mem_cons, List.not_mem_nil, or_false] at hu
  rcases hu with rfl | rfl | rfl | rfl | rfl <;> rfl

/-- A slice of tokens of the call's own. -/
def OT (w : World) (base : Nat) (v : Value) (ts : List Tk) : Prop := w.ownsRow base 122 5 v ts.length (tksCells ts)
theorem OT.nil (w : World) (base : Nat) : OT w base (.slice none 0 0) [] := World.ownsRow_nil w base _ _
theorem OT.below {w w' : World} {base B : Nat} {v : Value} {ts : List Tk} (h : OT w base v ts) (hb : Below B w w') (hB : w.heap.size ≤ B) : OT w' base v ts := by
  refine ⟨h.1, ?_⟩
  rcases h.2 with h2 | ⟨g, cap, cur, hv, hg, hh, r⟩
  · exact .inl h2
  · have hlt : g < w.heap.size := Blk.lt (t := 122) (cs := cur) hh
    exact .inr ⟨g, cap, cur, hv, hg, (hb.block g (by omega)).trans hh, r⟩
theorem OT.below_ {w w' : World} {base : Nat} {v : Value} {ts : List Tk} (h : OT w base v ts) (hb : Below w.heap.size w w') : OT w' base v ts := h.below hb (Nat.le_refl _)
theorem OT.block {w : World} {base : Nat} {v : Value} {ts : List Tk} (h : OT w base v ts) : ∀ k, v.ownBlock = some k → base ≤ k := by
  intro k hk
  rcases h.2 with ⟨rfl, h0⟩ | ⟨g, cap, cur, rfl, hg, hh, _⟩
  · simp [Value.ownBlock] at hk
  · simp only [Value.ownBlock, Option.some.injEq] at hk
    subst hk
    exact hg

theorem OT.lt {w : World} {base : Nat} {v : Value} {ts : List Tk} (h : OT w base v ts) : ∀ k, v.ownBlock = some k → k < w.heap.size := by
  intro k hk
  rcases h.2 with ⟨rfl, h0⟩ | ⟨g, cap, cur, rfl, hg, hh, _⟩
  · simp [Value.ownBlock] at hk
  · simp only [Value.ownBlock, Option.some.injEq] at hk
    subst hk
    exact Blk.lt (t := 122) (cs := cur) hh
theorem OT.kept {S : Nat → Prop} {w w' : World} {base : Nat} {v : Value} {ts : List Tk} (h : OT w base v ts) (hk : Kept S w w') (hs : ∀ k, base ≤ k → ¬ S k) : OT w' base v ts := by
  refine ⟨h.1, ?_⟩
  rcases h.2 with h2 | ⟨g, cap, cur, hv, hg, hh, r⟩
  · exact .inl h2
  · have hlt : g < w.heap.size := Blk.lt (t := 122) (cs := cur) hh
    exact .inr ⟨g, cap, cur, hv, hg, (hk.block g hlt (hs g hg)).trans hh, r⟩
theorem OT.mono {w : World} {base b : Nat} {v : Value} {ts : List Tk} (h : OT w base v ts) (hb : b ≤ base) : OT w b v ts := by
  refine ⟨h.1, ?_⟩
  rcases h.2 with h2 | ⟨g, cap, cur, hv, hg, r⟩
  · exact .inl h2
  · exact .inr ⟨g, cap, cur, hv, by omega, r⟩
theorem far2 {w : World} {g h : Nat} (hne : g ≠ h) (i : Nat) (v0 v1 : Value) : ((w.setCell ⟨h, 0, none⟩ v0).setCell ⟨h, 1, none⟩ v1).cell? ⟨g, i, none⟩ = w.cell? ⟨g, i, none⟩ := by
  have f : ∀ (W : World) (j : Nat) (v : Value), (W.setCell ⟨h, j, none⟩ v).cell? ⟨g, i, none⟩ = W.cell? ⟨g, i, none⟩ := fun W j v => World.cell?_setCell_other W ⟨h, j, none⟩ ⟨g, i, none⟩ v (fun e => hne (by injection e with e1; exact e1.symm))
  rw [f, f]
/-- A token's cells, of a block of their own. -/
theorem tk_reads (W : World) (t : Tk) : Reads (W.alloc (.cells (tkCells t).toArray 122)) (W.heap.size + 1) 5 (some ⟨W.heap.size, 0, none⟩) 1 (tkCells t) := by
  refine ⟨by simp [tkCells], fun _ => ⟨_, rfl, by simp, fun j u hu => ?_⟩⟩
  rw [Addr.add_lit, Nat.zero_add, (Blk.new W 122 (tkCells t).toArray).cell j]
  simpa using hu

/-- What Tokens answers. -/
def TokPost (l : List UInt8) (w : World) (e : Ending) (w' : World) : Prop :=
  match lexS l with
  | .ok ts => ∃ A c, e = .returned (.tuple #[.slice A ts.length c, .agg #[.int .i64 0, .int .i64 0], .int .i64 0]) ∧ OT w' w.heap.size (.slice A ts.length c) ts ∧ Below w.heap.size w w'
  | .err line col er => e = .returned (.tuple #[.slice none 0 0, .agg #[.int .i64 line, .int .i64 col], .int .i64 er]) ∧ Below w.heap.size w w'

theorem lexF_cons {f : Nat} {l : List UInt8} {line col : Int} {acc : List Tk} {c : UInt8} {r : List UInt8} (h : l = c :: r) : lexF (f + 1) l line col acc =
    if c = 10 then lexF f r (line + 1) 1 acc
    else if c = 32 ∨ c = 9 then lexF f r line (col + 1) acc
    else if c = 35 then lexF f (l.drop (preN nlB l)) line (col + preN nlB l) acc
    else if (pieceS l).err ≠ 0 then .err line col (pieceS l).err
    else lexF f (l.drop (pieceS l).text.length) line (col + (pieceS l).text.length) (acc ++ [⟨(pieceS l).kind, (pieceS l).text, (pieceS l).n, line, col⟩]) := by
  subst h
  rfl
theorem preN_pos {p : UInt8 → Bool} {c : UInt8} {r : List UInt8} (h : p c = true) : 1 ≤ preN p (c :: r) := by
  unfold preN
  rw [List.takeWhile_cons_of_pos h]
  simp
theorem pieceS_len {l : List UInt8} (h : (pieceS l).err = 0) (hl : l ≠ []) : 1 ≤ (pieceS l).text.length ∧ (pieceS l).text.length ≤ l.length := by
  obtain ⟨c, r, rfl⟩ := List.exists_cons_of_ne_nil hl
  have hle := preN_le innB (c :: r)
  have hin : letB c = true ∨ digB c = true → 1 ≤ preN innB (c :: r) := fun h => preN_pos (by unfold innB; rcases h with h | h <;> simp [h])
  revert h
  unfold pieceS
  rw [List.headD_cons]
  by_cases hlt : letB c = true
  · have := hin (.inl hlt)
    rw [if_pos hlt]
    by_cases h30 : 30 < preN innB (c :: r)
    · rw [if_pos h30]; intro h; simp [noPc] at h
    · rw [if_neg h30]
      by_cases hw : (c :: r).take (preN innB (c :: r)) ∈ wordsL
      · rw [if_pos hw]; intro _; simp only [List.length_take]; omega
      · rw [if_neg hw]; intro _; simp only [List.length_take]; omega
  · rw [if_neg hlt]
    by_cases hdg : digB c = true
    · have := hin (.inr hdg)
      rw [if_pos hdg]
      by_cases hne : (numS ((c :: r).take (preN innB (c :: r)))).2 ≠ 0
      · rw [if_pos hne]; intro h; exact absurd h hne
      · rw [if_neg hne]; intro _; simp only [List.length_take]; omega
    · rw [if_neg hdg]
      by_cases h2 : 2 ≤ (c :: r).length ∧ (c :: r).take 2 ∈ marksL
      · rw [if_pos h2]; intro _; simp only [List.length_take]; omega
      · rw [if_neg h2]
        by_cases h1 : (c :: r).take 1 ∈ marksL
        · rw [if_pos h1]; intro _; simp
        · rw [if_neg h1]; intro h; simp [noPc] at h
theorem info_tok : (Tryz.prog.info? 122).map (fun i => (i.zero, i.size, i.bytes)) = some (some (.agg #[.int .i64 0, .string ByteArray.empty, .int .i64 0, .int .i64 0, .int .i64 0]), 5, 48) := by kernel_rfl
theorem ext_from (s : ByteArray) (k : Nat) : s.extract k s.size = str (s.data.toList.drop k) := by
  apply ba_ext
  rw [str_list]
  have h : s.data.toList.length = s.size := size_list s
  simp
  rw [List.take_of_length_le (by rw [List.length_drop]; omega)]

set_option maxHeartbeats 8000000 in
set_option maxRecDepth 100000 in
theorem tokens_any (s : ByteArray) (w : World) (hT : Spaces w) (hs : s.size ≤ 65536) :
    Calls Tryz.prog 51 #[.string s] w (TokPost s.data.toList w) := by
  have HT := Lib.hid hT
  have t0 : decide ((65536 : Int) < (s.size : Int)) = false := by simp; omega
  clear hT
  go_enter Tryz.func51, Tryz.ntmps51
  go_wp2_with fail
  go_step3
  go_wp2_with fail
  have f0 : Below w.heap.size w (w.alloc (.cells #[.int .i64 0, .int .i64 0] 112)) := (Below.refl _ w).al _
  have y0 := Blk.new w 112 #[.int .i64 0, .int .i64 0]
  generalize w.alloc (.cells #[.int .i64 0, .int .i64 0] 112) = W0 at *
  have Y0 := Lib.hid y0
  clear y0 t0
  refine (start_any W0 (HT.out.below f0)).mono ?_
  rintro e w1 ⟨r1, r2, rfl, s1, s2, b1⟩
  have f1 := f0.then_ b1
  have y1 := Y0.out.below b1 Y0.out.lt
  have S1 := Lib.hid s1
  have S2 := Lib.hid s2
  clear s1 s2 f0 b1 Y0
  go_wp2_with fail
  go_step3
  go_wp2_with fail
  have b2 : Below w1.heap.size w1 (w1.alloc (.cells #[.map (some r1), .map (some r2)] 153)) := (Below.refl _ w1).al _
  have x2 := Blk.new w1 153 #[.map (some r1), .map (some r2)]
  generalize w1.alloc (.cells #[.map (some r1), .map (some r2)] 153) = W2 at *
  have F2 := Lib.hid (f1.then_ b2)
  have X2 := Lib.hid x2
  have Y2 := Lib.hid (y1.below b2 y1.lt)
  have S1' := Lib.hid (S1.out.below b2)
  have S2' := Lib.hid (S2.out.below b2)
  clear b2 x2 y1 S1 S2 f1 HT
  obtain ⟨l, hl⟩ : ∃ l, s.data.toList = l := ⟨_, rfl⟩
  have hll : l.length = s.size := by rw [← hl]; exact size_list s
  have HL := Lib.hid hl
  have HLL := Lib.hid hll
  clear hl hll
  go_loopw [5, 7, 8, 9] (fun v ln fi at_ wr => ∃ (k f : Nat) (line first : Int) (acc : List Tk), k ≤ s.size ∧ s.size < k + f ∧ at_ = .int .i64 k ∧ ln = .int .i64 line ∧ fi = .int .i64 first ∧ 0 ≤ first ∧ first ≤ k ∧ 1 ≤ line ∧ line ≤ k + 1 ∧ acc.length ≤ k ∧ Hid (OT wr W2.heap.size v acc) ∧ Below W2.heap.size W2 wr ∧ Hid (lexF f (l.drop k) line (k - first + 1) acc = lexS l)) (fun _ _ _ at_ _ => s.size - (intOf at_).toNat)
  case atStart => exact ⟨0, s.size + 1, 1, 0, [], by omega, by omega, rfl, rfl, rfl, by omega, by omega, by omega, by omega, by simp, OT.nil _ _, Below.refl _ _, by rw [Hid, lexS, HLL.out]; rfl⟩
  case round =>
    obtain ⟨k, f, line, first, acc, hk, hkf, rfl, rfl, rfl, hf0, hf1, hl0, hl1, hacc, ho, hb, hlx⟩ := hrel
    by_cases hlt : k < s.size
    · obtain ⟨f', rfl⟩ : ∃ f', f = f' + 1 := ⟨f - 1, by omega⟩
      obtain ⟨c, hc⟩ : ∃ c : UInt8, s[k] = c := ⟨_, rfl⟩
      have hlk : k < l.length := by rw [HLL.out]; exact hlt
      have hgc : l[k] = c := by
        have h1 := at_list s hlt
        rw [HL.out, hc, List.getElem?_eq_getElem hlk] at h1
        exact Option.some.inj h1
      have hdr : l.drop k = c :: l.drop (k + 1) := by rw [List.drop_eq_getElem_cons hlk, hgc]
      have hst := lexF_cons (f := f') (line := line) (col := k - first + 1) (acc := acc) hdr
      rw [hlx.out] at hst
      have HST := Lib.hid hst
      have HDR := Lib.hid hdr
      clear hst hdr hgc hlk hlx
      obtain ⟨x, hx⟩ : ∃ x : Nat, c.toNat = x := ⟨_, rfl⟩
      have hceq : ∀ d : UInt8, c = d ↔ x = d.toNat := fun d => by rw [← hx]; exact ⟨fun h => by rw [h], fun h => UInt8.toNat_inj.1 h⟩
      have HCEQ := Lib.hid hceq
      clear hceq
      by_cases h10 : x = 10
      · have e10 : ((x : Int) == 10) = true := by simp; omega
        have hst := HST.out
        rw [if_pos ((HCEQ.out 10).2 h10)] at hst
        have HS := Lib.hid hst
        clear hst h10
        go_wp2_with fail
        go_roundw
        case rel => exact ⟨k + 1, f', line + 1, k + 1, acc, by omega, by omega, by go_num, rfl, by go_num, by omega, by omega, by omega, by omega, by omega, ho.out.below_ ((Below.refl _ _).al _), hb.then_ ((Below.refl _ _).al _), by rw [Hid, HS.out]; congr 1; omega⟩
        case measure => simp [intOf]; omega
      · have e10 : ((x : Int) == 10) = false := by simp; omega
        have hst := HST.out
        rw [if_neg (fun h => h10 ((HCEQ.out 10).1 h))] at hst
        clear HST
        by_cases h32 : x = 32
        · rw [if_pos (.inl ((HCEQ.out 32).2 h32))] at hst
          have HS := Lib.hid hst
          have e32 : ((x : Int) == 32) = true := by simp; omega
          clear hst h10 h32
          go_wp2_with fail
          go_roundw
          case rel => exact ⟨k + 1, f', line, first, acc, by omega, by omega, by go_num, rfl, rfl, by omega, by omega, by omega, by omega, by omega, ho.out.below_ ((Below.refl _ _).al _), hb.then_ ((Below.refl _ _).al _), by rw [Hid, HS.out]; congr 1; omega⟩
          case measure => simp [intOf]; omega
        by_cases h9 : x = 9
        · rw [if_pos (.inr ((HCEQ.out 9).2 h9))] at hst
          have HS := Lib.hid hst
          have e32 : ((x : Int) == 32) = false := by simp; omega
          have e9 : ((x : Int) == 9) = true := by simp; omega
          clear hst h10 h32 h9
          go_wp2_with fail
          go_roundw
          case rel => exact ⟨k + 1, f', line, first, acc, by omega, by omega, by go_num, rfl, rfl, by omega, by omega, by omega, by omega, by omega, ho.out.below_ ((Below.refl _ _).al _), hb.then_ ((Below.refl _ _).al _), by rw [Hid, HS.out]; congr 1; omega⟩
          case measure => simp [intOf]; omega
        have e32 : ((x : Int) == 32) = false := by simp; omega
        have e9 : ((x : Int) == 9) = false := by simp; omega
        rw [if_neg (fun h => by rcases h with h | h; exact h32 ((HCEQ.out 32).1 h); exact h9 ((HCEQ.out 9).1 h))] at hst
        obtain ⟨d, hd⟩ : ∃ d, l.drop k = d := ⟨_, rfl⟩
        have hext : s.extract k s.size = str d := by rw [ext_from, HL.out, hd]
        have hdl : (str d).data.toList = d := str_list d
        have hds : d.length = s.size - k := by rw [← hd, List.length_drop, HLL.out]
        have hdz : (str d).size = s.size - k := by rw [← size_list, str_list, hds]
        have hdrop : ∀ q, d.drop q = l.drop (k + q) := fun q => by rw [← hd, List.drop_drop]
        rw [hd] at hst
        have HDD := Lib.hid hd
        have HDS := Lib.hid hds
        have HDZ := Lib.hid hdz
        have HDR2 := Lib.hid hdrop
        have g0 : (0 : Int) ≤ (k : Int) := by omega
        have g1 : (k : Int) ≤ (s.size : Int) := by omega
        clear hd hdl hds hdz hdrop
        by_cases h35 : x = 35
        · rw [if_pos ((HCEQ.out 35).2 h35)] at hst
          have e35 : ((x : Int) == 35) = true := by simp; omega
          have hn1 : preN nlB d ≤ s.size - k := by have := preN_le nlB d; have := HDS.out; omega
          have hn0 : 1 ≤ preN nlB d := by
            rw [← HDD.out, HDR.out]
            exact preN_pos (by unfold nlB; rw [hx]; simp; omega)
          have hrun : (str d).extract 0 (preN nlB (str d).data.toList) = str (d.take (preN nlB d)) := by rw [ext_str, str_list]
          rw [HDR2.out] at hst
          have hsz : (str (d.take (preN nlB d))).size = preN nlB d := by rw [← size_list, str_list, List.length_take]; have := preN_le nlB d; omega
          have HS := Lib.hid hst
          have HRUN := Lib.hid hrun
          generalize preN nlB d = q at *
          clear hst h10 h32 h9 h35 hrun
          go_wp2_with (first | (go_at_call 83; refine (runNl_any (str d) _ (by rw [HDZ.out]; omega)).mono ?_; rintro e w' ⟨rfl, rfl⟩; rw [HRUN.out]))
          go_roundw
          case rel => exact ⟨k + q, f', line, first, acc, by omega, by omega, by go_num, rfl, rfl, by omega, by omega, by omega, by omega, by omega, ho.out.below_ ((Below.refl _ _).al _), hb.then_ ((Below.refl _ _).al _), by rw [Hid, HS.out]; congr 1; omega⟩
          case measure => simp [intOf]; omega
        · have e35 : ((x : Int) == 35) = false := by simp; omega
          rw [if_neg (fun h => h35 ((HCEQ.out 35).1 h))] at hst
          have hpl := pieceS_len (l := d)
          obtain ⟨p, hp⟩ : ∃ p, pieceS d = p := ⟨_, rfl⟩
          rw [hp] at hst hpl
          have HPC := Lib.hid hp
          have HPL := Lib.hid hpl
          have HS := Lib.hid hst
          clear hst h10 h32 h9 h35 hp hpl
          have dne : d ≠ [] := by
            intro h
            have := HDS.out
            rw [h] at this
            simp at this
            omega
          have hpos : 0 < (str d).size := by rw [HDZ.out]; omega
          have FB := Lib.hid (F2.out.then_ hb)
          have XB := Lib.hid (X2.out.below hb X2.out.lt)
          have S1B := Lib.hid (S1'.out.below hb)
          have S2B := Lib.hid (S2'.out.below hb)
          go_upto_region 18 with fail
          have b3 : Below wr.heap.size wr (wr.alloc (.cells #[.int .i64 line, .int .i64 (k - first + 1)] 112)) := (Below.refl _ wr).al _
          have p3 := Blk.new wr 112 #[.int .i64 line, .int .i64 (k - first + 1)]
          generalize wr.alloc (.cells #[.int .i64 line, .int .i64 (k - first + 1)] 112) = W3 at *
          have P3 := Lib.hid p3
          have x3 := XB.out.below b3 XB.out.lt
          have s13 := S1B.out.below b3
          have s23 := S2B.out.below b3
          have F3 := Lib.hid (FB.out.then_ b3)
          have hb3 := hb.then_ b3
          have HB3 := Lib.hid hb3
          have ho3 := Lib.hid (ho.out.below_ b3)
          have KB : Hid (∀ W, Below W3.heap.size W3 W → W.cell? ⟨w1.heap.size, 0, none⟩ = some (.map (some r1)) ∧ W.cell? ⟨w1.heap.size, 1, none⟩ = some (.map (some r2))) := fun W hW => ⟨(x3.below hW x3.lt).cell 0, (x3.below hW x3.lt).cell 1⟩
          have PA : Hid (∀ W, Below W3.heap.size W3 W → Calls Tryz.prog 85 #[.agg #[.map (some r1), .map (some r2)], .string (str d)] W fun e w' => e = .returned (pcV p) ∧ Below W.heap.size W w') := fun W hW => by
            have := piece_any r1 r2 (str d) W (s13.below hW) (s23.below hW) hpos (by rw [HDZ.out]; omega)
            rw [str_list, HPC.out] at this
            exact this
          have FR := (Below.refl W3.heap.size W3).drew
          have l3 := p3.lt
          have zb : W2.heap.size ≤ wr.heap.size := hb.size
          have FR0 := FR
          have FR00 := Below.refl W3.heap.size W3
          clear p3 x3 s13 s23 hb3 ho b3 hb XB S1B S2B FB dne
          go_cut [12, 13] (fun q e wc => ∃ g, q = .pointer (some ⟨g, 0, none⟩) ∧ e = .int .i64 p.err ∧ Hid (Blk wc g 122 #[.int .i64 p.kind, .string (str p.text), .int .i64 p.n, .int .i64 0, .int .i64 0]) ∧ W3.heap.size ≤ g ∧ Below W3.heap.size W3 wc)
          case first =>
            go_region_held3 (fun w' => w'.cell? ⟨w1.heap.size, 0, none⟩ = some (.map (some r1)) ∧ w'.cell? ⟨w1.heap.size, 1, none⟩ = some (.map (some r2))) (first | exact KB.out _ FR | exact KB.out _ (FR.al _) | exact KB.out _ ((FR00.al _).drew) | exact KB.out _ (((((FR.setCell (Nat.le_refl _) _).setCell (Nat.le_refl _) _).setCell (Nat.le_refl _) _).setCell (Nat.le_refl _) _).setCell (Nat.le_refl _) _))
              (first
                | (go_at_call 85; (with_reducible refine (PA.out W3.drew FR0).mono ?_); rintro e w4 ⟨rfl, b4⟩; unfold pcV; have FR := FR0.then_ b4)
                | (go_at_call 85; (with_reducible refine (PA.out _ (FR00.al (.cells #[.int .i64 0, .string ⟨#[]⟩, .int .i64 0, .int .i64 0, .int .i64 0] 122)).drew).mono ?_); rintro e w4 ⟨rfl, b4⟩; unfold pcV; have FR := (FR00.al (.cells #[.int .i64 0, .string ⟨#[]⟩, .int .i64 0, .int .i64 0, .int .i64 0] 122)).drew.then_ b4; have n4 := (Blk.new W3 122 #[.int .i64 0, .string ⟨#[]⟩, .int .i64 0, .int .i64 0, .int .i64 0]).drew.below b4 (by simp); have k0 : w4.cell? ⟨W3.heap.size, 0, none⟩ = some (.int .i64 0) := n4.cell 0; have k1 : w4.cell? ⟨W3.heap.size, 1, none⟩ = some (.string ⟨#[]⟩) := n4.cell 1; have k2 : w4.cell? ⟨W3.heap.size, 2, none⟩ = some (.int .i64 0) := n4.cell 2; have k3 : w4.cell? ⟨W3.heap.size, 3, none⟩ = some (.int .i64 0) := n4.cell 3; have k4 : w4.cell? ⟨W3.heap.size, 4, none⟩ = some (.int .i64 0) := n4.cell 4; have q0 := n4.frozen 0; have q1 := n4.frozen 1; have q2 := n4.frozen 2; have q3 := n4.frozen 3; have q4 := n4.frozen 4))
            all_goals
              go_wp2_with fail
              go_meet
              case rel => first | exact ⟨W3.heap.size, rfl, rfl, ((((n4.set_ 0 _).set_ 1 _).set_ 2 _).set_ 3 _).set_ 4 _, Nat.le_refl _, (((((FR.setCell (Nat.le_refl _) _).setCell (Nat.le_refl _) _).setCell (Nat.le_refl _) _).setCell (Nat.le_refl _) _).setCell (Nat.le_refl _) _)⟩ | exact ⟨w4.heap.size, rfl, rfl, Blk.new _ _ _, FR.size, FR.al _⟩
          case rest =>
            obtain ⟨g, rfl, rfl, hg, hgl, b5⟩ := hcut
            clear KB PA FR FR0 FR00
            have P5 := P3.out.below b5 l3
            have c0 : wc.cell? ⟨wr.heap.size, 0, none⟩ = some (.int .i64 line) := P5.cell 0
            have c1 : wc.cell? ⟨wr.heap.size, 1, none⟩ = some (.int .i64 (k - first + 1)) := P5.cell 1
            have y5 := Y2.out.below ((HB3.out.then_ b5)) Y2.out.lt
            by_cases hpe : p.err = 0
            · have e0 : (p.err != 0) = false := by simp [hpe]
              have hst := HS.out
              rw [if_neg (fun h => h hpe)] at hst
              obtain ⟨hq1, hq2⟩ := HPL.out hpe (by intro h; have := HDS.out; rw [h] at this; simp at this; omega)
              rw [HDS.out] at hq2
              rw [HDR2.out] at hst
              have HS2 := Lib.hid hst
              have k1 : wc.cell? ⟨g, 1, none⟩ = some (.string (str p.text)) := hg.out.cell 1
              have k3 : wc.cell? ⟨g, 3, none⟩ = some (.int .i64 0) := hg.out.cell 3
              have k4 : wc.cell? ⟨g, 4, none⟩ = some (.int .i64 0) := hg.out.cell 4
              have q3 := hg.out.frozen 3
              have q4 := hg.out.frozen 4
              have hne : g ≠ wr.heap.size := by omega
              have o5 := ho3.out.below_ b5
              have hbw := HB3.out.then_ b5
              have hlt5 : ∀ q, Value.ownBlock u5 = some q → q < W3.heap.size := ho3.out.lt
              have hge5 := ho3.out.block
              have G6 : Hid (Blk ((wc.setCell ⟨g, 3, none⟩ (.int .i64 line)).setCell ⟨g, 4, none⟩ (.int .i64 (k - first + 1))) g 122 (tkCells ⟨p.kind, p.text, p.n, line, k - first + 1⟩).toArray) := ((hg.out.set_ 3 _).set_ 4 _)
              have b6 : Below W3.heap.size W3 ((wc.setCell ⟨g, 3, none⟩ (.int .i64 line)).setCell ⟨g, 4, none⟩ (.int .i64 (k - first + 1))) := (b5.setCell (p := ⟨g, 3, none⟩) hgl _).setCell (p := ⟨g, 4, none⟩) hgl _
              clear y5 P5 o5 hbw
              go_upto_region 22 with fail
              generalize ((wc.setCell ⟨g, 3, none⟩ (.int .i64 line)).setCell ⟨g, 4, none⟩ (.int .i64 (k - first + 1))) = W6 at *
              clear c0 c1 k1 k3 k4 q3 q4
              have o6 := Lib.hid (ho3.out.below_ b6)
              have w6 := HB3.out.then_ b6
              have k0 : W6.cell? ⟨g, 0, none⟩ = some (.int .i64 p.kind) := G6.out.cell 0
              have k1 : W6.cell? ⟨g, 1, none⟩ = some (.string (str p.text)) := G6.out.cell 1
              have k2 : W6.cell? ⟨g, 2, none⟩ = some (.int .i64 p.n) := G6.out.cell 2
              have k3 : W6.cell? ⟨g, 3, none⟩ = some (.int .i64 line) := G6.out.cell 3
              have k4 : W6.cell? ⟨g, 4, none⟩ = some (.int .i64 (k - first + 1)) := G6.out.cell 4
              have gl6 := G6.out.lt
              have RD := Lib.hid (tk_reads W6 ⟨p.kind, p.text, p.n, line, k - first + 1⟩)
              have ONE := Lib.hid (tkCells_one ⟨p.kind, p.text, p.n, line, k - first + 1⟩)
              have G7 := Lib.hid (G6.out.alloc (.cells (tkCells ⟨p.kind, p.text, p.n, line, k - first + 1⟩).toArray 122))
              have W6z : W2.heap.size ≤ W6.heap.size := w6.size
              have hsz : (str p.text).size = p.text.length := by rw [← size_list, str_list]
              obtain ⟨i0, hi0, hz0, hz1, hz2⟩ := info_parts info_tok
              have own7 := Lib.hid (World.ownsRow.alloc o6.out (.cells (tkCells ⟨p.kind, p.text, p.n, line, k - first + 1⟩).toArray 122))
              go_wp2_with (first | (at_builtin; refine wpList_append_any _ (by rfl) (.tmp 68) (.tmp 70) 111 rfl W2.heap.size 122 i0 _ 5 48 Tryz.underlying111 hi0 hz0 hz1 hz2 rfl (by omega) u5 acc.length (tksCells acc) rfl own7.out _ _ 1 1 (tkCells ⟨p.kind, p.text, p.n, line, k - first + 1⟩) rfl RD.out ONE.out (by unfold maxLen; omega) (by omega) (by simp; omega) ?_; intro v8 w8 o8 g8 at8; have k1' : w8.cell? ⟨g, 1, none⟩ = some (.string (str p.text)) := (G7.out.grown g8 (fun e => by have := hlt5 g e.symm; omega)).cell 1; have O8 := Lib.hid o8; have G8 := Lib.hid g8; clear o8 g8 at8))
              have O9 : Hid (OT w8 W2.heap.size v8 (acc ++ [⟨p.kind, p.text, p.n, line, k - first + 1⟩])) := by
                have := O8.out
                unfold OT Hid
                rw [tksCells_snoc, List.length_append]
                exact this
              have b8 : Below W2.heap.size W2 w8 := (w6.alloc w6.size _).grown G8.out (by have := w6.size; simp; omega) hge5
              clear k0 k1 k2 k3 k4 k1' O8 G8 G7 RD ONE own7
              go_roundw
              case rel => exact ⟨k + p.text.length, f', line, first, acc ++ [⟨p.kind, p.text, p.n, line, k - first + 1⟩], by omega, by omega, by go_num, rfl, rfl, by omega, by omega, by omega, by omega, by simp; omega, O9, b8, by rw [Hid, HS2.out]; congr 1; omega⟩
              case measure => simp [intOf]; omega
            · have e0 : (p.err != 0) = true := by simpa using hpe
              have hst := HS.out
              rw [if_pos hpe] at hst
              have HS2 := Lib.hid hst
              have k0 : wc.cell? ⟨w.heap.size, 0, none⟩ = some (.int .i64 0) := y5.cell 0
              have k1 : wc.cell? ⟨w.heap.size, 1, none⟩ = some (.int .i64 0) := y5.cell 1
              have q0 := y5.frozen 0
              have q1 := y5.frozen 1
              have F5 := Lib.hid (F3.out.then_ b5)
              have Y5 := Lib.hid y5
              have hne : wr.heap.size ≠ w.heap.size := by have := Y2.out.lt; omega
              have cc : wc.drew.cell? ⟨wr.heap.size, 0, none⟩ = some (.int .i64 line) ∧ wc.drew.cell? ⟨wr.heap.size, 1, none⟩ = some (.int .i64 (k - first + 1)) := ⟨c0, c1⟩
              clear hst HS y5 P5
              go_wp2_with fail
              go_region_held3 (fun w' => w'.cell? ⟨wr.heap.size, 0, none⟩ = some (.int .i64 line) ∧ w'.cell? ⟨wr.heap.size, 1, none⟩ = some (.int .i64 (k - first + 1))) (first | (with_reducible exact cc) | exact ⟨(far2 hne _ _ _).trans cc.1, (far2 hne _ _ _).trans cc.2⟩) (fail)
              go_wp2_with fail
              rw [Exit.noGoto_ret]
              refine bodyPost_ret (v := .tuple #[.slice none 0 0, .agg #[.int .i64 line, .int .i64 (k - first + 1)], .int .i64 p.err]) (by simp [results, Tryz.results51, go_sem, k0, k1]) rfl ?_
              have HX : lexS s.data.toList = .err line (k - first + 1) p.err := by rw [HL.out]; exact HS2.out
              unfold TokPost
              rw [HX]
              exact ⟨rfl, ((F5.out.drew.setCell (Nat.le_refl _) _).setCell (Nat.le_refl _) _)⟩
    · obtain rfl : k = s.size := by omega
      obtain ⟨f', rfl⟩ : ∃ f', f = f' + 1 := ⟨f - 1, by omega⟩
      have hnil : l.drop s.size = [] := List.drop_of_length_le (by rw [HLL.out]; omega)
      have hst := hlx.out
      rw [hnil] at hst
      have HS : Hid (lexS l = .ok (acc ++ [⟨0, [], 0, line, s.size - first + 1⟩])) := hst.symm
      clear hst hnil hlx
      have RD := Lib.hid (tk_reads wr ⟨0, [], 0, line, s.size - first + 1⟩)
      have ONE := Lib.hid (tkCells_one ⟨0, [], 0, line, s.size - first + 1⟩)
      have hbz := hb.size
      have Y7 := Lib.hid ((Y2.out.below hb Y2.out.lt).alloc (.cells (tkCells ⟨0, [], 0, line, s.size - first + 1⟩).toArray 122))
      have hge5 := ho.out.block
      have F7 := Lib.hid (F2.out.then_ hb)
      obtain ⟨i0, hi0, hz0, hz1, hz2⟩ := info_parts info_tok
      have own7 := Lib.hid (World.ownsRow.alloc ho.out (.cells (tkCells ⟨0, [], 0, line, s.size - first + 1⟩).toArray 122))
      go_wp2_with (first | (at_builtin; refine wpList_append_any _ (by rfl) (.tmp 77) (.tmp 85) 111 rfl W2.heap.size 122 i0 _ 5 48 Tryz.underlying111 hi0 hz0 hz1 hz2 rfl (by omega) u5 acc.length (tksCells acc) rfl own7.out _ _ 1 1 (tkCells ⟨0, [], 0, line, s.size - first + 1⟩) rfl RD.out ONE.out (by unfold maxLen; omega) (by omega) (by simp; omega) ?_; intro v8 w8 o8 g8 at8; have Y8 := Lib.hid (Y7.out.grown g8 (fun e => by have := hge5 _ e.symm; have := Y2.out.lt; omega)); have k0 : w8.cell? ⟨w.heap.size, 0, none⟩ = some (.int .i64 0) := Y8.out.cell 0; have k1 : w8.cell? ⟨w.heap.size, 1, none⟩ = some (.int .i64 0) := Y8.out.cell 1; have q0 := Y8.out.frozen 0; have q1 := Y8.out.frozen 1; have O8 := Lib.hid o8; have G8 := Lib.hid g8; clear o8 g8 at8))
      rw [Exit.noGoto_ret]
      have O9 : OT w8 W2.heap.size v8 (acc ++ [⟨0, [], 0, line, s.size - first + 1⟩]) := by
        have := O8.out
        unfold OT
        rw [tksCells_snoc, List.length_append]
        exact this
      have b8 : Below W2.heap.size W2 w8 := (hb.alloc hb.size _).grown G8.out (by simp; omega) hge5
      obtain ⟨A8, c8, rfl⟩ := own_slice O9
      refine bodyPost_ret (v := .tuple #[.slice A8 (acc ++ [(⟨0, [], 0, line, s.size - first + 1⟩ : Tk)]).length c8, .agg #[.int .i64 0, .int .i64 0], .int .i64 0]) (by simp [results, Tryz.results51, go_sem, k0, k1]) rfl ?_
      have HX : lexS s.data.toList = .ok (acc ++ [⟨0, [], 0, line, s.size - first + 1⟩]) := by rw [HL.out]; exact HS.out
      have kk : Kept (fun q => q = w.heap.size) w8 ((w8.setCell ⟨w.heap.size, 0, none⟩ (.int .i64 0)).setCell ⟨w.heap.size, 1, none⟩ (.int .i64 0)) := ((Kept.refl (fun q => q = w.heap.size) w8).setCell (p := ⟨w.heap.size, 0, none⟩) (fun _ => rfl) _).setCell (p := ⟨w.heap.size, 1, none⟩) (fun _ => rfl) _
      have hzz := F2.out.size
      have hyz := Y2.out.lt
      have F8 := F2.out.trans (b8.mono hzz)
      unfold TokPost
      rw [HX]
      exact ⟨A8, c8, rfl, (O9.kept kk (fun q hq e => by omega)).mono hzz, F8.trans (kk.to_below F8.size (fun q hq e => by omega))⟩
end Go.Proofs.YtdgekckedchjbaaGreatDoor
namespace Go.Proofs.YtdgekckedchjbaaGreatDoor

/-- A tree. -/
inductive Ex where
  | num (n : Int)
  | nam (s : List UInt8)
  | idx (s : List UInt8) (e : Ex)
  | neg (e : Ex)
  | non (e : Ex)
  | bin (op : Int) (a b : Ex)
/-- What a parse gives: a tree, and what is left; or where it is wrong, and how. -/
inductive PR where
  | ok (e : Ex) (r : List Tk)
  | bad (r : List Tk) (err : Int)
def hasT (x : List UInt8) : List Tk → Bool
  | [] => false
  | t :: _ => (decide (t.kind = 3) || decide (t.kind = 4)) && decide (t.text = x)
/-- With this token nothing goes on. -/
def wrongT : List Tk → Int
  | [] => 4
  | t :: _ => if t.kind = 0 then 4 else 3
def lvlT : Nat → List (List UInt8 × Int)
  | 0 => [([111, 114], 17)]
  | 1 => [([97, 110, 100], 16)]
  | 2 => [([61], 10), ([33, 61], 11), ([60], 12), ([60, 61], 13), ([62], 14), ([62, 61], 15)]
  | 3 => [([43], 8), ([45], 9)]
  | 4 => [([42], 5), ([47], 6), ([37], 7)]
  | _ => []
def opAt (lvl : Nat) : List Tk → Option Int
  | [] => none
  | t :: _ => (lvlT lvl).lookup t.text
def openT (r : List Tk) : Bool :=
  (match r with | [] => false | t :: _ => decide (t.kind = 2) || decide (t.kind = 1)) || hasT [40] r || hasT [45] r || hasT [110, 111, 116] r
def mustT (x : List UInt8) (e : Ex) (r : List Tk) : PR := if hasT x r then .ok e r.tail else .bad r (wrongT r)
/-- Operands joined by the marks of a tightness. -/
def loopJ (lvl : Nat) (next : List Tk → PR) : Nat → Ex → List Tk → PR
  | 0, e, r => .ok e r
  | f + 1, e, r => match opAt lvl r with
    | none => .ok e r
    | some op => match next r.tail with
      | .bad r2 er => .bad r2 er
      | .ok e2 r2 => if lvl = 2 then .ok (.bin op e e2) r2 else loopJ lvl next f (.bin op e e2) r2
/-- An expression that is at least so tight (of k more tightnesses). -/
def joinL (plain : List Tk → PR) : Nat → List Tk → PR
  | 0, r => plain r
  | k + 1, r => match joinL plain k r with
    | .bad r2 er => .bad r2 er
    | .ok e r2 => loopJ (4 - k) (joinL plain k) r2.length e r2
/-- A plain expression, within which there may stand d more. -/
def plainD : Nat → List Tk → PR
  | _, [] => .bad [] 4
  | 0, t :: r => if openT (t :: r) then .bad (t :: r) 25 else .bad (t :: r) (wrongT (t :: r))
  | d + 1, t :: r =>
    if openT (t :: r) = false then .bad (t :: r) (wrongT (t :: r))
    else if t.kind = 2 then .ok (.num t.n) r
    else if t.kind = 1 then
      (if hasT [91] r then (match joinL (plainD d) 5 r.tail with
        | .bad r2 er => .bad r2 er
        | .ok e r2 => mustT [93] (.idx t.text e) r2)
      else .ok (.nam t.text) r)
    else if t.text = [40] then (match joinL (plainD d) 5 r with
      | .bad r2 er => .bad r2 er
      | .ok e r2 => mustT [41] e r2)
    else if t.text = [45] then (match plainD d r with
      | .bad r2 er => .bad r2 er
      | .ok e r2 => .ok (.neg e) r2)
    else (match plainD d r with
      | .bad r2 er => .bad r2 er
      | .ok e r2 => .ok (.non e) r2)
/-- A whole text's expression. -/
def exprS (ts : List Tk) : PR := match joinL (plainD 16) 5 ts with
  | .bad r er => .bad r er
  | .ok e r => match r with
    | [] => .ok e r
    | t :: _ => if t.kind = 0 then .ok e r else .bad r 3
def PR.map (f : Tk → Tk) : PR → PR
  | .ok e r => .ok e (r.map f)
  | .bad r er => .bad (r.map f) er
/-- A token without its place. -/
def Tk.z (t : Tk) : Tk := ⟨t.kind, t.text, t.n, 0, 0⟩
/-- What is parsed is behind. -/
def Eats (next : List Tk → PR) : Prop := ∀ r e r2, next r = .ok e r2 → r2.length < r.length
theorem loopJ_le {lvl : Nat} {next : List Tk → PR} (hn : Eats next) : ∀ (f : Nat) (e : Ex) (r : List Tk) (e2 : Ex) (r2 : List Tk), loopJ lvl next f e r = .ok e2 r2 → r2.length ≤ r.length
  | 0, e, r, e2, r2, h => by
    simp only [loopJ, PR.ok.injEq] at h
    rw [h.2]
    exact Nat.le_refl _
  | f + 1, e, r, e2, r2, h => by
    simp only [loopJ] at h
    have ht : r.tail.length ≤ r.length := by rw [List.length_tail]; omega
    cases ho : opAt lvl r with
    | none =>
      rw [ho] at h
      simp only [PR.ok.injEq] at h
      rw [h.2]
      exact Nat.le_refl _
    | some op =>
      rw [ho] at h
      simp only at h
      cases hq : next r.tail with
      | bad r3 er => rw [hq] at h; cases h
      | ok e3 r3 =>
        rw [hq] at h
        simp only at h
        have h3 := hn _ _ _ hq
        split at h
        · simp only [PR.ok.injEq] at h
          rw [← h.2]
          omega
        · have := loopJ_le hn f _ _ _ _ h
          omega
theorem joinL_eats {plain : List Tk → PR} (hp : Eats plain) : ∀ k, Eats (joinL plain k)
  | 0 => hp
  | k + 1 => fun r e r2 h => by
    simp only [joinL] at h
    cases hq : joinL plain k r with
    | bad r3 er => rw [hq] at h; cases h
    | ok e3 r3 =>
      rw [hq] at h
      simp only at h
      have h1 := joinL_eats hp k _ _ _ hq
      have h2 := loopJ_le (joinL_eats hp k) _ _ _ _ _ h
      omega
theorem mustT_lt {x : List UInt8} {e e2 : Ex} {r r2 : List Tk} (h : mustT x e r = .ok e2 r2) : r2.length < r.length := by
  unfold mustT at h
  split at h
  · rename_i hh
    simp only [PR.ok.injEq] at h
    rw [← h.2]
    cases r with
    | nil => simp [hasT] at hh
    | cons t r => simp
  · cases h
theorem plainD_eats : ∀ d, Eats (plainD d)
  | 0 => fun r e r2 h => by
    cases r with
    | nil => simp [plainD] at h
    | cons t r =>
      simp only [plainD] at h
      split at h <;> cases h
  | d + 1 => fun r e r2 h => by
    have ih := plainD_eats d
    have ij := joinL_eats ih 5
    cases r with
    | nil => simp [plainD] at h
    | cons t r =>
      simp only [plainD] at h
      have ht : r.tail.length ≤ r.length := by rw [List.length_tail]; omega
      rw [List.length_cons]
      split at h
      · cases h
      · split at h
        · simp only [PR.ok.injEq] at h
          rw [← h.2]; omega
        · split at h
          · split at h
            · cases hq : joinL (plainD d) 5 r.tail with
              | bad r3 er => rw [hq] at h; cases h
              | ok e3 r3 =>
                rw [hq] at h
                have h1 := ij _ _ _ hq
                have h2 := mustT_lt h
                omega
            · simp only [PR.ok.injEq] at h
              rw [← h.2]; omega
          · split at h
            · cases hq : joinL (plainD d) 5 r with
              | bad r3 er => rw [hq] at h; cases h
              | ok e3 r3 =>
                rw [hq] at h
                have h1 := ij _ _ _ hq
                have h2 := mustT_lt h
                omega
            · split at h
              · cases hq : plainD d r with
                | bad r3 er => rw [hq] at h; cases h
                | ok e3 r3 =>
                  rw [hq] at h
                  simp only [PR.ok.injEq] at h
                  have h1 := ih _ _ _ hq
                  rw [← h.2]; omega
              · cases hq : plainD d r with
                | bad r3 er => rw [hq] at h; cases h
                | ok e3 r3 =>
                  rw [hq] at h
                  simp only [PR.ok.injEq] at h
                  have h1 := ih _ _ _ hq
                  rw [← h.2]; omega
/-- More rounds than tokens change nothing. -/
theorem loopJ_more {lvl : Nat} {next : List Tk → PR} (hn : Eats next) : ∀ (n : Nat) (r : List Tk), r.length ≤ n → ∀ (f : Nat) (e : Ex), r.length ≤ f → loopJ lvl next f e r = loopJ lvl next r.length e r
  | 0, r, h, f, e, _ => by
    have : r = [] := List.eq_nil_of_length_eq_zero (by omega)
    subst this
    cases f <;> simp [loopJ, opAt]
  | n + 1, r, h, f, e, hf => by
    cases r with
    | nil => cases f <;> simp [loopJ, opAt]
    | cons t r =>
      rw [List.length_cons] at h hf ⊢
      obtain ⟨f, rfl⟩ : ∃ q, f = q + 1 := ⟨f - 1, by omega⟩
      simp only [loopJ]
      cases opAt lvl (t :: r) with
      | none => rfl
      | some op =>
        simp only [List.tail_cons]
        cases hq : next r with
        | bad r3 er => rfl
        | ok e3 r3 =>
          simp only
          have h3 := hn _ _ _ hq
          split
          · rfl
          · rw [loopJ_more hn n r3 (by omega) f _ (by omega), loopJ_more hn n r3 (by omega) r.length _ (by omega)]
end Go.Proofs.YtdgekckedchjbaaGreatDoor
namespace Go.Proofs.YtdgekckedchjbaaGreatDoor

/-- Nothing of an expression begins here, or ends. -/
def Dead (X : List Tk) : Prop := openT X = false ∧ hasT [91] X = false ∧ hasT [93] X = false ∧ hasT [41] X = false ∧ ∀ l, opAt l X = none
/-- Nothing of an expression goes on here. -/
def Calm (Y : List Tk) : Prop := hasT [91] Y = false ∧ ∀ l, opAt l Y = none
def Loc (next : List Tk → PR) : Prop := ∀ (X Y us : List Tk) (e : Ex) (r : List Tk), Dead X → Calm Y → next (us ++ X) = .ok e r → ∃ vs, r = vs ++ X ∧ vs <:+ us ∧ next (us ++ Y) = .ok e (vs ++ Y)
/-- The same, or too deep. -/
def Less (p q : List Tk → PR) : Prop := ∀ r, p r = q r ∨ ∃ r', p r = .bad r' 25
theorem Less.refl (p : List Tk → PR) : Less p p := fun _ => .inl rfl
theorem Less.trans {p q s : List Tk → PR} (h : Less p q) (h2 : Less q s) : Less p s := fun r => by
  rcases h r with e | e
  · rw [e]; exact h2 r
  · exact .inr e
def parenO : Tk := ⟨4, [40], 0, 0, 0⟩
def parenC : Tk := ⟨4, [41], 0, 0, 0⟩
def wrapT : Nat → List Tk → List Tk
  | 0, us => us
  | k + 1, us => parenO :: wrapT k us ++ [parenC]
end Go.Proofs.YtdgekckedchjbaaGreatDoor
namespace Go.Proofs.YtdgekckedchjbaaGreatDoor

/-- What a step of the parser gives, and what is left; or where it is wrong, and how. -/
inductive PS (α : Type) where
  | ok (a : α) (r : List Tk)
  | bad (r : List Tk) (err : Int)
def PS.bind {α β : Type} (p : PS α) (f : α → List Tk → PS β) : PS β := match p with
  | .ok a r => f a r
  | .bad r e => .bad r e
def PS.map {α : Type} (f : Tk → Tk) : PS α → PS α
  | .ok a r => .ok a (r.map f)
  | .bad r e => .bad (r.map f) e
def PR.ps : PR → PS Ex
  | .ok e r => .ok e r
  | .bad r e => .bad r e
/-- A statement. -/
inductive St where
  | mk (kind : Int) (nm : List UInt8) (E : List Ex) (lo hi : Int) (L El : List St)
/-- A variable. -/
structure Va where
  nm : List UInt8
  size : Int
  lo : Int
  hi : Int
/-- A program. -/
structure Pg where
  nm : List UInt8
  seats : Int
  stakes : List Int
  vars : List Va
  start : List St
  turn : List St
  params : List Va
  play : List St
  silent : List UInt8
  quiet : List St
  pays : List St
def kindT (k : Int) : List Tk → Bool
  | [] => false
  | t :: _ => decide (t.kind = k)
def mustP (x : List UInt8) (r : List Tk) : PS Unit := if hasT x r then .ok () r.tail else .bad r (wrongT r)
def takeP (k : Int) : List Tk → PS Tk
  | [] => .bad [] 4
  | t :: r => if t.kind = k then .ok t r else .bad (t :: r) (wrongT (t :: r))
def nameP (r : List Tk) : PS (List UInt8) := (takeP 1 r).bind fun t r => .ok t.text r
def wordP (r : List Tk) : PS (List UInt8) := (takeP 3 r).bind fun t r => .ok t.text r
def numP (r : List Tk) : PS Int := (takeP 2 r).bind fun t r => .ok t.n r
def signedP (r : List Tk) : PS Int := if hasT [45] r then (numP r.tail).bind fun n r => .ok (IntKind.i64.wrap (-n)) r else numP r
def exprP (r : List Tk) : PS Ex := (joinL (plainD 16) 5 r).ps
/-- As many as there are. -/
def listP {α : Type} (more : List Tk → Bool) (one : List Tk → PS α) : Nat → List α → List Tk → PS (List α)
  | 0, acc, r => .ok acc r
  | f + 1, acc, r => if more r then (one r).bind fun a r => listP more one f (acc ++ [a]) r else .ok acc r
def beginW : List (List UInt8) := [[105, 102], [102, 111, 114], [114, 101, 102, 117, 115, 101], [114, 111, 108, 108], [115, 101, 97, 116], [111, 118, 101, 114], [112, 97, 121], [114, 101, 115, 116]]
def beginsT : List Tk → Bool
  | [] => false
  | t :: _ => decide (t.kind = 1) || (decide (t.kind = 3) && decide (t.text ∈ beginW))
def assignP (r : List Tk) : PS St :=
  (nameP r).bind fun nm r =>
  if hasT [91] r then
    (exprP r.tail).bind fun e r => (mustP [93] r).bind fun _ r => (mustP [61] r).bind fun _ r => (exprP r).bind fun e2 r => .ok (.mk 1 nm [e, e2] 0 0 [] []) r
  else (mustP [61] r).bind fun _ r => (exprP r).bind fun e r => .ok (.mk 0 nm [e] 0 0 [] []) r
/-- A statement, within which there may stand d more. -/
def stmtD : Nat → List Tk → PS St
  | 0, r => .bad r 25
  | d + 1, r =>
    if kindT 1 r then assignP r
    else (wordP r).bind fun x r =>
      if x = [105, 102] then
        (exprP r).bind fun e r => (mustP [116, 104, 101, 110] r).bind fun _ r => (listP beginsT (stmtD d) r.length [] r).bind fun l r =>
        (if hasT [101, 108, 115, 101] r then listP beginsT (stmtD d) r.tail.length [] r.tail else .ok [] r).bind fun el r => (mustP [101, 110, 100] r).bind fun _ r => .ok (.mk 2 [] [e] 0 0 l el) r
      else if x = [102, 111, 114] then
        (nameP r).bind fun nm r => (signedP r).bind fun lo r => (signedP r).bind fun hi r => (mustP [100, 111] r).bind fun _ r =>
        (listP beginsT (stmtD d) r.length [] r).bind fun l r => (mustP [101, 110, 100] r).bind fun _ r => .ok (.mk 3 nm [] lo hi l []) r
      else if x = [114, 101, 102, 117, 115, 101] then .ok (.mk 4 [] [] 0 0 [] []) r
      else if x = [114, 111, 108, 108] then (nameP r).bind fun nm r => (numP r).bind fun n r => .ok (.mk 5 nm [] n 0 [] []) r
      else if x = [115, 101, 97, 116] then (exprP r).bind fun e r => .ok (.mk 6 [] [e] 0 0 [] []) r
      else if x = [111, 118, 101, 114] then .ok (.mk 7 [] [] 0 0 [] []) r
      else if x = [112, 97, 121] then (exprP r).bind fun e r => (exprP r).bind fun e2 r => .ok (.mk 8 [] [e, e2] 0 0 [] []) r
      else (exprP r).bind fun e r => .ok (.mk 9 [] [e] 0 0 [] []) r
def partP (r : List Tk) : PS (List St) := (listP beginsT (stmtD 16) r.length [] r).bind fun l r => (mustP [101, 110, 100] r).bind fun _ r => .ok l r
def variableP (r : List Tk) : PS Va :=
  (mustP [118, 97, 114] r).bind fun _ r => (nameP r).bind fun nm r =>
  (if hasT [91] r then (numP r.tail).bind fun n r => (mustP [93] r).bind fun _ r => .ok n r else .ok 0 r).bind fun sz r =>
  (signedP r).bind fun lo r => (signedP r).bind fun hi r => .ok ⟨nm, sz, lo, hi⟩ r
def parameterP (r : List Tk) : PS Va := (nameP r).bind fun nm r => (signedP r).bind fun lo r => (signedP r).bind fun hi r => .ok ⟨nm, 0, lo, hi⟩ r
def anotherP (r : List Tk) : PS Va := (mustP [44] r).bind fun _ r => parameterP r
/-- Behind the next token there stands a number, or a sign. -/
def behindT (r : List Tk) : Bool := match r.tail with
  | [] => false
  | t :: _ => decide (t.kind = 2) || decide (t.text = [45])
def paramsP (r : List Tk) : PS (List Va) :=
  if kindT 1 r = false then .ok [] r else if behindT r = false then .ok [] r
  else (parameterP r).bind fun v r => listP (hasT [44]) anotherP r.length [v] r
def progP (r : List Tk) : PS Pg :=
  (mustP [103, 97, 109, 101] r).bind fun _ r => (nameP r).bind fun nm r => (mustP [115, 101, 97, 116, 115] r).bind fun _ r => (numP r).bind fun seats r =>
  (mustP [115, 116, 97, 107, 101] r).bind fun _ r => (numP r).bind fun s0 r => (listP (kindT 2) numP r.length [] r).bind fun ss r =>
  (listP (hasT [118, 97, 114]) variableP r.length [] r).bind fun vars r => (mustP [115, 116, 97, 114, 116] r).bind fun _ r => (partP r).bind fun start r =>
  (mustP [116, 117, 114, 110] r).bind fun _ r => (partP r).bind fun turn r => (mustP [112, 108, 97, 121] r).bind fun _ r => (paramsP r).bind fun params r => (partP r).bind fun play r =>
  (mustP [115, 105, 108, 101, 110, 116] r).bind fun _ r => (nameP r).bind fun silent r => (partP r).bind fun quiet r => (mustP [112, 97, 121] r).bind fun _ r => (partP r).bind fun pays r =>
  .ok ⟨nm, seats, s0 :: ss, vars, start, turn, params, play, silent, quiet, pays⟩ r

/-- Places play no part. -/
def Zi {α : Type} (f : List Tk → PS α) : Prop := ∀ r, f (r.map Tk.z) = (f r).map Tk.z
theorem PS.bind_z {α β : Type} (p : PS α) (f g : α → List Tk → PS β) (h : ∀ a r, f a (r.map Tk.z) = (g a r).map Tk.z) : (p.map Tk.z).bind f = (p.bind g).map Tk.z := by
  cases p with
  | ok a r => exact h a r
  | bad r e => rfl
theorem Zi.bind {α β : Type} {p : List Tk → PS α} {f : α → List Tk → PS β} (hp : Zi p) (hf : ∀ a, Zi (f a)) : Zi fun r => (p r).bind (f · ·) := fun r => by
  show ((p (r.map Tk.z)).bind fun a r => f a r) = ((p r).bind fun a r => f a r).map Tk.z
  rw [hp r]
  exact PS.bind_z _ _ _ (fun a r => hf a r)
theorem Zi.ok {α : Type} (a : α) : Zi (fun r => PS.ok a r) := fun _ => rfl
theorem Zi.tail {α : Type} {f : List Tk → PS α} (hf : Zi f) : Zi fun r => f r.tail := fun r => by
  show f (r.map Tk.z).tail = (f r.tail).map Tk.z
  rw [← List.map_tail]
  exact hf _
end Go.Proofs.YtdgekckedchjbaaGreatDoor
