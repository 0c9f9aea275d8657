
/-
  package lex: the words and the marks; a scanner.
-/
import Derived.Test.YtdmlnoeneoomfaaDoorL4
import Derived.Test.YtdmlnoeneoomfaaDoorLShelf
namespace Go.Proofs.YtdmlnoeneoomfaaDoor
open Go.RowKit

/-- What the library's table of blanks holds. -/
def Spaces (w : World) : Prop := ∀ c : Nat, c < 256 → w.cell? ⟨Tryd.lays157_ren.g 0, c, none⟩ = some (.int .u8 (if Lib.isSp (UInt8.ofNat c) then 1 else 0))
theorem Spaces.below {w w' : World} (h : Spaces w) (hb : Below w.heap.size w w') : Spaces w' := fun c hc => by
  have h1 := h c hc
  exact (hb.cell (p := ⟨Tryd.lays157_ren.g 0, c, none⟩) (World.block_lt_of_cell? _ _ h1)).trans h1
/-- A text of bytes. -/
def str (l : List UInt8) : ByteArray := ⟨l.toArray⟩
theorem str_list (l : List UInt8) : (str l).data.toList = l := by simp [str]
def wordsT : List UInt8 := [103, 97, 109, 101, 32, 115, 101, 97, 116, 115, 32, 115, 116, 97, 107, 101, 32, 118, 97, 114, 32, 115, 116, 97, 114, 116, 32, 116, 117, 114, 110, 32, 112, 108, 97, 121, 32, 115, 105, 108, 101, 110, 116, 32, 112, 97, 121, 32, 101, 110, 100, 32, 105, 102, 32, 116, 104, 101, 110, 32, 101, 108, 115, 101, 32, 102, 111, 114, 32, 100, 111, 32, 114, 101, 102, 117, 115, 101, 32, 114, 111, 108, 108, 32, 115, 101, 97, 116, 32, 111, 118, 101, 114, 32, 114, 101, 115, 116, 32, 97, 110, 100, 32, 111, 114, 32, 110, 111, 116]
def marksT : List UInt8 := [91, 32, 93, 32, 40, 32, 41, 32, 61, 32, 33, 61, 32, 60, 32, 60, 61, 32, 62, 32, 62, 61, 32, 43, 32, 45, 32, 42, 32, 47, 32, 37, 32, 44]
def wordsL : List (List UInt8) := [[103, 97, 109, 101], [115, 101, 97, 116, 115], [115, 116, 97, 107, 101], [118, 97, 114], [115, 116, 97, 114, 116], [116, 117, 114, 110], [112, 108, 97, 121], [115, 105, 108, 101, 110, 116], [112, 97, 121], [101, 110, 100], [105, 102], [116, 104, 101, 110], [101, 108, 115, 101], [102, 111, 114], [100, 111], [114, 101, 102, 117, 115, 101], [114, 111, 108, 108], [115, 101, 97, 116], [111, 118, 101, 114], [114, 101, 115, 116], [97, 110, 100], [111, 114], [110, 111, 116]]
def marksL : List (List UInt8) := [[91], [93], [40], [41], [61], [33, 61], [60], [60, 61], [62], [62, 61], [43], [45], [42], [47], [37], [44]]
theorem fields_words : Lib.fields wordsT = wordsL := by decide +kernel
theorem fields_marks : Lib.fields marksT = marksL := by decide +kernel
theorem ascii_words : ∀ b ∈ wordsT, b.toNat < 128 := by decide +kernel
theorem ascii_marks : ∀ b ∈ marksT, b.toNat < 128 := by decide +kernel
def wordsB : List ByteArray := wordsL.map str
def marksB : List ByteArray := marksL.map str
theorem nodup_str {l : List (List UInt8)} (h : l.Nodup) : (l.map str).Nodup := by
  refine List.pairwise_map.2 (h.imp ?_)
  intro a b hab he
  have := congrArg (fun s : ByteArray => s.data.toList) he
  exact hab (by simpa [str] using this)
theorem wordsB_nodup : wordsB.Nodup := nodup_str (by decide +kernel)
theorem marksB_nodup : marksB.Nodup := nodup_str (by decide +kernel)

/-- The texts l in a block of their own. -/
def textsO (l : List ByteArray) : Obj := .cells (l.map Value.string).toArray 9
theorem fields_any (s : ByteArray) (l : List (List UInt8)) (w : World) (hs : s.size < 4294967281) (ha : ∀ b ∈ s.data.toList, b.toNat < 128) (hl : Lib.fields s.data.toList = l) (hT : Spaces w) :
    Calls Tryd.prog 73 #[.string s] w fun e w' => e = .returned (.slice (some ⟨w.heap.size, 0, none⟩) l.length l.length) ∧ w' = w.alloc (textsO (l.map str)) := by
  subst hl
  refine (Any.strings_Fields_core Tryd.lays157 (by kernel_rfl) s w hs (fun j b h => ha b (List.mem_of_getElem? h)) hT).mono ?_
  rintro e w' ⟨rfl, rfl⟩
  refine ⟨rfl, ?_⟩
  unfold textsO
  congr 3
  simp [str]

set_option maxHeartbeats 1000000 in
set_option maxRecDepth 100000 in
theorem words_any (w : World) (hT : Spaces w) :
    Calls Tryd.prog 50 #[] w fun e w' => e = .returned (.slice (some ⟨w.heap.size, 0, none⟩) 23 23) ∧ w' = w.alloc (textsO wordsB) := by
  go_enter Tryd.func50, Tryd.ntmps50
  go_wp2_with fail
  refine (fields_any (str wordsT) wordsL w (by decide +kernel) (by rw [str_list]; exact ascii_words) (by rw [str_list]; exact fields_words) hT).mono ?_
  rintro e w' ⟨rfl, rfl⟩
  go_wp2_with fail
  go_ret
  exact ⟨rfl, rfl⟩
set_option maxHeartbeats 1000000 in
set_option maxRecDepth 100000 in
theorem marks_any (w : World) (hT : Spaces w) :
    Calls Tryd.prog 51 #[] w fun e w' => e = .returned (.slice (some ⟨w.heap.size, 0, none⟩) 16 16) ∧ w' = w.alloc (textsO marksB) := by
  go_enter Tryd.func51, Tryd.ntmps51
  go_wp2_with fail
  refine (fields_any (str marksT) marksL w (by decide +kernel) (by rw [str_list]; exact ascii_marks) (by rw [str_list]; exact fields_marks) hT).mono ?_
  rintro e w' ⟨rfl, rfl⟩
  go_wp2_with fail
  go_ret
  exact ⟨rfl, rfl⟩
theorem texts_rv (w : World) (l : List ByteArray) : RV (w.alloc (textsO l)) (some ⟨w.heap.size, 0, none⟩) l.length (l.map Value.string) := by
  refine ⟨by simp, fun _ => ⟨_, rfl, by simp, fun j u hu => ?_⟩⟩
  rw [Addr.add_lit, Nat.zero_add]
  have h := (Blk.new w 9 (l.map Value.string).toArray).cell j
  have h2 : (w.alloc (textsO l)).cell? ⟨w.heap.size, j, none⟩ = (l.map Value.string).toArray[j]? := h
  rw [h2]
  simpa using hu

/-- A scanner. -/
def ScMade (w : World) (e : Ending) (w' : World) : Prop := ∃ r1 r2, e = .returned (.agg #[.map (some r1), .map (some r2)]) ∧ SetIs w' r1 wordsB ∧ SetIs w' r2 marksB ∧ Below w.heap.size w w'
set_option maxHeartbeats 1000000 in
set_option maxRecDepth 100000 in
theorem start_any (w : World) (hT : Spaces w) :
    Calls Tryd.prog 30 #[] w (ScMade w) := by
  have HT := Lib.hid hT
  clear hT
  go_enter Tryd.func30, Tryd.ntmps30
  go_wp2_with fail
  have f0 : Below w.heap.size w (w.alloc (.cells #[.map none, .map none] 82)) := (Below.refl _ w).al _
  have y0 := Blk.new w 82 #[.map none, .map none]
  have T0 := Lib.hid (HT.out.below f0)
  have z0 : (w.alloc (.cells #[.map none, .map none] 82)).heap.size = w.heap.size + 1 := by simp
  generalize w.alloc (.cells #[.map none, .map none] 82) = W0 at *
  have HZ := Lib.hid z0
  have HY := Lib.hid y0
  clear z0 y0
  refine (words_any W0 T0.out).mono ?_
  rintro e w1 ⟨rfl, rfl⟩
  have r1 : RV (W0.alloc (textsO wordsB)) (some ⟨W0.heap.size, 0, none⟩) 23 (wordsB.map Value.string) := texts_rv W0 wordsB
  have f1 : Below W0.heap.size W0 (W0.alloc (textsO wordsB)) := (Below.refl _ W0).al _
  go_wp2_with fail
  refine (set_any _ 23 23 wordsB _ r1 wordsB_nodup (by omega)).mono ?_
  rintro e w2 ⟨r, rfl, s2, l2, b2⟩
  have f2 := f1.then_ b2
  have T2 := Lib.hid (T0.out.below f2)
  have S2 := Lib.hid s2
  clear r1 s2 f1
  go_wp2_with fail
  refine (marks_any w2 T2.out).mono ?_
  rintro e w3 ⟨rfl, rfl⟩
  have r3 : RV (w2.alloc (textsO marksB)) (some ⟨w2.heap.size, 0, none⟩) 16 (marksB.map Value.string) := texts_rv w2 marksB
  have f3 := f2.al (textsO marksB)
  have S3 := Lib.hid (S2.out.below ((Below.refl _ w2).al (textsO marksB)))
  go_wp2_with fail
  refine (set_any _ 16 16 marksB _ r3 marksB_nodup (by omega)).mono ?_
  rintro e w4 ⟨r', rfl, s4, l4, b4⟩
  have f4 := f3.then_ b4
  have S4 := Lib.hid (S3.out.below b4)
  have S4' := Lib.hid s4
  have y4 := HY.out.below f4 HY.out.lt
  have g4 := f0.then_ f4
  have k0 : w4.cell? ⟨w.heap.size, 0, none⟩ = some (.map none) := y4.cell 0
  have k1 : w4.cell? ⟨w.heap.size, 1, none⟩ = some (.map none) := y4.cell 1
  have q0 := y4.frozen 0
  have q1 := y4.frozen 1
  have n1 : r ≠ w.heap.size := by have := HZ.out; simp at l2; omega
  have n2 : r' ≠ w.heap.size := by have := f2.size; have := HZ.out; simp at l4; omega
  have kk : Kept (fun q => q = w.heap.size) w4 ((w4.setCell ⟨w.heap.size, 0, none⟩ (.map (some r))).setCell ⟨w.heap.size, 1, none⟩ (.map (some r'))) := ((Kept.refl (fun q => q = w.heap.size) w4).setCell (p := ⟨w.heap.size, 0, none⟩) (fun _ => rfl) _).setCell (p := ⟨w.heap.size, 1, none⟩) (fun _ => rfl) _
  have HK := Lib.hid kk
  clear r3 s4 kk y4
  go_wp2_with fail
  refine bodyPost_ret (v := .agg #[.map (some r), .map (some r')]) (by simp [results, Tryd.results30, go_sem, k0, k1]) rfl ⟨r, r', rfl, S4.out.kept HK.out n1, S4'.out.kept HK.out n2, ?_⟩
  exact g4.trans (HK.out.to_below g4.size (fun q hq e => by omega))
end Go.Proofs.YtdmlnoeneoomfaaDoor
