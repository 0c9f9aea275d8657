
/-
  The law SyntaxTrees.
-/
import Derived.Test.YtdmlnoeneoomfaaDoorS13
import Derived.Test.YtdmlnoeneoomfaaDoorGY
import Derived.Deep.RegionHeld3
namespace Go.Proofs.YtdmlnoeneoomfaaDoor
open Go.RowKit

theorem GC.wide {D : Nat → Prop} {w : World} {M K : Nat} (hK : M ≤ K) : ∀ (n : Nat) (cs : List Value) (g : Gx), GC D w M n cs g → GC D w K n cs g
  | 0, _, _, h => h
  | n + 1, cs, .mk op N nm l, h => by
    obtain ⟨A, len, cap, h1, xs, h2, h0, h3, h4, h5⟩ := h
    exact ⟨A, len, cap, h1, xs, h2, h0, Nat.le_trans h3 hK, h4, fun i hi => GC.wide hK n _ _ (h5 i hi)⟩
def maxM : Nat := 9223372036854775807
set_option maxHeartbeats 8000000 in
set_option maxRecDepth 100000 in
theorem trees_walk (n : Nat) (op N : Int) (nm : ByteArray) (A : Option Addr) (l c : Nat) (g : Gx) (D : Nat → Prop) (w : World) (hT : Spaces w) (hn : NamesOk n g) (h : GC D w maxM n [.int .i64 op, .int .i64 N, .string nm, .slice A l c] g) :
    Calls Tryd.prog 4 #[.agg #[.int .i64 op, .int .i64 N, .string nm, .slice A l c]] w (Tells w true) := by
  have KN := Lib.hid (fun W hW => known_any W (hT.below (w' := W) hW))
  have EX := Lib.hid (fun s W hW hs => Expression_any s W (hT.below (w' := W) hW) hs)
  have RT := Lib.hid (fun W hW => right_all maxM 8 (by omega) D n op N nm A l c g W hn (h.below (w' := W) hW))
  have HG := Lib.hid h
  have f0 : Below w.heap.size w (w.alloc (.cells #[.int .i64 op, .int .i64 N, .string nm, .slice A l c] 34)) := (Below.refl _ w).al _
  have x0 := Blk.new w 34 #[.int .i64 op, .int .i64 N, .string nm, .slice A l c]
  have F0 := Lib.hid f0
  have X0 := Lib.hid x0
  clear hT h hn f0 x0
  go_enter Tryd.func4, Tryd.ntmps4
  go_upto_region 1 with fail
  generalize w.alloc (.cells #[.int .i64 op, .int .i64 N, .string nm, .slice A l c] 34) = W0 at *
  go_wp2_with fail
  refine (KN.out _ F0.out).mono ?_
  rintro e w1 ⟨rfl, b1⟩
  have F1 := Lib.hid (F0.out.trans (b1.mono F0.out.size))
  have X1 := Lib.hid (X0.out.below b1 X0.out.lt)
  clear b1 X0
  have s0 : w1.cell? ⟨w.heap.size, 0, none⟩ = some (.int .i64 op) := X1.out.cell 0
  have s1 : w1.cell? ⟨w.heap.size, 1, none⟩ = some (.int .i64 N) := X1.out.cell 1
  have s2 : w1.cell? ⟨w.heap.size, 2, none⟩ = some (.string nm) := X1.out.cell 2
  have s3 : w1.cell? ⟨w.heap.size, 3, none⟩ = some (.slice A l c) := X1.out.cell 3
  go_wp2_with fail
  refine (RT.out _ F1.out).mono ?_
  rintro e w2 ⟨br, rfl, b2, hx⟩
  have F2 := Lib.hid (F1.out.trans (b2.mono F1.out.size))
  have X2 := Lib.hid (X1.out.below b2 X1.out.lt)
  have HX := Lib.hid hx
  clear b2 hx X1 s0 s1 s2 s3 RT
  cases br
  · go_wp2_with fail
    refine (KN.out _ F2.out).mono ?_
    rintro e w3 ⟨rfl, b3⟩
    go_wp2_with fail
    go_ret
    exact ⟨rfl, F2.out.trans (b3.mono F2.out.size)⟩
  · obtain ⟨x, hxg, hxr, hxd⟩ := HX.out rfl
    subst hxg
    have XR := Lib.hid hxr
    have XD := Lib.hid hxd
    clear hxr hxd HX
    have s0 : w2.cell? ⟨w.heap.size, 0, none⟩ = some (.int .i64 op) := X2.out.cell 0
    have s1 : w2.cell? ⟨w.heap.size, 1, none⟩ = some (.int .i64 N) := X2.out.cell 1
    have s2 : w2.cell? ⟨w.heap.size, 2, none⟩ = some (.string nm) := X2.out.cell 2
    have s3 : w2.cell? ⟨w.heap.size, 3, none⟩ = some (.slice A l c) := X2.out.cell 3
    have f4 := (F2.out.alloc F2.out.size (.cells #[.int .i64 op, .int .i64 N, .string nm, .slice A l c] 34)).alloc (by have := F2.out.size; simp; omega) (.cells #[.int .i64 0, .string ⟨#[]⟩, .slice (some ⟨w2.heap.size, 0, none⟩) 1 1, .int .i64 0, .int .i64 0, .slice none 0 0, .slice none 0 0] 41)
    obtain ⟨y1, y2⟩ := two_new w2 34 41 #[.int .i64 op, .int .i64 N, .string nm, .slice A l c] #[.int .i64 0, .string ⟨#[]⟩, .slice (some ⟨w2.heap.size, 0, none⟩) 1 1, .int .i64 0, .int .i64 0, .slice none 0 0, .slice none 0 0]
    have SZ := Lib.hid (size_one maxM n (by decide) (fun _ => True) (some ⟨w2.heap.size, 0, none⟩) 1 1 [x.gx] (w2.heap.size + 1) _ (els_one (D := fun _ => True) (by decide) (c1 := [.int .i64 op, .int .i64 N, .string nm, .slice A l c]) y1 trivial rfl (GC.kept (Kept.of_below (S := fun _ => False) f4) (fun _ _ _ h => h) (fun _ _ _ => trivial) n _ _ HG.out)) y2)
    have X4 := Lib.hid ((X2.out.alloc (.cells #[.int .i64 op, .int .i64 N, .string nm, .slice A l c] 34)).alloc (.cells #[.int .i64 0, .string ⟨#[]⟩, .slice (some ⟨w2.heap.size, 0, none⟩) 1 1, .int .i64 0, .int .i64 0, .slice none 0 0, .slice none 0 0] 41))
    have F4 := Lib.hid f4
    clear f4 y1 y2 X2
    go_wp2_with fail
    refine SZ.out.mono ?_
    rintro e w5 ⟨m, rfl, b5⟩
    have F5 := Lib.hid (F4.out.trans (b5.mono F4.out.size))
    have X5 := Lib.hid (X4.out.below b5 X4.out.lt)
    clear b5 SZ X4 s0 s1 s2 s3 F4 F2
    by_cases hm : 300 < m
    · have hm' : decide (300 < m) = true := by simp [hm]
      go_wp2_with fail
      refine (KN.out _ F5.out).mono ?_
      rintro e w6 ⟨rfl, b6⟩
      go_wp2_with fail
      go_ret
      exact ⟨rfl, F5.out.trans (b6.mono F5.out.size)⟩
    · have hm' : decide (300 < m) = false := by simp; omega
      have s0 : w5.cell? ⟨w.heap.size, 0, none⟩ = some (.int .i64 op) := X5.out.cell 0
      have s1 : w5.cell? ⟨w.heap.size, 1, none⟩ = some (.int .i64 N) := X5.out.cell 1
      have s2 : w5.cell? ⟨w.heap.size, 2, none⟩ = some (.string nm) := X5.out.cell 2
      have s3 : w5.cell? ⟨w.heap.size, 3, none⟩ = some (.slice A l c) := X5.out.cell 3
      have TX := Lib.hid (text_any maxM x XR.out XD.out D n op N nm A l c w5 (HG.out.below F5.out))
      have hts : (str (textX x)).size ≤ 65536 := by
        rw [str_size]
        have h1 := textX_len x XR.out
        have h2 := pow2 XD.out
        omega
      have htt : exprO (str (textX x)).data.toList = .ok x := by
        rw [str_list]
        exact trees_text XR.out (by have := costX_dep x; have := XD.out; omega)
      obtain ⟨T, hT⟩ : ∃ T, str (textX x) = T := ⟨_, rfl⟩
      rw [hT] at hts htt TX
      have EX2 := Lib.hid (fun W hW => EX.out T W hW hts)
      rw [htt] at EX2
      clear hT htt hts EX KN
      go_upto_region 3 with fail
      go_wp2_with fail
      refine TX.out.mono ?_
      rintro e w6 ⟨rfl, b6⟩
      have F6 := Lib.hid (F5.out.trans (b6.mono F5.out.size))
      have X6 := Lib.hid (X5.out.below b6 X5.out.lt)
      clear b6 s0 s1 s2 s3 TX
      go_wp2_with fail
      refine (EX2.out _ F6.out).mono ?_
      rintro e w7 ⟨op', N', nm', A', l', c', L', C', E', rfl, b7, rfl, rfl, rfl, hT7⟩
      have F7 := Lib.hid (F6.out.trans (b7.mono F6.out.size))
      have hb8 : Below w6.heap.size w6 ((w7.alloc (.cells #[.int .i64 op', .int .i64 N', .string nm', .slice A' l' c'] 25)).alloc (.cells #[.int .i64 0, .int .i64 0] 27)) := (b7.alloc b7.size _).alloc (by have := b7.size; simp; omega) _
      have F8 := Lib.hid (F6.out.trans (hb8.mono F6.out.size))
      have X8 := Lib.hid (X6.out.below hb8 X6.out.lt)
      have G7 := Lib.hid (TE.gc (M := 1000000) (by omega) x _ hT7)
      have K78 := Lib.hid (((Kept.refl (fun _ => False) w7).alloc (.cells #[.int .i64 op', .int .i64 N', .string nm', .slice A' l' c'] 25)).alloc (.cells #[.int .i64 0, .int .i64 0] 27))
      have G8 := Lib.hid (GC.kept K78.out (fun _ _ _ h => h) (fun _ _ h => h) _ _ _ G7.out)
      obtain ⟨y1, -⟩ := two_new w7 25 27 #[.int .i64 op', .int .i64 N', .string nm', .slice A' l' c'] #[.int .i64 0, .int .i64 0]
      have Y8 := Lib.hid y1
      clear b7 hT7 hb8 G7 y1 EX2 X6 X5
      go_upto_region 4 with fail
      generalize (w7.alloc (.cells #[.int .i64 op', .int .i64 N', .string nm', .slice A' l' c'] 25)).alloc (.cells #[.int .i64 0, .int .i64 0] 27) = W8 at *
      have OA := Lib.hid (one_any _ x.dep op' N' nm' A' l' c' x.gx W8.drew (G8.out.below (Below.refl _ W8).drew))
      have GI := Lib.hid (HG.out.below F8.out)
      have QB : Hid (∀ W, Below W8.heap.size W8 W → W.cell? ⟨w.heap.size, 0, none⟩ = some (.int .i64 op) ∧ W.cell? ⟨w.heap.size, 1, none⟩ = some (.int .i64 N) ∧ W.cell? ⟨w.heap.size, 2, none⟩ = some (.string nm) ∧ W.cell? ⟨w.heap.size, 3, none⟩ = some (.slice A l c) ∧
          W.cell? ⟨w7.heap.size, 0, none⟩ = some (.int .i64 op') ∧ W.cell? ⟨w7.heap.size, 1, none⟩ = some (.int .i64 N') ∧ W.cell? ⟨w7.heap.size, 2, none⟩ = some (.string nm') ∧ W.cell? ⟨w7.heap.size, 3, none⟩ = some (.slice A' l' c')) := fun W hW => by
        have h1 := X8.out.below hW X8.out.lt
        have h2 := Y8.out.below hW Y8.out.lt
        exact ⟨h1.cell 0, h1.cell 1, h1.cell 2, h1.cell 3, h2.cell 0, h2.cell 1, h2.cell 2, h2.cell 3⟩
      have SA : Hid (∀ (oa Na : Int) (na : ByteArray) (Aa : Option Addr) (la ca : Nat) (D1 : Nat → Prop) (W : World), Below W8.heap.size W8 W → GC D1 W 1000000 x.dep [.int .i64 oa, .int .i64 Na, .string na, .slice Aa la ca] x.gx → Calls Tryd.prog 10 #[.agg #[.int .i64 oa, .int .i64 Na, .string na, .slice Aa la ca], .agg #[.int .i64 op, .int .i64 N, .string nm, .slice A l c]] W (Tells W true)) := fun oa Na na Aa la ca D1 W hW hg =>
        same_all maxM (by decide) (max x.dep n) D1 D oa Na op N na nm Aa A la ca l c x.gx W ((GC.wide (by decide) _ _ _ hg).deeper (Nat.le_max_left _ _)) ((GI.out.below hW).deeper (Nat.le_max_right _ _))
      have f8 := (Below.refl W8.heap.size W8).drew
      have zz := F8.out.size
      go_region_held3 (fun W => W.cell? ⟨w.heap.size, 0, none⟩ = some (.int .i64 op) ∧ W.cell? ⟨w.heap.size, 1, none⟩ = some (.int .i64 N) ∧ W.cell? ⟨w.heap.size, 2, none⟩ = some (.string nm) ∧ W.cell? ⟨w.heap.size, 3, none⟩ = some (.slice A l c) ∧
          W.cell? ⟨w7.heap.size, 0, none⟩ = some (.int .i64 op') ∧ W.cell? ⟨w7.heap.size, 1, none⟩ = some (.int .i64 N') ∧ W.cell? ⟨w7.heap.size, 2, none⟩ = some (.string nm') ∧ W.cell? ⟨w7.heap.size, 3, none⟩ = some (.slice A' l' c'))
        (first | (with_reducible exact QB.out _ f8) | (with_reducible exact QB.out _ f10) | (with_reducible exact QB.out _ f9))
        (first
        | (go_at_call 11; (with_reducible refine OA.out.mono ?_); rintro e w9 ⟨oa, Na, na, Aa, la, ca, rfl, b9, g9⟩; have f9 := f8.trans (b9.mono (Nat.le_refl _)))
        | (go_at_call 10; (with_reducible refine (SA.out _ _ _ _ _ _ _ _ f9 g9).mono ?_); rintro e w10 ⟨rfl, b10⟩; have f10 := f9.trans (b10.mono f9.size)))
      go_wp2_with fail
      go_ret
      exact ⟨rfl, F8.out.trans (f10.mono zz)⟩
end Go.Proofs.YtdmlnoeneoomfaaDoor
