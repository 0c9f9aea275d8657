
/-
  The law SyntaxWraps.
-/
import Derived.Test.YtdmlnoeneoomfaaDoorS11
import Derived.Test.YtdmlnoeneoomfaaDoorGW
import Derived.Test.YtdmlnoeneoomfaaDoorPW
import Derived.Deep.RegionHeld3
namespace Go.Proofs.YtdmlnoeneoomfaaDoor
open Go.RowKit

def zeroG : Gx := .mk 0 0 ⟨#[]⟩ []
theorem zero_gc (D : Nat → Prop) (w : World) (M n : Nat) : GC D w M (n + 1) [.int .i64 0, .int .i64 0, .string ⟨#[]⟩, .slice none 0 0] zeroG := ⟨none, 0, 0, rfl, ElsG.none_ _ _ _ _ _ _⟩
theorem same_any (n : Nat) (D D' : Nat → Prop) (op N op' N' : Int) (nm nm' : ByteArray) (A A' : Option Addr) (l c l' c' : Nat) (g : Gx) (w : World) (h : GC D w 1000000 n [.int .i64 op, .int .i64 N, .string nm, .slice A l c] g) (h' : GC D' w 1000000 n [.int .i64 op', .int .i64 N', .string nm', .slice A' l' c'] g) :
    Calls Tryd.prog 10 #[.agg #[.int .i64 op, .int .i64 N, .string nm, .slice A l c], .agg #[.int .i64 op', .int .i64 N', .string nm', .slice A' l' c']] w (Tells w true) :=
  same_all 1000000 (by omega) n D D' op N op' N' nm nm' A A' l c l' c' g w h h'
def wrS (s : ByteArray) (k : Nat) : ByteArray := str (wrapB k s.data.toList)
theorem wrS_zero (s : ByteArray) : wrS s 0 = s := by
  apply ba_ext
  rw [wrS, str_list]
  rfl
theorem wrS_succ (s : ByteArray) (k : Nat) : ⟨#[40]⟩ ++ wrS s k ++ ⟨#[10, 41]⟩ = wrS s (k + 1) := by
  apply ba_ext
  rw [wrS, wrS, str_list]
  simp [wrapB, ByteArray.data_append, str]
theorem wrS_size (s : ByteArray) (k : Nat) : (wrS s k).size = s.size + 3 * k := by
  rw [wrS, str_size, wrapB_len]
  simp
theorem wrS_list (s : ByteArray) (k : Nat) : (wrS s k).data.toList = wrapB k s.data.toList := by rw [wrS, str_list]
set_option maxHeartbeats 8000000 in
set_option maxRecDepth 100000 in
theorem wraps_walk (s : ByteArray) (n : Nat) (w : World) (hT : Spaces w) (hs : s.size ≤ 9223372036854775807) (hn : n < 256) : Calls Tryd.prog 3 #[.string s, .int .u8 (n : Int)] w (Tells w true) := by
  have KN := Lib.hid (fun W hW => known_any W (hT.below (w' := W) hW))
  have EX := Lib.hid (fun s W hW hs => Expression_any s W (hT.below (w' := W) hW) hs)
  have K0 := Lib.hid (known_any w hT)
  clear hT
  by_cases hbig : 2000 < s.size
  · have g0 : decide ((2000 : Int) < (s.size : Int)) = true := by simp; omega
    go_enter Tryd.func3, Tryd.ntmps3
    go_wp2_with fail
    refine K0.out.mono ?_
    rintro e w1 ⟨rfl, b1⟩
    go_wp2_with fail
    refine (KN.out w1 b1).mono ?_
    rintro e w2 ⟨rfl, b2⟩
    go_wp2_with fail
    go_ret
    exact ⟨rfl, b1.trans (b2.mono b1.size)⟩
  · have g0 : decide ((2000 : Int) < (s.size : Int)) = false := by simp; omega
    go_enter Tryd.func3, Tryd.ntmps3
    go_wp2_with fail
    refine K0.out.mono ?_
    rintro e w1 ⟨rfl, b1⟩
    have B1 := Lib.hid b1
    have E1 := Lib.hid (EX.out s w1 b1 (by omega))
    clear b1
    go_upto_region 3 with fail
    go_wp2_with fail
    refine E1.out.mono ?_
    rintro e w2 ⟨op, N, nm, A, l, c, L, C, E, rfl, b2, h2⟩
    have z12 := B1.out.size
    have b12 := B1.out.trans (b2.mono z12)
    obtain ⟨x1, -⟩ := two_new w2 25 27 #[.int .i64 op, .int .i64 N, .string nm, .slice A l c] #[.int .i64 L, .int .i64 C]
    have B3 : Hid (Below w.heap.size w ((w2.alloc (.cells #[.int .i64 op, .int .i64 N, .string nm, .slice A l c] 25)).alloc (.cells #[.int .i64 L, .int .i64 C] 27))) := (b12.alloc b12.size _).alloc (by have := b12.size; simp; omega) _
    have X1 := Lib.hid x1
    have K23 := Lib.hid (((Kept.refl (fun _ => False) w2).alloc (.cells #[.int .i64 op, .int .i64 N, .string nm, .slice A l c] 25)).alloc (.cells #[.int .i64 L, .int .i64 C] 27))
    have H2 := Lib.hid h2
    clear h2 b2 b12 x1 E1
    by_cases hE : E = 0
    · subst hE
      cases hq : exprO s.data.toList with
      | bad L' C' E' =>
        exfalso
        have := H2.out
        rw [hq] at this
        exact this.2.2.2.1 rfl
      | ok x =>
        have hTx : TE (fun z => w1.heap.size ≤ z) w2 x [.int .i64 op, .int .i64 N, .string nm, .slice A l c] := by have := H2.out; rw [hq] at this; exact this.2.2.2
        have G1 := Lib.hid (GC.kept K23.out (fun _ _ _ h => h) (fun _ _ h => h) _ _ _ (TE.gc (M := 1000000) (by omega) x _ hTx))
        have WT := Lib.hid (wraps_text hq)
        clear hTx hq H2
        go_upto_region 6 with fail
        generalize (w2.alloc (.cells #[.int .i64 op, .int .i64 N, .string nm, .slice A l c] 25)).alloc (.cells #[.int .i64 L, .int .i64 C] 27) = W3 at *
        obtain ⟨k, hk⟩ : ∃ k, n % 20 = k := ⟨_, rfl⟩
        have hk20 : k < 20 := by omega
        have r1 : ((n : Int)).tmod 20 = (k : Int) := by rw [Int.tmod_eq_emod_of_nonneg (by omega)]; omega
        have q1 : IntKind.i64.wrap (n : Int) = (n : Int) := IntWalk.i64_in _ ⟨by omega, by omega⟩
        have q2 : IntKind.i64.wrap (k : Int) = (k : Int) := IntWalk.i64_in _ ⟨by omega, by omega⟩
        have HZ := Lib.hid (wrS_zero s)
        have HSZ := Lib.hid (wrS_size s)
        have HSU := Lib.hid (wrS_succ s)
        have HSL := Lib.hid (wrS_list s)
        clear hk
        go_wp2_with fail
        go_loopw [9, 38] (fun tv i wr => ∃ j : Nat, j ≤ k ∧ i = .int .i64 j ∧ tv = .string (wrS s j) ∧ Hid (W3 = wr)) (fun _ i _ => k - (intOf i).toNat)
        case atStart => exact ⟨0, by omega, rfl, by rw [HZ.out], rfl⟩
        case round =>
          obtain ⟨j, hj, rfl, rfl, hw⟩ := hrel
          have hw' := hw.out
          subst hw'
          by_cases hlt : j < k
          · have g1 : (j : Int) < (k : Int) := by omega
            have z1 : (wrS s j).size = s.size + 3 * j := HSZ.out j
            have z2 : ¬ (9223372036854775807 < 1 + (wrS s j).size) := by omega
            have z3 : ¬ (9223372036854775807 < 1 + (wrS s j).size + 2) := by omega
            have SU : ⟨#[40]⟩ ++ wrS s j ++ ⟨#[10, 41]⟩ = wrS s (j + 1) := HSU.out j
            clear z1
            go_wp2_with fail
            go_roundw
            case rel => exact ⟨j + 1, by omega, by go_num, by first | rfl | rw [SU], by first | exact rfl | exact trivial⟩
            case measure => simp [intOf]; omega
          · obtain rfl : j = k := by omega
            clear hlt
            have E4 := Lib.hid (EX.out (wrS s j) W3 B3.out (by rw [HSZ.out]; omega))
            rw [HSL.out] at E4
            go_upto_region 12 with fail
            go_wp2_with fail
            refine E4.out.mono ?_
            rintro e w4 ⟨op', N', nm', A', l', c', L', C', E', rfl, b4, h4⟩
            have z34 := B3.out.size
            have B4 := Lib.hid (B3.out.trans (b4.mono z34))
            have hb45 : Below W3.heap.size W3 ((w4.alloc (.cells #[.int .i64 op', .int .i64 N', .string nm', .slice A' l' c'] 25)).alloc (.cells #[.int .i64 L', .int .i64 C'] 27)) := (b4.alloc b4.size _).alloc (by have := b4.size; simp; omega) _
            have B5 := Lib.hid (B3.out.trans (hb45.mono z34))
            have x5 := Lib.hid (X1.out.below hb45 X1.out.lt)
            have G5 := Lib.hid (G1.out.below hb45)
            obtain ⟨y1, -⟩ := two_new w4 25 27 #[.int .i64 op', .int .i64 N', .string nm', .slice A' l' c'] #[.int .i64 L', .int .i64 C']
            have Y5 := Lib.hid y1
            have K45 := Lib.hid (((Kept.refl (fun _ => False) w4).alloc (.cells #[.int .i64 op', .int .i64 N', .string nm', .slice A' l' c'] 25)).alloc (.cells #[.int .i64 L', .int .i64 C'] 27))
            have H4 := Lib.hid h4
            clear h4 b4 hb45 y1 E4
            rcases WT.out j with hx | ⟨hj0, L2, C2, hx⟩
            · rw [hx] at H4
              obtain ⟨rfl, rfl, rfl, hT4⟩ := H4.out
              have G4 := Lib.hid (GC.kept K45.out (fun _ _ _ h => h) (fun _ _ h => h) _ _ _ (TE.gc (M := 1000000) (by omega) x _ hT4))
              clear hT4 H4 hx
              go_upto_region 15 with fail
              generalize (w4.alloc (.cells #[.int .i64 op', .int .i64 N', .string nm', .slice A' l' c'] 25)).alloc (.cells #[.int .i64 0, .int .i64 0] 27) = W5 at *
              have OA := Lib.hid (one_any _ x.dep op N nm A l c x.gx W5.drew (G5.out.below (Below.refl _ W5).drew))
              have OB := Lib.hid (fun W hW => one_any _ x.dep op' N' nm' A' l' c' x.gx W (G4.out.below (w' := W) hW))
              have SA := Lib.hid (same_any x.dep)
              have QB : Hid (∀ W, Below W5.heap.size W5 W → W.cell? ⟨w2.heap.size, 0, none⟩ = some (.int .i64 op) ∧ W.cell? ⟨w2.heap.size, 1, none⟩ = some (.int .i64 N) ∧ W.cell? ⟨w2.heap.size, 2, none⟩ = some (.string nm) ∧ W.cell? ⟨w2.heap.size, 3, none⟩ = some (.slice A l c) ∧
                  W.cell? ⟨w4.heap.size, 0, none⟩ = some (.int .i64 op') ∧ W.cell? ⟨w4.heap.size, 1, none⟩ = some (.int .i64 N') ∧ W.cell? ⟨w4.heap.size, 2, none⟩ = some (.string nm') ∧ W.cell? ⟨w4.heap.size, 3, none⟩ = some (.slice A' l' c')) := fun W hW => by
                have h1 := x5.out.below hW x5.out.lt
                have h2 := Y5.out.below hW Y5.out.lt
                exact ⟨h1.cell 0, h1.cell 1, h1.cell 2, h1.cell 3, h2.cell 0, h2.cell 1, h2.cell 2, h2.cell 3⟩
              have f0 := (Below.refl W5.heap.size W5).drew
              have zz := B5.out.size
              go_region_held3 (fun W => W.cell? ⟨w2.heap.size, 0, none⟩ = some (.int .i64 op) ∧ W.cell? ⟨w2.heap.size, 1, none⟩ = some (.int .i64 N) ∧ W.cell? ⟨w2.heap.size, 2, none⟩ = some (.string nm) ∧ W.cell? ⟨w2.heap.size, 3, none⟩ = some (.slice A l c) ∧
                  W.cell? ⟨w4.heap.size, 0, none⟩ = some (.int .i64 op') ∧ W.cell? ⟨w4.heap.size, 1, none⟩ = some (.int .i64 N') ∧ W.cell? ⟨w4.heap.size, 2, none⟩ = some (.string nm') ∧ W.cell? ⟨w4.heap.size, 3, none⟩ = some (.slice A' l' c'))
                (first | (with_reducible exact QB.out _ f0) | (with_reducible exact QB.out _ f8) | (with_reducible exact QB.out _ f7) | (with_reducible exact QB.out _ f6))
                (first
                | (go_at_call 11; (with_reducible refine OA.out.mono ?_); rintro e w6 ⟨oa, Na, na, Aa, la, ca, rfl, b6, g6⟩; have f6 := f0.trans (b6.mono (Nat.le_refl _)))
                | (go_at_call 11; (with_reducible refine (OB.out _ f6).mono ?_); rintro e w7 ⟨ob, Nb, nb, Ab, lb, cb, rfl, b7, g7⟩; have f7 := f6.trans (b7.mono f6.size))
                | (go_at_call 10; (with_reducible refine (SA.out _ _ _ _ _ _ _ _ _ _ _ _ _ _ _ _ (g6.below b7) g7).mono ?_); rintro e w8 ⟨rfl, b8⟩; have f8 := f7.trans (b8.mono f7.size)))
              go_wp2_with fail
              go_ret
              exact ⟨rfl, B5.out.trans (f8.mono zz)⟩
            · rw [hx] at H4
              obtain ⟨rfl, rfl, rfl, -⟩ := H4.out
              have g1 : decide ((0 : Int) < (j : Int)) = true := by simp; omega
              have g2 : decide (0 < j) = true := by simpa using hj0
              clear hx hj0 H4
              go_wp2_with fail
              go_ret
              exact ⟨rfl, B5.out⟩
    · have hE' : (E == 0) = false := by simp [hE]
      go_upto_region 5 with fail
      generalize (w2.alloc (.cells #[.int .i64 op, .int .i64 N, .string nm, .slice A l c] 25)).alloc (.cells #[.int .i64 L, .int .i64 C] 27) = W3 at *
      have hz : exprO s.data.toList = exprO s.data.toList := rfl
      cases hq : exprO s.data.toList with
      | ok x => exact absurd (by have := H2.out; rw [hq] at this; exact this.1) hE
      | bad L' C' E' =>
        have hcs : [Value.int .i64 op, .int .i64 N, .string nm, .slice A l c] = [.int .i64 0, .int .i64 0, .string ⟨#[]⟩, .slice none 0 0] := by have := H2.out; rw [hq] at this; exact this.2.2.2.2
        have OA := Lib.hid (one_any (fun _ => True) 1 op N nm A l c zeroG W3 (by rw [hcs]; exact zero_gc _ _ _ _))
        have s0 : W3.cell? ⟨w2.heap.size, 0, none⟩ = some (.int .i64 op) := X1.out.cell 0
        have s1 : W3.cell? ⟨w2.heap.size, 1, none⟩ = some (.int .i64 N) := X1.out.cell 1
        have s2 : W3.cell? ⟨w2.heap.size, 2, none⟩ = some (.string nm) := X1.out.cell 2
        have s3 : W3.cell? ⟨w2.heap.size, 3, none⟩ = some (.slice A l c) := X1.out.cell 3
        clear hq hz hcs H2
        go_wp2_with fail
        refine OA.out.mono ?_
        rintro e w4 ⟨op', N', nm', A', l', c', rfl, b4, h4⟩
        have SA := Lib.hid (same_any 1 _ (fun _ => True) op' N' 0 0 nm' ⟨#[]⟩ A' none l' c' 0 0 zeroG w4 h4 (zero_gc _ _ _ _))
        have B4 := Lib.hid (B3.out.trans (b4.mono B3.out.size))
        clear b4 h4 OA s0 s1 s2 s3
        go_wp2_with fail
        refine SA.out.mono ?_
        rintro e w5 ⟨rfl, b5⟩
        go_wp2_with fail
        go_ret
        exact ⟨rfl, B4.out.trans (b5.mono B4.out.size)⟩
end Go.Proofs.YtdmlnoeneoomfaaDoor
