
/-
  The document's Right. (Printed by wip/tools/geng7.py.) The document's Right, Text, exprs, SizeStmts of any tree. The document's counts: that they answer.
-/
import Derived.Test.YtdmlnoeneoomfaaDoorGX
import Derived.Test.YtdmlnoeneoomfaaDoorLW
import Derived.Deep.RegionHeld3
import Derived.IntWalk
namespace Go.Proofs.YtdmlnoeneoomfaaDoor
open Go.RowKit

def NamesOk : Nat → Gx → Prop
  | 0, _ => True
  | n + 1, .mk _ _ nm l => nm.size ≤ 9223372036854775807 ∧ ∀ x ∈ l, NamesOk n x
def RightTo (w : World) (d : Nat) (g : Gx) (e : Ending) (w' : World) : Prop := ∃ b : Bool, e = .returned (.bool b) ∧ Below w.heap.size w w' ∧ (b = true → ∃ x : Ex, x.gx = g ∧ RightX x ∧ x.dep ≤ d)
theorem RightTo.no {w w' : World} {d : Nat} {g : Gx} (h : Below w.heap.size w w') : RightTo w d g (.returned (.bool false)) w' := ⟨false, rfl, h, fun h => by cases h⟩
def RightOk (M d : Nat) : Prop := ∀ (D : Nat → Prop) (n : Nat) (op N : Int) (nm : ByteArray) (A : Option Addr) (l c : Nat) (g : Gx) (w : World), NamesOk n g → GC D w M n [.int .i64 op, .int .i64 N, .string nm, .slice A l c] g →
  Calls Tryd.prog 12 #[.agg #[.int .i64 op, .int .i64 N, .string nm, .slice A l c], .int .i64 (d : Int)] w (RightTo w d g)
theorem str_of (s : ByteArray) : str s.data.toList = s := ba_ext (by rw [str_list])
def Kids (d k : Nat) (gs : List Gx) : Prop := ∀ i (hi : i < gs.length), i < k → ∃ x : Ex, x.gx = gs[i]'hi ∧ RightX x ∧ x.dep ≤ d
theorem kids_one {d : Nat} {gs : List Gx} (hl : 1 = gs.length) (h : Kids d 1 gs) : ∃ x : Ex, gs = [x.gx] ∧ RightX x ∧ x.dep ≤ d := by
  match gs, hl with
  | [g], _ =>
    obtain ⟨x, h1, h2, h3⟩ := h 0 (by simp) (by omega)
    exact ⟨x, by rw [h1]; rfl, h2, h3⟩
theorem kids_two {d : Nat} {gs : List Gx} (hl : 2 = gs.length) (h : Kids d 2 gs) : ∃ x y : Ex, gs = [x.gx, y.gx] ∧ RightX x ∧ x.dep ≤ d ∧ RightX y ∧ y.dep ≤ d := by
  match gs, hl with
  | [g, g2], _ =>
    obtain ⟨x, h1, h2, h3⟩ := h 0 (by simp) (by omega)
    obtain ⟨y, h4, h5, h6⟩ := h 1 (by simp) (by omega)
    exact ⟨x, y, by rw [h1, h4]; rfl, h2, h3, h5, h6⟩
theorem ops_all (op : Int) (h : 5 ≤ op ∧ op ≤ 17) : ∃ p ∈ allOps, p.1 = op := by
  have key : ∀ k : Nat, k < 13 → ∃ p ∈ allOps, p.1 = ((k : Nat) : Int) + 5 := by decide
  obtain ⟨p, hp, e⟩ := key (op - 5).toNat (by omega)
  exact ⟨p, hp, by rw [e]; omega⟩
theorem empty_of {s : ByteArray} (h : s.toList = []) : s = ⟨#[]⟩ := by
  apply ba_ext
  rw [← tl_eq, h]
set_option maxHeartbeats 8000000 in
set_option maxRecDepth 100000 in
theorem right_num (M d : Nat) (H : RightOk M d) (D : Nat → Prop) (q : Nat) (op N : Int) (nm : ByteArray) (A : Option Addr) (l c : Nat) (gs : List Gx) (w : World) (hd : d ≤ 100) (hsz : nm.size ≤ 9223372036854775807) (hnm : ∀ x ∈ gs, NamesOk q x) (hl : l = gs.length) (hel : ElsG D w 4 M (GC D w M q) A l gs) (h0 : op = 0) :
    Calls Tryd.prog 12 #[.agg #[.int .i64 op, .int .i64 N, .string nm, .slice A l c], .int .i64 ((d : Int) + 1)] w (RightTo w (d + 1) (.mk op N nm gs)) := by
  have hlm : l ≤ M := by obtain ⟨_, _, _, h, _, _⟩ := hel; exact h
  have IN := Lib.hid (fun W => refIsName_any nm W hsz)
  obtain ⟨bn, hbn0⟩ : ∃ b, nameS nm.data.toList = b := ⟨_, rfl⟩
  rw [hbn0] at IN
  have d0 : decide ((d : Int) + 1 < 1) = false := by simp; omega
  have d1 : (d : Int) + 1 - 1 = (d : Int) := by omega
  have d3 : IntKind.i64.wrap ((d : Int) + 1 - 1) = (d : Int) := by rw [d1]; exact IntWalk.i64_in _ ⟨by omega, by omega⟩
  subst h0
  have f0 : Below w.heap.size w (w.alloc (.cells #[.int .i64 0, .int .i64 N, .string nm, .slice A l c] 34)) := (Below.refl _ w).al _
  have x0 := Blk.new w 34 #[.int .i64 0, .int .i64 N, .string nm, .slice A l c]
  have F0 := Lib.hid f0
  have X0 := Lib.hid x0
  have HL := Lib.hid hl
  have HEL := Lib.hid hel
  have HH := Lib.hid H
  have HNM := Lib.hid hnm
  clear f0 x0 hl hel H hnm hbn0
  go_enter Tryd.func12, Tryd.ntmps12
  go_upto_region 1 with fail
  generalize w.alloc (.cells #[.int .i64 0, .int .i64 N, .string nm, .slice A l c] 34) = W0 at *
  have s0 : W0.cell? ⟨w.heap.size, 0, none⟩ = some (.int .i64 0) := X0.out.cell 0
  have s1 : W0.cell? ⟨w.heap.size, 1, none⟩ = some (.int .i64 N) := X0.out.cell 1
  have s2 : W0.cell? ⟨w.heap.size, 2, none⟩ = some (.string nm) := X0.out.cell 2
  have s3 : W0.cell? ⟨w.heap.size, 3, none⟩ = some (.slice A l c) := X0.out.cell 3
  go_upto_region 9 with fail
  by_cases hw : l = 0
  · subst hw
    by_cases he : nm.toList = []
    · have e1 : nm.toList.isEmpty = true := by rw [he]; rfl
      by_cases hN0 : N < 0
      · have e3 : decide (N < 0) = true := by simp [hN0]
        go_wp2_with fail
        go_ret
        exact RightTo.no F0.out
      · have e3 : decide (N < 0) = false := by simp; omega
        by_cases hN1 : 2147483647 < N
        · have e4 : decide (2147483647 < N) = true := by simp [hN1]
          go_wp2_with fail
          go_ret
          exact RightTo.no F0.out
        · have e4 : decide (2147483647 < N) = false := by simp; omega
          clear IN
          go_wp2_with fail
          go_loopw [7] (fun iv wr => ∃ k : Nat, k ≤ 0 ∧ iv = .int .i64 k ∧ Hid (Below w.heap.size w wr) ∧ Hid (Blk wr w.heap.size 34 #[.int .i64 0, .int .i64 N, .string nm, .slice A 0 c]) ∧ Hid (Kids d k gs)) (fun iv _ => 0 - (intOf iv).toNat)
          case atStart => exact ⟨0, by omega, rfl, F0.out, X0.out, fun i hi h => absurd h (by omega)⟩
          case round =>
            obtain ⟨k, hk, rfl, FB, XB, KD⟩ := hrel
            have t3 : wr.cell? ⟨w.heap.size, 3, none⟩ = some (.slice A 0 c) := XB.out.cell 3
            by_cases hlt : k < 0
            · exact absurd hlt (by omega)
            · obtain rfl : k = 0 := by omega
              go_wp2_with fail
              go_ret
              exact ⟨true, rfl, FB.out, fun _ => ⟨.num N, by rw [empty_of he, List.eq_nil_of_length_eq_zero HL.out.symm]; rfl, ⟨by omega, by omega⟩, by simp [Ex.dep]⟩⟩
    · have e1 : nm.toList.isEmpty = false := by cases hq : nm.toList with | nil => exact absurd hq he | cons a t => rfl
      have e2 : (nm.toList == []) = false := by cases hq : nm.toList with | nil => exact absurd hq he | cons a t => rfl
      go_wp2_with fail
      go_ret
      exact RightTo.no F0.out
  · have e0 : ((l : Int) == 0) = false := by simp; omega
    go_wp2_with fail
    go_ret
    exact RightTo.no F0.out
set_option maxHeartbeats 8000000 in
set_option maxRecDepth 100000 in
theorem right_nam (M d : Nat) (H : RightOk M d) (D : Nat → Prop) (q : Nat) (op N : Int) (nm : ByteArray) (A : Option Addr) (l c : Nat) (gs : List Gx) (w : World) (hd : d ≤ 100) (hsz : nm.size ≤ 9223372036854775807) (hnm : ∀ x ∈ gs, NamesOk q x) (hl : l = gs.length) (hel : ElsG D w 4 M (GC D w M q) A l gs) (h0 : op = 1) :
    Calls Tryd.prog 12 #[.agg #[.int .i64 op, .int .i64 N, .string nm, .slice A l c], .int .i64 ((d : Int) + 1)] w (RightTo w (d + 1) (.mk op N nm gs)) := by
  have hlm : l ≤ M := by obtain ⟨_, _, _, h, _, _⟩ := hel; exact h
  have IN := Lib.hid (fun W => refIsName_any nm W hsz)
  obtain ⟨bn, hbn0⟩ : ∃ b, nameS nm.data.toList = b := ⟨_, rfl⟩
  rw [hbn0] at IN
  have d0 : decide ((d : Int) + 1 < 1) = false := by simp; omega
  have d1 : (d : Int) + 1 - 1 = (d : Int) := by omega
  have d3 : IntKind.i64.wrap ((d : Int) + 1 - 1) = (d : Int) := by rw [d1]; exact IntWalk.i64_in _ ⟨by omega, by omega⟩
  subst h0
  have f0 : Below w.heap.size w (w.alloc (.cells #[.int .i64 1, .int .i64 N, .string nm, .slice A l c] 34)) := (Below.refl _ w).al _
  have x0 := Blk.new w 34 #[.int .i64 1, .int .i64 N, .string nm, .slice A l c]
  have F0 := Lib.hid f0
  have X0 := Lib.hid x0
  have HL := Lib.hid hl
  have HEL := Lib.hid hel
  have HH := Lib.hid H
  have HNM := Lib.hid hnm
  clear f0 x0 hl hel H hnm 
  go_enter Tryd.func12, Tryd.ntmps12
  go_upto_region 1 with fail
  generalize w.alloc (.cells #[.int .i64 1, .int .i64 N, .string nm, .slice A l c] 34) = W0 at *
  have s0 : W0.cell? ⟨w.heap.size, 0, none⟩ = some (.int .i64 1) := X0.out.cell 0
  have s1 : W0.cell? ⟨w.heap.size, 1, none⟩ = some (.int .i64 N) := X0.out.cell 1
  have s2 : W0.cell? ⟨w.heap.size, 2, none⟩ = some (.string nm) := X0.out.cell 2
  have s3 : W0.cell? ⟨w.heap.size, 3, none⟩ = some (.slice A l c) := X0.out.cell 3
  go_upto_region 9 with fail
  by_cases hw : l = 0
  · subst hw
    by_cases he : nm.toList = []
    · have e1 : nm.toList.isEmpty = true := by rw [he]; rfl
      go_wp2_with fail
      go_ret
      exact RightTo.no F0.out
    · have e1 : nm.toList.isEmpty = false := by cases hq : nm.toList with | nil => exact absurd hq he | cons a t => rfl
      have e2 : (nm.toList == []) = false := by cases hq : nm.toList with | nil => exact absurd hq he | cons a t => rfl
      go_wp2_with fail
      refine (IN.out W0).mono ?_
      rintro e w5 ⟨rfl, b5⟩
      have F5 := Lib.hid (F0.out.trans (b5.mono F0.out.size))
      have x5 := X0.out.below b5 X0.out.lt
      have X5 := Lib.hid x5
      have s0 : w5.cell? ⟨w.heap.size, 0, none⟩ = some (.int .i64 1) := x5.cell 0
      have s1 : w5.cell? ⟨w.heap.size, 1, none⟩ = some (.int .i64 N) := x5.cell 1
      have s3 : w5.cell? ⟨w.heap.size, 3, none⟩ = some (.slice A 0 c) := x5.cell 3
      have hbn := Lib.hid hbn0
      clear b5 x5 hbn0
      cases bn
      · go_wp2_with fail
        go_ret
        exact RightTo.no F5.out
      · by_cases hN : N = 0
        · subst hN
          clear IN
          go_wp2_with fail
          go_loopw [7] (fun iv wr => ∃ k : Nat, k ≤ 0 ∧ iv = .int .i64 k ∧ Hid (Below w.heap.size w wr) ∧ Hid (Blk wr w.heap.size 34 #[.int .i64 1, .int .i64 0, .string nm, .slice A 0 c]) ∧ Hid (Kids d k gs)) (fun iv _ => 0 - (intOf iv).toNat)
          case atStart => exact ⟨0, by omega, rfl, F5, X5, fun i hi h => absurd h (by omega)⟩
          case round =>
            obtain ⟨k, hk, rfl, FB, XB, KD⟩ := hrel
            have t3 : wr.cell? ⟨w.heap.size, 3, none⟩ = some (.slice A 0 c) := XB.out.cell 3
            by_cases hlt : k < 0
            · exact absurd hlt (by omega)
            · obtain rfl : k = 0 := by omega
              go_wp2_with fail
              go_ret
              exact ⟨true, rfl, FB.out, fun _ => ⟨.nam nm.data.toList, by rw [Ex.gx, str_of, List.eq_nil_of_length_eq_zero HL.out.symm], hbn.out, by simp [Ex.dep]⟩⟩
        · have e3 : (N == 0) = false := by simp [hN]
          go_wp2_with fail
          go_ret
          exact RightTo.no F5.out
  · have e0 : ((l : Int) == 0) = false := by simp; omega
    go_wp2_with fail
    go_ret
    exact RightTo.no F0.out
set_option maxHeartbeats 8000000 in
set_option maxRecDepth 100000 in
theorem right_idx (M d : Nat) (H : RightOk M d) (D : Nat → Prop) (q : Nat) (op N : Int) (nm : ByteArray) (A : Option Addr) (l c : Nat) (gs : List Gx) (w : World) (hd : d ≤ 100) (hsz : nm.size ≤ 9223372036854775807) (hnm : ∀ x ∈ gs, NamesOk q x) (hl : l = gs.length) (hel : ElsG D w 4 M (GC D w M q) A l gs) (h0 : op = 2) :
    Calls Tryd.prog 12 #[.agg #[.int .i64 op, .int .i64 N, .string nm, .slice A l c], .int .i64 ((d : Int) + 1)] w (RightTo w (d + 1) (.mk op N nm gs)) := by
  have hlm : l ≤ M := by obtain ⟨_, _, _, h, _, _⟩ := hel; exact h
  have IN := Lib.hid (fun W => refIsName_any nm W hsz)
  obtain ⟨bn, hbn0⟩ : ∃ b, nameS nm.data.toList = b := ⟨_, rfl⟩
  rw [hbn0] at IN
  have d0 : decide ((d : Int) + 1 < 1) = false := by simp; omega
  have d1 : (d : Int) + 1 - 1 = (d : Int) := by omega
  have d3 : IntKind.i64.wrap ((d : Int) + 1 - 1) = (d : Int) := by rw [d1]; exact IntWalk.i64_in _ ⟨by omega, by omega⟩
  subst h0
  have f0 : Below w.heap.size w (w.alloc (.cells #[.int .i64 2, .int .i64 N, .string nm, .slice A l c] 34)) := (Below.refl _ w).al _
  have x0 := Blk.new w 34 #[.int .i64 2, .int .i64 N, .string nm, .slice A l c]
  have F0 := Lib.hid f0
  have X0 := Lib.hid x0
  have HL := Lib.hid hl
  have HEL := Lib.hid hel
  have HH := Lib.hid H
  have HNM := Lib.hid hnm
  clear f0 x0 hl hel H hnm 
  go_enter Tryd.func12, Tryd.ntmps12
  go_upto_region 1 with fail
  generalize w.alloc (.cells #[.int .i64 2, .int .i64 N, .string nm, .slice A l c] 34) = W0 at *
  have s0 : W0.cell? ⟨w.heap.size, 0, none⟩ = some (.int .i64 2) := X0.out.cell 0
  have s1 : W0.cell? ⟨w.heap.size, 1, none⟩ = some (.int .i64 N) := X0.out.cell 1
  have s2 : W0.cell? ⟨w.heap.size, 2, none⟩ = some (.string nm) := X0.out.cell 2
  have s3 : W0.cell? ⟨w.heap.size, 3, none⟩ = some (.slice A l c) := X0.out.cell 3
  go_upto_region 9 with fail
  by_cases hw : l = 1
  · subst hw
    by_cases he : nm.toList = []
    · have e1 : nm.toList.isEmpty = true := by rw [he]; rfl
      go_wp2_with fail
      go_ret
      exact RightTo.no F0.out
    · have e1 : nm.toList.isEmpty = false := by cases hq : nm.toList with | nil => exact absurd hq he | cons a t => rfl
      have e2 : (nm.toList == []) = false := by cases hq : nm.toList with | nil => exact absurd hq he | cons a t => rfl
      go_wp2_with fail
      refine (IN.out W0).mono ?_
      rintro e w5 ⟨rfl, b5⟩
      have F5 := Lib.hid (F0.out.trans (b5.mono F0.out.size))
      have x5 := X0.out.below b5 X0.out.lt
      have X5 := Lib.hid x5
      have s0 : w5.cell? ⟨w.heap.size, 0, none⟩ = some (.int .i64 2) := x5.cell 0
      have s1 : w5.cell? ⟨w.heap.size, 1, none⟩ = some (.int .i64 N) := x5.cell 1
      have s3 : w5.cell? ⟨w.heap.size, 3, none⟩ = some (.slice A 1 c) := x5.cell 3
      have hbn := Lib.hid hbn0
      clear b5 x5 hbn0
      cases bn
      · go_wp2_with fail
        go_ret
        exact RightTo.no F5.out
      · by_cases hN : N = 0
        · subst hN
          clear IN
          go_wp2_with fail
          go_loopw [7] (fun iv wr => ∃ k : Nat, k ≤ 1 ∧ iv = .int .i64 k ∧ Hid (Below w.heap.size w wr) ∧ Hid (Blk wr w.heap.size 34 #[.int .i64 2, .int .i64 0, .string nm, .slice A 1 c]) ∧ Hid (Kids d k gs)) (fun iv _ => 1 - (intOf iv).toNat)
          case atStart => exact ⟨0, by omega, rfl, F5, X5, fun i hi h => absurd h (by omega)⟩
          case round =>
            obtain ⟨k, hk, rfl, FB, XB, KD⟩ := hrel
            have t3 : wr.cell? ⟨w.heap.size, 3, none⟩ = some (.slice A 1 c) := XB.out.cell 3
            by_cases hlt : k < 1
            · have hkg : k < gs.length := by rw [← HL.out]; exact hlt
              obtain ⟨b, o, op1, N1, nm1, A1, l1, c1, rfl, hb, hg, p0, p1, p2, p3⟩ := HEL.out.at_ hkg HL.out
              have u0 := (FB.out.cell (p := ⟨b, o + k * 4, none⟩) hb).trans p0
              have u1 := (FB.out.cell (p := ⟨b, o + k * 4 + 1, none⟩) hb).trans p1
              have u2 := (FB.out.cell (p := ⟨b, o + k * 4 + 2, none⟩) hb).trans p2
              have u3 := (FB.out.cell (p := ⟨b, o + k * 4 + 3, none⟩) hb).trans p3
              have RR := Lib.hid (HH.out D q op1 N1 nm1 A1 l1 c1 gs[k] wr (HNM.out gs[k] (List.getElem_mem hkg)) (hg.below FB.out))
              have g1 : (0 : Int) ≤ (k : Int) := by omega
              have g2 : (k : Int) < 1 := by omega
              clear p0 p1 p2 p3 hg
              go_wp2_with fail
              refine RR.out.mono ?_
              rintro e w6 ⟨b6, rfl, bb, hx⟩
              have FB6 := Lib.hid (FB.out.trans (bb.mono FB.out.size))
              have XB6 := Lib.hid (XB.out.below bb XB.out.lt)
              have HX := Lib.hid hx
              clear bb hx u0 u1 u2 u3 t3
              cases b6
              · go_wp2_with fail
                go_ret
                exact RightTo.no FB6.out
              · have KD' : Hid (Kids d (k + 1) gs) := fun i hi h => by
                  rcases Nat.lt_or_ge i k with h1 | h1
                  · exact KD.out i hi h1
                  · obtain rfl : i = k := by omega
                    exact HX.out rfl
                go_wp2_with fail
                go_roundw
                case rel => exact ⟨k + 1, by omega, by go_num, FB6, XB6, KD'⟩
                case measure => simp [intOf]; omega
            · obtain rfl : k = 1 := by omega
              go_wp2_with fail
              go_ret
              exact ⟨true, rfl, FB.out, fun _ => by obtain ⟨x, e1, e2, e3⟩ := kids_one HL.out KD.out; exact ⟨.idx nm.data.toList x, by rw [Ex.gx, str_of, e1], ⟨hbn.out, e2⟩, by simp [Ex.dep]; omega⟩⟩
        · have e3 : (N == 0) = false := by simp [hN]
          go_wp2_with fail
          go_ret
          exact RightTo.no F5.out
  · have e0 : ((l : Int) == 1) = false := by simp; omega
    go_wp2_with fail
    go_ret
    exact RightTo.no F0.out
set_option maxHeartbeats 8000000 in
set_option maxRecDepth 100000 in
theorem right_one (M d : Nat) (H : RightOk M d) (D : Nat → Prop) (q : Nat) (op N : Int) (nm : ByteArray) (A : Option Addr) (l c : Nat) (gs : List Gx) (w : World) (hd : d ≤ 100) (hsz : nm.size ≤ 9223372036854775807) (hnm : ∀ x ∈ gs, NamesOk q x) (hl : l = gs.length) (hel : ElsG D w 4 M (GC D w M q) A l gs) (h0 : op = 3 ∨ op = 4) :
    Calls Tryd.prog 12 #[.agg #[.int .i64 op, .int .i64 N, .string nm, .slice A l c], .int .i64 ((d : Int) + 1)] w (RightTo w (d + 1) (.mk op N nm gs)) := by
  have hlm : l ≤ M := by obtain ⟨_, _, _, h, _, _⟩ := hel; exact h
  have IN := Lib.hid (fun W => refIsName_any nm W hsz)
  obtain ⟨bn, hbn0⟩ : ∃ b, nameS nm.data.toList = b := ⟨_, rfl⟩
  rw [hbn0] at IN
  have d0 : decide ((d : Int) + 1 < 1) = false := by simp; omega
  have d1 : (d : Int) + 1 - 1 = (d : Int) := by omega
  have d3 : IntKind.i64.wrap ((d : Int) + 1 - 1) = (d : Int) := by rw [d1]; exact IntWalk.i64_in _ ⟨by omega, by omega⟩
  have o0 : decide (op < 0) = false := by simp; omega
  have o1 : decide (17 < op) = false := by simp; omega
  have o2 : decide (op < 2) = false := by simp; omega
  have o3 : decide (op < 5) = true := by simp; omega
  have o4 : (op == 1) = false := by simp; omega
  have o5 : (op == 2) = false := by simp; omega
  have o6 : (op == 0) = false := by simp; omega
  have o7 : ¬ op = 0 := by omega
  have H0 := Lib.hid h0
  clear h0
  have f0 : Below w.heap.size w (w.alloc (.cells #[.int .i64 op, .int .i64 N, .string nm, .slice A l c] 34)) := (Below.refl _ w).al _
  have x0 := Blk.new w 34 #[.int .i64 op, .int .i64 N, .string nm, .slice A l c]
  have F0 := Lib.hid f0
  have X0 := Lib.hid x0
  have HL := Lib.hid hl
  have HEL := Lib.hid hel
  have HH := Lib.hid H
  have HNM := Lib.hid hnm
  clear f0 x0 hl hel H hnm hbn0
  go_enter Tryd.func12, Tryd.ntmps12
  go_upto_region 1 with fail
  generalize w.alloc (.cells #[.int .i64 op, .int .i64 N, .string nm, .slice A l c] 34) = W0 at *
  have s0 : W0.cell? ⟨w.heap.size, 0, none⟩ = some (.int .i64 op) := X0.out.cell 0
  have s1 : W0.cell? ⟨w.heap.size, 1, none⟩ = some (.int .i64 N) := X0.out.cell 1
  have s2 : W0.cell? ⟨w.heap.size, 2, none⟩ = some (.string nm) := X0.out.cell 2
  have s3 : W0.cell? ⟨w.heap.size, 3, none⟩ = some (.slice A l c) := X0.out.cell 3
  go_upto_region 9 with fail
  by_cases hw : l = 1
  · subst hw
    by_cases he : nm.toList = []
    · have e1 : nm.toList.isEmpty = true := by rw [he]; rfl
      by_cases hN : N = 0
      · subst hN
        clear IN
        go_wp2_with fail
        go_loopw [7] (fun iv wr => ∃ k : Nat, k ≤ 1 ∧ iv = .int .i64 k ∧ Hid (Below w.heap.size w wr) ∧ Hid (Blk wr w.heap.size 34 #[.int .i64 op, .int .i64 0, .string nm, .slice A 1 c]) ∧ Hid (Kids d k gs)) (fun iv _ => 1 - (intOf iv).toNat)
        case atStart => exact ⟨0, by omega, rfl, F0.out, X0.out, fun i hi h => absurd h (by omega)⟩
        case round =>
          obtain ⟨k, hk, rfl, FB, XB, KD⟩ := hrel
          have t3 : wr.cell? ⟨w.heap.size, 3, none⟩ = some (.slice A 1 c) := XB.out.cell 3
          by_cases hlt : k < 1
          · have hkg : k < gs.length := by rw [← HL.out]; exact hlt
            obtain ⟨b, o, op1, N1, nm1, A1, l1, c1, rfl, hb, hg, p0, p1, p2, p3⟩ := HEL.out.at_ hkg HL.out
            have u0 := (FB.out.cell (p := ⟨b, o + k * 4, none⟩) hb).trans p0
            have u1 := (FB.out.cell (p := ⟨b, o + k * 4 + 1, none⟩) hb).trans p1
            have u2 := (FB.out.cell (p := ⟨b, o + k * 4 + 2, none⟩) hb).trans p2
            have u3 := (FB.out.cell (p := ⟨b, o + k * 4 + 3, none⟩) hb).trans p3
            have RR := Lib.hid (HH.out D q op1 N1 nm1 A1 l1 c1 gs[k] wr (HNM.out gs[k] (List.getElem_mem hkg)) (hg.below FB.out))
            have g1 : (0 : Int) ≤ (k : Int) := by omega
            have g2 : (k : Int) < 1 := by omega
            clear p0 p1 p2 p3 hg
            go_wp2_with fail
            refine RR.out.mono ?_
            rintro e w6 ⟨b6, rfl, bb, hx⟩
            have FB6 := Lib.hid (FB.out.trans (bb.mono FB.out.size))
            have XB6 := Lib.hid (XB.out.below bb XB.out.lt)
            have HX := Lib.hid hx
            clear bb hx u0 u1 u2 u3 t3
            cases b6
            · go_wp2_with fail
              go_ret
              exact RightTo.no FB6.out
            · have KD' : Hid (Kids d (k + 1) gs) := fun i hi h => by
                rcases Nat.lt_or_ge i k with h1 | h1
                · exact KD.out i hi h1
                · obtain rfl : i = k := by omega
                  exact HX.out rfl
              go_wp2_with fail
              go_roundw
              case rel => exact ⟨k + 1, by omega, by go_num, FB6, XB6, KD'⟩
              case measure => simp [intOf]; omega
          · obtain rfl : k = 1 := by omega
            go_wp2_with fail
            go_ret
            exact ⟨true, rfl, FB.out, fun _ => by obtain ⟨x, e1, e2, e3⟩ := kids_one HL.out KD.out; exact H0.out.elim (fun h => ⟨.neg x, by rw [h, empty_of he, e1]; rfl, e2, by simp [Ex.dep]; omega⟩) (fun h => ⟨.non x, by rw [h, empty_of he, e1]; rfl, e2, by simp [Ex.dep]; omega⟩)⟩
      · have e3 : (N == 0) = false := by simp [hN]
        go_wp2_with fail
        go_ret
        exact RightTo.no F0.out
    · have e1 : nm.toList.isEmpty = false := by cases hq : nm.toList with | nil => exact absurd hq he | cons a t => rfl
      have e2 : (nm.toList == []) = false := by cases hq : nm.toList with | nil => exact absurd hq he | cons a t => rfl
      go_wp2_with fail
      go_ret
      exact RightTo.no F0.out
  · have e0 : ((l : Int) == 1) = false := by simp; omega
    go_wp2_with fail
    go_ret
    exact RightTo.no F0.out
set_option maxHeartbeats 8000000 in
set_option maxRecDepth 100000 in
theorem right_two (M d : Nat) (H : RightOk M d) (D : Nat → Prop) (q : Nat) (op N : Int) (nm : ByteArray) (A : Option Addr) (l c : Nat) (gs : List Gx) (w : World) (hd : d ≤ 100) (hsz : nm.size ≤ 9223372036854775807) (hnm : ∀ x ∈ gs, NamesOk q x) (hl : l = gs.length) (hel : ElsG D w 4 M (GC D w M q) A l gs) (h0 : 5 ≤ op ∧ op ≤ 17) :
    Calls Tryd.prog 12 #[.agg #[.int .i64 op, .int .i64 N, .string nm, .slice A l c], .int .i64 ((d : Int) + 1)] w (RightTo w (d + 1) (.mk op N nm gs)) := by
  have hlm : l ≤ M := by obtain ⟨_, _, _, h, _, _⟩ := hel; exact h
  have IN := Lib.hid (fun W => refIsName_any nm W hsz)
  obtain ⟨bn, hbn0⟩ : ∃ b, nameS nm.data.toList = b := ⟨_, rfl⟩
  rw [hbn0] at IN
  have d0 : decide ((d : Int) + 1 < 1) = false := by simp; omega
  have d1 : (d : Int) + 1 - 1 = (d : Int) := by omega
  have d3 : IntKind.i64.wrap ((d : Int) + 1 - 1) = (d : Int) := by rw [d1]; exact IntWalk.i64_in _ ⟨by omega, by omega⟩
  have o0 : decide (op < 0) = false := by simp; omega
  have o1 : decide (17 < op) = false := by simp; omega
  have o2 : decide (op < 2) = false := by simp; omega
  have o3 : decide (op < 5) = false := by simp; omega
  have o4 : (op == 1) = false := by simp; omega
  have o5 : (op == 2) = false := by simp; omega
  have o6 : (op == 0) = false := by simp; omega
  have o7 : ¬ op = 0 := by omega
  have H0 := Lib.hid h0
  clear h0
  have f0 : Below w.heap.size w (w.alloc (.cells #[.int .i64 op, .int .i64 N, .string nm, .slice A l c] 34)) := (Below.refl _ w).al _
  have x0 := Blk.new w 34 #[.int .i64 op, .int .i64 N, .string nm, .slice A l c]
  have F0 := Lib.hid f0
  have X0 := Lib.hid x0
  have HL := Lib.hid hl
  have HEL := Lib.hid hel
  have HH := Lib.hid H
  have HNM := Lib.hid hnm
  clear f0 x0 hl hel H hnm hbn0
  go_enter Tryd.func12, Tryd.ntmps12
  go_upto_region 1 with fail
  generalize w.alloc (.cells #[.int .i64 op, .int .i64 N, .string nm, .slice A l c] 34) = W0 at *
  have s0 : W0.cell? ⟨w.heap.size, 0, none⟩ = some (.int .i64 op) := X0.out.cell 0
  have s1 : W0.cell? ⟨w.heap.size, 1, none⟩ = some (.int .i64 N) := X0.out.cell 1
  have s2 : W0.cell? ⟨w.heap.size, 2, none⟩ = some (.string nm) := X0.out.cell 2
  have s3 : W0.cell? ⟨w.heap.size, 3, none⟩ = some (.slice A l c) := X0.out.cell 3
  go_upto_region 9 with fail
  by_cases hw : l = 2
  · subst hw
    by_cases he : nm.toList = []
    · have e1 : nm.toList.isEmpty = true := by rw [he]; rfl
      by_cases hN : N = 0
      · subst hN
        clear IN
        go_wp2_with fail
        go_loopw [7] (fun iv wr => ∃ k : Nat, k ≤ 2 ∧ iv = .int .i64 k ∧ Hid (Below w.heap.size w wr) ∧ Hid (Blk wr w.heap.size 34 #[.int .i64 op, .int .i64 0, .string nm, .slice A 2 c]) ∧ Hid (Kids d k gs)) (fun iv _ => 2 - (intOf iv).toNat)
        case atStart => exact ⟨0, by omega, rfl, F0.out, X0.out, fun i hi h => absurd h (by omega)⟩
        case round =>
          obtain ⟨k, hk, rfl, FB, XB, KD⟩ := hrel
          have t3 : wr.cell? ⟨w.heap.size, 3, none⟩ = some (.slice A 2 c) := XB.out.cell 3
          by_cases hlt : k < 2
          · have hkg : k < gs.length := by rw [← HL.out]; exact hlt
            obtain ⟨b, o, op1, N1, nm1, A1, l1, c1, rfl, hb, hg, p0, p1, p2, p3⟩ := HEL.out.at_ hkg HL.out
            have u0 := (FB.out.cell (p := ⟨b, o + k * 4, none⟩) hb).trans p0
            have u1 := (FB.out.cell (p := ⟨b, o + k * 4 + 1, none⟩) hb).trans p1
            have u2 := (FB.out.cell (p := ⟨b, o + k * 4 + 2, none⟩) hb).trans p2
            have u3 := (FB.out.cell (p := ⟨b, o + k * 4 + 3, none⟩) hb).trans p3
            have RR := Lib.hid (HH.out D q op1 N1 nm1 A1 l1 c1 gs[k] wr (HNM.out gs[k] (List.getElem_mem hkg)) (hg.below FB.out))
            have g1 : (0 : Int) ≤ (k : Int) := by omega
            have g2 : (k : Int) < 2 := by omega
            clear p0 p1 p2 p3 hg
            go_wp2_with fail
            refine RR.out.mono ?_
            rintro e w6 ⟨b6, rfl, bb, hx⟩
            have FB6 := Lib.hid (FB.out.trans (bb.mono FB.out.size))
            have XB6 := Lib.hid (XB.out.below bb XB.out.lt)
            have HX := Lib.hid hx
            clear bb hx u0 u1 u2 u3 t3
            cases b6
            · go_wp2_with fail
              go_ret
              exact RightTo.no FB6.out
            · have KD' : Hid (Kids d (k + 1) gs) := fun i hi h => by
                rcases Nat.lt_or_ge i k with h1 | h1
                · exact KD.out i hi h1
                · obtain rfl : i = k := by omega
                  exact HX.out rfl
              go_wp2_with fail
              go_roundw
              case rel => exact ⟨k + 1, by omega, by go_num, FB6, XB6, KD'⟩
              case measure => simp [intOf]; omega
          · obtain rfl : k = 2 := by omega
            go_wp2_with fail
            go_ret
            exact ⟨true, rfl, FB.out, fun _ => by obtain ⟨x, y, e1, e2, e3, e4, e5⟩ := kids_two HL.out KD.out; exact ⟨.bin op x y, by rw [empty_of he, e1]; rfl, ⟨ops_all op H0.out, e2, e4⟩, by simp [Ex.dep]; omega⟩⟩
      · have e3 : (N == 0) = false := by simp [hN]
        go_wp2_with fail
        go_ret
        exact RightTo.no F0.out
    · have e1 : nm.toList.isEmpty = false := by cases hq : nm.toList with | nil => exact absurd hq he | cons a t => rfl
      have e2 : (nm.toList == []) = false := by cases hq : nm.toList with | nil => exact absurd hq he | cons a t => rfl
      go_wp2_with fail
      go_ret
      exact RightTo.no F0.out
  · have e0 : ((l : Int) == 2) = false := by simp; omega
    go_wp2_with fail
    go_ret
    exact RightTo.no F0.out
end Go.Proofs.YtdmlnoeneoomfaaDoor
namespace Go.Proofs.YtdmlnoeneoomfaaDoor
open Go.RowKit

theorem GC.succ {D : Nat → Prop} {w : World} {M n : Nat} {op N op0 N0 : Int} {nm nm0 : ByteArray} {A : Option Addr} {l c : Nat} {gs : List Gx} (h : GC D w M n [.int .i64 op, .int .i64 N, .string nm, .slice A l c] (.mk op0 N0 nm0 gs)) :
    ∃ q, n = q + 1 ∧ op = op0 ∧ N = N0 ∧ nm = nm0 ∧ l = gs.length ∧ ElsG D w 4 M (GC D w M q) A l gs := by
  cases n with
  | zero => exact absurd h id
  | succ q =>
    obtain ⟨A', l', c', hcs, hel⟩ := h
    injection hcs with q1 hcs
    injection hcs with q2 hcs
    injection hcs with q3 hcs
    injection hcs with q4 _
    injection q1 with _ q1
    injection q2 with _ q2
    injection q3 with q3
    injection q4 with q4 q5 q6
    subst q1 q2 q3 q4 q5 q6
    refine ⟨q, rfl, rfl, rfl, rfl, ?_, hel⟩
    obtain ⟨_, _, _, _, h, _⟩ := hel
    exact h.symm
set_option maxHeartbeats 2000000 in
set_option maxRecDepth 100000 in
theorem right_none (M : Nat) : RightOk M 0 := by
  intro D n op N nm A l c g w _ _
  have f0 : Below w.heap.size w (w.alloc (.cells #[.int .i64 op, .int .i64 N, .string nm, .slice A l c] 34)) := (Below.refl _ w).al _
  have F0 := Lib.hid f0
  clear f0
  go_enter Tryd.func12, Tryd.ntmps12
  go_wp2_with fail
  go_ret
  exact RightTo.no F0.out
set_option maxHeartbeats 2000000 in
set_option maxRecDepth 100000 in
theorem right_out (d : Nat) (op N : Int) (nm : ByteArray) (A : Option Addr) (l c : Nat) (g : Gx) (w : World) (ho : op < 0 ∨ 17 < op) :
    Calls Tryd.prog 12 #[.agg #[.int .i64 op, .int .i64 N, .string nm, .slice A l c], .int .i64 ((d : Int) + 1)] w (RightTo w (d + 1) g) := by
  have f0 : Below w.heap.size w (w.alloc (.cells #[.int .i64 op, .int .i64 N, .string nm, .slice A l c] 34)) := (Below.refl _ w).al _
  have x0 := Blk.new w 34 #[.int .i64 op, .int .i64 N, .string nm, .slice A l c]
  have F0 := Lib.hid f0
  have X0 := Lib.hid x0
  have d0 : decide ((d : Int) + 1 < 1) = false := by simp; omega
  clear f0 x0
  rcases ho with ho | ho
  · have o0 : decide (op < 0) = true := by simp [ho]
    go_enter Tryd.func12, Tryd.ntmps12
    go_upto_region 1 with fail
    generalize w.alloc (.cells #[.int .i64 op, .int .i64 N, .string nm, .slice A l c] 34) = W0 at *
    have s0 : W0.cell? ⟨w.heap.size, 0, none⟩ = some (.int .i64 op) := X0.out.cell 0
    go_wp2_with fail
    go_ret
    exact RightTo.no F0.out
  · have o0 : decide (op < 0) = false := by simp; omega
    have o1 : decide (17 < op) = true := by simp [ho]
    go_enter Tryd.func12, Tryd.ntmps12
    go_upto_region 1 with fail
    generalize w.alloc (.cells #[.int .i64 op, .int .i64 N, .string nm, .slice A l c] 34) = W0 at *
    have s0 : W0.cell? ⟨w.heap.size, 0, none⟩ = some (.int .i64 op) := X0.out.cell 0
    go_wp2_with fail
    go_ret
    exact RightTo.no F0.out
theorem right_all (M : Nat) : ∀ d, d ≤ 101 → RightOk M d
  | 0, _ => right_none M
  | d + 1, hd => by
    intro D n op N nm A l c g w hn h
    obtain ⟨op0, N0, nm0, gs⟩ := g
    obtain ⟨q, rfl, rfl, rfl, rfl, hl, hel⟩ := GC.succ h
    have H := right_all M d (by omega)
    have e : (((d + 1 : Nat) : Int)) = (d : Int) + 1 := by omega
    rw [e]
    by_cases ho : op < 0 ∨ 17 < op
    · exact right_out d op N nm A l c _ w ho
    · rcases (show op = 0 ∨ op = 1 ∨ op = 2 ∨ (op = 3 ∨ op = 4) ∨ (5 ≤ op ∧ op ≤ 17) by omega) with h0 | h0 | h0 | h0 | h0
      · exact right_num M d H D q op N nm A l c gs w (by omega) hn.1 hn.2 hl hel h0
      · exact right_nam M d H D q op N nm A l c gs w (by omega) hn.1 hn.2 hl hel h0
      · exact right_idx M d H D q op N nm A l c gs w (by omega) hn.1 hn.2 hl hel h0
      · exact right_one M d H D q op N nm A l c gs w (by omega) hn.1 hn.2 hl hel h0
      · exact right_two M d H D q op N nm A l c gs w (by omega) hn.1 hn.2 hl hel h0
theorem nameS_len {s : List UInt8} (h : nameS s = true) : s.length ≤ 30 := (nameS_iff.1 h).2.1
theorem pow2 {a b : Nat} (h : a ≤ b) : 2 ^ a ≤ 2 ^ b := Nat.pow_le_pow_right (by omega) h
theorem textX_len : ∀ x : Ex, RightX x → (textX x).length + 20 ≤ 64 * 2 ^ x.dep
  | .num n, _ => by
    rw [textX_num]
    have := digs_len (n := n.toNat)
    simp only [Ex.dep]
    omega
  | .nam s, h => by
    rw [textX_nam]
    have := nameS_len h
    simp only [Ex.dep]
    omega
  | .idx s e, h => by
    rw [textX_idx]
    have h1 := nameS_len h.1
    have h2 := textX_len e h.2
    simp only [Ex.dep, Nat.pow_succ, List.length_append, List.length_cons, List.length_nil]
    have := Nat.one_le_two_pow (n := e.dep)
    omega
  | .neg e, h => by
    rw [textX_neg]
    have h2 := textX_len e h
    simp only [Ex.dep, Nat.pow_succ, List.length_append, List.length_cons, List.length_nil]
    have := Nat.one_le_two_pow (n := e.dep)
    omega
  | .non e, h => by
    rw [textX_non]
    have h2 := textX_len e h
    simp only [Ex.dep, Nat.pow_succ, List.length_append, List.length_cons, List.length_nil]
    have := Nat.one_le_two_pow (n := e.dep)
    omega
  | .bin op a b, h => by
    rw [textX_bin]
    have h1 := textX_len a h.2.1
    have h2 := textX_len b h.2.2
    have h3 : (mkOf op).text.length ≤ 3 := by
      obtain ⟨p, hp, e⟩ := h.1
      rw [← e, (find_ops p hp).1]
      exact (show ∀ p ∈ allOps, p.2.2.text.length ≤ 3 by decide) p hp
    simp only [Ex.dep, Nat.pow_succ, List.length_append, List.length_cons, List.length_nil]
    have h4 := pow2 (Nat.le_max_left a.dep b.dep)
    have h5 := pow2 (Nat.le_max_right a.dep b.dep)
    omega
theorem dep_small {x : Ex} (h : RightX x) (hd : x.dep ≤ 8) : (textX x).length ≤ 1000000 := by
  have h1 := textX_len x h
  have h2 := pow2 hd
  omega
theorem text_any (M : Nat) : ∀ x : Ex, RightX x → x.dep ≤ 8 → TextOk M x
  | .num n, h, _ => by
    obtain ⟨m, rfl⟩ : ∃ m : Nat, n = (m : Int) := ⟨n.toNat, by have := h.1; omega⟩
    exact text_num M m (by have := h.2; omega)
  | .nam s, _, _ => text_nam M s
  | .idx s e, h, hd => by
    simp only [Ex.dep] at hd
    exact text_idx M s e (text_any M e h.2 (by omega)) (dep_small h.2 (by omega)) (by have := nameS_len h.1; omega)
  | .neg e, h, hd => by
    simp only [Ex.dep] at hd
    exact text_neg M e (text_any M e h (by omega)) (dep_small h (by omega))
  | .non e, h, hd => by
    simp only [Ex.dep] at hd
    exact text_non M e (text_any M e h (by omega)) (dep_small h (by omega))
  | .bin op a b, h, hd => by
    simp only [Ex.dep] at hd
    have h1 := Nat.le_max_left a.dep b.dep
    have h2 := Nat.le_max_right a.dep b.dep
    exact text_bin M op a b h.1 (text_any M a h.2.1 (by omega)) (text_any M b h.2.2 (by omega)) (dep_small h.2.1 (by omega)) (dep_small h.2.2 (by omega))
theorem costX_dep : ∀ x : Ex, costX x + 1 ≤ 2 * x.dep
  | .num _ => by simp [costX, Ex.dep]
  | .nam _ => by simp [costX, Ex.dep]
  | .idx _ e => by have := costX_dep e; simp only [costX, Ex.dep]; omega
  | .neg e => by have := costX_dep e; simp only [costX, Ex.dep]; omega
  | .non e => by have := costX_dep e; simp only [costX, Ex.dep]; omega
  | .bin _ a b => by
    have h1 := costX_dep a
    have h2 := costX_dep b
    simp only [costX, Ex.dep]
    omega
end Go.Proofs.YtdmlnoeneoomfaaDoor
namespace Go.Proofs.YtdmlnoeneoomfaaDoor
open Go.RowKit

def NumTo (w : World) (e : Ending) (w' : World) : Prop := ∃ m : Int, e = .returned (.int .i64 m) ∧ Below w.heap.size w w'
def CountOk (M n : Nat) : Prop := ∀ (D : Nat → Prop) (A : Option Addr) (len c : Nat) (l : List Gx) (w : World), ElsG D w 4 M (GC D w M n) A len l → Calls Tryd.prog 26 #[.slice A len c] w (NumTo w)
set_option maxHeartbeats 4000000 in
set_option maxRecDepth 100000 in
theorem count_step (M n : Nat) (hM : M ≤ 9223372036854775807) (H : ∀ q, n = q + 1 → CountOk M q) : CountOk M n := by
  intro D A len c l w h
  have hlm : len ≤ M := by obtain ⟨_, _, _, h, _, _⟩ := h; exact h
  have HEL := Lib.hid h
  have HLN : Hid (l.length = len) := by obtain ⟨_, _, _, _, h, _⟩ := h; exact h
  have HH := Lib.hid H
  clear h H
  go_enter Tryd.func26, Tryd.ntmps26
  go_wp2_with fail
  go_loopw [3, 4] (fun nv iv wr => ∃ (k : Nat) (m : Int), k ≤ len ∧ iv = .int .i64 k ∧ nv = .int .i64 m ∧ Hid (Below w.heap.size w wr)) (fun _ iv _ => len - (intOf iv).toNat)
  case atStart => exact ⟨0, 0, by omega, rfl, rfl, Below.refl _ _⟩
  case round =>
    obtain ⟨k, m, hk, rfl, rfl, FB⟩ := hrel
    by_cases hlt : k < len
    · have hkg : k < l.length := by rw [HLN.out]; exact hlt
      obtain ⟨b, o, op1, N1, nm1, A1, l1, c1, rfl, hb, hg, -, -, -, p3⟩ := HEL.out.at_ hkg HLN.out.symm
      generalize l[k] = g at hg
      obtain ⟨op0, N0, nm0, gs⟩ := g
      obtain ⟨q, rfl, -, -, -, hl1, hel⟩ := GC.succ hg
      have u3 := (FB.out.cell (p := ⟨b, o + k * 4 + 3, none⟩) hb).trans p3
      have RR := Lib.hid (HH.out q rfl D A1 l1 c1 gs wr (hel.below FB.out))
      have g1 : (0 : Int) ≤ (k : Int) := by omega
      have g2 : (k : Int) < (len : Int) := by omega
      clear p3 hg hel hl1
      go_wp2_with fail
      refine RR.out.mono ?_
      rintro e w6 ⟨m6, rfl, bb⟩
      have FB6 := Lib.hid (FB.out.trans (bb.mono FB.out.size))
      clear bb u3
      go_wp2_with fail
      go_roundw
      case rel => exact ⟨k + 1, _, by omega, by go_num, rfl, FB6⟩
      case measure => simp [intOf]; omega
    · go_wp2_with fail
      go_ret
      exact ⟨m, rfl, FB.out⟩
theorem count_any (M : Nat) (hM : M ≤ 9223372036854775807) : ∀ n, CountOk M n
  | 0 => count_step M 0 hM (fun q h => absurd h (by omega))
  | n + 1 => count_step M (n + 1) hM (fun q h => by
    obtain rfl : n = q := by omega
    exact count_any M hM n)
set_option maxHeartbeats 2000000 in
set_option maxRecDepth 100000 in
theorem size_nil (w : World) : Calls Tryd.prog 13 #[.slice none 0 0] w fun e w' => e = .returned (.int .i64 0) ∧ w' = w := by
  go_enter Tryd.func13, Tryd.ntmps13
  go_wp2_with fail
  go_loopw [3, 4] (fun nv iv wr => iv = .int .i64 (0 : Nat) ∧ nv = .int .i64 0 ∧ Hid (wr = w)) (fun _ _ _ => 0)
  case atStart => exact ⟨rfl, rfl, rfl⟩
  case round =>
    obtain ⟨rfl, rfl, hw⟩ := hrel
    go_wp2_with fail
    go_ret
    exact ⟨rfl, hw.out⟩
set_option maxHeartbeats 4000000 in
set_option maxRecDepth 100000 in
theorem size_one (M n : Nat) (hM : M ≤ 9223372036854775807) (D : Nat → Prop) (A : Option Addr) (len c : Nat) (l : List Gx) (b : Nat) (w : World) (h : ElsG D w 4 M (GC D w M n) A len l)
    (hb : Blk w b 41 #[.int .i64 0, .string ⟨#[]⟩, .slice A len c, .int .i64 0, .int .i64 0, .slice none 0 0, .slice none 0 0]) : Calls Tryd.prog 13 #[.slice (some ⟨b, 0, none⟩) 1 1] w (NumTo w) := by
  have CO := Lib.hid (count_any M hM n D A len c l w.drew (h.below (Below.refl _ w).drew))
  have HB := Lib.hid hb
  have hbl := hb.lt
  clear h hb
  go_enter Tryd.func13, Tryd.ntmps13
  go_wp2_with fail
  go_loopw [3, 4] (fun nv iv wr => ∃ (k : Nat) (m : Int), k ≤ 1 ∧ iv = .int .i64 k ∧ nv = .int .i64 m ∧ Hid (k = 0 → wr = w) ∧ Hid (Below w.heap.size w wr)) (fun _ iv _ => 1 - (intOf iv).toNat)
  case atStart => exact ⟨0, 0, by omega, rfl, rfl, fun _ => rfl, Below.refl _ _⟩
  case round =>
    obtain ⟨k, m, hk, rfl, rfl, HW, FB⟩ := hrel
    by_cases hlt : k < 1
    · obtain rfl : k = 0 := by omega
      obtain rfl := HW.out rfl
      have QS : Hid (∀ W, Below wr.heap.size wr W → W.cell? ⟨b, 2, none⟩ = some (.slice A len c) ∧ W.cell? ⟨b, 5, none⟩ = some (.slice none 0 0) ∧ W.cell? ⟨b, 6, none⟩ = some (.slice none 0 0)) := fun W hW => by
        have := HB.out.below hW hbl
        exact ⟨this.cell 2, this.cell 5, this.cell 6⟩
      have f0 := (Below.refl wr.heap.size wr).drew
      go_upto_region 5 with fail
      go_region_held3 (fun W => W.cell? ⟨b, 2, none⟩ = some (.slice A len c) ∧ W.cell? ⟨b, 5, none⟩ = some (.slice none 0 0) ∧ W.cell? ⟨b, 6, none⟩ = some (.slice none 0 0))
        (first | (with_reducible exact QS.out _ f0) | (with_reducible exact QS.out _ f6))
        (first
        | (go_at_call 26; (with_reducible refine CO.out.mono ?_); rintro e w6 ⟨m6, rfl, b6⟩; have f6 := f0.trans (b6.mono (Nat.le_refl _)))
        | (go_at_call 13; (with_reducible refine (size_nil _).mono ?_); rintro e w7 ⟨rfl, rfl⟩))
      have F6 := Lib.hid f6
      clear f6 b6 f0
      go_wp2_with fail
      go_roundw
      case rel => exact ⟨1, _, by omega, by go_num, rfl, fun h => absurd h (by omega), F6⟩
      case measure => simp [intOf]
    · obtain rfl : k = 1 := by omega
      go_wp2_with fail
      go_ret
      exact ⟨m, rfl, FB.out⟩
end Go.Proofs.YtdmlnoeneoomfaaDoor
