/-
  The document's Right: the walk.
-/
import Derived.Test.YtlfckmekfncboaaDoorJ5
import Derived.Deep.RegionHeld3
namespace Go.Proofs.YtlfckmekfncboaaDoor
open Go.RowKit

set_option maxHeartbeats 4000000 in
set_option maxRecDepth 100000 in
theorem refRight_any (k : Int) (x : List UInt8) (n ln co : Int) (w : World) (hx : x.length ≤ 1000) :
    Calls Tryd.prog 33 #[.agg #[.int .i64 k, .string (str x), .int .i64 n, .int .i64 ln, .int .i64 co]] w (Tells w (rightS k x n)) := by
  obtain ⟨S, hS⟩ : ∃ S, str x = S := ⟨_, rfl⟩
  have hSl : S.data.toList = x := by rw [← hS, str_list]
  have htl : S.toList = x := by rw [tl_eq, hSl]
  have hsz : S.size = x.length := by rw [← hS, str_size]
  rw [hS]
  have HS := Lib.hid hS
  have HSL := Lib.hid hSl
  have HTL := Lib.hid htl
  have HSZ := Lib.hid hsz
  have hs1 : S.size ≤ 1000 := by omega
  clear hS hSl htl hsz
  have f0 : ∀ o, Below w.heap.size w (w.alloc o) := fun _ => (Below.refl _ w).al _
  go_enter Tryd.func33, Tryd.ntmps33
  by_cases hk : k = 0
  · subst hk
    have HR := Lib.hid (right_zero x n)
    by_cases h0 : x = []
    · have e1 : S.toList = [] := by rw [HTL.out, h0]
      have e2 : S.toList.isEmpty = true := by rw [e1]; rfl
      have HD := Lib.hid (decide_eq_true h0)
      clear h0
      by_cases hn : n = 0
      · subst hn
        go_wp2_with fail
        go_ret
        exact ⟨by rw [HR.out, HD.out]; rfl, f0 _⟩
      · have hnb : (n == 0) = false := by simpa using hn
        go_wp2_with fail
        go_ret
        exact ⟨by rw [HR.out, HD.out, decide_eq_false hn]; rfl, f0 _⟩
    · have e1 : ¬ S.toList = [] := by rw [HTL.out]; exact h0
      have e2 : S.toList.isEmpty = false := by simpa using e1
      have HD := Lib.hid (decide_eq_false h0)
      clear h0
      go_wp2_with fail
      go_ret
      exact ⟨by rw [HR.out, HD.out]; rfl, f0 _⟩
  · have hkb : (k == 0) = false := by simpa using hk
    have hB := Blk.new w 50 #[.int .i64 k, .string S, .int .i64 n, .int .i64 ln, .int .i64 co]
    have qq : (w.alloc (.cells #[.int .i64 k, .string S, .int .i64 n, .int .i64 ln, .int .i64 co] 50)).drew.cell? ⟨w.heap.size, 0, none⟩ = some (.int .i64 k) ∧ (w.alloc (.cells #[.int .i64 k, .string S, .int .i64 n, .int .i64 ln, .int .i64 co] 50)).drew.cell? ⟨w.heap.size, 1, none⟩ = some (.string S) ∧ (w.alloc (.cells #[.int .i64 k, .string S, .int .i64 n, .int .i64 ln, .int .i64 co] 50)).drew.cell? ⟨w.heap.size, 2, none⟩ = some (.int .i64 n) := ⟨hB.cell 0, hB.cell 1, hB.cell 2⟩
    clear hB
    by_cases h0 : x = []
    · have HR := Lib.hid (right_nil hk n)
      have e1 : S.toList = [] := by rw [HTL.out, h0]
      have e2 : S.toList.isEmpty = true := by rw [e1]; rfl
      subst h0
      go_wp2_with fail
      go_region
      go_wp2_with fail
      go_ret
      exact ⟨by rw [HR.out]; rfl, (f0 _).drew⟩
    · have e1 : ¬ S.toList = [] := by rw [HTL.out]; exact h0
      have e2 : S.toList.isEmpty = false := by simpa using e1
      have hpos : 0 < S.size := by rw [HSZ.out]; exact List.length_pos_iff.2 h0
      have HL := Lib.hid (right_law (k := k) (n := n) hk h0)
      have H0 := Lib.hid h0
      obtain ⟨en, hen⟩ : ∃ e, endS x = e := ⟨_, rfl⟩
      have HEN := Lib.hid hen
      clear h0 hen
      obtain ⟨pk, pt, pn, pe, hP⟩ : ∃ pk pt pn pe, refPc x = ⟨pk, pt, pn, pe⟩ := ⟨_, _, _, _, rfl⟩
      rw [hP] at HL
      have HP := Lib.hid hP
      clear hP
      have held : ∀ b : Bool, b = decide (en = S.size) → rightS k x n = (b && decide (pe = 0 ∧ pk = k ∧ pn = n)) := fun b hb => by
        rw [Bool.eq_iff_iff, HL.out, hb, HEN.out, HSZ.out]
        simp
      have HELD := Lib.hid held
      clear held
      by_cases hes : en = S.size
      · have z1 : (en : Int) = (S.size : Int) := by omega
        have z2 : ((en : Int) != (S.size : Int)) = false := by rw [z1]; simp
        have HB := Lib.hid (HELD.out true (by simp [hes]))
        clear HELD hes HL z1
        go_wp2_with fail
        go_region_held3 (fun w' => w'.cell? ⟨w.heap.size, 0, none⟩ = some (.int .i64 k) ∧ w'.cell? ⟨w.heap.size, 1, none⟩ = some (.string S) ∧ w'.cell? ⟨w.heap.size, 2, none⟩ = some (.int .i64 n)) (first | exact qq | exact q5) (first | (go_at_call 46; refine (refEnd_any S _ hpos (by omega)).mono ?_; rw [HSL.out, HEN.out]; rintro e w5 ⟨rfl, b5⟩; have q5 : w5.cell? ⟨w.heap.size, 0, none⟩ = some (.int .i64 k) ∧ w5.cell? ⟨w.heap.size, 1, none⟩ = some (.string S) ∧ w5.cell? ⟨w.heap.size, 2, none⟩ = some (.int .i64 n) := ⟨(b5.cell (p := ⟨w.heap.size, 0, none⟩) (by simp)).trans qq.1, (b5.cell (p := ⟨w.heap.size, 1, none⟩) (by simp)).trans qq.2.1, (b5.cell (p := ⟨w.heap.size, 2, none⟩) (by simp)).trans qq.2.2⟩))
        go_wp2_with fail
        rw [← HS.out]
        refine (refPiece_any x w5 H0.out hx).mono ?_
        rintro e w6 ⟨rfl, b6⟩
        rw [HP.out, HS.out]
        unfold pcV
        have f6 := (f0 _).drew.then_ (b5.then_ b6)
        have g0 := (b5.cell (p := ⟨w.heap.size, 0, none⟩) (by simp)).trans qq.1
        have g2 := (b5.cell (p := ⟨w.heap.size, 2, none⟩) (by simp)).trans qq.2.2
        have lw : w.heap.size < w5.heap.size := Nat.lt_of_lt_of_le (by simp) b5.size
        have k0 := (b6.cell (p := ⟨w.heap.size, 0, none⟩) lw).trans g0
        have k2 := (b6.cell (p := ⟨w.heap.size, 2, none⟩) lw).trans g2
        have lw6 : w.heap.size < w6.heap.size := Nat.lt_of_lt_of_le lw b6.size
        clear qq g0 g2 b5 b6
        by_cases he : pe = 0
        · subst he
          by_cases hk2 : pk = k
          · have h1 : (pk == k) = true := by simpa using hk2
            by_cases hn2 : pn = n
            · have h2 : (pn == n) = true := by simpa using hn2
              have HC := Lib.hid (show rightS k x n = true by rw [HB.out]; simp [hk2, hn2])
              clear hk2 hn2
              go_wp2_with fail
              go_ret
              exact ⟨by rw [HC.out]; rfl, f6.al _⟩
            · have h2 : (pn == n) = false := by simpa using hn2
              have HC := Lib.hid (show rightS k x n = false by rw [HB.out]; simp [hn2])
              clear hk2 hn2
              go_wp2_with fail
              go_ret
              exact ⟨by rw [HC.out]; rfl, f6.al _⟩
          · have h1 : (pk == k) = false := by simpa using hk2
            have HC := Lib.hid (show rightS k x n = false by rw [HB.out]; simp [hk2])
            clear hk2
            go_wp2_with fail
            go_ret
            exact ⟨by rw [HC.out]; rfl, f6.al _⟩
        · have h1 : (pe == 0) = false := by simpa using he
          have HC := Lib.hid (show rightS k x n = false by rw [HB.out]; simp [he])
          go_wp2_with fail
          go_ret
          exact ⟨by rw [HC.out]; rfl, f6.al _⟩
      · have z1 : ¬ (en : Int) = (S.size : Int) := by omega
        have z2 : ((en : Int) != (S.size : Int)) = true := by simpa using z1
        have HB := Lib.hid (HELD.out false (by simp [hes]))
        clear HELD hes HL
        go_wp2_with fail
        go_region_held3 (fun w' => w'.cell? ⟨w.heap.size, 0, none⟩ = some (.int .i64 k) ∧ w'.cell? ⟨w.heap.size, 1, none⟩ = some (.string S) ∧ w'.cell? ⟨w.heap.size, 2, none⟩ = some (.int .i64 n)) (first | exact qq | exact q5) (first | (go_at_call 46; refine (refEnd_any S _ hpos (by omega)).mono ?_; rw [HSL.out, HEN.out]; rintro e w5 ⟨rfl, b5⟩; have q5 : w5.cell? ⟨w.heap.size, 0, none⟩ = some (.int .i64 k) ∧ w5.cell? ⟨w.heap.size, 1, none⟩ = some (.string S) ∧ w5.cell? ⟨w.heap.size, 2, none⟩ = some (.int .i64 n) := ⟨(b5.cell (p := ⟨w.heap.size, 0, none⟩) (by simp)).trans qq.1, (b5.cell (p := ⟨w.heap.size, 1, none⟩) (by simp)).trans qq.2.1, (b5.cell (p := ⟨w.heap.size, 2, none⟩) (by simp)).trans qq.2.2⟩))
        go_wp2_with fail
        go_ret
        exact ⟨by rw [HB.out]; rfl, (f0 _).drew.then_ b5⟩
end Go.Proofs.YtlfckmekfncboaaDoor
