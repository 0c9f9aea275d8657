
/-
  The document's end: where the piece that begins at a place ends.
-/
import Derived.Test.YtdgekckedchjbaaGreatDoorQT
import Derived.Deep.RegionHeld3
namespace Go.Proofs.YtdgekckedchjbaaGreatDoor
open Go.RowKit

set_option maxHeartbeats 4000000 in
set_option maxRecDepth 100000 in
theorem refEndAt_any (s : ByteArray) (a : Nat) (w : World) (h0 : a < s.size) (hs : s.size ≤ 65536) :
    Calls Tryz.prog 78 #[.string s, .int .i64 (a : Int)] w fun e w' => e = .returned (.int .i64 ((a + endS (s.data.toList.drop a) : Nat) : Int)) ∧ Below w.heap.size w w' := by
  obtain ⟨X, hX⟩ : ∃ X, s.data.toList.drop a = X := ⟨_, rfl⟩
  have hlen : X.length = s.size - a := by rw [← hX, List.length_drop, size_list]
  rw [hX]
  have HX := Lib.hid hX
  have HL := Lib.hid hlen
  obtain ⟨c0, hc0⟩ : ∃ c : UInt8, s[a] = c := ⟨_, rfl⟩
  have hhd : X.headD 0 = c0 := by
    have := at_list s h0
    rw [hc0] at this
    rw [List.headD_eq_head?_getD, List.head?_eq_getElem?, ← hX, List.getElem?_drop, Nat.add_zero, this]
    rfl
  have hes : endS X = if letB c0 = true ∨ digB c0 = true then preN innB X else if 1 < X.length ∧ X.take 2 ∈ marksL then 2 else 1 := by
    unfold endS
    rw [hhd]
  have HE := Lib.hid hes
  clear hX hlen hhd hes
  go_enter Tryz.func78, Tryz.ntmps78
  obtain ⟨lb, hlb⟩ : ∃ b, letB c0 = b := ⟨_, rfl⟩
  obtain ⟨db, hdb⟩ : ∃ b, digB c0 = b := ⟨_, rfl⟩
  have HLB := Lib.hid hlb
  have HDB := Lib.hid hdb
  clear hlb hdb
  by_cases hin : lb = true ∨ db = true
  · have HP : Hid (endS X = preN innB X) := by rw [Hid, HE.out, if_pos (by rw [HLB.out, HDB.out]; exact hin)]
    go_upto_region 1 with fail
    go_cut [15] (fun v wx => v = .bool true ∧ w = wx)
    case first =>
      rcases hin with rfl | rfl
      · go_wp2_with (first | (go_at_call 113; refine (refLetter_any c0 _).mono ?_; rintro e w' ⟨rfl, rfl⟩; rw [HLB.out]) | (go_at_call 114; refine (refDigit_any c0 _).mono ?_; rintro e w' ⟨rfl, rfl⟩; rw [HDB.out]))
        go_meet
        exact ⟨rfl, rfl⟩
      · cases lb
        · go_wp2_with (first | (go_at_call 113; refine (refLetter_any c0 _).mono ?_; rintro e w' ⟨rfl, rfl⟩; rw [HLB.out]) | (go_at_call 114; refine (refDigit_any c0 _).mono ?_; rintro e w' ⟨rfl, rfl⟩; rw [HDB.out]))
          go_meet
          exact ⟨rfl, rfl⟩
        · go_wp2_with (first | (go_at_call 113; refine (refLetter_any c0 _).mono ?_; rintro e w' ⟨rfl, rfl⟩; rw [HLB.out]) | (go_at_call 114; refine (refDigit_any c0 _).mono ?_; rintro e w' ⟨rfl, rfl⟩; rw [HDB.out]))
          go_meet
          exact ⟨rfl, rfl⟩
    case rest =>
      obtain ⟨rfl, rfl⟩ := hcut
      clear hin hc0
      go_wp2_with fail
      go_loopw [5] (fun i wr => ∃ k : Nat, a ≤ k ∧ k ≤ s.size ∧ i = .int .i64 k ∧ Hid (∀ j (hj : j < X.length), j < k - a → innB (X[j]'hj) = true) ∧ w = wr) (fun i _ => s.size - (intOf i).toNat)
      case atStart => exact ⟨a, by omega, by omega, rfl, (fun j hj h => absurd h (by omega)), rfl⟩
      case round =>
        obtain ⟨k, hak, hk, rfl, hp, rfl⟩ := hrel
        by_cases hlt : k < s.size
        · have hkX : k - a < X.length := by rw [HL.out]; omega
          obtain ⟨c, hcc⟩ : ∃ c : UInt8, s[k] = c := ⟨_, rfl⟩
          have hXc : X[k - a] = c := by
            have h1 := at_list s hlt
            have h2 : X[k - a]? = s.data.toList[k]? := by rw [← HX.out, List.getElem?_drop, show a + (k - a) = k by omega]
            rw [List.getElem?_eq_getElem hkX, h1, hcc] at h2
            exact Option.some.inj h2
          have HXC := Lib.hid hXc
          clear hXc
          obtain ⟨lc, hlc⟩ : ∃ b, letB c = b := ⟨_, rfl⟩
          obtain ⟨dc, hdc⟩ : ∃ b, digB c = b := ⟨_, rfl⟩
          obtain ⟨uc, huc⟩ : ∃ b, ((c.toNat : Int) == 95) = b := ⟨_, rfl⟩
          have hic : innB c = (lc || dc || uc) := by
            unfold innB
            rw [hlc, hdc, ← huc]
            congr 1
            rw [Bool.eq_iff_iff]
            simp
            omega
          have HLC := Lib.hid hlc
          have HDC := Lib.hid hdc
          have HIC := Lib.hid hic
          clear hlc hdc hic
          have hgo : innB c = true → Hid (∀ j (hj : j < X.length), j < k + 1 - a → innB (X[j]'hj) = true) := fun hc j hj h => by
            rcases Nat.lt_or_ge j (k - a) with h1 | h1
            · exact hp.out j hj h1
            · obtain rfl : j = k - a := by omega
              rw [HXC.out]
              exact hc
          have HGO := Lib.hid hgo
          have hstop : innB c = false → Hid (preN innB X = k - a) := fun hc => preN_eq (by rw [HL.out]; omega) hp.out (fun hj => by rw [HXC.out]; exact hc)
          have HSTOP := Lib.hid hstop
          clear hgo hstop hp
          cases lc
          · cases dc
            · cases uc
              · have HN := HSTOP.out (by rw [HIC.out]; rfl)
                go_wp2_with (first | (go_at_call 113; refine (refLetter_any c _).mono ?_; rintro e w' ⟨rfl, rfl⟩; rw [HLC.out]) | (go_at_call 114; refine (refDigit_any c _).mono ?_; rintro e w' ⟨rfl, rfl⟩; rw [HDC.out]))
                go_ret
                exact ⟨by rw [HP.out, HN.out, show a + (k - a) = k from by omega]; rfl, Below.refl _ _⟩
              · have HN := HGO.out (by rw [HIC.out]; rfl)
                go_wp2_with (first | (go_at_call 113; refine (refLetter_any c _).mono ?_; rintro e w' ⟨rfl, rfl⟩; rw [HLC.out]) | (go_at_call 114; refine (refDigit_any c _).mono ?_; rintro e w' ⟨rfl, rfl⟩; rw [HDC.out]))
                go_roundw
                case rel => exact ⟨k + 1, by omega, by omega, by go_num, HN, trivial⟩
                case measure => simp [intOf]; omega
            · have HN := HGO.out (by rw [HIC.out]; rfl)
              go_wp2_with (first | (go_at_call 113; refine (refLetter_any c _).mono ?_; rintro e w' ⟨rfl, rfl⟩; rw [HLC.out]) | (go_at_call 114; refine (refDigit_any c _).mono ?_; rintro e w' ⟨rfl, rfl⟩; rw [HDC.out]))
              go_roundw
              case rel => exact ⟨k + 1, by omega, by omega, by go_num, HN, trivial⟩
              case measure => simp [intOf]; omega
          · have HN := HGO.out (by rw [HIC.out]; rfl)
            go_wp2_with (first | (go_at_call 113; refine (refLetter_any c _).mono ?_; rintro e w' ⟨rfl, rfl⟩; rw [HLC.out]) | (go_at_call 114; refine (refDigit_any c _).mono ?_; rintro e w' ⟨rfl, rfl⟩; rw [HDC.out]))
            go_roundw
            case rel => exact ⟨k + 1, by omega, by omega, by go_num, HN, trivial⟩
            case measure => simp [intOf]; omega
        · obtain rfl : k = s.size := by omega
          have HN : Hid (preN innB X = s.size - a) := preN_eq (by rw [HL.out]; omega) hp.out (fun hj => by rw [HL.out] at hj; omega)
          go_wp2_with fail
          go_ret
          exact ⟨by rw [HP.out, HN.out, show a + (s.size - a) = s.size from by omega]; rfl, Below.refl _ _⟩
  · obtain ⟨rfl, rfl⟩ : lb = false ∧ db = false := by cases lb <;> cases db <;> simp_all
    have HP : Hid (endS X = if 1 < X.length ∧ X.take 2 ∈ marksL then 2 else 1) := by rw [Hid, HE.out, if_neg (by rw [HLB.out, HDB.out]; simp)]
    go_wp2_with (first | (go_at_call 113; refine (refLetter_any c0 _).mono ?_; rintro e w' ⟨rfl, rfl⟩; rw [HLB.out]) | (go_at_call 114; refine (refDigit_any c0 _).mono ?_; rintro e w' ⟨rfl, rfl⟩; rw [HDB.out]))
    clear hc0
    have w1' : IntKind.i64.wrap ((a : Int) + 1) = (a : Int) + 1 := IntWalk.i64_in _ ⟨by omega, by omega⟩
    have w2' : IntKind.i64.wrap ((a : Int) + 2) = (a : Int) + 2 := IntWalk.i64_in _ ⟨by omega, by omega⟩
    by_cases h1 : a + 1 < s.size
    · have z1 : (a : Int) + 1 < (s.size : Int) := by omega
      have z2 : (a : Int) + 2 ≤ (s.size : Int) := by omega
      have z3 : decide ((a : Int) + 1 < (s.size : Int)) = true := decide_eq_true z1
      have z4 : (0 : Int) ≤ (a : Int) := by omega
      have z5 : (a : Int) ≤ (a : Int) + 2 := by omega
      have hst : s.extract a (a + 2) = str (X.take 2) := by
        apply ba_ext
        rw [str_list, ← HX.out]
        simp [List.take_drop]
      have ht2 : ((a : Int) + 2).toNat = a + 2 := by omega
      obtain ⟨b, hb⟩ : ∃ b, decide (X.take 2 ∈ marksL) = b := ⟨_, rfl⟩
      have HB := Lib.hid hb
      clear hb
      have HRV := Lib.hid (show RV ((w.alloc (textsO marksB)).drew) (some ⟨w.heap.size, 0, none⟩) 16 ((marksL.map str).map Value.string) from texts_rv w marksB)
      have f1 : Below w.heap.size w ((w.alloc (textsO marksB)).drew) := ((Below.refl _ w).al _).drew
      have hl1 : 1 < X.length := by rw [HL.out]; omega
      have HN : Hid (endS X = if b = true then 2 else 1) := by
        rw [Hid, HP.out, ← HB.out]
        simp [hl1]
      go_region_held3 (fun _ => True) (trivial) (first | (go_at_call 116; refine (refMarks_any _).mono ?_; rintro e w5 ⟨rfl, rfl⟩) | (go_at_call 115; refine (refHas_any marksL _ 16 16 (X.take 2) _ HRV.out (by omega)).mono ?_; rintro e w6 ⟨rfl, rfl⟩; rw [HB.out]))
      cases b
      · go_wp2_with fail
        go_ret
        exact ⟨by rw [HN.out]; rfl, f1⟩
      · go_wp2_with fail
        go_ret
        exact ⟨by rw [HN.out]; rfl, f1⟩
    · have z1 : ¬ (a : Int) + 1 < (s.size : Int) := by omega
      have z3 : decide ((a : Int) + 1 < (s.size : Int)) = false := decide_eq_false z1
      have hl1 : ¬ 1 < X.length := by rw [HL.out]; omega
      have HN : Hid (endS X = 1) := by rw [Hid, HP.out, if_neg (fun h => hl1 h.1)]
      go_region
      go_wp2_with fail
      go_ret
      exact ⟨by rw [HN.out]; rfl, (Below.refl _ _).drew⟩
end Go.Proofs.YtdgekckedchjbaaGreatDoor
