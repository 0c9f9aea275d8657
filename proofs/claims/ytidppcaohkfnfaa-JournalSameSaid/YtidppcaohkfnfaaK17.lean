
/-
  JournalSame: the law's walk.
-/
import Derived.Test.YtidppcaohkfnfaaK16
namespace Go.Proofs.Ytidppcaohkfnfaa
open Go.RowKit

theorem take_same {α : Type} [DecidableEq α] {l m : List α} {k : Nat} (hl : k < l.length) (hm : k < m.length) (hs : l.take k = m.take k) : (decide (l.take (k + 1) = m.take (k + 1))) = decide (l[k] = m[k]) := by
  rw [List.take_succ_eq_append_getElem hl, List.take_succ_eq_append_getElem hm, hs]
  by_cases h : l[k] = m[k]
  · rw [h, decide_eq_true rfl, decide_eq_true rfl]
  · rw [decide_eq_false h, decide_eq_false]
    intro h'
    have := List.append_cancel_left h'
    exact h (by simpa using this)
theorem sameE_dec (a b : En) : sameE a b = decide (a = b) := by
  by_cases h : a = b
  · rw [decide_eq_true h]
    exact sameE_iff.2 h
  · rw [decide_eq_false h]
    rw [← Bool.not_eq_true]
    exact fun h' => h (sameE_iff.1 h')

set_option maxHeartbeats 2000000 in
set_option maxRecDepth 100000 in
theorem journalSame_walk (A1 A2 : Option Addr) (n1 c1 n2 c2 : Nat) (ms1 ms2 : List Me) (w : World) (h1 : Ins w A1 n1 c1 ms1) (h2 : Ins w A2 n2 c2 ms2) :
    Calls Try.prog 3 #[.slice A1 n1 c1, .slice A2 n2 c2] w (Tells w true) := by
  have CUT := Lib.hid (cut_any' A1 n1 c1 ms1 10 w h1 (by decide))
  clear h1
  go_enter Try.func3, Try.ntmps3
  go_wp2_with fail
  refine CUT.out.mono ?_
  rintro e w1 ⟨A3, n3, c3, rfl, hn3, hm3, hc3, hcm3, r3, ok3, b1⟩
  have FIL := Lib.hid (filled_any' A3 n3 c3 _ w1 hn3 (by omega) hc3 r3 _ b1.size ok3)
  clear CUT hn3 r3 ok3 hcm3
  go_wp2_with fail
  refine FIL.out.mono ?_
  rintro e w2 ⟨S, g, A4, c4, ns, rfl, j2, r4, hc4, hcm4, hns, hok, hS, hA4, b2⟩
  clear FIL
  have F2 := b1.then_ b2
  have CUT := Lib.hid (cut_any' A2 n2 c2 ms2 10 w2 (h2.below F2) (by decide))
  clear h2
  have EL : Hid ((fillCut ms1 10).length ≤ 10) := fillCut_len _ _
  change Jn w2 S g (fillCut ms1 10) at j2
  change ns.map Me.en = fillCut ms1 10 at hns
  have e1 : fill ((ms1.take 10).map cutM) = fillCut ms1 10 := rfl
  rw [e1] at hc4 r4 ⊢
  generalize fillCut ms1 10 = es at *
  have J2 := Lib.hid j2
  have R4 := Lib.hid r4
  have HNS := Lib.hid hns
  have HOK := Lib.hid hok
  clear j2 r4 hns hok hS hA4 e1
  go_wp2_with fail
  refine CUT.out.mono ?_
  rintro e w3 ⟨A5, n5, c5, rfl, hn5, hm5, hc5, hcm5, r5, ok5, b3⟩
  have FIL := Lib.hid (filled_any' A5 n5 c5 _ w3 hn5 (by omega) hc5 r5 _ b3.size ok5)
  clear CUT hn5 r5 ok5 hcm5
  go_wp2_with fail
  refine FIL.out.mono ?_
  rintro e w4 ⟨S2, g2, A6, c6, ns2, rfl, j4, r6, hc6, hcm6, hns2, hok2, hS2, hA6, b4⟩
  clear FIL
  have F4 := b3.then_ b4
  have FL : Hid ((fillCut ms2 10).length ≤ 10) := fillCut_len _ _
  change Jn w4 S2 g2 (fillCut ms2 10) at j4
  change ns2.map Me.en = fillCut ms2 10 at hns2
  have e1 : fill ((ms2.take 10).map cutM) = fillCut ms2 10 := rfl
  rw [e1] at hc6 r6 ⊢
  generalize fillCut ms2 10 = fs at *
  have J4 := Lib.hid j4
  have R6 := Lib.hid r6
  have HNS2 := Lib.hid hns2
  have HOK2 := Lib.hid hok2
  have J3 := Lib.hid (J2.out.below F4)
  have R5 := Lib.hid ((R4.out.below F4).more F4.size)
  have HOK3 : Hid (∀ m ∈ ns, m.Ok (fun _ => True) w4 ∧ m.Right) := fun m hm => ⟨((HOK.out m hm).1.below F4).mono (fun _ _ _ => trivial), (HOK.out m hm).2⟩
  have F := F2.then_ F4
  clear j4 r6 hns2 hok2 hS2 hA6 e1 J2 R4 HOK b1 b2 b3 b4 F2 F4
  obtain ⟨nE, hE⟩ : ∃ k, es.length = k := ⟨_, rfl⟩
  obtain ⟨nF, hF⟩ : ∃ k, fs.length = k := ⟨_, rfl⟩
  rw [hE] at hc4 R5 ⊢
  rw [hF] at hc6 R6 ⊢
  have HE := Lib.hid hE
  have HF := Lib.hid hF
  obtain ⟨b0, hb0⟩ : ∃ b0, decide (nE = nF) = b0 := ⟨_, rfl⟩
  have gb0 : ((nE : Int) == (nF : Int)) = b0 := by
    rw [← hb0]
    by_cases h : nE = nF
    · rw [decide_eq_true h, h]; simp
    · rw [decide_eq_false h]; simp; omega
  have HB0 := Lib.hid hb0
  have LF : Hid ((allB D8 fs).length ≤ 660000) := Nat.le_trans (allB_len J4.out.right) (Nat.mul_le_mul_right 66000 FL.out)
  have LE : Hid ((allB D8 es).length ≤ 660000) := Nat.le_trans (allB_len J3.out.right) (Nat.mul_le_mul_right 66000 EL.out)
  have HXI : Hid (allB D8 es = allB D8 fs → es = fs) := allB_inj D8_length es fs (fun e he => (J3.out.right e he).1) (fun e he => (J4.out.right e he).1)
  obtain ⟨X1, hX1⟩ : ∃ X, allB D8 es = X := ⟨_, rfl⟩
  obtain ⟨X2, hX2⟩ : ∃ X, allB D8 fs = X := ⟨_, rfl⟩
  rw [hX1] at LE HXI
  rw [hX2] at LF HXI
  have HX1 := Lib.hid hX1
  have HX2 := Lib.hid hX2
  clear hX1 hX2
  clear hE hF hb0
  go_wp2_with fail
  go_loopw [11, 12] (fun v i wr => ∃ (k : Nat) (t : Bool), k ≤ nE ∧ i = .int .i64 k ∧ v = .bool t ∧ Hid (t = (b0 && decide (es.take k = fs.take k))) ∧ Below w4.heap.size w4 wr) (fun _ i _ => nE - (intOf i).toNat)
  case atStart => exact ⟨0, b0, by omega, rfl, rfl, by rw [Hid]; simp, Below.refl _ _⟩
  case round =>
    clear gb0
    obtain ⟨k, t, hk, rfl, rfl, ht, hbw⟩ := hrel
    by_cases hlt : k < nE
    · cases t
      · have hes : es ≠ fs := by
          rintro rfl
          have h1 := ht.out
          have h2 : nE = nF := by rw [← HE.out, ← HF.out]
          rw [← HB0.out, decide_eq_true h2] at h1
          simp at h1
        have i2 : (k : Int) < (nE : Int) := by omega
        have DEC1 : decide (es = fs) = false := by exact decide_eq_false hes
        have DEC2 : decide (fs = es) = false := by exact decide_eq_false (fun h => hes h.symm)
        have DEC3 : decide (X1 = X2) = false := by exact decide_eq_false (fun h => hes (HXI.out h))
        go_wp2_with fail
        refine (known_any wr).mono ?_
        rintro e w5 ⟨rfl, b5⟩
        have J5 := Lib.hid (J3.out.below (hbw.then_ b5))
        have J6 := Lib.hid (J4.out.below (hbw.then_ b5))
        have F5 := F.then_ (hbw.then_ b5)
        clear hbw b5
        go_wp2_with fail
        refine (jsame_any S S2 g g2 es fs w5 J5.out J6.out (by have := EL.out; omega)).mono ?_
        rintro e w6 ⟨rfl, b6⟩
        rw [DEC1]
        have J7 := Lib.hid (J5.out.below b6)
        have J8 := Lib.hid (J6.out.below b6)
        have F6 := F5.then_ b6
        clear J5 J6 b6 F5
        go_wp2_with fail
        refine (jsame_any S2 S g2 g fs es w6 J8.out J7.out (by have := FL.out; omega)).mono ?_
        rintro e w7 ⟨rfl, b7⟩
        rw [DEC2]
        have J5 := Lib.hid (J7.out.below b7)
        have J6 := Lib.hid (J8.out.below b7)
        have F7 := F6.then_ b7
        clear J7 J8 b7 F6
        go_wp2_with fail
        refine (jbytes_any S g es w7 J5.out (by have := EL.out; omega)).mono ?_
        rintro e w8 ⟨v8, rfl, o8, b8⟩
        rw [HX1.out] at o8
        obtain ⟨A8, n8, c8, rfl, -, -, r8⟩ := o8.got
        have R8 := Lib.hid r8
        have J7 := Lib.hid (J6.out.below b8)
        have J9 := Lib.hid (J5.out.below b8)
        have F8 := F7.then_ b8
        clear r8 o8 b8 J5 J6 F7
        go_wp2_with fail
        refine (jbytes_any S2 g2 fs w8 J7.out (by have := FL.out; omega)).mono ?_
        rintro e w9 ⟨v9, rfl, o9, b9⟩
        rw [HX2.out] at o9
        obtain ⟨A9, n9, c9, rfl, -, -, r9⟩ := o9.got
        have R9 := Lib.hid r9
        have R8' := Lib.hid (R8.out.below b9)
        have J5 := Lib.hid (J9.out.below b9)
        have F9 := F8.then_ b9
        clear r9 o9 b9 J7 J9 F8 R8
        go_wp2_with fail
        refine (same_any A8 A9 n8 c8 n9 c9 _ _ w9 R8'.out R9.out (by have h1 := R8'.out.len; have h2 := LE.out; omega) (by have h1 := R9.out.len; have h2 := LF.out; omega)).mono ?_
        rintro e w10 ⟨rfl, q, rfl⟩
        rw [DEC3]
        have J6 := Lib.hid (J5.out.below (below_drewN (Below.refl _ w9) q))
        have F10 := below_drewN F9 q
        generalize w9.drewN q = w10 at *
        clear J5 R8' R9 F9
        go_wp2_with fail
        refine (jsame_any S S g g es es w10 J6.out J6.out (by have := EL.out; omega)).mono ?_
        rintro e w11 ⟨rfl, b11⟩
        rw [decide_eq_true rfl]
        go_wp2_with fail
        go_ret
        exact ⟨rfl, F10.then_ b11⟩
      · have h1 := ht.out
        have hb1 : b0 = true := by
          cases b0
          · simp at h1
          · rfl
        have h2 : nE = nF := of_decide_eq_true (HB0.out.trans hb1)
        have h3 : es.take k = fs.take k := by
          rw [hb1] at h1
          simpa using h1.symm
        have H3 := Lib.hid h3
        have HB1 := Lib.hid hb1
        have hkm : k < ns.length := by
          have := congrArg List.length HNS.out
          rw [List.length_map, HE.out] at this
          omega
        have hkn : k < ns2.length := by
          have := congrArg List.length HNS2.out
          rw [List.length_map, HF.out] at this
          omega
        have cT := meCells_cut ns k hkm
        have cT2 := meCells_cut ns2 k hkn
        obtain ⟨b, o, rfl, hb, hcl⟩ := R5.out.chunk (by omega) hlt cT
        obtain ⟨b2, o2, rfl, hb2, hcl2⟩ := R6.out.chunk (by omega) (show k < nF by omega) cT2
        obtain ⟨okm, rim⟩ := HOK3.out _ (List.getElem_mem hkm)
        obtain ⟨okn, rin⟩ := HOK2.out _ (List.getElem_mem hkn)
        have hke : k < es.length := by rw [HE.out]; exact hlt
        have hkf : k < fs.length := by rw [HF.out]; omega
        have e1 : es[k] = (ns[k]).en := by
          have := HNS.out
          subst this
          simp
        have e2 : fs[k] = (ns2[k]).en := by
          have := HNS2.out
          subst this
          simp
        have HST : Hid (decide (es.take (k + 1) = fs.take (k + 1)) = sameE (ns[k]).en (ns2[k]).en) := by
          rw [Hid, take_same hke hkf h3, e1, e2, sameE_dec]
        generalize ns[k] = m at *
        generalize ns2[k] = m' at *
        clear cT cT2 e1 e2 h1 h3 hb1 ht
        have q0 : wr.cell? ⟨b, o + k * 3, none⟩ = some (.int .i64 m.kind) := (hbw.cell (p := ⟨b, o + k * 3, none⟩) hb).trans (hcl 0 _ rfl)
        have q1 : wr.cell? ⟨b, o + k * 3 + 1, none⟩ = some (.string m.key) := (hbw.cell (p := ⟨b, o + k * 3 + 1, none⟩) hb).trans (hcl 1 _ rfl)
        have q2 : wr.cell? ⟨b, o + k * 3 + 2, none⟩ = some (.slice m.A m.n m.c) := (hbw.cell (p := ⟨b, o + k * 3 + 2, none⟩) hb).trans (hcl 2 _ rfl)
        have p0 : wr.cell? ⟨b2, o2 + k * 3, none⟩ = some (.int .i64 m'.kind) := (hbw.cell (p := ⟨b2, o2 + k * 3, none⟩) hb2).trans (hcl2 0 _ rfl)
        have p1 : wr.cell? ⟨b2, o2 + k * 3 + 1, none⟩ = some (.string m'.key) := (hbw.cell (p := ⟨b2, o2 + k * 3 + 1, none⟩) hb2).trans (hcl2 1 _ rfl)
        have p2 : wr.cell? ⟨b2, o2 + k * 3 + 2, none⟩ = some (.slice m'.A m'.n m'.c) := (hbw.cell (p := ⟨b2, o2 + k * 3 + 2, none⟩) hb2).trans (hcl2 2 _ rfl)
        have okm1 := Lib.hid (okm.below hbw)
        have okn1 := Lib.hid (okn.below hbw)
        have i1 : (0 : Int) ≤ (k : Int) := by omega
        have i2 : (k : Int) < (nE : Int) := by omega
        have i3 : (k : Int) < (nF : Int) := by omega
        have hbl : b < wr.heap.size := by have := hbw.size; omega
        have hbl2 : b2 < wr.heap.size := by have := hbw.size; omega
        clear hcl hcl2 okm okn h2
        have rr : Below wr.heap.size wr wr.drew := (Below.refl _ wr).drew
        have HL : ∀ W, Below wr.heap.size wr W → W.cell? ⟨b, o + k * 3, none⟩ = some (.int .i64 m.kind) ∧ W.cell? ⟨b, o + k * 3 + 1, none⟩ = some (.string m.key) ∧ W.cell? ⟨b, o + k * 3 + 2, none⟩ = some (.slice m.A m.n m.c) ∧ W.cell? ⟨b2, o2 + k * 3, none⟩ = some (.int .i64 m'.kind) ∧ W.cell? ⟨b2, o2 + k * 3 + 1, none⟩ = some (.string m'.key) ∧ W.cell? ⟨b2, o2 + k * 3 + 2, none⟩ = some (.slice m'.A m'.n m'.c) := fun W hW =>
          ⟨(hW.cell (p := ⟨b, o + k * 3, none⟩) hbl).trans q0, (hW.cell (p := ⟨b, o + k * 3 + 1, none⟩) hbl).trans q1, (hW.cell (p := ⟨b, o + k * 3 + 2, none⟩) hbl).trans q2, (hW.cell (p := ⟨b2, o2 + k * 3, none⟩) hbl2).trans p0, (hW.cell (p := ⟨b2, o2 + k * 3 + 1, none⟩) hbl2).trans p1, (hW.cell (p := ⟨b2, o2 + k * 3 + 2, none⟩) hbl2).trans p2⟩
        have HLh := Lib.hid HL
        clear HL q0 q1 q2 p0 p1 p2
        go_upto_region 9 with fail
        go_region_held3 (fun W => W.cell? ⟨b, o + k * 3, none⟩ = some (.int .i64 m.kind) ∧ W.cell? ⟨b, o + k * 3 + 1, none⟩ = some (.string m.key) ∧ W.cell? ⟨b, o + k * 3 + 2, none⟩ = some (.slice m.A m.n m.c) ∧ W.cell? ⟨b2, o2 + k * 3, none⟩ = some (.int .i64 m'.kind) ∧ W.cell? ⟨b2, o2 + k * 3 + 1, none⟩ = some (.string m'.key) ∧ W.cell? ⟨b2, o2 + k * 3 + 2, none⟩ = some (.slice m'.A m'.n m'.c))
          (with_reducible exact HLh.out _ rr)
          (first | (go_at_call 13; refine (esame_any _ _ m m' _ (okm1.out.below rr) (okn1.out.below rr) (by have := rim.2.2.2; omega) (by have := rin.2.2.2; omega)).mono ?_; rintro e w7 ⟨rfl, b7⟩; have rr := rr.then_ b7))
        have ht2 : Hid (sameE m.en m'.en = (b0 && decide (es.take (k + 1) = fs.take (k + 1)))) := by rw [Hid, HB1.out, HST.out, Bool.true_and]
        have hb7 := hbw.then_ rr
        generalize sameE m.en m'.en = sm at *
        clear HST HLh okm1 okn1 rr b7
        go_wp2_with fail
        go_roundw
        case rel => exact ⟨k + 1, sm, by omega, by go_num, rfl, ht2, hb7⟩
        case measure => simp [intOf]; omega
    · obtain rfl : k = nE := by omega
      have htt : t = decide (es = fs) := by
        have h1 := ht.out
        rw [← HB0.out] at h1
        rw [h1]
        by_cases h : k = nF
        · have e1 : es.take k = es := List.take_of_length_le (by rw [HE.out]; exact Nat.le_refl _)
          have e2 : fs.take k = fs := List.take_of_length_le (by rw [HF.out, h]; exact Nat.le_refl _)
          rw [e1, e2, decide_eq_true h]
          simp
        · have hne : ¬ es = fs := by
            rintro rfl
            exact h (by rw [← HE.out, ← HF.out])
          rw [decide_eq_false h, Bool.false_and, decide_eq_false hne]
      by_cases hes : es = fs
      · rw [decide_eq_true hes] at htt
        subst htt
        have DEC1 : decide (es = fs) = true := by rw [hes]; exact decide_eq_true rfl
        have DEC2 : decide (fs = es) = true := by rw [hes]; exact decide_eq_true rfl
        have DEC3 : decide (X1 = X2) = true := by rw [← HX1.out, ← HX2.out, hes]; exact decide_eq_true rfl
        clear ht
        go_wp2_with fail
        refine (known_any wr).mono ?_
        rintro e w5 ⟨rfl, b5⟩
        have J5 := Lib.hid (J3.out.below (hbw.then_ b5))
        have J6 := Lib.hid (J4.out.below (hbw.then_ b5))
        have F5 := F.then_ (hbw.then_ b5)
        clear hbw b5
        go_wp2_with fail
        refine (jsame_any S S2 g g2 es fs w5 J5.out J6.out (by have := EL.out; omega)).mono ?_
        rintro e w6 ⟨rfl, b6⟩
        rw [DEC1]
        have J7 := Lib.hid (J5.out.below b6)
        have J8 := Lib.hid (J6.out.below b6)
        have F6 := F5.then_ b6
        clear J5 J6 b6 F5
        go_wp2_with fail
        refine (jsame_any S2 S g2 g fs es w6 J8.out J7.out (by have := FL.out; omega)).mono ?_
        rintro e w7 ⟨rfl, b7⟩
        rw [DEC2]
        have J5 := Lib.hid (J7.out.below b7)
        have J6 := Lib.hid (J8.out.below b7)
        have F7 := F6.then_ b7
        clear J7 J8 b7 F6
        go_wp2_with fail
        refine (jbytes_any S g es w7 J5.out (by have := EL.out; omega)).mono ?_
        rintro e w8 ⟨v8, rfl, o8, b8⟩
        rw [HX1.out] at o8
        obtain ⟨A8, n8, c8, rfl, -, -, r8⟩ := o8.got
        have R8 := Lib.hid r8
        have J7 := Lib.hid (J6.out.below b8)
        have J9 := Lib.hid (J5.out.below b8)
        have F8 := F7.then_ b8
        clear r8 o8 b8 J5 J6 F7
        go_wp2_with fail
        refine (jbytes_any S2 g2 fs w8 J7.out (by have := FL.out; omega)).mono ?_
        rintro e w9 ⟨v9, rfl, o9, b9⟩
        rw [HX2.out] at o9
        obtain ⟨A9, n9, c9, rfl, -, -, r9⟩ := o9.got
        have R9 := Lib.hid r9
        have R8' := Lib.hid (R8.out.below b9)
        have J5 := Lib.hid (J9.out.below b9)
        have F9 := F8.then_ b9
        clear r9 o9 b9 J7 J9 F8 R8
        go_wp2_with fail
        refine (same_any A8 A9 n8 c8 n9 c9 _ _ w9 R8'.out R9.out (by have h1 := R8'.out.len; have h2 := LE.out; omega) (by have h1 := R9.out.len; have h2 := LF.out; omega)).mono ?_
        rintro e w10 ⟨rfl, q, rfl⟩
        rw [DEC3]
        have J6 := Lib.hid (J5.out.below (below_drewN (Below.refl _ w9) q))
        have F10 := below_drewN F9 q
        generalize w9.drewN q = w10 at *
        clear J5 R8' R9 F9
        go_wp2_with fail
        refine (jsame_any S S g g es es w10 J6.out J6.out (by have := EL.out; omega)).mono ?_
        rintro e w11 ⟨rfl, b11⟩
        rw [decide_eq_true rfl]
        go_wp2_with fail
        go_ret
        exact ⟨rfl, F10.then_ b11⟩
      · rw [decide_eq_false hes] at htt
        subst htt
        have DEC1 : decide (es = fs) = false := by exact decide_eq_false hes
        have DEC2 : decide (fs = es) = false := by exact decide_eq_false (fun h => hes h.symm)
        have DEC3 : decide (X1 = X2) = false := by exact decide_eq_false (fun h => hes (HXI.out h))
        clear ht
        go_wp2_with fail
        refine (known_any wr).mono ?_
        rintro e w5 ⟨rfl, b5⟩
        have J5 := Lib.hid (J3.out.below (hbw.then_ b5))
        have J6 := Lib.hid (J4.out.below (hbw.then_ b5))
        have F5 := F.then_ (hbw.then_ b5)
        clear hbw b5
        go_wp2_with fail
        refine (jsame_any S S2 g g2 es fs w5 J5.out J6.out (by have := EL.out; omega)).mono ?_
        rintro e w6 ⟨rfl, b6⟩
        rw [DEC1]
        have J7 := Lib.hid (J5.out.below b6)
        have J8 := Lib.hid (J6.out.below b6)
        have F6 := F5.then_ b6
        clear J5 J6 b6 F5
        go_wp2_with fail
        refine (jsame_any S2 S g2 g fs es w6 J8.out J7.out (by have := FL.out; omega)).mono ?_
        rintro e w7 ⟨rfl, b7⟩
        rw [DEC2]
        have J5 := Lib.hid (J7.out.below b7)
        have J6 := Lib.hid (J8.out.below b7)
        have F7 := F6.then_ b7
        clear J7 J8 b7 F6
        go_wp2_with fail
        refine (jbytes_any S g es w7 J5.out (by have := EL.out; omega)).mono ?_
        rintro e w8 ⟨v8, rfl, o8, b8⟩
        rw [HX1.out] at o8
        obtain ⟨A8, n8, c8, rfl, -, -, r8⟩ := o8.got
        have R8 := Lib.hid r8
        have J7 := Lib.hid (J6.out.below b8)
        have J9 := Lib.hid (J5.out.below b8)
        have F8 := F7.then_ b8
        clear r8 o8 b8 J5 J6 F7
        go_wp2_with fail
        refine (jbytes_any S2 g2 fs w8 J7.out (by have := FL.out; omega)).mono ?_
        rintro e w9 ⟨v9, rfl, o9, b9⟩
        rw [HX2.out] at o9
        obtain ⟨A9, n9, c9, rfl, -, -, r9⟩ := o9.got
        have R9 := Lib.hid r9
        have R8' := Lib.hid (R8.out.below b9)
        have J5 := Lib.hid (J9.out.below b9)
        have F9 := F8.then_ b9
        clear r9 o9 b9 J7 J9 F8 R8
        go_wp2_with fail
        refine (same_any A8 A9 n8 c8 n9 c9 _ _ w9 R8'.out R9.out (by have h1 := R8'.out.len; have h2 := LE.out; omega) (by have h1 := R9.out.len; have h2 := LF.out; omega)).mono ?_
        rintro e w10 ⟨rfl, q, rfl⟩
        rw [DEC3]
        have J6 := Lib.hid (J5.out.below (below_drewN (Below.refl _ w9) q))
        have F10 := below_drewN F9 q
        generalize w9.drewN q = w10 at *
        clear J5 R8' R9 F9
        go_wp2_with fail
        refine (jsame_any S S g g es es w10 J6.out J6.out (by have := EL.out; omega)).mono ?_
        rintro e w11 ⟨rfl, b11⟩
        rw [decide_eq_true rfl]
        go_wp2_with fail
        go_ret
        exact ⟨rfl, F10.then_ b11⟩
end Go.Proofs.Ytidppcaohkfnfaa
