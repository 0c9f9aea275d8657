
/-
  JournalTwo: the law's walk.
-/
import Derived.Test.YtidppcaohkfnfaaK18
namespace Go.Proofs.Ytidppcaohkfnfaa
open Go.RowKit

theorem opens_all {es : List En} (h : ∀ e ∈ es, e.Right) : Opens (allB D8 es) es [] := ⟨(List.append_nil _).symm, h, begins_nil⟩

set_option maxHeartbeats 2000000 in
set_option maxRecDepth 100000 in
theorem journalTwo_walk (A1 A2 : Option Addr) (n1 c1 n2 c2 : Nat) (ms1 ms2 : List Me) (w : World) (h1 : Ins w A1 n1 c1 ms1) (h2 : Ins w A2 n2 c2 ms2) :
    Calls Try.prog 6 #[.slice A1 n1 c1, .slice A2 n2 c2] w (Tells w true) := by
  have CUT := Lib.hid (cut_any' A1 n1 c1 ms1 12 w h1 (by decide))
  clear h1
  go_enter Try.func6, Try.ntmps6
  go_wp2_with fail
  refine CUT.out.mono ?_
  rintro e w1 ⟨A3, n3, c3, rfl, hn3, hm3, hc3, hcm3, r3, ok3, b1⟩
  have FIL := Lib.hid (filled_any' A3 n3 c3 _ w1 hn3 (by omega) hc3 r3 _ b1.size ok3)
  clear CUT hn3 r3 ok3 hcm3
  go_wp2_with fail
  refine FIL.out.mono ?_
  rintro e w2 ⟨S, g, A4, c4, ns, rfl, j2, r4, hc4, hcm4, hns, hok, hS, hA4, b2⟩
  clear FIL
  have F2 := b1.then_ b2
  have CUT := Lib.hid (cut_any' A2 n2 c2 ms2 12 w2 (h2.below F2) (by decide))
  clear h2
  have ES := Lib.hid (fillCut_small ms1 12)
  change Jn w2 S g (fillCut ms1 12) at j2
  change ns.map Me.en = fillCut ms1 12 at hns
  have e1 : fill ((ms1.take 12).map cutM) = fillCut ms1 12 := rfl
  rw [e1] at hc4 r4 ⊢
  generalize fillCut ms1 12 = es at *
  have J2 := Lib.hid j2
  have R4 := Lib.hid r4
  have HNS := Lib.hid hns
  have HOK := Lib.hid hok
  clear j2 r4 hns hok hS hA4 e1
  go_wp2_with fail
  refine CUT.out.mono ?_
  rintro e w3 ⟨A5, n5, c5, rfl, hn5, hm5, hc5, hcm5, r5, ok5, b3⟩
  have FIL := Lib.hid (filled_any' A5 n5 c5 _ w3 hn5 (by omega) hc5 r5 _ b3.size ok5)
  clear CUT hn5 r5 ok5 hcm5
  go_wp2_with fail
  refine FIL.out.mono ?_
  rintro e w4 ⟨S2, g2, A6, c6, ns2, rfl, j4, r6, hc6, hcm6, hns2, hok2, hS2, hA6, b4⟩
  clear FIL
  have F4 := b3.then_ b4
  have FS := Lib.hid (fillCut_small ms2 12)
  change Jn w4 S2 g2 (fillCut ms2 12) at j4
  change ns2.map Me.en = fillCut ms2 12 at hns2
  have e1 : fill ((ms2.take 12).map cutM) = fillCut ms2 12 := rfl
  rw [e1] at hc6 r6 ⊢
  generalize fillCut ms2 12 = fs at *
  have J4 := Lib.hid j4
  have R6 := Lib.hid r6
  have HNS2 := Lib.hid hns2
  have HOK2 := Lib.hid hok2
  have J3 := Lib.hid (J2.out.below F4)
  have R5 := Lib.hid ((R4.out.below F4).more F4.size)
  have F := F2.then_ F4
  clear j4 r6 hns2 hok2 hS2 hA6 e1 J2 R4 b1 b2 b3 b4 F2 F4
  clear R5 R6 HNS HNS2 HOK HOK2 hc4 hc6 hcm4 hcm6
  obtain ⟨X1, hX1⟩ : ∃ X, allB D8 es = X := ⟨_, rfl⟩
  obtain ⟨X2, hX2⟩ : ∃ X, allB D8 fs = X := ⟨_, rfl⟩
  have LE : Hid (X1.length ≤ 2400) := by rw [← hX1]; exact ES.out.bytes
  have LF : Hid (X2.length ≤ 2400) := by rw [← hX2]; exact FS.out.bytes
  obtain ⟨q1, hq1⟩ : ∃ q, X1.length = q := ⟨_, rfl⟩
  obtain ⟨q2, hq2⟩ : ∃ q, X2.length = q := ⟨_, rfl⟩
  rw [hq1] at LE
  rw [hq2] at LF
  have hq1' : q1 ≤ 2400 := LE.out
  have hq2' : q2 ≤ 2400 := LF.out
  have HX1 := Lib.hid hX1
  have HX2 := Lib.hid hX2
  have HQ1 := Lib.hid hq1
  have HQ2 := Lib.hid hq2
  have HALL : Hid (allB D8 (es ++ fs) = X1 ++ X2) := by rw [Hid, allB_append, hX1, hX2]
  have HRI : Hid (∀ e ∈ es ++ fs, e.Right) := fun e he => (List.mem_append.1 he).elim (ES.out.right e) (FS.out.right e)
  have BX1 : Hid (∀ W, Jn W S g es → Calls Try.prog 17 #[.pointer (some ⟨g, 0, none⟩)] W (Got W.heap.size W X1)) := fun W h => by
    have := jbytes_any S g es W h (by have := ES.out.len; omega)
    rw [HX1.out] at this
    exact this
  have BX2 : Hid (∀ W, Jn W S2 g2 fs → Calls Try.prog 17 #[.pointer (some ⟨g2, 0, none⟩)] W (Got W.heap.size W X2)) := fun W h => by
    have := jbytes_any S2 g2 fs W h (by have := FS.out.len; omega)
    rw [HX2.out] at this
    exact this
  have hw : IntKind.i64.wrap ((q1 : Int) + (q2 : Int)) = (q1 : Int) + (q2 : Int) := IntWalk.i64_in _ (by omega)
  clear hX1 hX2 hq1 hq2 LE LF
  go_wp2_with fail
  refine (BX1.out w4 J3.out).mono ?_
  rintro e w5 ⟨v5, rfl, o5, b5⟩
  obtain ⟨A7, c7, rfl, -, -, -⟩ := o5.form
  rw [HQ1.out] at o5 ⊢
  have o5h := Lib.hid o5
  have z5 := b5.size
  clear o5
  go_wp2_with fail
  refine (BX2.out w5 (J4.out.below b5)).mono ?_
  rintro e w6 ⟨v6, rfl, o6, b6⟩
  obtain ⟨A8, c8, rfl, -, -, r6⟩ := o6.form
  rw [HQ2.out] at o6 r6 ⊢
  have r6h := Lib.hid r6
  have o7 := Lib.hid (o5h.out.below b6 (Nat.le_refl _))
  have f6 := b5.then_ b6
  have z6 := b6.size
  clear o6 b5 b6 o5h r6
  go_wp2_with (at_builtin; refine wpList_app8 _ rfl (.tmp 41) (.tmp 43) rfl w4.heap.size _ X1 rfl o7.out A8 q2 c8 X2 rfl r6h.out (by rw [HQ1.out]; omega) (by omega) ?_; intro v9 w9 o9 b9; obtain ⟨A9, n9, c9, rfl, hn9, hc9, r9⟩ := o9.got)
  have f9 := f6.trans b9
  have J7 := Lib.hid (J3.out.below f9)
  have J8 := Lib.hid (J4.out.below f9)
  have F9 := F.then_ f9
  have hn9' : n9 ≤ 4800 := by have := r9.len; rw [List.length_append, HQ1.out, HQ2.out] at this; omega
  rw [← HALL.out] at r9
  unfold maxLen at hc9
  have OP := Lib.hid (open_any' A9 n9 c9 _ w9 r9 hn9 hc9 (by omega))
  clear f6 b9 f9 o9 r9 J3 J4 F o7 r6h
  refine OP.out.mono ?_
  rintro e w10 ⟨So, go_, es', r, rfl, j10, hSo, ho10, b10⟩
  obtain ⟨rfl, rfl⟩ := opens_inj ho10 (opens_all HRI.out)
  have hq12 : ((allB D8 (es ++ fs)).length : Int) = (q1 : Int) + (q2 : Int) := by rw [HALL.out, List.length_append, HQ1.out, HQ2.out]; omega
  rw [hq12, torn_nil]
  have J5 := Lib.hid (J7.out.below b10)
  have J6 := Lib.hid (J8.out.below b10)
  have JO := Lib.hid j10
  have F10 := F9.then_ b10
  clear OP j10 hSo ho10 b10 hq12 J7 J8 F9
  go_wp2_with fail
  refine (BX1.out w10 J5.out).mono ?_
  rintro e w11 ⟨v11, rfl, o11, b11⟩
  obtain ⟨A11, c11, rfl, -, -, -⟩ := o11.form
  rw [HQ1.out]
  have J7 := Lib.hid (J5.out.below b11)
  have J8 := Lib.hid (J6.out.below b11)
  have JO2 := Lib.hid (JO.out.below b11)
  have F11 := F10.then_ b11
  clear o11 b11 J5 J6 JO F10
  go_wp2_with fail
  refine (BX2.out w11 J8.out).mono ?_
  rintro e w12 ⟨v12, rfl, o12, b12⟩
  obtain ⟨A12, c12, rfl, -, -, -⟩ := o12.form
  rw [HQ2.out]
  have J5 := Lib.hid (J7.out.below b12)
  have J6 := Lib.hid (J8.out.below b12)
  have JO := Lib.hid (JO2.out.below b12)
  have F12 := F11.then_ b12
  clear o12 b12 J7 J8 JO2 F11
  obtain ⟨nE, hE⟩ : ∃ k, es.length = k := ⟨_, rfl⟩
  obtain ⟨nF, hF⟩ : ∃ k, fs.length = k := ⟨_, rfl⟩
  have HE := Lib.hid hE
  have HF := Lib.hid hF
  have hnE : nE ≤ 12 := by rw [← hE]; exact ES.out.len
  have hnF : nF ≤ 12 := by rw [← hF]; exact FS.out.len
  have hw2 : IntKind.i64.wrap ((nE : Int) + (nF : Int)) = (nE : Int) + (nF : Int) := IntWalk.i64_in _ (by omega)
  have hl12 : Hid (((es ++ fs).length : Int) = (nE : Int) + (nF : Int)) := by rw [Hid, List.length_append, hE, hF]; omega
  clear hE hF
  go_wp2_with fail
  refine (jlen_any So go_ (es ++ fs) w12 JO.out).mono ?_
  rintro e w13 ⟨rfl, rfl⟩
  rw [hl12.out]
  go_wp2_with fail
  refine (jlen_any S g es w12 J5.out).mono ?_
  rintro e w13 ⟨rfl, rfl⟩
  rw [HE.out]
  go_wp2_with fail
  refine (jlen_any S2 g2 fs w12 J6.out).mono ?_
  rintro e w13 ⟨rfl, rfl⟩
  rw [HF.out]
  go_wp2_with fail
  refine (jclone_any S g es w12 J5.out (by have := HE.out; omega)).mono ?_
  rintro e w13 ⟨Sc, gc, rfl, jc, hSc, b13⟩
  have JC := Lib.hid jc
  have HSC := Lib.hid hSc
  have B13 := Lib.hid b13
  have J7 := Lib.hid (J6.out.below b13)
  clear jc hSc b13
  go_wp2_with fail
  refine (all_any S2 g2 fs w13 J7.out (by have := HF.out; omega)).mono ?_
  rintro e w14 ⟨ls, rfl, har, hls, b14⟩
  have hll : ls.length = nF := by rw [← HF.out, ← hls, List.length_map]
  rw [hll] at har ⊢
  obtain ⟨lo, hlo⟩ : ∃ lo, w12.heap.size = lo := ⟨_, rfl⟩
  obtain ⟨gl, hgl⟩ : ∃ gl, w13.heap.size = gl := ⟨_, rfl⟩
  obtain ⟨hi, hhi⟩ : ∃ hi, w14.heap.size = hi := ⟨_, rfl⟩
  have z13 := B13.out.size
  have z14 := b14.size
  rw [hgl] at har ⊢
  rw [hlo, hgl] at z13
  rw [hgl, hhi] at z14
  have hgh : gl < hi := by rw [← hhi]; exact har.lt
  have JC14 := Lib.hid (JC.out.below b14)
  have HLT : Hid (∀ q, Sc q → lo ≤ q ∧ q < gl) := fun q hq => ⟨by rw [← hlo]; exact HSC.out q hq, by rw [← hgl]; exact JC.out.lt q hq⟩
  have f14 := B13.out.then_ b14
  have J5' := Lib.hid (J5.out.below f14)
  have J6' := Lib.hid (J6.out.below f14)
  have JO' := Lib.hid (JO.out.below f14)
  have F14 := Lib.hid (F12.then_ f14)
  have HZ : Hid (w.heap.size ≤ lo) := by rw [Hid, ← hlo]; exact F12.size
  have L1 : Hid (∀ q, S q → q < lo) := fun q hq => by rw [← hlo]; exact J5.out.lt q hq
  have L2 : Hid (∀ q, S2 q → q < lo) := fun q hq => by rw [← hlo]; exact J6.out.lt q hq
  have L3 : Hid (∀ q, So q → q < lo) := fun q hq => by rw [← hlo]; exact JO.out.lt q hq
  have HHI := Lib.hid hhi
  have HLS := Lib.hid hls
  have HLL := Lib.hid hll
  have RL : Hid (∀ j u, (meCells ls)[j]? = some u → w14.cell? ⟨gl, j, none⟩ = some u) := fun j u hu => by
    rw [← hll] at har
    have h1 := har.reads
    have hlen : (meCells ls).length = nF * 3 := by rw [meCells_length, hll]
    rcases Nat.eq_zero_or_pos nF with h0 | h0
    · rw [List.getElem?_eq_none (by omega)] at hu
      cases hu
    · obtain ⟨ad, e1, _, h2⟩ := h1.2 (by rw [hll]; exact h0)
      injection e1 with e1
      subst e1
      have := h2 j u hu
      rw [Addr.add_lit, Nat.zero_add] at this
      exact this
  have OKL : Hid (∀ m ∈ ls, m.Ok (fun q => gl ≤ q ∧ q < hi) w14 ∧ m.Right) := fun m hm => by
    obtain ⟨_, h2, h3⟩ := har.own m hm
    exact ⟨h2.mono (fun q hq h => ⟨Nat.le_of_lt h, by rw [← hhi]; exact hq⟩), h3⟩
  have K0 : Hid (Kept (fun q => lo ≤ q ∧ q < gl) w14 w14) := Kept.refl _ _
  have HSC0 : Hid (∀ q, Sc q → (lo ≤ q ∧ q < gl) ∨ hi ≤ q) := fun q hq => .inl (HLT.out q hq)
  have J0 : Hid (Jn w14 Sc gc (es ++ fs.take 0)) := by rw [Hid, List.take_zero, List.append_nil]; exact JC14.out
  clear hlo hgl hhi hls hll har b14 f14 JC HSC B13 J7 J5 J6 JO F12 JC14 HLT
  go_wp2_with fail
  go_loopg [16] nF (fun gk i wr => ∃ (k : Nat) (Sc : Nat → Prop), gk = nF - k ∧ k ≤ nF ∧ i = .int .i64 k ∧ Hid (Jn wr Sc gc (es ++ fs.take k)) ∧ Hid (∀ q, Sc q → (lo ≤ q ∧ q < gl) ∨ hi ≤ q) ∧ Hid (Kept (fun q => lo ≤ q ∧ q < gl) w14 wr))
  case atStart => exact ⟨0, Sc, by omega, by omega, rfl, J0, HSC0, K0⟩
  case round =>
    clear J0 HSC0 K0 Sc
    obtain ⟨k, Sc, hgk, hk, rfl, hj, hS, hK⟩ := hrel
    have HGK := Lib.hid hgk
    clear hgk
    by_cases hlt : k < nF
    · have hkm : k < ls.length := by rw [HLL.out]; exact hlt
      have hkf : k < fs.length := by rw [HF.out]; exact hlt
      have cT := meCells_cut ls k hkm
      have hcl : ∀ j u, (ls[k]).cells[j]? = some u → wr.cell? ⟨gl, k * 3 + j, none⟩ = some u := fun j u hu => by
        have h1 : (meCells ls)[k * 3 + j]? = some u := by
          rw [← cT, List.getElem?_take] at hu
          split at hu
          · rw [List.getElem?_drop] at hu
            exact hu
          · cases hu
        exact (hK.out.cell (p := ⟨gl, k * 3 + j, none⟩) (by show gl < w14.heap.size; rw [HHI.out]; exact hgh) (fun h => absurd h.2 (Nat.lt_irrefl _))).trans (RL.out _ u h1)
      obtain ⟨okm, rim⟩ := OKL.out _ (List.getElem_mem hkm)
      have okm := okm.kept hK.out (fun q h1 h2 => by omega)
      have HTK : Hid (es ++ fs.take (k + 1) = (es ++ fs.take k) ++ [(ls[k]).en]) := by rw [Hid, take_succ_en HLS.out hkm, List.append_assoc]
      have HEL : Hid ((es ++ fs.take k).length < 65536) := by rw [Hid, List.length_append, List.length_take, HE.out]; omega
      generalize es ++ fs.take k = cs at *
      generalize ls[k] = m at *
      clear cT
      have q0 : wr.cell? ⟨gl, k * 3, none⟩ = some (.int .i64 m.kind) := hcl 0 _ rfl
      have q1' : wr.cell? ⟨gl, k * 3 + 1, none⟩ = some (.string m.key) := hcl 1 _ rfl
      have q2' : wr.cell? ⟨gl, k * 3 + 2, none⟩ = some (.slice m.A m.n m.c) := hcl 2 _ rfl
      have g1 : (0 : Int) ≤ (k : Int) := by omega
      have g2' : (k : Int) < (nF : Int) := by omega
      have ADD := Lib.hid (add_yes Sc _ gc cs m wr hj.out okm rim HEL.out (fun q h1 h2 => by
        rcases hS.out q h2 with h | h
        · omega
        · omega))
      clear hcl okm rim
      go_wp2_with fail
      refine ADD.out.mono ?_
      rintro e w15 ⟨v15, S3, B3, rfl, j3, s1, s2, o3, hB3, k3⟩
      obtain ⟨A15, n15, c15, rfl, -, -, -⟩ := o3.got
      have hz : hi ≤ wr.heap.size := by have := hK.out.size; rw [HHI.out] at this; exact this
      have HJ3 : Hid (Jn w15 S3 gc (es ++ fs.take (k + 1))) := by rw [Hid, HTK.out]; exact j3
      have HS3 : Hid (∀ q, S3 q → (lo ≤ q ∧ q < gl) ∨ hi ≤ q) := fun q hq => by
        rcases s1 q hq with h | h
        · exact hS.out q h
        · exact .inr (by omega)
      have HK3 : Hid (Kept (fun q => lo ≤ q ∧ q < gl) w14 w15) := hK.out.then_ k3 (fun q hq h => by
        rcases hS.out q h with h | h
        · exact h
        · rw [HHI.out] at hq
          omega)
      clear ADD j3 s1 s2 o3 k3 q0 q1' q2'
      go_wp2_with fail
      go_roundg (nF - (k + 1))
      case measure => have := HGK.out; omega
      case rel => exact ⟨k + 1, S3, rfl, by omega, by go_num, HJ3, HS3, HK3⟩
    · obtain rfl : k = nF := by omega
      have h3 := hj.out
      rw [List.take_of_length_le (by rw [HF.out]; exact Nat.le_refl _)] at h3
      have JC := Lib.hid h3
      have J5 := Lib.hid (J5'.out.kept hK.out (fun q h1 h2 => by have := L1.out q h1; omega))
      have J6 := Lib.hid (J6'.out.kept hK.out (fun q h1 h2 => by have := L2.out q h1; omega))
      have JO := Lib.hid (JO'.out.kept hK.out (fun q h1 h2 => by have := L3.out q h1; omega))
      have FW : Below w.heap.size w wr := F14.out.trans (hK.out.to_below F14.out.size (fun q hq h => by have := HZ.out; omega))
      obtain ⟨bb, hbb⟩ : ∃ bb, decide (fs = []) = bb := ⟨_, rfl⟩
      have gbb : ((k : Int) == 0) = bb := by
        rw [← hbb]
        by_cases h : fs = []
        · rw [decide_eq_true h]
          have := HF.out
          rw [h] at this
          simp at this
          subst this
          rfl
        · rw [decide_eq_false h]
          have h1 : fs.length ≠ 0 := fun e => h (List.eq_nil_of_length_eq_zero e)
          rw [HF.out] at h1
          simp
          exact h1
      have DEC : decide (es ++ fs = es) = bb := by
        rw [← hbb]
        by_cases h : fs = []
        · rw [decide_eq_true h, h, List.append_nil, decide_eq_true rfl]
        · rw [decide_eq_false h, decide_eq_false]
          intro h2
          exact h (List.append_right_eq_self.1 h2)
      have HES12 : (es ++ fs).length ≤ 70000 := by rw [List.length_append, HE.out, HF.out]; omega
      clear hj h3 J5' J6' JO' hK hS hbb RL OKL
      go_wp2_with fail
      refine (known_any wr).mono ?_
      rintro e w15 ⟨rfl, b15⟩
      have JC2 := Lib.hid (JC.out.below b15)
      have JO2 := Lib.hid (JO.out.below b15)
      have J7 := Lib.hid (J5.out.below b15)
      have J8 := Lib.hid (J6.out.below b15)
      have F15 := FW.then_ b15
      clear JC JO J5 J6 FW b15
      go_wp2_with fail
      refine (jsame_any Sc So gc go_ (es ++ fs) (es ++ fs) w15 JC2.out JO2.out HES12).mono ?_
      rintro e w16 ⟨rfl, b16⟩
      rw [decide_eq_true rfl]
      have JC := Lib.hid (JC2.out.below b16)
      have JO := Lib.hid (JO2.out.below b16)
      have J5 := Lib.hid (J7.out.below b16)
      have J6 := Lib.hid (J8.out.below b16)
      have F16 := F15.then_ b16
      clear JC2 JO2 J7 J8 F15 b16
      go_wp2_with fail
      refine (jsame_any So Sc go_ gc (es ++ fs) (es ++ fs) w16 JO.out JC.out HES12).mono ?_
      rintro e w17 ⟨rfl, b17⟩
      rw [decide_eq_true rfl]
      have JC2 := Lib.hid (JC.out.below b17)
      have J7 := Lib.hid (J5.out.below b17)
      have J8 := Lib.hid (J6.out.below b17)
      have F17 := F16.then_ b17
      clear JC JO J5 J6 F16 b17
      go_wp2_with fail
      refine (jlen_any S2 g2 fs w17 J8.out).mono ?_
      rintro e w18 ⟨rfl, rfl⟩
      rw [HF.out]
      go_wp2_with fail
      refine (jsame_any Sc S gc g (es ++ fs) es w17 JC2.out J7.out HES12).mono ?_
      rintro e w18 ⟨rfl, b18⟩
      rw [DEC]
      go_wp2_with fail
      go_ret
      exact ⟨by simp, F17.then_ b18⟩
end Go.Proofs.Ytidppcaohkfnfaa
