
/-
  JournalLast: the law's walk.
-/
import Derived.Test.YtidppcaohkfnfaaK30
import Derived.Test.YtidppcaohkfnfaaK25
namespace Go.Proofs.Ytidppcaohkfnfaa
open Go.RowKit

/-- What Last gives where there is one. -/
def LastYes (w : World) (es : List En) (p : Int × List UInt8) (e : Ending) (w' : World) : Prop :=
  ∃ m : Me, e = .returned (.tuple #[m.val, .bool true]) ∧ lastE es p = some m.en ∧ m.Ok (fun k => w.heap.size ≤ k) w' ∧ m.Right ∧ Below w.heap.size w w'
theorem jlast_yes (S : Nat → Prop) (g : Nat) (es : List En) (k : Int) (s : ByteArray) (w : World) (h : Jn w S g es) (hp : PlOk k s) (hl : (lastE es (k, tlB s)).isSome = true) :
    Calls Try.prog 26 #[.pointer (some ⟨g, 0, none⟩), .int .i64 k, .string s] w (LastYes w es (k, tlB s)) := by
  refine (jlast_any S g es k s w h hp).mono ?_
  rintro e w' ⟨hb, ⟨m, he, h1, h2, h3⟩ | ⟨he, h1⟩⟩
  · exact ⟨m, he, h1, h2, h3, hb⟩
  · have h1' : lastE es (k, tlB s) = none := h1
    rw [h1'] at hl
    cases hl
theorem lastE_of_mem {es : List En} {e : En} (h : e ∈ es) : (lastE es e.pl).isSome = true := by
  rw [← lastE_any]
  exact List.any_eq_true.2 ⟨e, h, by simp⟩

set_option maxHeartbeats 4000000 in
set_option maxRecDepth 100000 in
theorem journalLast_walk (A1 : Option Addr) (n1 c1 : Nat) (ms1 : List Me) (w : World) (h1 : Ins w A1 n1 c1 ms1) :
    Calls Try.prog 8 #[.slice A1 n1 c1] w (Tells w true) := by
  have CUT := Lib.hid (cut_any' A1 n1 c1 ms1 20 w h1 (by decide))
  clear h1
  go_enter Try.func8, Try.ntmps8
  go_wp2_with fail
  refine CUT.out.mono ?_
  rintro e w1 ⟨A3, n3, c3, rfl, hn3, hm3, hc3, hcm3, r3, ok3, b1⟩
  have FIL := Lib.hid (filled_any' A3 n3 c3 _ w1 hn3 (by omega) hc3 r3 _ b1.size ok3)
  clear CUT hn3 r3 ok3 hcm3
  go_wp2_with fail
  refine FIL.out.mono ?_
  rintro e w2 ⟨S, g, A4, c4, ns, rfl, j2, r4, hc4, hcm4, hns, hok, hS, hA4, b2⟩
  clear FIL
  have F2 := b1.then_ b2
  have ES := Lib.hid (fillCut_small ms1 20)
  change Jn w2 S g (fillCut ms1 20) at j2
  change ns.map Me.en = fillCut ms1 20 at hns
  have e1 : fill ((ms1.take 20).map cutM) = fillCut ms1 20 := rfl
  rw [e1] at hc4 r4 ⊢
  generalize fillCut ms1 20 = es at *
  have J2 := Lib.hid j2
  have R4 := Lib.hid r4
  have HNS := Lib.hid hns
  have HOK := Lib.hid hok
  clear j2 r4 hns hok hS hA4 e1
  clear R4 HNS HOK hc4 hcm4 b1 b2
  have HLE : Hid (es.length ≤ 20) := ES.out.len
  have JC := Lib.hid (jcut_any S g es w2 J2.out (by have := HLE.out; omega))
  have HCL : Hid ((cutE es).length ≤ 20) := Nat.le_trans (cutE_len es) HLE.out
  have HLC := Lib.hid (fun p => lastE_cut p es)
  have HKC := Lib.hid (fun k => keysE_cut k es)
  have HCC := Lib.hid (cutE_cut es)
  have HCN := Lib.hid (cutE_len es)
  obtain ⟨cs, hcs⟩ : ∃ cs, cutE es = cs := ⟨_, rfl⟩
  rw [hcs] at JC HCL HLC HKC HCC HCN
  clear hcs ES
  go_wp2_with fail
  refine JC.out.mono ?_
  rintro e w3 ⟨Sc, gc, rfl, jc, hSc, b3⟩
  have JC3 := Lib.hid jc
  have JJ3 := Lib.hid (J2.out.below b3)
  have F3 := Lib.hid (F2.then_ b3)
  have AL := Lib.hid (all_any S g es w3 JJ3.out (by have := HLE.out; omega))
  clear JC jc hSc b3 F2 J2
  go_wp2_with fail
  refine AL.out.mono ?_
  rintro e w4 ⟨ls, rfl, har, hls, b4⟩
  obtain ⟨n, hn⟩ : ∃ n, ls.length = n := ⟨_, rfl⟩
  rw [hn] at har ⊢
  have HN := Lib.hid hn
  have HAR := Lib.hid har
  have HLS := Lib.hid hls
  have hn20 : n ≤ 20 := by
    have h1 := HLE.out
    have h2 := congrArg List.length hls
    rw [List.length_map] at h2
    omega
  have JC4 := Lib.hid (JC3.out.below b4)
  have JJ4 := Lib.hid (JJ3.out.below b4)
  have F4 := Lib.hid (F3.out.then_ b4)
  obtain ⟨gA, hgA⟩ : ∃ gA, w3.heap.size = gA := ⟨_, rfl⟩
  rw [hgA] at HAR ⊢
  clear AL har hls b4 hn F3 JC3 JJ3 hgA
  go_wp2_with fail
  go_loopg [8] n (fun gk i wr => ∃ k : Nat, gk = n - k ∧ k ≤ n ∧ i = .int .i64 k ∧ Hid (Below w4.heap.size w4 wr))
  case atStart => exact ⟨0, rfl, Nat.zero_le _, rfl, Below.refl _ _⟩
  case round =>
    obtain ⟨k, hgk, hk, rfl, hB⟩ := hrel
    have HGK := Lib.hid hgk
    clear hgk
    by_cases hlt : k < n
    · have hkl : k < ls.length := by rw [HN.out]; exact hlt
      have cL := meCells_cut ls k hkl
      have harl := HAR.out
      rw [← HN.out] at harl
      obtain ⟨b2, o2, hbo2, hb2, hcl2⟩ := harl.reads.chunk (by omega) hkl cL
      injection hbo2 with hbo2
      injection hbo2 with hbo4 hbo5
      subst hbo4 hbo5
      obtain ⟨_, okl, ril⟩ := HAR.out.own _ (List.getElem_mem hkl)
      have hmem : Hid ((ls[k]).en ∈ es) := by rw [Hid, ← HLS.out]; exact List.mem_map.2 ⟨_, List.getElem_mem hkl, rfl⟩
      generalize ls[k] = m at *
      have hlB : gA < w4.heap.size := HAR.out.lt
      have hcl2' : ∀ j u, m.cells[j]? = some u → w4.cell? ⟨gA, k * 3 + j, none⟩ = some u := fun j u hu => by
        have := hcl2 j u hu
        rwa [Nat.zero_add] at this
      have hpl : PlOk m.kind m.key := ⟨okl.lo, okl.hi, okl.sz⟩
      have HIS : Hid ((lastE es (m.kind, tlB m.key)).isSome = true) := lastE_of_mem hmem.out
      have HIC : Hid ((lastE cs (m.kind, tlB m.key)).isSome = true) := by rw [Hid, HLC.out]; exact HIS.out
      have K0 : Hid (∀ W, Below w4.heap.size w4 W → W.cell? ⟨gA, k * 3, none⟩ = some (.int .i64 m.kind) ∧ W.cell? ⟨gA, k * 3 + 1, none⟩ = some (.string m.key)) := fun W hW =>
        ⟨(hW.cell (p := ⟨gA, k * 3, none⟩) hlB).trans (hcl2' 0 _ rfl), (hW.cell (p := ⟨gA, k * 3 + 1, none⟩) hlB).trans (hcl2' 1 _ rfl)⟩
      have KBa : Hid (∀ W, Below wr.heap.size wr W → W.cell? ⟨gA, k * 3, none⟩ = some (.int .i64 m.kind) ∧ W.cell? ⟨gA, k * 3 + 1, none⟩ = some (.string m.key)) := fun W hW => K0.out W (hB.out.then_ hW)
      have CJ : Hid (∀ W, Below wr.heap.size wr W → Calls Try.prog 26 #[.pointer (some ⟨g, 0, none⟩), .int .i64 m.kind, .string m.key] W (LastYes W es (m.kind, tlB m.key))) := fun W hW => jlast_yes S g es m.kind m.key W (JJ4.out.below (hB.out.then_ hW)) hpl HIS.out
      have g1 : (0 : Int) ≤ (k : Int) := by omega
      have g2 : (k : Int) < (n : Int) := by omega
      have HPL := Lib.hid hpl
      clear hcl2 hcl2' cL harl okl ril hmem hpl
      go_upto_region 9 with fail
      have FR0 := (Below.refl wr.heap.size wr).drew
      have FR00 := Below.refl wr.heap.size wr
      go_cut [9, 10] (fun q e wc => ∃ (g9 : Nat) (m9 : Me), q = .pointer (some ⟨g9, 0, none⟩) ∧ e = .bool true ∧ Hid (Blk wc g9 45 #[.int .i64 m9.kind, .string m9.key, .slice m9.A m9.n m9.c]) ∧ Hid (lastE es (m.kind, tlB m.key) = some m9.en) ∧ Hid (m9.Ok (fun k => wr.heap.size ≤ k) wc) ∧ Hid m9.Right ∧ wr.heap.size ≤ g9 ∧ Below wr.heap.size wr wc)
      case first =>
        go_region_held3 (fun W => W.cell? ⟨gA, k * 3, none⟩ = some (.int .i64 m.kind) ∧ W.cell? ⟨gA, k * 3 + 1, none⟩ = some (.string m.key))
          (first | exact KBa.out _ FR0 | exact KBa.out _ FR | exact KBa.out _ (FR.al _) | exact KBa.out _ ((FR00.al _).drew) | exact KBa.out _ (((FR.setCell (Nat.le_refl _) _).setCell (Nat.le_refl _) _).setCell (Nat.le_refl _) _) | exact KBa.out _ ((((FR.al _).setCell FR.size _).setCell FR.size _).setCell FR.size _))
          (first
            | (go_at_call 26; (with_reducible refine (CJ.out wr.drew FR0).mono ?_); rintro e w4 ⟨m9, rfl, hl9, ok9, ri9, b4⟩; unfold Me.val; have FR := FR0.then_ b4)
            | (go_at_call 26; (with_reducible refine (CJ.out _ (FR00.al (.cells #[.int .i64 0, .string ⟨#[]⟩, .slice none 0 0] 45)).drew).mono ?_); rintro e w4 ⟨m9, rfl, hl9, ok9, ri9, b4⟩; unfold Me.val; have FR := (FR00.al (.cells #[.int .i64 0, .string ⟨#[]⟩, .slice none 0 0] 45)).drew.then_ b4; have n4 := (Blk.new wr 45 #[.int .i64 0, .string ⟨#[]⟩, .slice none 0 0]).drew.below b4 (by simp); have y0 : w4.cell? ⟨wr.heap.size, 0, none⟩ = some (.int .i64 0) := n4.cell 0; have y1 : w4.cell? ⟨wr.heap.size, 1, none⟩ = some (.string ⟨#[]⟩) := n4.cell 1; have y2 : w4.cell? ⟨wr.heap.size, 2, none⟩ = some (.slice none 0 0) := n4.cell 2; have q0 := n4.frozen 0; have q1 := n4.frozen 1; have q2 := n4.frozen 2))
        all_goals
          go_wp2_with fail
          go_meet
          case rel => first
            | exact ⟨wr.heap.size, m9, rfl, rfl, ((n4.set_ 0 _).set_ 1 _).set_ 2 _, hl9, (ok9.kept (Kept.rput w4 wr.heap.size _ _ _) (fun q hq e => by simp at hq; omega)).mono (fun q _ hq => by simp at hq; omega), ri9, Nat.le_refl _, ((FR.setCell (Nat.le_refl _) _).setCell (Nat.le_refl _) _).setCell (Nat.le_refl _) _⟩
            | exact ⟨w4.heap.size, m9, rfl, rfl, Blk.new _ _ _, hl9, (ok9.below ((Below.refl _ w4).al _)).mono (fun q _ hq => hq), ri9, FR.size, FR.al _⟩
      case rest =>
        obtain ⟨ga, ma, rfl, rfl, Bga, Lga, Oga, Rga, Gga, Fga⟩ := hcut
        obtain ⟨wa, rfl⟩ : ∃ x, x = wc := ⟨_, rfl⟩
        clear FR0 FR00
        have FA : Hid (Below w4.heap.size w4 wa) := hB.out.then_ Fga
        have CC : Hid (∀ W, Below wa.heap.size wa W → Calls Try.prog 26 #[.pointer (some ⟨gc, 0, none⟩), .int .i64 m.kind, .string m.key] W (LastYes W cs (m.kind, tlB m.key))) := fun W hW => jlast_yes Sc gc cs m.kind m.key W (JC4.out.below (FA.out.then_ hW)) HPL.out HIC.out
        have KBb : Hid (∀ W, Below wa.heap.size wa W → W.cell? ⟨gA, k * 3, none⟩ = some (.int .i64 m.kind) ∧ W.cell? ⟨gA, k * 3 + 1, none⟩ = some (.string m.key)) := fun W hW => K0.out W (FA.out.then_ hW)
        clear CJ KBa Fga hB
        go_upto_region 10 with fail
        have FR0 := (Below.refl wa.heap.size wa).drew
        have FR00 := Below.refl wa.heap.size wa
        go_cut [11, 12] (fun q e wc => ∃ (g9 : Nat) (m9 : Me), q = .pointer (some ⟨g9, 0, none⟩) ∧ e = .bool true ∧ Hid (Blk wc g9 45 #[.int .i64 m9.kind, .string m9.key, .slice m9.A m9.n m9.c]) ∧ Hid (lastE cs (m.kind, tlB m.key) = some m9.en) ∧ Hid (m9.Ok (fun k => wa.heap.size ≤ k) wc) ∧ Hid m9.Right ∧ wa.heap.size ≤ g9 ∧ Below wa.heap.size wa wc)
        case first =>
          go_region_held3 (fun W => W.cell? ⟨gA, k * 3, none⟩ = some (.int .i64 m.kind) ∧ W.cell? ⟨gA, k * 3 + 1, none⟩ = some (.string m.key))
            (first | exact KBb.out _ FR0 | exact KBb.out _ FR | exact KBb.out _ (FR.al _) | exact KBb.out _ ((FR00.al _).drew) | exact KBb.out _ (((FR.setCell (Nat.le_refl _) _).setCell (Nat.le_refl _) _).setCell (Nat.le_refl _) _) | exact KBb.out _ ((((FR.al _).setCell FR.size _).setCell FR.size _).setCell FR.size _))
            (first
              | (go_at_call 26; (with_reducible refine (CC.out wa.drew FR0).mono ?_); rintro e w4 ⟨m9, rfl, hl9, ok9, ri9, b4⟩; unfold Me.val; have FR := FR0.then_ b4)
              | (go_at_call 26; (with_reducible refine (CC.out _ (FR00.al (.cells #[.int .i64 0, .string ⟨#[]⟩, .slice none 0 0] 45)).drew).mono ?_); rintro e w4 ⟨m9, rfl, hl9, ok9, ri9, b4⟩; unfold Me.val; have FR := (FR00.al (.cells #[.int .i64 0, .string ⟨#[]⟩, .slice none 0 0] 45)).drew.then_ b4; have n4 := (Blk.new wa 45 #[.int .i64 0, .string ⟨#[]⟩, .slice none 0 0]).drew.below b4 (by simp); have y0 : w4.cell? ⟨wa.heap.size, 0, none⟩ = some (.int .i64 0) := n4.cell 0; have y1 : w4.cell? ⟨wa.heap.size, 1, none⟩ = some (.string ⟨#[]⟩) := n4.cell 1; have y2 : w4.cell? ⟨wa.heap.size, 2, none⟩ = some (.slice none 0 0) := n4.cell 2; have q0 := n4.frozen 0; have q1 := n4.frozen 1; have q2 := n4.frozen 2))
          all_goals
            go_wp2_with fail
            go_meet
            case rel => first
              | exact ⟨wa.heap.size, m9, rfl, rfl, ((n4.set_ 0 _).set_ 1 _).set_ 2 _, hl9, (ok9.kept (Kept.rput w4 wa.heap.size _ _ _) (fun q hq e => by simp at hq; omega)).mono (fun q _ hq => by simp at hq; omega), ri9, Nat.le_refl _, ((FR.setCell (Nat.le_refl _) _).setCell (Nat.le_refl _) _).setCell (Nat.le_refl _) _⟩
              | exact ⟨w4.heap.size, m9, rfl, rfl, Blk.new _ _ _, hl9, (ok9.below ((Below.refl _ w4).al _)).mono (fun q _ hq => hq), ri9, FR.size, FR.al _⟩
        case rest =>
          obtain ⟨gb, mb, rfl, rfl, Bgb, Lgb, Ogb, Rgb, Ggb, Fgb⟩ := hcut
          obtain ⟨wb, rfl⟩ : ∃ x, x = wc := ⟨_, rfl⟩
          clear FR0 FR00
          have FB : Hid (Below w4.heap.size w4 wb) := FA.out.then_ Fgb
          have Xa := Lib.hid (Bga.out.below Fgb Bga.out.lt)
          have Ya := Lib.hid (Oga.out.below Fgb)
          have hsame : Hid (sameE ma.en mb.en = true) := sameE_iff.2 (by
            have h1 := Lga.out
            have h2 := Lgb.out
            rw [HLC.out, h1] at h2
            exact Option.some.inj h2)
          have rr : Below wb.heap.size wb wb.drew := (Below.refl _ wb).drew
          have K2 : Hid (∀ W, Below wb.heap.size wb W → W.cell? ⟨gA, k * 3, none⟩ = some (.int .i64 m.kind) ∧ W.cell? ⟨ga, 0, none⟩ = some (.int .i64 ma.kind) ∧ W.cell? ⟨ga, 1, none⟩ = some (.string ma.key) ∧ W.cell? ⟨ga, 2, none⟩ = some (.slice ma.A ma.n ma.c) ∧ W.cell? ⟨gb, 0, none⟩ = some (.int .i64 mb.kind) ∧ W.cell? ⟨gb, 1, none⟩ = some (.string mb.key) ∧ W.cell? ⟨gb, 2, none⟩ = some (.slice mb.A mb.n mb.c)) := fun W hW => by
            have h1 := Xa.out.below hW Xa.out.lt
            have h2 := Bgb.out.below hW Bgb.out.lt
            exact ⟨(K0.out W (FB.out.then_ hW)).1, h1.cell 0, h1.cell 1, h1.cell 2, h2.cell 0, h2.cell 1, h2.cell 2⟩
          have KJ : Hid (∀ W, Below wb.heap.size wb W → Calls Try.prog 29 #[.pointer (some ⟨g, 0, none⟩), .int .i64 m.kind] W (KeysGot W m.kind es)) := fun W hW => jkeys_any S g es m.kind W (JJ4.out.below (FB.out.then_ hW)) (by have := HLE.out; omega)
          have KC : Hid (∀ W, Below wb.heap.size wb W → Calls Try.prog 29 #[.pointer (some ⟨gc, 0, none⟩), .int .i64 m.kind] W (KeysGot W m.kind cs)) := fun W hW => jkeys_any Sc gc cs m.kind W (JC4.out.below (FB.out.then_ hW)) (by have := HCL.out; omega)
          obtain ⟨L, hL⟩ : ∃ L, (keysE m.kind [] es).length = L := ⟨_, rfl⟩
          have HL := Lib.hid hL
          have hma : ma.n ≤ 65536 := Rga.out.2.2.2
          have hmb : mb.n ≤ 65536 := Rgb.out.2.2.2
          clear CC KBb Fgb Bga Oga Lga Lgb Rga Rgb hL
          go_upto_region 11 with fail
          go_region_held3 (fun W => W.cell? ⟨gA, k * 3, none⟩ = some (.int .i64 m.kind) ∧ W.cell? ⟨ga, 0, none⟩ = some (.int .i64 ma.kind) ∧ W.cell? ⟨ga, 1, none⟩ = some (.string ma.key) ∧ W.cell? ⟨ga, 2, none⟩ = some (.slice ma.A ma.n ma.c) ∧ W.cell? ⟨gb, 0, none⟩ = some (.int .i64 mb.kind) ∧ W.cell? ⟨gb, 1, none⟩ = some (.string mb.key) ∧ W.cell? ⟨gb, 2, none⟩ = some (.slice mb.A mb.n mb.c))
            (with_reducible exact K2.out _ rr)
            (first
            | (go_at_call 13; refine (esame_any _ _ ma mb _ (Ya.out.below rr) (Ogb.out.below rr) (by omega) (by omega)).mono ?_; rintro e w8 ⟨rfl, b8⟩; have rr := rr.then_ b8; rw [hsame.out])
            | (go_at_call 29; (with_reducible refine (KJ.out _ rr).mono ?_); rintro e w8 ⟨v8, ks8, rfl, o8, hk8, b8⟩; have rr := rr.then_ b8; obtain ⟨A8, c8, rfl, -, -, -⟩ := own_form o8; have hkl8 : ks8.length = L := (by have h1 := congrArg List.length hk8; rw [List.length_map, HL.out] at h1; exact h1); rw [hkl8])
            | (go_at_call 29; (with_reducible refine (KC.out _ rr).mono ?_); rintro e w9 ⟨v9, ks9, rfl, o9, hk9, b9⟩; have rr := rr.then_ b9; obtain ⟨A9, c9, rfl, -, -, -⟩ := own_form o9; have hkl9 : ks9.length = L := (by have h1 := congrArg List.length hk9; rw [List.length_map, HKC.out, HL.out] at h1; exact h1); rw [hkl9]))
          have FR := Lib.hid (FB.out.then_ rr)
          clear K2 KJ KC rr FB FA Xa Ya Bgb Ogb
          go_wp2_with fail
          go_roundg (n - (k + 1))
          case measure => have := HGK.out; omega
          case rel => exact ⟨k + 1, rfl, by omega, by go_num, FR⟩
    · obtain rfl : k = n := by omega
      have JJ5 := Lib.hid (JJ4.out.below hB.out)
      have JC5 := Lib.hid (JC4.out.below hB.out)
      have F5 := Lib.hid (F4.out.then_ hB.out)
      obtain ⟨w5, rfl⟩ : ∃ x, x = wr := ⟨_, rfl⟩
      clear JJ4 JC4 F4 hB HAR
      have JD := Lib.hid (jcut_any Sc gc cs w5 JC5.out (by have := HCL.out; omega))
      rw [HCC.out] at JD
      go_wp2_with fail
      refine JD.out.mono ?_
      rintro e w6 ⟨Sd, gd, rfl, jd, hSd, b6⟩
      have JD6 := Lib.hid jd
      have JJ6 := Lib.hid (JJ5.out.below b6)
      have JC6 := Lib.hid (JC5.out.below b6)
      have F6 := Lib.hid (F5.out.then_ b6)
      clear JD jd hSd b6 JJ5 JC5 F5
      go_wp2_with fail
      refine (known_any w6).mono ?_
      rintro e w7 ⟨rfl, b7⟩
      have JD7 := Lib.hid (JD6.out.below b7)
      have JJ7 := Lib.hid (JJ6.out.below b7)
      have JC7 := Lib.hid (JC6.out.below b7)
      have F7 := Lib.hid (F6.out.then_ b7)
      clear b7 JD6 JJ6 JC6 F6
      go_wp2_with fail
      refine (jsame_any Sd Sc gd gc cs cs w7 JD7.out JC7.out (by have := HCL.out; omega)).mono ?_
      rintro e w8 ⟨rfl, b8⟩
      rw [decide_eq_true rfl]
      have JJ8 := Lib.hid (JJ7.out.below b8)
      have JC8 := Lib.hid (JC7.out.below b8)
      have F8 := Lib.hid (F7.out.then_ b8)
      clear b8 JD7 JJ7 JC7 F7
      go_wp2_with fail
      refine (jlen_any Sc gc cs w8 JC8.out).mono ?_
      rintro e w9 ⟨rfl, rfl⟩
      go_wp2_with fail
      refine (jlen_any S g es w8 JJ8.out).mono ?_
      rintro e w9 ⟨rfl, rfl⟩
      have hle : (cs.length : Int) ≤ (es.length : Int) := by have := HCN.out; omega
      go_wp2_with fail
      go_ret
      exact ⟨rfl, F8.out⟩
end Go.Proofs.Ytidppcaohkfnfaa
