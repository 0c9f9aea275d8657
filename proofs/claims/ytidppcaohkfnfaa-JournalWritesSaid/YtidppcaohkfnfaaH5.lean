
/-
  package hash: what is left behind the eights; the digest of bytes.
-/
import Derived.Test.YtidppcaohkfnfaaH4
import Derived.Laws.CopyOwn
import Derived.Deep.DeepCutAuto
namespace Go.Proofs.Ytidppcaohkfnfaa
open Go.RowKit

theorem u8one : (Try.prog.info? 5).map (·.size) = some 1 := by kernel_rfl
abbrev zero8l : List Value := [.int .u8 0, .int .u8 0, .int .u8 0, .int .u8 0, .int .u8 0, .int .u8 0, .int .u8 0, .int .u8 0]
theorem last_word (l : List UInt8) : ((splice zero8l 0 (B8 (l.drop (l.length / 8 * 8)))).toArray.setIfInBounds (l.length - l.length / 8 * 8) (.int .u8 1)) =
    #[.int .u8 (word l (l.length / 8) 0), .int .u8 (word l (l.length / 8) 1), .int .u8 (word l (l.length / 8) 2), .int .u8 (word l (l.length / 8) 3), .int .u8 (word l (l.length / 8) 4), .int .u8 (word l (l.length / 8) 5), .int .u8 (word l (l.length / 8) 6), .int .u8 (word l (l.length / 8) 7)] := by
  have hr : l.length - l.length / 8 * 8 < 8 := by omega
  obtain ⟨m, hm⟩ : ∃ m, l.length / 8 = m := ⟨_, rfl⟩
  have hm8 : m * 8 ≤ l.length := by omega
  have hm9 : l.length < m * 8 + 8 := by omega
  rw [hm] at hr ⊢
  have hl : (B8 (l.drop (m * 8))).length = l.length - m * 8 := by rw [B8_length, List.length_drop]
  have key : (splice zero8l 0 (B8 (l.drop (m * 8)))).set (l.length - m * 8) (.int .u8 1) = (List.range 8).map fun j => .int .u8 (word l m j) := by
    apply List.ext_getElem?
    intro i
    rw [List.getElem?_set, List.getElem?_map]
    have hs : (splice zero8l 0 (B8 (l.drop (m * 8)))).length = 8 := length_splice _ _ _ (by rw [hl]; simp; omega)
    rw [hs]
    rcases Nat.lt_or_ge i 8 with h8 | h8
    · rw [List.getElem?_range h8]
      simp only [Option.map_some]
      by_cases h1 : l.length - m * 8 = i
      · rw [if_pos h1, if_pos (by omega)]
        unfold word
        rw [show 8 * m + i = l.length from by omega, pad_end]
      · rw [if_neg h1]
        unfold splice word
        simp only [List.take_zero, List.nil_append, Nat.zero_add, hl]
        rcases Nat.lt_or_ge i (l.length - m * 8) with h2 | h2
        · rw [List.getElem?_append_left (by rw [hl]; exact h2), B8_at (by rw [List.length_drop]; exact h2), List.getElem_drop, pad_in (by omega)]
          simp only [show 8 * m + i = m * 8 + i from by omega]
        · rw [List.getElem?_append_right (by rw [hl]; exact h2), hl, List.getElem?_drop, pad_out (by omega)]
          have h3 : l.length - m * 8 + (i - (l.length - m * 8)) = i := by omega
          rw [h3]
          match i, h8 with
          | 0, _ => rfl
          | 1, _ => rfl
          | 2, _ => rfl
          | 3, _ => rfl
          | 4, _ => rfl
          | 5, _ => rfl
          | 6, _ => rfl
          | 7, _ => rfl
    · rw [List.getElem?_eq_none (l := List.range 8) (by simpa using h8), if_neg (by omega), List.getElem?_eq_none (by omega)]
      rfl
  have := congrArg List.toArray key
  simpa [List.range, List.range.loop] using this

set_option maxHeartbeats 1000000 in
set_option maxRecDepth 100000 in
theorem end_any (g t : Nat) (s : S4) (A : Option Addr) (n c : Nat) (l : List UInt8) (w : World) (hb : Blk w g t (sc s)) (hr : RIn (fun k => k ≠ g) w A n l) (hc : n ≤ c) (hn : c ≤ 9223372036854775807) :
    Calls Try.prog 76 #[.pointer (some ⟨g, 0, none⟩), .slice A n c] w fun e w' => e = .returned (.tuple #[]) ∧ Blk w' g t (sc (inS (inS s (num8 (word l (n / 8)))) n)) ∧ Kept (fun k => k = g) w w' := by
  have hlen := hr.1
  have LW := last_word l
  rw [← hlen] at LW
  have hm : (n : Int) / 8 = ((n / 8 : Nat) : Int) := by omega
  have hm8 : (n / 8) * 8 ≤ n := by omega
  have hm9 : n < (n / 8) * 8 + 8 := by omega
  generalize n / 8 = m at *
  obtain ⟨cs, hcs⟩ : ∃ cs, cs = B8 (l.drop (m * 8)) := ⟨_, rfl⟩
  have hcl : cs.length = n - m * 8 := by rw [hcs, B8_length, List.length_drop, hlen]
  rw [← hcs] at LW
  have rd := (hr.rb.cut (k := m * 8) hm8 hc).alloc (.cells zero8 88)
  have one : ∀ v ∈ cs, v.oneCell' = true := by rw [hcs]; exact B8_one _
  have y0 := Blk.new w 88 zero8
  have f0 := (Below.refl _ w).al (.cells zero8 88)
  obtain ⟨r, hrr⟩ : ∃ r, r = n - m * 8 := ⟨_, rfl⟩
  rw [← hrr] at LW hcl rd
  have hr8 : r < 8 := by omega
  have HCS := Lib.hid hcs
  have HCL := Lib.hid hcl
  have HLW := Lib.hid LW
  have HRR := Lib.hid hrr
  have HLEN := Lib.hid hlen
  clear hcs hcl LW hrr hlen hr
  have ylt := y0.lt
  have g0 : (0 : Int) ≤ (m : Int) * 8 := by omega
  have g1 : (m : Int) * 8 ≤ (n : Int) := by omega
  have g2 : (m : Int) * 8 ≤ (c : Int) := by omega
  have g3 : (n : Int) ≤ (c : Int) := by omega
  have HY := Lib.hid y0
  have HB := Lib.hid hb
  clear y0 hb
  obtain ⟨sp, hsp⟩ : ∃ sp, sp = (if c = m * 8 then A else A.map (·.add (m * 8))) := ⟨_, rfl⟩
  rw [← hsp] at rd
  have hpos : 0 < cs.length → ∃ ad, sp = some ad ∧ ∀ j v, cs[j]? = some v → (w.alloc (.cells zero8 88)).drew.cell? (ad.add j) = some v := by
    intro h
    obtain ⟨ad, e, _, hc⟩ := rd.2 (by rw [← HCL.out]; exact h)
    exact ⟨ad, e, fun j v hv => hc j v (by rw [← HCS.out]; exact hv)⟩
  have HP := Lib.hid hpos
  have HRD := Lib.hid rd
  clear hpos rd
  have hmin : cs.length = Nat.min (n - m * 8) 8 := by
    have h1 := HCL.out
    have h2 := HRR.out
    have h3 : Nat.min (n - m * 8) 8 = min (n - m * 8) 8 := rfl
    omega
  have hfit : 0 + cs.length ≤ zero8l.length := by
    have h1 := HCL.out
    show 0 + cs.length ≤ 8
    omega
  have HMIN := Lib.hid hmin
  clear hmin
  have hw : IntKind.i64.wrap ((m : Int) * 8) = (m : Int) * 8 := IntWalk.i64_in _ (by omega)
  have hw0 : IntKind.i64.wrap (m : Int) = (m : Int) := IntWalk.i64_in _ (by omega)
  have htn : ((m : Int) * 8).toNat = m * 8 := by omega
  have HSP := Lib.hid hsp
  clear hsp
  go_enter Try.func76, Try.ntmps76
  go_wp2_with fail
  go_upto_region 2 with fail
  go_cut [5] (fun v wc => v = .int .i64 r ∧ Blk wc w.heap.size 88 (splice zero8l 0 cs).toArray ∧ Below w.heap.size w wc)
  case first =>
    have hsp := HSP.out
    clear HSP HB
    rcases Nat.lt_or_ge (m * 8) c with hca | hca
    · rw [if_neg (by omega)] at hsp
      subst hsp
      have hne : c ≠ m * 8 := by omega
      go_region_held3 (fun _ => True) (trivial)
        (first | (refine step_copy_splice rfl (.tmp 6) (.tmp 12) 29 29 (by rfl) 5 Try.underlying29 u8one _ _ _ _ _ _ (by rfl) (by rfl) w.heap.size 0 zero8l 88 (by exact HY.out) cs HMIN.out (fun h => ⟨rfl, HP.out h⟩) hfit one w.heap.size w (by exact f0.drew) (Nat.le_refl _) ?_; intro w1 HG b1))
      clear hw hw0 htn
      go_wp2_with fail
      go_meet
      case rel => exact ⟨by rw [HCL.out], HG.out, b1⟩
    · obtain rfl : c = m * 8 := by omega
      rw [if_pos rfl] at hsp
      subst hsp
      have HM0 : Hid (cs.length = Nat.min 0 8) := by
        have h1 := HCL.out
        have h2 := HRR.out
        have h3 : Nat.min 0 8 = 0 := rfl
        show cs.length = _
        omega
      go_region_held3 (fun _ => True) (trivial)
        (first | (refine step_copy_splice rfl (.tmp 6) (.tmp 12) 29 29 (by rfl) 5 Try.underlying29 u8one _ _ _ _ _ _ (by rfl) (by rfl) w.heap.size 0 zero8l 88 (by exact HY.out) cs HM0.out (fun h => ⟨rfl, HP.out h⟩) hfit one w.heap.size w (by exact f0.drew) (Nat.le_refl _) ?_; intro w1 HG b1))
      clear hw hw0 htn
      go_wp2_with fail
      go_meet
      case rel => exact ⟨by rw [HCL.out], HG.out, b1⟩
  case rest =>
    obtain ⟨rfl, y1, b1⟩ := hcut
    clear hw hw0 htn HY HSP HP HRD
    have hsl : (splice zero8l 0 cs).length = 8 := length_splice _ _ _ hfit
    obtain ⟨v, hv⟩ : ∃ v, wc.cell? ⟨w.heap.size, r, none⟩ = some v := ⟨_, (y1.cell r).trans (Array.getElem?_eq_getElem (by simp; omega))⟩
    have hfr := y1.frozen r
    have y2 : Blk (wc.setCell ⟨w.heap.size, r, none⟩ (.int .u8 1)) w.heap.size 88 _ := y1.set_ r (.int .u8 1)
    rw [HLW.out] at y2
    have b2 := b1.setCell (p := ⟨w.heap.size, r, none⟩) (Nat.le_refl _) (.int .u8 1)
    have q0 : (0 : Int) ≤ (r : Int) := by omega
    have q1 : (r : Int) < 8 := by omega
    clear y1 b1 hsl hfit
    go_upto_region 3 with fail
    generalize wc.setCell ⟨w.heap.size, r, none⟩ (.int .u8 1) = w2 at *
    obtain ⟨⟨k0, k1, k2, k3, k4, k5, k6, k7⟩, _⟩ := y2.eight
    clear hv hfr y2
    go_wp2_with fail
    refine (hnum_any (word l m) _ (word_by l m)).mono ?_
    rintro e w3 ⟨rfl, b3⟩
    have fr3 := b2.trans (b3.mono b2.size)
    have hb3 := HB.out.below fr3 HB.out.lt
    clear k0 k1 k2 k3 k4 k5 k6 k7
    go_wp2_with fail
    refine (take_any g t _ _ w3 hb3).mono ?_
    rintro e w4 ⟨rfl, hb4, kk4⟩
    go_wp2_with fail
    refine (take_any g t _ _ w4 hb4).mono ?_
    rintro e w5 ⟨rfl, hb5, kk5⟩
    go_wp2_with fail
    go_end0
    exact ⟨rfl, hb5, ((Kept.of_below (S := fun k => k = g) fr3).trans kk4).trans kk5⟩
end Go.Proofs.Ytidppcaohkfnfaa
