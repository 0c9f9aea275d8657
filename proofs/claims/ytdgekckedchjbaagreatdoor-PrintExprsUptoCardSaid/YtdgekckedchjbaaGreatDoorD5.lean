
/-
  The document's parser of expressions: plain. (Printed by wip/tools/gend5.py.)
-/
import Derived.Test.YtdgekckedchjbaaGreatDoorD4
namespace Go.Proofs.YtdgekckedchjbaaGreatDoor
open Go.RowKit

section
variable {base i : Nat} {ts : List Tk} {p q : PR} {er : Int} {cs cs' : List Value} {w : World} {x : List UInt8} {k : Ex → Ex}
theorem DRes.must (r : DRes base ts p i 0 cs w) (hq : q = p.thenMust x k) (hx : hasT x (ts.drop i) = true) (hc : ∀ y : Ex, GC (fun z => base ≤ z) w 2513169434843 y.dep cs y.gx → GC (fun z => base ≤ z) w 2513169434843 (k y).dep cs' (k y).gx) : DRes base ts q (i + 1) 0 cs' w := by
  rcases r with ⟨_, y, h2, h3⟩ | ⟨h, _⟩
  · refine .inl ⟨rfl, k y, ?_, hc y h3⟩
    rw [hq, h2]
    show mustT x (k y) (ts.drop i) = _
    unfold mustT
    rw [if_pos hx, List.tail_drop]
  · exact absurd rfl h
theorem DRes.mustnot (r : DRes base ts p i 0 cs w) (hq : q = p.thenMust x k) (hx : hasT x (ts.drop i) = false) {j : Nat} (he : er ≠ 0) : DRes base ts q j er cs' w := by
  rcases r with ⟨_, y, h2, h3⟩ | ⟨h, _⟩
  · refine .inr ⟨he, ts.drop i, wrongT (ts.drop i), ?_⟩
    rw [hq, h2]
    show mustT x (k y) (ts.drop i) = _
    unfold mustT
    rw [hx, if_neg (by decide)]
  · exact absurd rfl h
theorem DRes.mustbad (r : DRes base ts p i er cs w) (he : er ≠ 0) (hq : q = p.thenMust x k) {j : Nat} : DRes base ts q j er cs' w := by
  rcases r with ⟨h, _⟩ | ⟨_, r, e, h⟩
  · exact absurd h he
  · exact .inr ⟨he, r, e, by rw [hq, h]; rfl⟩
end

set_option maxHeartbeats 4000000 in
set_option maxRecDepth 100000 in
theorem plain_step (g c : Nat) (A : Option Addr) (ts : List Tk) (d : Nat) (hd : d ≤ 15) (HU : RUnderOk g c A ts d) (HE : RExprOk g c A ts d) : RPlainOk g c A ts (d + 1) := by
  intro dp i w hdp h
  obtain ⟨t, ht⟩ := h.one
  have HT := Lib.hid (drop_tok ht)
  have HTK := Lib.hid ht
  have HUU := Lib.hid HU
  have HEE := Lib.hid HE
  clear HU HE ht
  have HH := Lib.hid h
  have hgl := h.blk.lt
  have hlim := h.lim
  have hat := h.at_
  have wd : IntKind.i64.wrap (dp + 1) = dp + 1 := IntWalk.i64_in _ ⟨by omega, by omega⟩
  have x1 := Blk.new w 24 #[.int .i64 0, .int .i64 0, .string ⟨#[]⟩, .slice none 0 0]
  have f1 : Below w.heap.size w (w.alloc (.cells #[.int .i64 0, .int .i64 0, .string ⟨#[]⟩, .slice none 0 0] 24)) := (Below.refl _ w).al _
  have D1 := Lib.hid (h.below f1)
  have K1 := Lib.hid (Kept.of_below (S := fun z => z = g) f1)
  have X1 := Lib.hid x1
  clear h
  go_enter Tryz.func119, Tryz.ntmps119
  go_upto_region 1 with fail
  generalize w.alloc (.cells #[.int .i64 0, .int .i64 0, .string ⟨#[]⟩, .slice none 0 0] 24) = W1 at *
  clear x1 f1
  have c2 : W1.cell? ⟨g, 2, none⟩ = some (.int .i64 0) := D1.out.blk.cell 2
  have IS1 := Lib.hid (is_any g c A ts (i) 0 ⟨#[45]⟩ W1 D1.out)
  rw [show (⟨#[45]⟩ : ByteArray).data.toList = [45] from rfl] at IS1
  obtain ⟨b45, hb45⟩ : ∃ b, hasT [45] (ts.drop (i)) = b := ⟨_, rfl⟩
  rw [hb45] at IS1
  have Hb45 := Lib.hid hb45
  clear hb45
  go_wp2_with fail
  refine IS1.out.mono ?_
  rintro e w2 ⟨rfl, b2⟩
  have D2 := Lib.hid (D1.out.below b2)
  have K2 := Lib.hid (K1.out.below_ b2)
  have X2 := Lib.hid (X1.out.below b2 X1.out.lt)
  clear b2
  clear c2
  cases b45
  · have IS2 := Lib.hid (is_any g c A ts (i) 0 ⟨#[110, 111, 116]⟩ w2 D2.out)
    rw [show (⟨#[110, 111, 116]⟩ : ByteArray).data.toList = [110, 111, 116] from rfl] at IS2
    obtain ⟨bn, hbn⟩ : ∃ b, hasT [110, 111, 116] (ts.drop (i)) = b := ⟨_, rfl⟩
    rw [hbn] at IS2
    have Hbn := Lib.hid hbn
    clear hbn
    go_wp2_with fail
    refine IS2.out.mono ?_
    rintro e w3 ⟨rfl, b3⟩
    have D3 := Lib.hid (D2.out.below b3)
    have K3 := Lib.hid (K2.out.below_ b3)
    have X3 := Lib.hid (X2.out.below b3 X2.out.lt)
    clear b3
    cases bn
    · have IS3 := Lib.hid (is_any g c A ts (i) 0 ⟨#[40]⟩ w3 D3.out)
      rw [show (⟨#[40]⟩ : ByteArray).data.toList = [40] from rfl] at IS3
      obtain ⟨bp, hbp⟩ : ∃ b, hasT [40] (ts.drop (i)) = b := ⟨_, rfl⟩
      rw [hbp] at IS3
      have Hbp := Lib.hid hbp
      clear hbp
      go_wp2_with fail
      refine IS3.out.mono ?_
      rintro e w4 ⟨rfl, b4⟩
      have D4 := Lib.hid (D3.out.below b4)
      have K4 := Lib.hid (K3.out.below_ b4)
      have X4 := Lib.hid (X3.out.below b4 X3.out.lt)
      clear b4
      cases bp
      · have NW := Lib.hid (now_any g c A ts i 0 w4 D4.out t HTK.out)
        go_wp2_with fail
        refine NW.out.mono ?_
        rintro e w5 ⟨rfl, b5⟩
        have D5 := Lib.hid (D4.out.below b5)
        have K5 := Lib.hid (K4.out.below_ b5)
        have X5 := Lib.hid (X4.out.below b5 X4.out.lt)
        clear b5 NW
        by_cases k2 : t.kind = 2
        · have NB : Hid (Calls Tryz.prog 103 #[.pointer (some ⟨g, 0, none⟩)] w5 (DTo w5 g c A ts (.int .i64 t.n) (i + 1) 0)) := (rnumber_any g c A ts i w5 D5.out t HTK.out).mono (fun e w' h => by
            unfold TakeTo at h
            rw [decide_eq_true k2, if_pos rfl] at h
            exact h)
          have e2 : ((t.kind : Int) == 2) = true := by simp [k2]
          have RR : Hid (∀ W, DRes (w.heap.size + 1) ts (plainD (d + 1) (ts.drop i)) (i + 1) 0 [.int .i64 0, .int .i64 t.n, .string ⟨#[]⟩, .slice none 0 0] W) := fun W => .inl ⟨rfl, .num t.n, by rw [HT.out, pl_num k2], gc_num _⟩
          clear k2
          go_wp2_with fail
          rw [run_fieldRT0]
          go_wp2_with fail
          refine NB.out.mono ?_
          rintro e w6 ⟨rfl, d6, k6⟩
          have D6 := Lib.hid d6
          have K6 := Lib.hid (K5.out.then_ k6 (fun _ _ e => e))
          have X6 := Lib.hid (X5.out.kept k6 (by omega))
          clear d6 k6 NB
          have v0 : w6.cell? ⟨w.heap.size, 0, none⟩ = some (.int .i64 0) := X6.out.cell 0
          have y0 := X6.out.frozen 0
          have v1 : w6.cell? ⟨w.heap.size, 1, none⟩ = some (.int .i64 0) := X6.out.cell 1
          have y1 := X6.out.frozen 1
          have v2 : w6.cell? ⟨w.heap.size, 2, none⟩ = some (.string ⟨#[]⟩) := X6.out.cell 2
          have y2 := X6.out.frozen 2
          have v3 : w6.cell? ⟨w.heap.size, 3, none⟩ = some (.slice none 0 0) := X6.out.cell 3
          have y3 := X6.out.frozen 3
          have Y9 := X6.out.put4 (.int .i64 0) (.int .i64 t.n) (.string ⟨#[]⟩) (.slice none 0 0)
          have K9 := Kept.put4 w6 w.heap.size (.int .i64 0) (.int .i64 t.n) (.string ⟨#[]⟩) (.slice none 0 0)
          go_wp2_with fail
          clear v0 v1 v2 v3 y0 y1 y2 y3
          generalize (((w6.setCell ⟨w.heap.size, 0, none⟩ (.int .i64 0)).setCell ⟨w.heap.size, 1, none⟩ (.int .i64 t.n)).setCell ⟨w.heap.size, 2, none⟩ (.string ⟨#[]⟩)).setCell ⟨w.heap.size, 3, none⟩ (.slice none 0 0) = W9 at *
          have s0 : W9.cell? ⟨w.heap.size, 0, none⟩ = some (.int .i64 0) := Y9.cell 0
          have s1 : W9.cell? ⟨w.heap.size, 1, none⟩ = some (.int .i64 t.n) := Y9.cell 1
          have s2 : W9.cell? ⟨w.heap.size, 2, none⟩ = some (.string ⟨#[]⟩) := Y9.cell 2
          have s3 : W9.cell? ⟨w.heap.size, 3, none⟩ = some (.slice none 0 0) := Y9.cell 3
          refine bodyPost_ret (v := .agg #[.int .i64 0, .int .i64 t.n, .string ⟨#[]⟩, .slice none 0 0]) (by simp [results, Tryz.results119, go_sem, s0, s1, s2, s3]) rfl ?_
          obtain ⟨d9, k9, r9⟩ := dex_mk HH.out D6.out K6.out K9 (RR.out w6)
          exact ⟨_, _, _, _, _, _, _, _, rfl, d9, k9, r9⟩
        have e2 : ((t.kind : Int) == 2) = false := by simp [k2]
        by_cases k1 : t.kind = 1
        rotate_left
        · have HBAD : Hid (∃ r e, plainD (d + 1) (ts.drop i) = .bad r e) := by
            have hop : openT (t :: ts.drop (i + 1)) = false := by
              have q1 := Hb45.out
              have q2 := Hbn.out
              have q3 := Hbp.out
              rw [HT.out] at q1 q2 q3
              unfold openT
              rw [q1, q2, q3]
              simp [k1, k2]
            rw [Hid, HT.out]
            exact ⟨_, _, pl_bad hop⟩
          have NB : Hid (Calls Tryz.prog 102 #[.pointer (some ⟨g, 0, none⟩)] w5 (fun e w' => ∃ er, er ≠ 0 ∧ DTo w5 g c A ts (.string ⟨#[]⟩) i er e w')) := (rname_any g c A ts i w5 D5.out t HTK.out).mono (fun e w' h => by
            unfold TakeTo at h
            rw [decide_eq_false k1, if_neg (by decide)] at h
            exact h)
          clear k1 k2
          go_wp2_with fail
          rw [run_fieldRT0]
          go_wp2_with fail
          refine NB.out.mono ?_
          rintro e w6 ⟨er, her, rfl, d6, k6⟩
          have D6 := Lib.hid d6
          have K6 := Lib.hid (K5.out.then_ k6 (fun _ _ e => e))
          have X6 := Lib.hid (X5.out.kept k6 (by omega))
          clear d6 k6 NB
          have c2 : w6.cell? ⟨g, 2, none⟩ = some (.int .i64 er) := D6.out.blk.cell 2
          have he' : ((er : Int) == 0) = false := by simp [her]
          have RR : Hid (DRes (w.heap.size + 1) ts (plainD (d + 1) (ts.drop i)) i er [.int .i64 1, .int .i64 0, .string ⟨#[]⟩, .slice none 0 0] w6) := .inr ⟨her, HBAD.out⟩
          have v0 : w6.cell? ⟨w.heap.size, 0, none⟩ = some (.int .i64 0) := X6.out.cell 0
          have y0 := X6.out.frozen 0
          have v1 : w6.cell? ⟨w.heap.size, 1, none⟩ = some (.int .i64 0) := X6.out.cell 1
          have y1 := X6.out.frozen 1
          have v2 : w6.cell? ⟨w.heap.size, 2, none⟩ = some (.string ⟨#[]⟩) := X6.out.cell 2
          have y2 := X6.out.frozen 2
          have v3 : w6.cell? ⟨w.heap.size, 3, none⟩ = some (.slice none 0 0) := X6.out.cell 3
          have y3 := X6.out.frozen 3
          have Y9 := X6.out.put4 (.int .i64 1) (.int .i64 0) (.string ⟨#[]⟩) (.slice none 0 0)
          have K9 := Kept.put4 w6 w.heap.size (.int .i64 1) (.int .i64 0) (.string ⟨#[]⟩) (.slice none 0 0)
          go_wp2_with fail
          clear v0 v1 v2 v3 y0 y1 y2 y3
          generalize (((w6.setCell ⟨w.heap.size, 0, none⟩ (.int .i64 1)).setCell ⟨w.heap.size, 1, none⟩ (.int .i64 0)).setCell ⟨w.heap.size, 2, none⟩ (.string ⟨#[]⟩)).setCell ⟨w.heap.size, 3, none⟩ (.slice none 0 0) = W9 at *
          have s0 : W9.cell? ⟨w.heap.size, 0, none⟩ = some (.int .i64 1) := Y9.cell 0
          have s1 : W9.cell? ⟨w.heap.size, 1, none⟩ = some (.int .i64 0) := Y9.cell 1
          have s2 : W9.cell? ⟨w.heap.size, 2, none⟩ = some (.string ⟨#[]⟩) := Y9.cell 2
          have s3 : W9.cell? ⟨w.heap.size, 3, none⟩ = some (.slice none 0 0) := Y9.cell 3
          refine bodyPost_ret (v := .agg #[.int .i64 1, .int .i64 0, .string ⟨#[]⟩, .slice none 0 0]) (by simp [results, Tryz.results119, go_sem, s0, s1, s2, s3]) rfl ?_
          obtain ⟨d9, k9, r9⟩ := dex_mk HH.out D6.out K6.out K9 RR.out
          exact ⟨_, _, _, _, _, _, _, _, rfl, d9, k9, r9⟩
        have NB : Hid (Calls Tryz.prog 102 #[.pointer (some ⟨g, 0, none⟩)] w5 (DTo w5 g c A ts (.string (str t.text)) (i + 1) 0)) := (rname_any g c A ts i w5 D5.out t HTK.out).mono (fun e w' h => by
          unfold TakeTo at h
          rw [decide_eq_true k1, if_pos rfl] at h
          exact h)
        have HK1 := Lib.hid k1
        clear k1 k2
        go_wp2_with fail
        rw [run_fieldRT0]
        go_wp2_with fail
        refine NB.out.mono ?_
        rintro e w6 ⟨rfl, d6, k6⟩
        have D6 := Lib.hid d6
        have K6 := Lib.hid (K5.out.then_ k6 (fun _ _ e => e))
        have X6 := Lib.hid (X5.out.kept k6 (by omega))
        clear d6 k6 NB
        have c2 : w6.cell? ⟨g, 2, none⟩ = some (.int .i64 0) := D6.out.blk.cell 2
        have IS7 := Lib.hid (is_any g c A ts (i + 1) 0 ⟨#[91]⟩ w6 D6.out)
        rw [show (⟨#[91]⟩ : ByteArray).data.toList = [91] from rfl] at IS7
        obtain ⟨b91, hb91⟩ : ∃ b, hasT [91] (ts.drop (i + 1)) = b := ⟨_, rfl⟩
        rw [hb91] at IS7
        have Hb91 := Lib.hid hb91
        clear hb91
        go_wp2_with fail
        refine IS7.out.mono ?_
        rintro e w7 ⟨rfl, b7⟩
        have D7 := Lib.hid (D6.out.below b7)
        have K7 := Lib.hid (K6.out.below_ b7)
        have X7 := Lib.hid (X6.out.below b7 X6.out.lt)
        clear b7
        clear c2
        cases b91
        · have RR : Hid (∀ W, DRes (w.heap.size + 1) ts (plainD (d + 1) (ts.drop i)) (i + 1) 0 [.int .i64 1, .int .i64 0, .string (str t.text), .slice none 0 0] W) := fun W => .inl ⟨rfl, .nam t.text, by rw [HT.out, pl_nam HK1.out Hb91.out], gc_nam _⟩
          have v0 : w7.cell? ⟨w.heap.size, 0, none⟩ = some (.int .i64 0) := X7.out.cell 0
          have y0 := X7.out.frozen 0
          have v1 : w7.cell? ⟨w.heap.size, 1, none⟩ = some (.int .i64 0) := X7.out.cell 1
          have y1 := X7.out.frozen 1
          have v2 : w7.cell? ⟨w.heap.size, 2, none⟩ = some (.string ⟨#[]⟩) := X7.out.cell 2
          have y2 := X7.out.frozen 2
          have v3 : w7.cell? ⟨w.heap.size, 3, none⟩ = some (.slice none 0 0) := X7.out.cell 3
          have y3 := X7.out.frozen 3
          have Y9 := X7.out.put4 (.int .i64 1) (.int .i64 0) (.string (str t.text)) (.slice none 0 0)
          have K9 := Kept.put4 w7 w.heap.size (.int .i64 1) (.int .i64 0) (.string (str t.text)) (.slice none 0 0)
          go_wp2_with fail
          clear v0 v1 v2 v3 y0 y1 y2 y3
          generalize (((w7.setCell ⟨w.heap.size, 0, none⟩ (.int .i64 1)).setCell ⟨w.heap.size, 1, none⟩ (.int .i64 0)).setCell ⟨w.heap.size, 2, none⟩ (.string (str t.text))).setCell ⟨w.heap.size, 3, none⟩ (.slice none 0 0) = W9 at *
          have s0 : W9.cell? ⟨w.heap.size, 0, none⟩ = some (.int .i64 1) := Y9.cell 0
          have s1 : W9.cell? ⟨w.heap.size, 1, none⟩ = some (.int .i64 0) := Y9.cell 1
          have s2 : W9.cell? ⟨w.heap.size, 2, none⟩ = some (.string (str t.text)) := Y9.cell 2
          have s3 : W9.cell? ⟨w.heap.size, 3, none⟩ = some (.slice none 0 0) := Y9.cell 3
          refine bodyPost_ret (v := .agg #[.int .i64 1, .int .i64 0, .string (str t.text), .slice none 0 0]) (by simp [results, Tryz.results119, go_sem, s0, s1, s2, s3]) rfl ?_
          obtain ⟨d9, k9, r9⟩ := dex_mk HH.out D7.out K7.out K9 (RR.out w7)
          exact ⟨_, _, _, _, _, _, _, _, rfl, d9, k9, r9⟩
        · have hm := hasT_more D7.out Hb91.out
          have y1 : w7.cell? ⟨g, 1, none⟩ = some (.int .i64 (i + 1 : Nat)) := D7.out.blk.cell 1
          have u1 := D7.out.blk.frozen 1
          have wi8 : IntKind.i64.wrap ((i : Int) + 1 + 1) = ((i : Int) + 1 + 1) := IntWalk.i64_in _ ⟨by omega, by omega⟩
          have KS := (Kept.refl (fun z => z = g) w7).setCell (p := ⟨g, 1, none⟩) (fun _ => rfl) (.int .i64 ((i : Int) + 1 + 1))
          have BS : Blk (w7.setCell ⟨g, 1, none⟩ (.int .i64 ((i : Int) + 1 + 1))) g 105 #[.slice A ts.length c, .int .i64 ((i + 1 + 1 : Nat) : Int), .int .i64 0] := by
            have := D7.out.blk.set_ 1 (.int .i64 ((i : Int) + 1 + 1))
            simpa using this
          have D8 := Lib.hid (D7.out.put KS (fun _ _ e => e) hm BS)
          have K8 := Lib.hid (K7.out.then_ KS (fun _ _ e => e))
          have X8 := Lib.hid (X7.out.kept KS (by omega))
          clear KS BS
          go_upto_region 19 with fail
          generalize w7.setCell ⟨g, 1, none⟩ (.int .i64 ((i : Int) + 1 + 1)) = W8 at *
          have EXP := Lib.hid (HEE.out (dp + 1) (i + 1 + 1) W8 (by omega) D8.out)
          go_wp2_with fail
          refine EXP.out.mono ?_
          rintro e w9 ⟨op9, N9, nm9, B9, l9, k9, i9, er9, rfl, d9, kk9, r9⟩
          have hw9 := X8.out.lt
          have D9 := Lib.hid d9
          have K9 := Lib.hid (K8.out.then_ kk9 (fun _ _ e => e))
          have X9 := Lib.hid (X8.out.kept kk9 (by omega))
          have R9 := Lib.hid r9
          clear d9 kk9 r9
          have ya := Blk.new w9 24 #[.int .i64 op9, .int .i64 N9, .string nm9, .slice B9 l9 k9]
          have fa : Below w9.heap.size w9 (w9.alloc (.cells #[.int .i64 op9, .int .i64 N9, .string nm9, .slice B9 l9 k9] 24)) := (Below.refl _ w9).al _
          have Da := Lib.hid (D9.out.below fa)
          have Ka := Lib.hid (K9.out.below_ fa)
          have Xa := Lib.hid (X9.out.below fa X9.out.lt)
          have Ya := Lib.hid ya
          have hba : w.heap.size + 1 ≤ w9.heap.size := by have := X9.out.lt; omega
          have Ra := Lib.hid (R9.out.kept (base' := w.heap.size + 1) (Kept.of_below (S := fun _ => False) fa) (fun _ _ _ e => e) (by omega))
          clear ya fa
          go_upto_region 20 with fail
          generalize w9.alloc (.cells #[.int .i64 op9, .int .i64 N9, .string nm9, .slice B9 l9 k9] 24) = Wa at *
          by_cases he9 : er9 = 0
          · subst he9
            have ET := Lib.hid (eat_any g c A ts i9 ⟨#[93]⟩ Wa Da.out)
            rw [show (⟨#[93]⟩ : ByteArray).data.toList = [93] from rfl] at ET
            obtain ⟨be, hbe⟩ : ∃ b, hasT [93] (ts.drop i9) = b := ⟨_, rfl⟩
            rw [hbe] at ET
            have HBE := Lib.hid hbe
            clear hbe
            go_wp2_with fail
            refine ET.out.mono ?_
            rintro e wb het
            cases be
            · unfold EatTo at het
              rw [if_neg (by decide)] at het
              obtain ⟨er, her, rfl, dz, kz⟩ := het
              have Dz := Lib.hid dz
              have Kz := Lib.hid (Ka.out.then_ kz (fun _ _ e => e))
              have Xz := Lib.hid (Xa.out.kept kz (by omega))
              have Yz := Lib.hid (Ya.out.kept kz (by omega))
              have Rz := Lib.hid (Ra.out.kept (base' := w.heap.size + 1) kz (fun z hz hb e => by omega) (Nat.le_refl _))
              clear dz kz
              have p0 := Yz.out.cell 0
              have p1 := Yz.out.cell 1
              have p2 := Yz.out.cell 2
              have p3 := Yz.out.cell 3
              have yn := Blk.new wb 24 #[.int .i64 op9, .int .i64 N9, .string nm9, .slice B9 l9 k9]
              have fn : Below wb.heap.size wb (wb.alloc (.cells #[.int .i64 op9, .int .i64 N9, .string nm9, .slice B9 l9 k9] 24)) := (Below.refl _ wb).al _
              have Dn := Lib.hid (Dz.out.below fn)
              have Kn := Lib.hid (Kz.out.below_ fn)
              have Xn := Lib.hid (Xz.out.below fn Xz.out.lt)
              have hbn : w.heap.size + 1 ≤ wb.heap.size := by have := Xz.out.lt; omega
              have Rn := Rz.out.kept (base' := w.heap.size + 1) (Kept.of_below (S := fun _ => False) fn) (fun _ _ _ e => e) (Nat.le_refl _)
              have hq : plainD (d + 1) (ts.drop i) = (joinL (plainD d) 5 (ts.drop (i + 1 + 1))).thenMust [93] (.idx t.text) := by
                rw [HT.out, pl_idx HK1.out Hb91.out, List.tail_drop]
              have RR := Lib.hid (Rn.mustnot (cs' := [.int .i64 2, .int .i64 0, .string (str t.text), .slice (some ⟨wb.heap.size, 0, none⟩) 1 1]) hq HBE.out (j := i9) her)
              clear yn fn Rn hq
              have v0 : (wb.alloc (.cells #[.int .i64 op9, .int .i64 N9, .string nm9, .slice B9 l9 k9] 24)).cell? ⟨w.heap.size, 0, none⟩ = some (.int .i64 0) := Xn.out.cell 0
              have y0 := Xn.out.frozen 0
              have v1 : (wb.alloc (.cells #[.int .i64 op9, .int .i64 N9, .string nm9, .slice B9 l9 k9] 24)).cell? ⟨w.heap.size, 1, none⟩ = some (.int .i64 0) := Xn.out.cell 1
              have y1 := Xn.out.frozen 1
              have v2 : (wb.alloc (.cells #[.int .i64 op9, .int .i64 N9, .string nm9, .slice B9 l9 k9] 24)).cell? ⟨w.heap.size, 2, none⟩ = some (.string ⟨#[]⟩) := Xn.out.cell 2
              have y2 := Xn.out.frozen 2
              have v3 : (wb.alloc (.cells #[.int .i64 op9, .int .i64 N9, .string nm9, .slice B9 l9 k9] 24)).cell? ⟨w.heap.size, 3, none⟩ = some (.slice none 0 0) := Xn.out.cell 3
              have y3 := Xn.out.frozen 3
              have Y9 := Xn.out.put4 (.int .i64 2) (.int .i64 0) (.string (str t.text)) (.slice (some ⟨wb.heap.size, 0, none⟩) 1 1)
              have K9 := Kept.put4 (wb.alloc (.cells #[.int .i64 op9, .int .i64 N9, .string nm9, .slice B9 l9 k9] 24)) w.heap.size (.int .i64 2) (.int .i64 0) (.string (str t.text)) (.slice (some ⟨wb.heap.size, 0, none⟩) 1 1)
              go_wp2_with fail
              clear v0 v1 v2 v3 y0 y1 y2 y3 p0 p1 p2 p3
              generalize ((((wb.alloc (.cells #[.int .i64 op9, .int .i64 N9, .string nm9, .slice B9 l9 k9] 24)).setCell ⟨w.heap.size, 0, none⟩ (.int .i64 2)).setCell ⟨w.heap.size, 1, none⟩ (.int .i64 0)).setCell ⟨w.heap.size, 2, none⟩ (.string (str t.text))).setCell ⟨w.heap.size, 3, none⟩ (.slice (some ⟨wb.heap.size, 0, none⟩) 1 1) = W9 at *
              have s0 : W9.cell? ⟨w.heap.size, 0, none⟩ = some (.int .i64 2) := Y9.cell 0
              have s1 : W9.cell? ⟨w.heap.size, 1, none⟩ = some (.int .i64 0) := Y9.cell 1
              have s2 : W9.cell? ⟨w.heap.size, 2, none⟩ = some (.string (str t.text)) := Y9.cell 2
              have s3 : W9.cell? ⟨w.heap.size, 3, none⟩ = some (.slice (some ⟨wb.heap.size, 0, none⟩) 1 1) := Y9.cell 3
              refine bodyPost_ret (v := .agg #[.int .i64 2, .int .i64 0, .string (str t.text), .slice (some ⟨wb.heap.size, 0, none⟩) 1 1]) (by simp [results, Tryz.results119, go_sem, s0, s1, s2, s3]) rfl ?_
              obtain ⟨d9, k9, r9⟩ := dex_mk HH.out Dn.out Kn.out K9 RR.out
              exact ⟨_, _, _, _, _, _, _, _, rfl, d9, k9, r9⟩
            · unfold EatTo at het
              rw [if_pos rfl] at het
              obtain ⟨rfl, dz, kz⟩ := het
              have Dz := Lib.hid dz
              have Kz := Lib.hid (Ka.out.then_ kz (fun _ _ e => e))
              have Xz := Lib.hid (Xa.out.kept kz (by omega))
              have Yz := Lib.hid (Ya.out.kept kz (by omega))
              have Rz := Lib.hid (Ra.out.kept (base' := w.heap.size + 1) kz (fun z hz hb e => by omega) (Nat.le_refl _))
              clear dz kz
              have p0 := Yz.out.cell 0
              have p1 := Yz.out.cell 1
              have p2 := Yz.out.cell 2
              have p3 := Yz.out.cell 3
              have yn := Blk.new wb 24 #[.int .i64 op9, .int .i64 N9, .string nm9, .slice B9 l9 k9]
              have fn : Below wb.heap.size wb (wb.alloc (.cells #[.int .i64 op9, .int .i64 N9, .string nm9, .slice B9 l9 k9] 24)) := (Below.refl _ wb).al _
              have Dn := Lib.hid (Dz.out.below fn)
              have Kn := Lib.hid (Kz.out.below_ fn)
              have Xn := Lib.hid (Xz.out.below fn Xz.out.lt)
              have hbn : w.heap.size + 1 ≤ wb.heap.size := by have := Xz.out.lt; omega
              have Rn := Rz.out.kept (base' := w.heap.size + 1) (Kept.of_below (S := fun _ => False) fn) (fun _ _ _ e => e) (Nat.le_refl _)
              have hq : plainD (d + 1) (ts.drop i) = (joinL (plainD d) 5 (ts.drop (i + 1 + 1))).thenMust [93] (.idx t.text) := by
                rw [HT.out, pl_idx HK1.out Hb91.out, List.tail_drop]
              have RR := Lib.hid (Rn.must hq HBE.out (fun y hy => gc_one (t := 24) yn hbn rfl hy (.idx t.text) 2 (str t.text) rfl rfl))
              clear yn fn Rn hq
              have v0 : (wb.alloc (.cells #[.int .i64 op9, .int .i64 N9, .string nm9, .slice B9 l9 k9] 24)).cell? ⟨w.heap.size, 0, none⟩ = some (.int .i64 0) := Xn.out.cell 0
              have y0 := Xn.out.frozen 0
              have v1 : (wb.alloc (.cells #[.int .i64 op9, .int .i64 N9, .string nm9, .slice B9 l9 k9] 24)).cell? ⟨w.heap.size, 1, none⟩ = some (.int .i64 0) := Xn.out.cell 1
              have y1 := Xn.out.frozen 1
              have v2 : (wb.alloc (.cells #[.int .i64 op9, .int .i64 N9, .string nm9, .slice B9 l9 k9] 24)).cell? ⟨w.heap.size, 2, none⟩ = some (.string ⟨#[]⟩) := Xn.out.cell 2
              have y2 := Xn.out.frozen 2
              have v3 : (wb.alloc (.cells #[.int .i64 op9, .int .i64 N9, .string nm9, .slice B9 l9 k9] 24)).cell? ⟨w.heap.size, 3, none⟩ = some (.slice none 0 0) := Xn.out.cell 3
              have y3 := Xn.out.frozen 3
              have Y9 := Xn.out.put4 (.int .i64 2) (.int .i64 0) (.string (str t.text)) (.slice (some ⟨wb.heap.size, 0, none⟩) 1 1)
              have K9 := Kept.put4 (wb.alloc (.cells #[.int .i64 op9, .int .i64 N9, .string nm9, .slice B9 l9 k9] 24)) w.heap.size (.int .i64 2) (.int .i64 0) (.string (str t.text)) (.slice (some ⟨wb.heap.size, 0, none⟩) 1 1)
              go_wp2_with fail
              clear v0 v1 v2 v3 y0 y1 y2 y3 p0 p1 p2 p3
              generalize ((((wb.alloc (.cells #[.int .i64 op9, .int .i64 N9, .string nm9, .slice B9 l9 k9] 24)).setCell ⟨w.heap.size, 0, none⟩ (.int .i64 2)).setCell ⟨w.heap.size, 1, none⟩ (.int .i64 0)).setCell ⟨w.heap.size, 2, none⟩ (.string (str t.text))).setCell ⟨w.heap.size, 3, none⟩ (.slice (some ⟨wb.heap.size, 0, none⟩) 1 1) = W9 at *
              have s0 : W9.cell? ⟨w.heap.size, 0, none⟩ = some (.int .i64 2) := Y9.cell 0
              have s1 : W9.cell? ⟨w.heap.size, 1, none⟩ = some (.int .i64 0) := Y9.cell 1
              have s2 : W9.cell? ⟨w.heap.size, 2, none⟩ = some (.string (str t.text)) := Y9.cell 2
              have s3 : W9.cell? ⟨w.heap.size, 3, none⟩ = some (.slice (some ⟨wb.heap.size, 0, none⟩) 1 1) := Y9.cell 3
              refine bodyPost_ret (v := .agg #[.int .i64 2, .int .i64 0, .string (str t.text), .slice (some ⟨wb.heap.size, 0, none⟩) 1 1]) (by simp [results, Tryz.results119, go_sem, s0, s1, s2, s3]) rfl ?_
              obtain ⟨d9, k9, r9⟩ := dex_mk HH.out Dn.out Kn.out K9 RR.out
              exact ⟨_, _, _, _, _, _, _, _, rfl, d9, k9, r9⟩
          · have ET := Lib.hid (eat_er g c A ts ⟨#[93]⟩ i9 er9 Wa he9 Da.out)
            go_wp2_with fail
            refine ET.out.mono ?_
            rintro e wb ⟨rfl, hw⟩
            obtain rfl : wb = Wa := hw
            have p0 := Ya.out.cell 0
            have p1 := Ya.out.cell 1
            have p2 := Ya.out.cell 2
            have p3 := Ya.out.cell 3
            have yn := Blk.new wb 24 #[.int .i64 op9, .int .i64 N9, .string nm9, .slice B9 l9 k9]
            have fn : Below wb.heap.size wb (wb.alloc (.cells #[.int .i64 op9, .int .i64 N9, .string nm9, .slice B9 l9 k9] 24)) := (Below.refl _ wb).al _
            have Dn := Lib.hid (Da.out.below fn)
            have Kn := Lib.hid (Ka.out.below_ fn)
            have Xn := Lib.hid (Xa.out.below fn Xa.out.lt)
            have hbn : w.heap.size + 1 ≤ wb.heap.size := by have := Xa.out.lt; omega
            have Rn := Ra.out.kept (base' := w.heap.size + 1) (Kept.of_below (S := fun _ => False) fn) (fun _ _ _ e => e) (Nat.le_refl _)
            have hq : plainD (d + 1) (ts.drop i) = (joinL (plainD d) 5 (ts.drop (i + 1 + 1))).thenMust [93] (.idx t.text) := by
              rw [HT.out, pl_idx HK1.out Hb91.out, List.tail_drop]
            have RR := Lib.hid (Rn.mustbad (cs' := [.int .i64 2, .int .i64 0, .string (str t.text), .slice (some ⟨wb.heap.size, 0, none⟩) 1 1]) he9 hq (j := i9))
            clear yn fn Rn hq
            have v0 : (wb.alloc (.cells #[.int .i64 op9, .int .i64 N9, .string nm9, .slice B9 l9 k9] 24)).cell? ⟨w.heap.size, 0, none⟩ = some (.int .i64 0) := Xn.out.cell 0
            have y0 := Xn.out.frozen 0
            have v1 : (wb.alloc (.cells #[.int .i64 op9, .int .i64 N9, .string nm9, .slice B9 l9 k9] 24)).cell? ⟨w.heap.size, 1, none⟩ = some (.int .i64 0) := Xn.out.cell 1
            have y1 := Xn.out.frozen 1
            have v2 : (wb.alloc (.cells #[.int .i64 op9, .int .i64 N9, .string nm9, .slice B9 l9 k9] 24)).cell? ⟨w.heap.size, 2, none⟩ = some (.string ⟨#[]⟩) := Xn.out.cell 2
            have y2 := Xn.out.frozen 2
            have v3 : (wb.alloc (.cells #[.int .i64 op9, .int .i64 N9, .string nm9, .slice B9 l9 k9] 24)).cell? ⟨w.heap.size, 3, none⟩ = some (.slice none 0 0) := Xn.out.cell 3
            have y3 := Xn.out.frozen 3
            have Y9 := Xn.out.put4 (.int .i64 2) (.int .i64 0) (.string (str t.text)) (.slice (some ⟨wb.heap.size, 0, none⟩) 1 1)
            have K9 := Kept.put4 (wb.alloc (.cells #[.int .i64 op9, .int .i64 N9, .string nm9, .slice B9 l9 k9] 24)) w.heap.size (.int .i64 2) (.int .i64 0) (.string (str t.text)) (.slice (some ⟨wb.heap.size, 0, none⟩) 1 1)
            go_wp2_with fail
            clear v0 v1 v2 v3 y0 y1 y2 y3 p0 p1 p2 p3
            generalize ((((wb.alloc (.cells #[.int .i64 op9, .int .i64 N9, .string nm9, .slice B9 l9 k9] 24)).setCell ⟨w.heap.size, 0, none⟩ (.int .i64 2)).setCell ⟨w.heap.size, 1, none⟩ (.int .i64 0)).setCell ⟨w.heap.size, 2, none⟩ (.string (str t.text))).setCell ⟨w.heap.size, 3, none⟩ (.slice (some ⟨wb.heap.size, 0, none⟩) 1 1) = W9 at *
            have s0 : W9.cell? ⟨w.heap.size, 0, none⟩ = some (.int .i64 2) := Y9.cell 0
            have s1 : W9.cell? ⟨w.heap.size, 1, none⟩ = some (.int .i64 0) := Y9.cell 1
            have s2 : W9.cell? ⟨w.heap.size, 2, none⟩ = some (.string (str t.text)) := Y9.cell 2
            have s3 : W9.cell? ⟨w.heap.size, 3, none⟩ = some (.slice (some ⟨wb.heap.size, 0, none⟩) 1 1) := Y9.cell 3
            refine bodyPost_ret (v := .agg #[.int .i64 2, .int .i64 0, .string (str t.text), .slice (some ⟨wb.heap.size, 0, none⟩) 1 1]) (by simp [results, Tryz.results119, go_sem, s0, s1, s2, s3]) rfl ?_
            obtain ⟨d9, k9, r9⟩ := dex_mk HH.out Dn.out Kn.out K9 RR.out
            exact ⟨_, _, _, _, _, _, _, _, rfl, d9, k9, r9⟩
      · have hm := hasT_more D4.out Hbp.out
        have y1 : w4.cell? ⟨g, 1, none⟩ = some (.int .i64 (i : Nat)) := D4.out.blk.cell 1
        have u1 := D4.out.blk.frozen 1
        have wi5 : IntKind.i64.wrap ((i : Int) + 1) = ((i : Int) + 1) := IntWalk.i64_in _ ⟨by omega, by omega⟩
        have KS := (Kept.refl (fun z => z = g) w4).setCell (p := ⟨g, 1, none⟩) (fun _ => rfl) (.int .i64 ((i : Int) + 1))
        have BS : Blk (w4.setCell ⟨g, 1, none⟩ (.int .i64 ((i : Int) + 1))) g 105 #[.slice A ts.length c, .int .i64 ((i + 1 : Nat) : Int), .int .i64 0] := by
          have := D4.out.blk.set_ 1 (.int .i64 ((i : Int) + 1))
          simpa using this
        have D5 := Lib.hid (D4.out.put KS (fun _ _ e => e) hm BS)
        have K5 := Lib.hid (K4.out.then_ KS (fun _ _ e => e))
        have X5 := Lib.hid (X4.out.kept KS (by omega))
        clear KS BS
        go_upto_region 11 with fail
        generalize w4.setCell ⟨g, 1, none⟩ (.int .i64 ((i : Int) + 1)) = W5 at *
        have EXP := Lib.hid (HEE.out (dp + 1) (i + 1) W5 (by omega) D5.out)
        go_wp2_with fail
        refine EXP.out.mono ?_
        rintro e w6 ⟨op6, N6, nm6, B6, l6, k6, i6, er6, rfl, d6, kk6, r6⟩
        have hw6 := X5.out.lt
        have D6 := Lib.hid d6
        have K6 := Lib.hid (K5.out.then_ kk6 (fun _ _ e => e))
        have X6 := Lib.hid (X5.out.kept kk6 (by omega))
        have R6 := Lib.hid r6
        clear d6 kk6 r6
        have y7 := Blk.new w6 24 #[.int .i64 op6, .int .i64 N6, .string nm6, .slice B6 l6 k6]
        have f7 : Below w6.heap.size w6 (w6.alloc (.cells #[.int .i64 op6, .int .i64 N6, .string nm6, .slice B6 l6 k6] 24)) := (Below.refl _ w6).al _
        have D7 := Lib.hid (D6.out.below f7)
        have K7 := Lib.hid (K6.out.below_ f7)
        have X7 := Lib.hid (X6.out.below f7 X6.out.lt)
        have Y7 := Lib.hid y7
        have hb7 : w.heap.size + 1 ≤ w6.heap.size := by have := X6.out.lt; omega
        have R7 := Lib.hid (R6.out.kept (base' := w.heap.size + 1) (Kept.of_below (S := fun _ => False) f7) (fun _ _ _ e => e) (by omega))
        clear y7 f7
        go_upto_region 12 with fail
        generalize w6.alloc (.cells #[.int .i64 op6, .int .i64 N6, .string nm6, .slice B6 l6 k6] 24) = W7 at *
        by_cases he6 : er6 = 0
        · subst he6
          have ET := Lib.hid (eat_any g c A ts i6 ⟨#[41]⟩ W7 D7.out)
          rw [show (⟨#[41]⟩ : ByteArray).data.toList = [41] from rfl] at ET
          obtain ⟨be, hbe⟩ : ∃ b, hasT [41] (ts.drop i6) = b := ⟨_, rfl⟩
          rw [hbe] at ET
          have HBE := Lib.hid hbe
          clear hbe
          go_wp2_with fail
          refine ET.out.mono ?_
          rintro e w8 het
          cases be
          · unfold EatTo at het
            rw [if_neg (by decide)] at het
            obtain ⟨er, her, rfl, dz, kz⟩ := het
            have Dz := Lib.hid dz
            have Kz := Lib.hid (K7.out.then_ kz (fun _ _ e => e))
            have Xz := Lib.hid (X7.out.kept kz (by omega))
            have Yz := Lib.hid (Y7.out.kept kz (by omega))
            have Rz := Lib.hid (R7.out.kept (base' := w.heap.size + 1) kz (fun z hz hb e => by omega) (Nat.le_refl _))
            clear dz kz
            have p0 := Yz.out.cell 0
            have p1 := Yz.out.cell 1
            have p2 := Yz.out.cell 2
            have p3 := Yz.out.cell 3
            have hq : plainD (d + 1) (ts.drop i) = (joinL (plainD d) 5 (ts.drop (i + 1))).thenMust [41] id := by
              rw [HT.out, pl_par (by rw [← HT.out]; exact Hbp.out)]
            have RR := Lib.hid (Rz.out.mustnot (cs' := [.int .i64 op6, .int .i64 N6, .string nm6, .slice B6 l6 k6]) hq HBE.out (j := i6) her)
            clear hq
            have v0 : w8.cell? ⟨w.heap.size, 0, none⟩ = some (.int .i64 0) := Xz.out.cell 0
            have y0 := Xz.out.frozen 0
            have v1 : w8.cell? ⟨w.heap.size, 1, none⟩ = some (.int .i64 0) := Xz.out.cell 1
            have y1 := Xz.out.frozen 1
            have v2 : w8.cell? ⟨w.heap.size, 2, none⟩ = some (.string ⟨#[]⟩) := Xz.out.cell 2
            have y2 := Xz.out.frozen 2
            have v3 : w8.cell? ⟨w.heap.size, 3, none⟩ = some (.slice none 0 0) := Xz.out.cell 3
            have y3 := Xz.out.frozen 3
            have Y9 := Xz.out.put4 (.int .i64 op6) (.int .i64 N6) (.string nm6) (.slice B6 l6 k6)
            have K9 := Kept.put4 w8 w.heap.size (.int .i64 op6) (.int .i64 N6) (.string nm6) (.slice B6 l6 k6)
            go_wp2_with fail
            clear v0 v1 v2 v3 y0 y1 y2 y3
            generalize (((w8.setCell ⟨w.heap.size, 0, none⟩ (.int .i64 op6)).setCell ⟨w.heap.size, 1, none⟩ (.int .i64 N6)).setCell ⟨w.heap.size, 2, none⟩ (.string nm6)).setCell ⟨w.heap.size, 3, none⟩ (.slice B6 l6 k6) = W9 at *
            have s0 : W9.cell? ⟨w.heap.size, 0, none⟩ = some (.int .i64 op6) := Y9.cell 0
            have s1 : W9.cell? ⟨w.heap.size, 1, none⟩ = some (.int .i64 N6) := Y9.cell 1
            have s2 : W9.cell? ⟨w.heap.size, 2, none⟩ = some (.string nm6) := Y9.cell 2
            have s3 : W9.cell? ⟨w.heap.size, 3, none⟩ = some (.slice B6 l6 k6) := Y9.cell 3
            refine bodyPost_ret (v := .agg #[.int .i64 op6, .int .i64 N6, .string nm6, .slice B6 l6 k6]) (by simp [results, Tryz.results119, go_sem, s0, s1, s2, s3]) rfl ?_
            obtain ⟨d9, k9, r9⟩ := dex_mk HH.out Dz.out Kz.out K9 RR.out
            exact ⟨_, _, _, _, _, _, _, _, rfl, d9, k9, r9⟩
          · unfold EatTo at het
            rw [if_pos rfl] at het
            obtain ⟨rfl, dz, kz⟩ := het
            have Dz := Lib.hid dz
            have Kz := Lib.hid (K7.out.then_ kz (fun _ _ e => e))
            have Xz := Lib.hid (X7.out.kept kz (by omega))
            have Yz := Lib.hid (Y7.out.kept kz (by omega))
            have Rz := Lib.hid (R7.out.kept (base' := w.heap.size + 1) kz (fun z hz hb e => by omega) (Nat.le_refl _))
            clear dz kz
            have p0 := Yz.out.cell 0
            have p1 := Yz.out.cell 1
            have p2 := Yz.out.cell 2
            have p3 := Yz.out.cell 3
            have hq : plainD (d + 1) (ts.drop i) = (joinL (plainD d) 5 (ts.drop (i + 1))).thenMust [41] id := by
              rw [HT.out, pl_par (by rw [← HT.out]; exact Hbp.out)]
            have RR := Lib.hid (Rz.out.must hq HBE.out (fun y hy => hy))
            clear hq
            have v0 : w8.cell? ⟨w.heap.size, 0, none⟩ = some (.int .i64 0) := Xz.out.cell 0
            have y0 := Xz.out.frozen 0
            have v1 : w8.cell? ⟨w.heap.size, 1, none⟩ = some (.int .i64 0) := Xz.out.cell 1
            have y1 := Xz.out.frozen 1
            have v2 : w8.cell? ⟨w.heap.size, 2, none⟩ = some (.string ⟨#[]⟩) := Xz.out.cell 2
            have y2 := Xz.out.frozen 2
            have v3 : w8.cell? ⟨w.heap.size, 3, none⟩ = some (.slice none 0 0) := Xz.out.cell 3
            have y3 := Xz.out.frozen 3
            have Y9 := Xz.out.put4 (.int .i64 op6) (.int .i64 N6) (.string nm6) (.slice B6 l6 k6)
            have K9 := Kept.put4 w8 w.heap.size (.int .i64 op6) (.int .i64 N6) (.string nm6) (.slice B6 l6 k6)
            go_wp2_with fail
            clear v0 v1 v2 v3 y0 y1 y2 y3
            generalize (((w8.setCell ⟨w.heap.size, 0, none⟩ (.int .i64 op6)).setCell ⟨w.heap.size, 1, none⟩ (.int .i64 N6)).setCell ⟨w.heap.size, 2, none⟩ (.string nm6)).setCell ⟨w.heap.size, 3, none⟩ (.slice B6 l6 k6) = W9 at *
            have s0 : W9.cell? ⟨w.heap.size, 0, none⟩ = some (.int .i64 op6) := Y9.cell 0
            have s1 : W9.cell? ⟨w.heap.size, 1, none⟩ = some (.int .i64 N6) := Y9.cell 1
            have s2 : W9.cell? ⟨w.heap.size, 2, none⟩ = some (.string nm6) := Y9.cell 2
            have s3 : W9.cell? ⟨w.heap.size, 3, none⟩ = some (.slice B6 l6 k6) := Y9.cell 3
            refine bodyPost_ret (v := .agg #[.int .i64 op6, .int .i64 N6, .string nm6, .slice B6 l6 k6]) (by simp [results, Tryz.results119, go_sem, s0, s1, s2, s3]) rfl ?_
            obtain ⟨d9, k9, r9⟩ := dex_mk HH.out Dz.out Kz.out K9 RR.out
            exact ⟨_, _, _, _, _, _, _, _, rfl, d9, k9, r9⟩
        · have ET := Lib.hid (eat_er g c A ts ⟨#[41]⟩ i6 er6 W7 he6 D7.out)
          go_wp2_with fail
          refine ET.out.mono ?_
          rintro e w8 ⟨rfl, hw⟩
          obtain rfl : w8 = W7 := hw
          have p0 := Y7.out.cell 0
          have p1 := Y7.out.cell 1
          have p2 := Y7.out.cell 2
          have p3 := Y7.out.cell 3
          have hq : plainD (d + 1) (ts.drop i) = (joinL (plainD d) 5 (ts.drop (i + 1))).thenMust [41] id := by
            rw [HT.out, pl_par (by rw [← HT.out]; exact Hbp.out)]
          have RR := Lib.hid (R7.out.mustbad (cs' := [.int .i64 op6, .int .i64 N6, .string nm6, .slice B6 l6 k6]) he6 hq (j := i6))
          clear hq
          have v0 : w8.cell? ⟨w.heap.size, 0, none⟩ = some (.int .i64 0) := X7.out.cell 0
          have y0 := X7.out.frozen 0
          have v1 : w8.cell? ⟨w.heap.size, 1, none⟩ = some (.int .i64 0) := X7.out.cell 1
          have y1 := X7.out.frozen 1
          have v2 : w8.cell? ⟨w.heap.size, 2, none⟩ = some (.string ⟨#[]⟩) := X7.out.cell 2
          have y2 := X7.out.frozen 2
          have v3 : w8.cell? ⟨w.heap.size, 3, none⟩ = some (.slice none 0 0) := X7.out.cell 3
          have y3 := X7.out.frozen 3
          have Y9 := X7.out.put4 (.int .i64 op6) (.int .i64 N6) (.string nm6) (.slice B6 l6 k6)
          have K9 := Kept.put4 w8 w.heap.size (.int .i64 op6) (.int .i64 N6) (.string nm6) (.slice B6 l6 k6)
          go_wp2_with fail
          clear v0 v1 v2 v3 y0 y1 y2 y3
          generalize (((w8.setCell ⟨w.heap.size, 0, none⟩ (.int .i64 op6)).setCell ⟨w.heap.size, 1, none⟩ (.int .i64 N6)).setCell ⟨w.heap.size, 2, none⟩ (.string nm6)).setCell ⟨w.heap.size, 3, none⟩ (.slice B6 l6 k6) = W9 at *
          have s0 : W9.cell? ⟨w.heap.size, 0, none⟩ = some (.int .i64 op6) := Y9.cell 0
          have s1 : W9.cell? ⟨w.heap.size, 1, none⟩ = some (.int .i64 N6) := Y9.cell 1
          have s2 : W9.cell? ⟨w.heap.size, 2, none⟩ = some (.string nm6) := Y9.cell 2
          have s3 : W9.cell? ⟨w.heap.size, 3, none⟩ = some (.slice B6 l6 k6) := Y9.cell 3
          refine bodyPost_ret (v := .agg #[.int .i64 op6, .int .i64 N6, .string nm6, .slice B6 l6 k6]) (by simp [results, Tryz.results119, go_sem, s0, s1, s2, s3]) rfl ?_
          obtain ⟨d9, k9, r9⟩ := dex_mk HH.out D7.out K7.out K9 RR.out
          exact ⟨_, _, _, _, _, _, _, _, rfl, d9, k9, r9⟩
    · have IS4 := Lib.hid (is_any g c A ts i 0 ⟨#[110, 111, 116]⟩ w3 D3.out)
      rw [show (⟨#[110, 111, 116]⟩ : ByteArray).data.toList = [110, 111, 116] from rfl, Hbn.out] at IS4
      go_wp2_with fail
      refine IS4.out.mono ?_
      rintro e w4 ⟨rfl, b4⟩
      have D4 := Lib.hid (D3.out.below b4)
      have K4 := Lib.hid (K3.out.below_ b4)
      have X4 := Lib.hid (X3.out.below b4 X3.out.lt)
      clear b4
      have hm := hasT_more D4.out Hbn.out
      have y1 : w4.cell? ⟨g, 1, none⟩ = some (.int .i64 (i : Nat)) := D4.out.blk.cell 1
      have u1 := D4.out.blk.frozen 1
      have wiu : IntKind.i64.wrap ((i : Int) + 1) = ((i : Int) + 1) := IntWalk.i64_in _ ⟨by omega, by omega⟩
      have KS := (Kept.refl (fun z => z = g) w4).setCell (p := ⟨g, 1, none⟩) (fun _ => rfl) (.int .i64 ((i : Int) + 1))
      have BS : Blk (w4.setCell ⟨g, 1, none⟩ (.int .i64 ((i : Int) + 1))) g 105 #[.slice A ts.length c, .int .i64 ((i + 1 : Nat) : Int), .int .i64 0] := by
        have := D4.out.blk.set_ 1 (.int .i64 ((i : Int) + 1))
        simpa using this
      have Du := Lib.hid (D4.out.put KS (fun _ _ e => e) hm BS)
      have Ku := Lib.hid (K4.out.then_ KS (fun _ _ e => e))
      have Xu := Lib.hid (X4.out.kept KS (by omega))
      clear KS BS
      go_upto_region 8 with fail
      generalize w4.setCell ⟨g, 1, none⟩ (.int .i64 ((i : Int) + 1)) = Wu at *
      have UND := Lib.hid (HUU.out (dp + 1) (i + 1) Wu (by omega) Du.out)
      go_wp2_with fail
      refine UND.out.mono ?_
      rintro e w6 ⟨op6, N6, nm6, B6, l6, k6, i6, er6, rfl, d6, kk6, r6⟩
      have hw6 := Xu.out.lt
      have D6 := Lib.hid d6
      have K6 := Lib.hid (Ku.out.then_ kk6 (fun _ _ e => e))
      have X6 := Lib.hid (Xu.out.kept kk6 (by omega))
      have R6 := Lib.hid r6
      clear d6 kk6 r6
      have y7 := Blk.new w6 24 #[.int .i64 op6, .int .i64 N6, .string nm6, .slice B6 l6 k6]
      have f7 : Below w6.heap.size w6 (w6.alloc (.cells #[.int .i64 op6, .int .i64 N6, .string nm6, .slice B6 l6 k6] 24)) := (Below.refl _ w6).al _
      have D7 := Lib.hid (D6.out.below f7)
      have K7 := Lib.hid (K6.out.below_ f7)
      have X7 := Lib.hid (X6.out.below f7 X6.out.lt)
      have Y7 := Lib.hid y7
      have hb7 : w.heap.size + 1 ≤ w6.heap.size := by have := X6.out.lt; omega
      have R7 := Lib.hid (R6.out.kept (base' := w.heap.size + 1) (Kept.of_below (S := fun _ => False) f7) (fun _ _ _ e => e) (by omega))
      have RR := Lib.hid (R7.out.wrap (q := plainD (d + 1) (ts.drop i)) (cs' := [.int .i64 4, .int .i64 0, .string ⟨#[]⟩, .slice (some ⟨w6.heap.size, 0, none⟩) 1 1]) .non (by rw [HT.out, pl_non (by rw [← HT.out]; exact Hbn.out)]) (fun y hy => gc_one (t := 24) y7 hb7 rfl hy .non 4 ⟨#[]⟩ rfl rfl))
      clear y7 f7
      have v0 : (w6.alloc (.cells #[.int .i64 op6, .int .i64 N6, .string nm6, .slice B6 l6 k6] 24)).cell? ⟨w.heap.size, 0, none⟩ = some (.int .i64 0) := X7.out.cell 0
      have y0 := X7.out.frozen 0
      have v1 : (w6.alloc (.cells #[.int .i64 op6, .int .i64 N6, .string nm6, .slice B6 l6 k6] 24)).cell? ⟨w.heap.size, 1, none⟩ = some (.int .i64 0) := X7.out.cell 1
      have y1 := X7.out.frozen 1
      have v2 : (w6.alloc (.cells #[.int .i64 op6, .int .i64 N6, .string nm6, .slice B6 l6 k6] 24)).cell? ⟨w.heap.size, 2, none⟩ = some (.string ⟨#[]⟩) := X7.out.cell 2
      have y2 := X7.out.frozen 2
      have v3 : (w6.alloc (.cells #[.int .i64 op6, .int .i64 N6, .string nm6, .slice B6 l6 k6] 24)).cell? ⟨w.heap.size, 3, none⟩ = some (.slice none 0 0) := X7.out.cell 3
      have y3 := X7.out.frozen 3
      have Y9 := X7.out.put4 (.int .i64 4) (.int .i64 0) (.string ⟨#[]⟩) (.slice (some ⟨w6.heap.size, 0, none⟩) 1 1)
      have K9 := Kept.put4 (w6.alloc (.cells #[.int .i64 op6, .int .i64 N6, .string nm6, .slice B6 l6 k6] 24)) w.heap.size (.int .i64 4) (.int .i64 0) (.string ⟨#[]⟩) (.slice (some ⟨w6.heap.size, 0, none⟩) 1 1)
      go_wp2_with fail
      clear v0 v1 v2 v3 y0 y1 y2 y3 
      generalize ((((w6.alloc (.cells #[.int .i64 op6, .int .i64 N6, .string nm6, .slice B6 l6 k6] 24)).setCell ⟨w.heap.size, 0, none⟩ (.int .i64 4)).setCell ⟨w.heap.size, 1, none⟩ (.int .i64 0)).setCell ⟨w.heap.size, 2, none⟩ (.string ⟨#[]⟩)).setCell ⟨w.heap.size, 3, none⟩ (.slice (some ⟨w6.heap.size, 0, none⟩) 1 1) = W9 at *
      have s0 : W9.cell? ⟨w.heap.size, 0, none⟩ = some (.int .i64 4) := Y9.cell 0
      have s1 : W9.cell? ⟨w.heap.size, 1, none⟩ = some (.int .i64 0) := Y9.cell 1
      have s2 : W9.cell? ⟨w.heap.size, 2, none⟩ = some (.string ⟨#[]⟩) := Y9.cell 2
      have s3 : W9.cell? ⟨w.heap.size, 3, none⟩ = some (.slice (some ⟨w6.heap.size, 0, none⟩) 1 1) := Y9.cell 3
      refine bodyPost_ret (v := .agg #[.int .i64 4, .int .i64 0, .string ⟨#[]⟩, .slice (some ⟨w6.heap.size, 0, none⟩) 1 1]) (by simp [results, Tryz.results119, go_sem, s0, s1, s2, s3]) rfl ?_
      obtain ⟨d9, k9, r9⟩ := dex_mk HH.out D7.out K7.out K9 RR.out
      exact ⟨_, _, _, _, _, _, _, _, rfl, d9, k9, r9⟩
  · have IS4 := Lib.hid (is_any g c A ts i 0 ⟨#[110, 111, 116]⟩ w2 D2.out)
    rw [show (⟨#[110, 111, 116]⟩ : ByteArray).data.toList = [110, 111, 116] from rfl, hasT_ne (by decide) Hb45.out] at IS4
    go_wp2_with fail
    refine IS4.out.mono ?_
    rintro e w4 ⟨rfl, b4⟩
    have D4 := Lib.hid (D2.out.below b4)
    have K4 := Lib.hid (K2.out.below_ b4)
    have X4 := Lib.hid (X2.out.below b4 X2.out.lt)
    clear b4
    have hm := hasT_more D4.out Hb45.out
    have y1 : w4.cell? ⟨g, 1, none⟩ = some (.int .i64 (i : Nat)) := D4.out.blk.cell 1
    have u1 := D4.out.blk.frozen 1
    have wiu : IntKind.i64.wrap ((i : Int) + 1) = ((i : Int) + 1) := IntWalk.i64_in _ ⟨by omega, by omega⟩
    have KS := (Kept.refl (fun z => z = g) w4).setCell (p := ⟨g, 1, none⟩) (fun _ => rfl) (.int .i64 ((i : Int) + 1))
    have BS : Blk (w4.setCell ⟨g, 1, none⟩ (.int .i64 ((i : Int) + 1))) g 105 #[.slice A ts.length c, .int .i64 ((i + 1 : Nat) : Int), .int .i64 0] := by
      have := D4.out.blk.set_ 1 (.int .i64 ((i : Int) + 1))
      simpa using this
    have Du := Lib.hid (D4.out.put KS (fun _ _ e => e) hm BS)
    have Ku := Lib.hid (K4.out.then_ KS (fun _ _ e => e))
    have Xu := Lib.hid (X4.out.kept KS (by omega))
    clear KS BS
    go_upto_region 8 with fail
    generalize w4.setCell ⟨g, 1, none⟩ (.int .i64 ((i : Int) + 1)) = Wu at *
    have UND := Lib.hid (HUU.out (dp + 1) (i + 1) Wu (by omega) Du.out)
    go_wp2_with fail
    refine UND.out.mono ?_
    rintro e w6 ⟨op6, N6, nm6, B6, l6, k6, i6, er6, rfl, d6, kk6, r6⟩
    have hw6 := Xu.out.lt
    have D6 := Lib.hid d6
    have K6 := Lib.hid (Ku.out.then_ kk6 (fun _ _ e => e))
    have X6 := Lib.hid (Xu.out.kept kk6 (by omega))
    have R6 := Lib.hid r6
    clear d6 kk6 r6
    have y7 := Blk.new w6 24 #[.int .i64 op6, .int .i64 N6, .string nm6, .slice B6 l6 k6]
    have f7 : Below w6.heap.size w6 (w6.alloc (.cells #[.int .i64 op6, .int .i64 N6, .string nm6, .slice B6 l6 k6] 24)) := (Below.refl _ w6).al _
    have D7 := Lib.hid (D6.out.below f7)
    have K7 := Lib.hid (K6.out.below_ f7)
    have X7 := Lib.hid (X6.out.below f7 X6.out.lt)
    have Y7 := Lib.hid y7
    have hb7 : w.heap.size + 1 ≤ w6.heap.size := by have := X6.out.lt; omega
    have R7 := Lib.hid (R6.out.kept (base' := w.heap.size + 1) (Kept.of_below (S := fun _ => False) f7) (fun _ _ _ e => e) (by omega))
    have RR := Lib.hid (R7.out.wrap (q := plainD (d + 1) (ts.drop i)) (cs' := [.int .i64 3, .int .i64 0, .string ⟨#[]⟩, .slice (some ⟨w6.heap.size, 0, none⟩) 1 1]) .neg (by rw [HT.out, pl_neg (by rw [← HT.out]; exact Hb45.out)]) (fun y hy => gc_one (t := 24) y7 hb7 rfl hy .neg 3 ⟨#[]⟩ rfl rfl))
    clear y7 f7
    have v0 : (w6.alloc (.cells #[.int .i64 op6, .int .i64 N6, .string nm6, .slice B6 l6 k6] 24)).cell? ⟨w.heap.size, 0, none⟩ = some (.int .i64 0) := X7.out.cell 0
    have y0 := X7.out.frozen 0
    have v1 : (w6.alloc (.cells #[.int .i64 op6, .int .i64 N6, .string nm6, .slice B6 l6 k6] 24)).cell? ⟨w.heap.size, 1, none⟩ = some (.int .i64 0) := X7.out.cell 1
    have y1 := X7.out.frozen 1
    have v2 : (w6.alloc (.cells #[.int .i64 op6, .int .i64 N6, .string nm6, .slice B6 l6 k6] 24)).cell? ⟨w.heap.size, 2, none⟩ = some (.string ⟨#[]⟩) := X7.out.cell 2
    have y2 := X7.out.frozen 2
    have v3 : (w6.alloc (.cells #[.int .i64 op6, .int .i64 N6, .string nm6, .slice B6 l6 k6] 24)).cell? ⟨w.heap.size, 3, none⟩ = some (.slice none 0 0) := X7.out.cell 3
    have y3 := X7.out.frozen 3
    have Y9 := X7.out.put4 (.int .i64 3) (.int .i64 0) (.string ⟨#[]⟩) (.slice (some ⟨w6.heap.size, 0, none⟩) 1 1)
    have K9 := Kept.put4 (w6.alloc (.cells #[.int .i64 op6, .int .i64 N6, .string nm6, .slice B6 l6 k6] 24)) w.heap.size (.int .i64 3) (.int .i64 0) (.string ⟨#[]⟩) (.slice (some ⟨w6.heap.size, 0, none⟩) 1 1)
    go_wp2_with fail
    clear v0 v1 v2 v3 y0 y1 y2 y3 
    generalize ((((w6.alloc (.cells #[.int .i64 op6, .int .i64 N6, .string nm6, .slice B6 l6 k6] 24)).setCell ⟨w.heap.size, 0, none⟩ (.int .i64 3)).setCell ⟨w.heap.size, 1, none⟩ (.int .i64 0)).setCell ⟨w.heap.size, 2, none⟩ (.string ⟨#[]⟩)).setCell ⟨w.heap.size, 3, none⟩ (.slice (some ⟨w6.heap.size, 0, none⟩) 1 1) = W9 at *
    have s0 : W9.cell? ⟨w.heap.size, 0, none⟩ = some (.int .i64 3) := Y9.cell 0
    have s1 : W9.cell? ⟨w.heap.size, 1, none⟩ = some (.int .i64 0) := Y9.cell 1
    have s2 : W9.cell? ⟨w.heap.size, 2, none⟩ = some (.string ⟨#[]⟩) := Y9.cell 2
    have s3 : W9.cell? ⟨w.heap.size, 3, none⟩ = some (.slice (some ⟨w6.heap.size, 0, none⟩) 1 1) := Y9.cell 3
    refine bodyPost_ret (v := .agg #[.int .i64 3, .int .i64 0, .string ⟨#[]⟩, .slice (some ⟨w6.heap.size, 0, none⟩) 1 1]) (by simp [results, Tryz.results119, go_sem, s0, s1, s2, s3]) rfl ?_
    obtain ⟨d9, k9, r9⟩ := dex_mk HH.out D7.out K7.out K9 RR.out
    exact ⟨_, _, _, _, _, _, _, _, rfl, d9, k9, r9⟩
end Go.Proofs.YtdgekckedchjbaaGreatDoor
