
/-
  The document's parser of expressions: its induction; baizeref10.Expression. (Printed by wip/tools/gend7.py.)
-/
import Derived.Test.YtdgekckedchjbaaGreatDoorD6
import Derived.Test.YtdgekckedchjbaaGreatDoorQK
import Derived.Test.YtdgekckedchjbaaGreatDoorQQ
import Derived.Deep.RegionHeld3
namespace Go.Proofs.YtdgekckedchjbaaGreatDoor
open Go.RowKit

theorem level_down (g c : Nat) (A : Option Addr) (ts : List Tk) (d : Nat) (HP : RPlainOk g c A ts d) : ∀ m, m ≤ 5 → RLevelOk g c A ts d (5 - m)
  | 0, _ => level_five g c A ts d HP
  | m + 1, h => by
    have h1 := level_down g c A ts d HP m (by omega)
    rw [show 5 - m = (5 - (m + 1)) + 1 from by omega] at h1
    exact level_step g c A ts d (5 - (m + 1)) (by omega) h1
theorem rparse_all (g c : Nat) (A : Option Addr) (ts : List Tk) : ∀ d, d ≤ 16 → RUnderOk g c A ts d ∧ RExprOk g c A ts d
  | 0, h => ⟨under_step g c A ts 0 h (fun h => absurd rfl h), dexpr_step g c A ts 0 h (fun h => absurd rfl h)⟩
  | d + 1, h => by
    obtain ⟨h1, h2⟩ := rparse_all g c A ts d (by omega)
    have hp := plain_step g c A ts d (by omega) h1 h2
    exact ⟨under_step g c A ts (d + 1) h (fun _ => hp), dexpr_step g c A ts (d + 1) h (fun _ => level_down g c A ts (d + 1) hp 5 (by omega))⟩
theorem mark_kind : ∀ x ∈ markTs, (pieceS x).kind = 3 ∨ (pieceS x).kind = 4 := by decide +kernel
theorem mark_nil : ¬ ([] : List UInt8) ∈ markTs := by decide
/-- The document's parser at its beginning. -/
theorem DP.start {l : List UInt8} {ts : List Tk} (h : lexS l = .ok ts) (hl : l.length ≤ 65536) {w w' : World} {A : Option Addr} {c g : Nat} (hr : Reads w w.heap.size 5 A ts.length (tksCells ts)) (hb : Below w.heap.size w w') (hg : w.heap.size ≤ g) (hB : Blk w' g 105 #[.slice A ts.length c, .int .i64 ((0 : Nat) : Int), .int .i64 0]) : DP w' g A c ts 0 0 := by
  obtain ⟨us, L, C, hts, hgood, _, hn⟩ := lexS_good h
  have hlen : ts.length = us.length + 1 := by rw [hts]; simp
  refine ⟨(hr.below hb).more hb.size, fun a ha e => ?_, by omega, fun t j hj hk => ?_, fun t ht hm => ?_, hB, by omega⟩
  · obtain ⟨ad, h1, h2, _⟩ := hr.2 (by omega)
    have : a = ad := Option.some.inj (ha.symm.trans h1)
    subst this
    omega
  · rcases Nat.lt_or_ge (j + 1) ts.length with h1 | h1
    · exact h1
    · exfalso
      have hj2 : j < ts.length := by
        rcases Nat.lt_or_ge j ts.length with h2 | h2
        · exact h2
        · rw [List.getElem?_eq_none h2] at hj
          cases hj
      have : j = us.length := by omega
      rw [hts, this, List.getElem?_append_right (by omega), Nat.sub_self] at hj
      have := Option.some.inj hj
      exact hk (by rw [← this])
  · rw [hts, List.mem_append] at ht
    rcases ht with ht | ht
    · have := mark_kind _ hm
      rw [(hgood t ht).2] at this
      exact this
    · rw [List.mem_singleton] at ht
      rw [ht] at hm
      exact absurd hm mark_nil
theorem exprO_tok {l : List UInt8} {ts : List Tk} (h : lexS l = .ok ts) : exprO l = endO (joinL (plainD 16) 5 ts) := by
  unfold exprO
  rw [h]
theorem endO_no {r : List Tk} {e : Int} : ∀ x, endO (.bad r e) ≠ .ok x := fun x h => by
  cases r <;> cases h
theorem endO_yes {x : Ex} {t : Tk} {r : List Tk} (h : t.kind = 0) : endO (.ok x (t :: r)) = .ok x := if_pos h
theorem endO_not {x : Ex} {t : Tk} {r : List Tk} (h : ¬ t.kind = 0) : ∀ y, endO (.ok x (t :: r)) ≠ .ok y := fun y h2 => by
  rw [show endO (.ok x (t :: r)) = .bad t.line t.col 3 from if_neg h] at h2
  cases h2

set_option maxRecDepth 100000 in
theorem run_fieldRT3 (w : World) (k n l c : Int) (s : ByteArray) : Sem.run Tryz.prog (Instr.field 108 (.agg #[.int .i64 k, .string s, .int .i64 n, .int .i64 l, .int .i64 c]) 3) w = .ok (.int .i64 l) w := by rfl
set_option maxRecDepth 100000 in
theorem run_fieldRT4 (w : World) (k n l c : Int) (s : ByteArray) : Sem.run Tryz.prog (Instr.field 108 (.agg #[.int .i64 k, .string s, .int .i64 n, .int .i64 l, .int .i64 c]) 4) w = .ok (.int .i64 c) w := by rfl
theorem cell_far4 {W : World} {b : Nat} {p : Addr} (h : p.block ≠ b) (x0 x1 x2 x3 : Value) : ((((W.setCell ⟨b, 0, none⟩ x0).setCell ⟨b, 1, none⟩ x1).setCell ⟨b, 2, none⟩ x2).setCell ⟨b, 3, none⟩ x3).cell? p = W.cell? p := by
  rw [World.cell?_setCell_other _ _ _ _ (fun e => h (by rw [← e])), World.cell?_setCell_other _ _ _ _ (fun e => h (by rw [← e])), World.cell?_setCell_other _ _ _ _ (fun e => h (by rw [← e])), World.cell?_setCell_other _ _ _ _ (fun e => h (by rw [← e]))]
/-- What the document's Tokens gives, of any text. -/
def RTk (w : World) (s : ByteArray) (e : Ending) (w' : World) : Prop :=
  ∃ (A : Option Addr) (n c : Nat) (L C E : Int), e = .returned (.tuple #[.slice A n c, .int .i64 L, .int .i64 C, .int .i64 E]) ∧ Below w.heap.size w w' ∧
    ((E = 0 ∧ s.size ≤ 65536 ∧ ∃ ts, lexS s.data.toList = .ok ts ∧ n = ts.length ∧ Reads w' w'.heap.size 5 A n (tksCells ts)) ∨ (E ≠ 0 ∧ ¬ (s.size ≤ 65536 ∧ ∃ ts, lexS s.data.toList = .ok ts)))
set_option maxHeartbeats 2000000 in
set_option maxRecDepth 100000 in
theorem refTokens_long (s : ByteArray) (w : World) (hs : 65536 < s.size) (hs2 : s.size ≤ 9223372036854775807) :
    Calls Tryz.prog 46 #[.string s] w fun e w' => e = .returned (.tuple #[.slice none 0 0, .int .i64 0, .int .i64 0, .int .i64 2]) ∧ Below w.heap.size w w' := by
  have g1 : (65536 : Int) < (s.size : Int) := by omega
  go_enter Tryz.func46, Tryz.ntmps46
  go_wp2_with fail
  refine bodyPost_ret (v := .tuple #[.slice none 0 0, .int .i64 0, .int .i64 0, .int .i64 2]) (by simp [results, Tryz.results46, go_sem]) rfl ⟨rfl, Below.refl _ _⟩
theorem refTokens_all (s : ByteArray) (w : World) (hs2 : s.size ≤ 9223372036854775807) : Calls Tryz.prog 46 #[.string s] w (RTk w s) := by
  by_cases hs : s.size ≤ 65536
  · refine (refTokens_any s w hs).mono ?_
    rintro e w' ⟨hb, h⟩
    cases ho : lexS s.data.toList with
    | ok ts =>
      rw [ho] at h
      obtain ⟨A, c, he, hr⟩ := h
      exact ⟨A, _, c, 0, 0, 0, he, hb, .inl ⟨rfl, hs, ts, ho, rfl, Reads.of_own hr⟩⟩
    | err l c er =>
      rw [ho] at h
      refine ⟨none, 0, 0, l, c, er, h, hb, .inr ⟨(lexS_err ho).1, fun ⟨_, ts, h2⟩ => ?_⟩⟩
      rw [h2] at ho
      cases ho
  · refine (refTokens_long s w (by omega) hs2).mono ?_
    rintro e w' ⟨he, hb⟩
    exact ⟨none, 0, 0, 0, 0, 2, he, hb, .inr ⟨by decide, fun h => hs h.1⟩⟩

/-- What the document's Expression gives. -/
def RXTo (w : World) (s : ByteArray) (e : Ending) (w' : World) : Prop :=
  ∃ (op N : Int) (nm : ByteArray) (B : Option Addr) (l k : Nat) (L C E : Int), e = .returned (.tuple #[.agg #[.int .i64 op, .int .i64 N, .string nm, .slice B l k], .int .i64 L, .int .i64 C, .int .i64 E]) ∧ Below w.heap.size w w' ∧
    ((E = 0 ∧ s.size ≤ 65536 ∧ ∃ x : Ex, exprO s.data.toList = .ok x ∧ GC (fun _ => True) w' 2513169434843 x.dep [.int .i64 op, .int .i64 N, .string nm, .slice B l k] x.gx) ∨ (E ≠ 0 ∧ ¬ (s.size ≤ 65536 ∧ ∃ x : Ex, exprO s.data.toList = .ok x)))
set_option maxHeartbeats 4000000 in
set_option maxRecDepth 100000 in
theorem refExpression_any (s : ByteArray) (w : World) (hs2 : s.size ≤ 9223372036854775807) : Calls Tryz.prog 24 #[.string s] w (RXTo w s) := by
  have X1 := Lib.hid (Blk.new w 24 #[.int .i64 0, .int .i64 0, .string ⟨#[]⟩, .slice none 0 0])
  have F1 := Lib.hid ((Below.refl _ w).al (.cells #[.int .i64 0, .int .i64 0, .string ⟨#[]⟩, .slice none 0 0] 24))
  have HXS : Hid (∀ W, Calls Tryz.prog 46 #[.string s] W (RTk W s)) := fun W => refTokens_all s W hs2
  clear hs2
  go_enter Tryz.func24, Tryz.ntmps24
  go_upto_region 1 with fail
  generalize w.alloc (.cells #[.int .i64 0, .int .i64 0, .string ⟨#[]⟩, .slice none 0 0] 24) = W1 at *
  have TK := Lib.hid (HXS.out W1)
  go_wp2_with fail
  refine TK.out.mono ?_
  rintro e w2 ⟨A, n, c, L, C, E, rfl, b2, h2⟩
  have F2 := Lib.hid (F1.out.trans (b2.mono F1.out.size))
  have X2 := Lib.hid (X1.out.below b2 X1.out.lt)
  clear b2 TK HXS X1
  rcases h2 with ⟨rfl, hs, ts, hts, rfl, hrd⟩ | ⟨hE, hno⟩
  rotate_left
  · have hE2 : ((E : Int) == 0) = false := by simp [hE]
    have HNO := Lib.hid hno
    clear hno
    have x9 := X2.out
    have v0 := x9.cell 0
    have y0 := x9.frozen 0
    have v1 := x9.cell 1
    have y1 := x9.frozen 1
    have v2 := x9.cell 2
    have y2 := x9.frozen 2
    have v3 := x9.cell 3
    have y3 := x9.frozen 3
    go_wp2_with fail
    have X9 := x9.put4 (.int .i64 0) (.int .i64 0) (.string ⟨#[]⟩) (.slice none 0 0)
    have K9 := Lib.hid (Kept.put4 w2 w.heap.size (.int .i64 0) (.int .i64 0) (.string ⟨#[]⟩) (.slice none 0 0))
    clear v0 v1 v2 v3 y0 y1 y2 y3
    generalize (((w2.setCell ⟨w.heap.size, 0, none⟩ (.int .i64 0)).setCell ⟨w.heap.size, 1, none⟩ (.int .i64 0)).setCell ⟨w.heap.size, 2, none⟩ (.string ⟨#[]⟩)).setCell ⟨w.heap.size, 3, none⟩ (.slice none 0 0) = W9 at *
    have s0 : W9.cell? ⟨w.heap.size, 0, none⟩ = some (.int .i64 0) := X9.cell 0
    have s1 : W9.cell? ⟨w.heap.size, 1, none⟩ = some (.int .i64 0) := X9.cell 1
    have s2 : W9.cell? ⟨w.heap.size, 2, none⟩ = some (.string ⟨#[]⟩) := X9.cell 2
    have s3 : W9.cell? ⟨w.heap.size, 3, none⟩ = some (.slice none 0 0) := X9.cell 3
    refine bodyPost_ret (v := .tuple #[.agg #[.int .i64 0, .int .i64 0, .string ⟨#[]⟩, .slice none 0 0], .int .i64 L, .int .i64 C, .int .i64 E]) (by simp [results, Tryz.results24, go_sem, s0, s1, s2, s3]) rfl ?_
    exact ⟨_, _, _, _, _, _, _, _, _, rfl, F2.out.trans (K9.out.to_below F2.out.size (fun q hq e => by omega)), .inr ⟨hE, fun ⟨h1, x, h3⟩ => HNO.out ⟨h1, by
      cases hq : lexS s.data.toList with
      | ok ts => exact ⟨ts, rfl⟩
      | err a b d =>
        unfold exprO at h3
        rw [hq] at h3
        cases h3⟩⟩⟩
  have HS := Lib.hid hs
  have HTS := Lib.hid hts
  have HRD := Lib.hid hrd
  have hlen : s.data.toList.length = s.size := size_list _
  have y3 := Blk.new w2 105 #[.slice A ts.length c, .int .i64 0, .int .i64 0]
  have f3 : Below w2.heap.size w2 (w2.alloc (.cells #[.slice A ts.length c, .int .i64 0, .int .i64 0] 105)) := (Below.refl _ w2).al _
  have D3 := Lib.hid (DP.start hts (by omega) hrd f3 (Nat.le_refl _) y3)
  have F3 := Lib.hid (F2.out.trans (f3.mono F2.out.size))
  have X3 := Lib.hid (X2.out.below f3 X2.out.lt)
  have hg : w.heap.size < w2.heap.size := X2.out.lt
  have HG := Lib.hid hg
  clear hs hts hrd y3 f3 hlen hg X2
  go_upto_region 5 with fail
  generalize w2.alloc (.cells #[.slice A ts.length c, .int .i64 0, .int .i64 0] 105) = W3 at *
  obtain ⟨g, hgg⟩ : ∃ g, w2.heap.size = g := ⟨_, rfl⟩
  rw [hgg] at D3 HG
  rw [hgg]
  have HGG := Lib.hid hgg
  clear hgg
  have EX := Lib.hid ((rparse_all g c A ts 16 (by omega)).2 1 0 W3 (by omega) D3.out)
  go_wp2_with fail
  refine EX.out.mono ?_
  rintro e w4 ⟨op4, N4, nm4, B4, l4, k4, i4, er4, rfl, d4, kk4, r4⟩
  have f5 : Below w4.heap.size w4 (w4.alloc (.cells #[.int .i64 op4, .int .i64 N4, .string nm4, .slice B4 l4 k4] 24)) := (Below.refl _ w4).al _
  have Y5 := Lib.hid (Blk.new w4 24 #[.int .i64 op4, .int .i64 N4, .string nm4, .slice B4 l4 k4])
  have D5 := Lib.hid (d4.below f5)
  have F4 : Below w.heap.size w w4 := F3.out.trans (kk4.to_below F3.out.size (fun q hq e => by have := HG.out; omega))
  have F5 := Lib.hid (F4.trans (f5.mono F4.size))
  have X5 := Lib.hid ((X3.out.kept kk4 (by have := HG.out; omega)).below f5 (Nat.lt_of_lt_of_le X3.out.lt kk4.size))
  have hz4 : w.heap.size < w4.heap.size := Nat.lt_of_lt_of_le X3.out.lt kk4.size
  have R5 := Lib.hid (r4.kept (base' := W3.heap.size) (Kept.of_below (S := fun _ => False) f5) (fun _ _ _ e => e) (Nat.le_refl _))
  have hX3 := X3.out.lt
  obtain ⟨t, ht⟩ := d4.one
  have HT := Lib.hid ht
  have HDT := Lib.hid (drop_tok ht)
  clear EX d4 kk4 r4 F4 ht D3 F3 X3 F2 F1
  generalize hW5 : w4.alloc (.cells #[.int .i64 op4, .int .i64 N4, .string nm4, .slice B4 l4 k4] 24) = W5 at *
  by_cases he4 : er4 = 0
  rotate_left
  · have HNO : Hid (∀ x, exprO s.data.toList ≠ .ok x) := by
      rcases R5.out with ⟨h, _⟩ | ⟨_, r, e, h⟩
      · exact absurd h he4
      · rw [List.drop_zero] at h
        intro x
        rw [exprO_tok HTS.out, h]
        exact endO_no x
    clear R5
    have c2 : W5.cell? ⟨g, 2, none⟩ = some (.int .i64 er4) := D5.out.blk.cell 2
    have he' : ((er4 : Int) == 0) = false := by simp [he4]
    go_upto_region 9 with fail
    have NW := Lib.hid (fun (V : World) (hV : Below W5.heap.size W5 V) => now_any g c A ts i4 er4 V (D5.out.below hV) t HT.out)
    have QS : Hid (∀ V, Below W5.heap.size W5 V → V.cell? ⟨g, 2, none⟩ = some (.int .i64 er4)) := fun V hV => (D5.out.below hV).blk.cell 2
    have XX := Lib.hid (fun (V : World) (hV : Below W5.heap.size W5 V) => X5.out.below hV X5.out.lt)
    have hgw : g ≠ w.heap.size := by have := HG.out; omega
    have f0 := (Below.refl W5.heap.size W5).drew
    clear c2
    have hr3 := run_fieldRT3
    have hr4 := run_fieldRT4
    go_region_held3 (fun V => V.cell? ⟨g, 2, none⟩ = some (.int .i64 er4)) (first | (with_reducible exact QS.out _ f0) | (with_reducible exact QS.out _ f1) | (with_reducible exact QS.out _ f2) | exact (cell_far4 (p := ⟨g, 2, none⟩) hgw _ _ _ _).trans (QS.out _ f2))
      (first
      | (go_at_call 48; (with_reducible refine (NW.out _ f0).mono ?_); rintro e wa ⟨rfl, ba⟩; have f1 := f0.trans (ba.mono f0.size))
      | (go_at_call 48; (with_reducible refine (NW.out _ f1).mono ?_); rintro e wb ⟨rfl, bb⟩; have f2 := f1.trans (bb.mono f1.size); have x9 := XX.out _ f2; have v0 := x9.cell 0; have v1 := x9.cell 1; have v2 := x9.cell 2; have v3 := x9.cell 3; have y0 := x9.frozen 0; have y1 := x9.frozen 1; have y2 := x9.frozen 2; have y3 := x9.frozen 3))
    all_goals
      have F9 := Lib.hid (F5.out.trans (f2.mono F5.out.size))
      go_wp2_with fail
      have X9 := x9.put4 (.int .i64 0) (.int .i64 0) (.string ⟨#[]⟩) (.slice none 0 0)
      have K9 := Lib.hid (Kept.put4 wb w.heap.size (.int .i64 0) (.int .i64 0) (.string ⟨#[]⟩) (.slice none 0 0))
      clear v0 v1 v2 v3 y0 y1 y2 y3
      generalize (((wb.setCell ⟨w.heap.size, 0, none⟩ (.int .i64 0)).setCell ⟨w.heap.size, 1, none⟩ (.int .i64 0)).setCell ⟨w.heap.size, 2, none⟩ (.string ⟨#[]⟩)).setCell ⟨w.heap.size, 3, none⟩ (.slice none 0 0) = W9 at *
      have s0 : W9.cell? ⟨w.heap.size, 0, none⟩ = some (.int .i64 0) := X9.cell 0
      have s1 : W9.cell? ⟨w.heap.size, 1, none⟩ = some (.int .i64 0) := X9.cell 1
      have s2 : W9.cell? ⟨w.heap.size, 2, none⟩ = some (.string ⟨#[]⟩) := X9.cell 2
      have s3 : W9.cell? ⟨w.heap.size, 3, none⟩ = some (.slice none 0 0) := X9.cell 3
      refine bodyPost_ret (v := .tuple #[.agg #[.int .i64 0, .int .i64 0, .string ⟨#[]⟩, .slice none 0 0], .int .i64 t.line, .int .i64 t.col, .int .i64 er4]) (by simp [results, Tryz.results24, go_sem, s0, s1, s2, s3]) rfl ?_
      exact ⟨_, _, _, _, _, _, _, _, _, rfl, F9.out.trans (K9.out.to_below F9.out.size (fun q hq e => by omega)), .inr ⟨he4, fun ⟨_, x, h⟩ => HNO.out x h⟩⟩
  subst he4
  obtain ⟨x, hx, hgc⟩ : ∃ x : Ex, joinL (plainD 16) 5 (ts.drop 0) = .ok x (ts.drop i4) ∧ GC (fun z => W3.heap.size ≤ z) W5 2513169434843 x.dep [.int .i64 op4, .int .i64 N4, .string nm4, .slice B4 l4 k4] x.gx := by
    rcases R5.out with ⟨_, h⟩ | ⟨h, _⟩
    · exact h
    · exact absurd rfl h
  rw [List.drop_zero, HDT.out] at hx
  have HX := Lib.hid hx
  have HGC := Lib.hid hgc
  clear hx hgc R5
  have NW := Lib.hid (now_any g c A ts i4 0 W5 D5.out t HT.out)
  have c2 : W5.cell? ⟨g, 2, none⟩ = some (.int .i64 0) := D5.out.blk.cell 2
  by_cases k0 : t.kind = 0
  rotate_left
  · have e0 : ((t.kind : Int) == 0) = false := by simp [k0]
    have HNO : Hid (∀ y, exprO s.data.toList ≠ .ok y) := by
      intro y
      rw [exprO_tok HTS.out, HX.out]
      exact endO_not k0 y
    clear k0 HX
    go_wp2_with fail
    refine NW.out.mono ?_
    rintro e w6 ⟨rfl, b6⟩
    have D6 := Lib.hid (D5.out.below b6)
    have X6 := Lib.hid (X5.out.below b6 X5.out.lt)
    have F6 := Lib.hid (F5.out.trans (b6.mono F5.out.size))
    clear b6 NW c2
    have FL := Lib.hid (fail_any g c A ts i4 w6 D6.out)
    go_wp2_with fail
    rw [run_fieldRT0]
    go_wp2_with fail
    refine FL.out.mono ?_
    rintro e w7 ⟨er7, her, rfl, d7, k7⟩
    have D7 := Lib.hid d7
    have X7 := Lib.hid (X6.out.kept k7 (by have := HG.out; omega))
    have F7 := Lib.hid (F6.out.trans (k7.to_below F6.out.size (fun q hq e => by have := HG.out; omega)))
    clear d7 k7 FL
    have c2 : w7.cell? ⟨g, 2, none⟩ = some (.int .i64 er7) := D7.out.blk.cell 2
    have he' : ((er7 : Int) == 0) = false := by simp [her]
    go_upto_region 9 with fail
    have NW := Lib.hid (fun (V : World) (hV : Below w7.heap.size w7 V) => now_any g c A ts i4 er7 V (D7.out.below hV) t HT.out)
    have QS : Hid (∀ V, Below w7.heap.size w7 V → V.cell? ⟨g, 2, none⟩ = some (.int .i64 er7)) := fun V hV => (D7.out.below hV).blk.cell 2
    have XX := Lib.hid (fun (V : World) (hV : Below w7.heap.size w7 V) => X7.out.below hV X7.out.lt)
    have hgw : g ≠ w.heap.size := by have := HG.out; omega
    have f0 := (Below.refl w7.heap.size w7).drew
    clear c2
    have hr3 := run_fieldRT3
    have hr4 := run_fieldRT4
    go_region_held3 (fun V => V.cell? ⟨g, 2, none⟩ = some (.int .i64 er7)) (first | (with_reducible exact QS.out _ f0) | (with_reducible exact QS.out _ f1) | (with_reducible exact QS.out _ f2) | exact (cell_far4 (p := ⟨g, 2, none⟩) hgw _ _ _ _).trans (QS.out _ f2))
      (first
      | (go_at_call 48; (with_reducible refine (NW.out _ f0).mono ?_); rintro e wa ⟨rfl, ba⟩; have f1 := f0.trans (ba.mono f0.size))
      | (go_at_call 48; (with_reducible refine (NW.out _ f1).mono ?_); rintro e wb ⟨rfl, bb⟩; have f2 := f1.trans (bb.mono f1.size); have x9 := XX.out _ f2; have v0 := x9.cell 0; have v1 := x9.cell 1; have v2 := x9.cell 2; have v3 := x9.cell 3; have y0 := x9.frozen 0; have y1 := x9.frozen 1; have y2 := x9.frozen 2; have y3 := x9.frozen 3))
    all_goals
      have F9 := Lib.hid (F7.out.trans (f2.mono F7.out.size))
      go_wp2_with fail
      have X9 := x9.put4 (.int .i64 0) (.int .i64 0) (.string ⟨#[]⟩) (.slice none 0 0)
      have K9 := Lib.hid (Kept.put4 wb w.heap.size (.int .i64 0) (.int .i64 0) (.string ⟨#[]⟩) (.slice none 0 0))
      clear v0 v1 v2 v3 y0 y1 y2 y3
      generalize (((wb.setCell ⟨w.heap.size, 0, none⟩ (.int .i64 0)).setCell ⟨w.heap.size, 1, none⟩ (.int .i64 0)).setCell ⟨w.heap.size, 2, none⟩ (.string ⟨#[]⟩)).setCell ⟨w.heap.size, 3, none⟩ (.slice none 0 0) = W9 at *
      have s0 : W9.cell? ⟨w.heap.size, 0, none⟩ = some (.int .i64 0) := X9.cell 0
      have s1 : W9.cell? ⟨w.heap.size, 1, none⟩ = some (.int .i64 0) := X9.cell 1
      have s2 : W9.cell? ⟨w.heap.size, 2, none⟩ = some (.string ⟨#[]⟩) := X9.cell 2
      have s3 : W9.cell? ⟨w.heap.size, 3, none⟩ = some (.slice none 0 0) := X9.cell 3
      refine bodyPost_ret (v := .tuple #[.agg #[.int .i64 0, .int .i64 0, .string ⟨#[]⟩, .slice none 0 0], .int .i64 t.line, .int .i64 t.col, .int .i64 er7]) (by simp [results, Tryz.results24, go_sem, s0, s1, s2, s3]) rfl ?_
      exact ⟨_, _, _, _, _, _, _, _, _, rfl, F9.out.trans (K9.out.to_below F9.out.size (fun q hq e => by omega)), .inr ⟨her, fun ⟨_, x, h⟩ => HNO.out x h⟩⟩
  have e0 : ((t.kind : Int) == 0) = true := by simp [k0]
  have HOK : Hid (exprO s.data.toList = .ok x) := by
    rw [Hid, exprO_tok HTS.out, HX.out]
    exact endO_yes k0
  clear k0 HX
  go_wp2_with fail
  refine NW.out.mono ?_
  rintro e w6 ⟨rfl, b6⟩
  have D6 := Lib.hid (D5.out.below b6)
  have X6 := Lib.hid (X5.out.below b6 X5.out.lt)
  have Y6 := Lib.hid (Y5.out.below b6 Y5.out.lt)
  have F6 := Lib.hid (F5.out.trans (b6.mono F5.out.size))
  have G6 := Lib.hid (HGC.out.below b6)
  have hz6 := b6.size
  have hz5 := Y5.out.lt
  clear b6 NW c2 HGC
  have c2 : w6.cell? ⟨g, 2, none⟩ = some (.int .i64 0) := D6.out.blk.cell 2
  have y6 := Y6.out
  have p0 := y6.cell 0
  have p1 := y6.cell 1
  have p2 := y6.cell 2
  have p3 := y6.cell 3
  have x9 := X6.out
  have v0 := x9.cell 0
  have y0 := x9.frozen 0
  have v1 := x9.cell 1
  have y1 := x9.frozen 1
  have v2 := x9.cell 2
  have y2 := x9.frozen 2
  have v3 := x9.cell 3
  have y3 := x9.frozen 3
  go_wp2_with fail
  rw [run_fieldRT0]
  go_wp2_with fail
  clear p0 p1 p2 p3 y6
  have X9 := x9.put4 (.int .i64 op4) (.int .i64 N4) (.string nm4) (.slice B4 l4 k4)
  have K9 := Lib.hid (Kept.put4 w6 w.heap.size (.int .i64 op4) (.int .i64 N4) (.string nm4) (.slice B4 l4 k4))
  clear v0 v1 v2 v3 y0 y1 y2 y3
  generalize (((w6.setCell ⟨w.heap.size, 0, none⟩ (.int .i64 op4)).setCell ⟨w.heap.size, 1, none⟩ (.int .i64 N4)).setCell ⟨w.heap.size, 2, none⟩ (.string nm4)).setCell ⟨w.heap.size, 3, none⟩ (.slice B4 l4 k4) = W9 at *
  have s0 : W9.cell? ⟨w.heap.size, 0, none⟩ = some (.int .i64 op4) := X9.cell 0
  have s1 : W9.cell? ⟨w.heap.size, 1, none⟩ = some (.int .i64 N4) := X9.cell 1
  have s2 : W9.cell? ⟨w.heap.size, 2, none⟩ = some (.string nm4) := X9.cell 2
  have s3 : W9.cell? ⟨w.heap.size, 3, none⟩ = some (.slice B4 l4 k4) := X9.cell 3
  refine bodyPost_ret (v := .tuple #[.agg #[.int .i64 op4, .int .i64 N4, .string nm4, .slice B4 l4 k4], .int .i64 0, .int .i64 0, .int .i64 0]) (by simp [results, Tryz.results24, go_sem, s0, s1, s2, s3]) rfl ?_
  exact ⟨_, _, _, _, _, _, _, _, _, rfl, F6.out.trans (K9.out.to_below F6.out.size (fun q hq e => by omega)), .inl ⟨rfl, HS.out, x, HOK.out, GC.kept K9.out (fun z hz hd e => by omega) (fun _ _ _ => trivial) _ _ _ G6.out⟩⟩
end Go.Proofs.YtdgekckedchjbaaGreatDoor
