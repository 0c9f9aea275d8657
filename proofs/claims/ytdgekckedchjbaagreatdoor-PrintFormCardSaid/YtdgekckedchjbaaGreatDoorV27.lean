
/-
  PrintForm: the form of the text that is printed. (Printed by wip/tools/genv27.py.)
-/
import Derived.Test.YtdgekckedchjbaaGreatDoorV25

import Derived.Test.YtdgekckedchjbaaGreatDoorV26
namespace Go.Proofs.YtdgekckedchjbaaGreatDoor
open Go.RowKit

/-- The text's next line. -/
theorem FormS.next {d e : Nat} {s : List UInt8} (h : FormS d e s) {k : Nat} (hk : s[k]? = some 10) (hno : ∀ j, j < k → s[j]? ≠ some 10) :
    ∃ d', LineOk d d' (s.take k) ∧ FormS d' e (s.drop (k + 1)) := by
  cases h with
  | nil => simp at hk
  | @line _ d' _ l r hl hr =>
    have h10 : ∀ c ∈ l, c ≠ 10 := by
      obtain ⟨d1, b, rfl, hb, -, -⟩ := hl
      intro c hc
      rcases List.mem_append.1 hc with hc | hc
      · rw [blanks_mem d1 c hc]
        decide
      · exact hb.no10 c hc
    have hkl : k = l.length := by
      rcases Nat.lt_trichotomy k l.length with h | h | h
      · rw [List.getElem?_append_left h] at hk
        exact absurd rfl (h10 _ (List.mem_of_getElem? hk))
      · exact h
      · exact absurd (by rw [List.getElem?_append_right (Nat.le_refl _)]; simp) (hno _ h)
    subst hkl
    refine ⟨d', by rw [List.take_left]; exact hl, ?_⟩
    rw [show l.length + 1 = (l ++ [10]).length by simp, show l ++ 10 :: r = (l ++ [10]) ++ r by simp, List.drop_left]
    exact hr
theorem FormS.done {d e : Nat} {s : List UInt8} (h : FormS d e s) (hno : ∀ j : Nat, s[j]? ≠ some 10) : s = [] ∧ d = e := by
  cases h with
  | nil => exact ⟨rfl, rfl⟩
  | @line _ d' _ l r hl hr => exact absurd (by rw [List.getElem?_append_right (Nat.le_refl _)]; simp) (hno l.length)
theorem ext_mid (s : ByteArray) (a b : Nat) : (s.extract a b).data.toList = (s.data.toList.drop a).take (b - a) := by
  simp [List.take_drop]
theorem blanks_len (d : Nat) : (blanks d).length = 2 * d := by
  unfold blanks
  induction d with
  | zero => rfl
  | succ d ih => rw [Lib.repeatL, List.length_append, ih]; simp; omega
theorem blanks_at (d : Nat) : ∀ j, j < 2 * d → (blanks d)[j]? = some 32 := by
  unfold blanks
  induction d with
  | zero => intro j h; omega
  | succ d ih =>
    intro j h
    rw [Lib.repeatL]
    match j, h with
    | 0, _ => rfl
    | 1, _ => rfl
    | j + 2, h => exact ih j (by omega)
/-- The first word as the law's round takes it. -/
def WordAt (b W : List UInt8) (k : Nat) : Prop := (W = b ∧ k ≤ b.length ∧ ∀ j, j < k → b[j]? ≠ some 32) ∨ (W = firstW b ∧ k = W.length + 1)
theorem firstW_take {b : List UInt8} {k : Nat} (hk : b[k]? = some 32) (hno : ∀ j, j < k → b[j]? ≠ some 32) : firstW b = b.take k := by
  unfold firstW
  induction b generalizing k with
  | nil => simp at hk
  | cons c b ih =>
    cases k with
    | zero =>
      rw [List.getElem?_cons_zero] at hk
      injection hk with hk
      subst hk
      rfl
    | succ k =>
      have h0 : c ≠ 32 := fun e => hno 0 (by omega) (by rw [e]; rfl)
      rw [List.takeWhile_cons_of_pos (by simpa using h0), List.take_succ_cons, ih (by simpa using hk) fun j hj => by have := hno (j + 1) (by omega); simpa using this]
theorem firstW_all {b : List UInt8} (hno : ∀ j, j < b.length → b[j]? ≠ some 32) : firstW b = b := by
  unfold firstW
  have h : ∀ c ∈ b, (c != 32) = true := by
    intro c hc
    obtain ⟨j, hj, e⟩ := List.getElem_of_mem hc
    have := hno j hj
    rw [List.getElem?_eq_getElem hj, e] at this
    simpa using this
  have := List.takeWhile_append_of_pos (l₂ := []) h
  simpa using this
theorem WordAt.end_ {b W : List UInt8} {k : Nat} (h : WordAt b W k) (hk : ¬ k < W.length) : W = firstW b := by
  rcases h with ⟨rfl, h1, h2⟩ | ⟨h, _⟩
  · exact (firstW_all fun j hj => h2 j (by omega)).symm
  · exact h
theorem WordAt.go {b W : List UInt8} {k : Nat} (h : WordAt b W k) (hk : k < W.length) : b = W ∧ (b[k]? = some 32 → WordAt b (b.take k) (k + 1)) ∧ (b[k]? ≠ some 32 → WordAt b b (k + 1)) := by
  rcases h with ⟨rfl, h1, h2⟩ | ⟨h, h3⟩
  · refine ⟨rfl, fun e => .inr ⟨(firstW_take e h2).symm, by rw [List.length_take]; omega⟩, fun e => .inl ⟨rfl, by omega, fun j hj => ?_⟩⟩
    rcases Nat.lt_or_ge j k with h | h
    · exact h2 j h
    · rw [show j = k by omega]; exact e
  · omega
theorem WordAt.le {b W : List UInt8} {k : Nat} (h : WordAt b W k) : k ≤ b.length + 1 ∧ W.length ≤ b.length := by
  rcases h with ⟨rfl, h1, h2⟩ | ⟨h, h3⟩
  · exact ⟨by omega, Nat.le_refl _⟩
  · have : W.length ≤ b.length := by rw [h]; exact (List.takeWhile_sublist _).length_le
    exact ⟨by omega, this⟩
theorem ne32 {c : UInt8} (h : c ≠ 32) : ¬ ((c.toNat : Nat) : Int) = 32 := fun e => h (UInt8.toNat_inj.1 (show c.toNat = 32 by omega))
/-- No two blanks side by side. -/
theorem two_at {L : ByteArray} {d1 j : Nat} {b : List UInt8} {c1 c2 : UInt8} (hL : L.size = 2 * d1 + b.length) (hb : ∀ q, q < b.length → (hq : 2 * d1 + q < L.size) → b[q]? = some L[2 * d1 + q]) (hc : Clean b) (h0 : 2 * d1 ≤ j) (h1 : j + 1 < L.size) (e1 : L[j] = c1) (e2 : L[j + 1] = c2) : c1 = 32 → ¬ ((c2.toNat : Nat) : Int) = 32 := by
  intro h
  obtain ⟨q, rfl⟩ : ∃ q, j = 2 * d1 + q := ⟨j - 2 * d1, by omega⟩
  have h3 := hb q (by omega) (by omega)
  have h4 := hb (q + 1) (by omega) h1
  rw [e1, h] at h3
  refine ne32 fun e => hc.two q h3 ?_
  rw [h4]
  congr 1
  exact e2.trans e
theorem at_str (s : ByteArray) {k : Nat} (h : k < s.size) {c : UInt8} (e : s.data.toList[k]? = some c) : s[k] = c := by
  rw [at_list s h] at e
  exact Option.some.inj e

set_option maxHeartbeats 8000000 in
set_option maxRecDepth 100000 in
theorem printForm_walk (base : Nat) (s : ByteArray) (w : World) (hT : Tabs base w) (hP : TabP base w) (hb : base ≤ w.heap.size) (hs : s.size ≤ 9223372036854775807) :
    Calls Tryz.prog 7 #[.string s] w (Tells w true) := by
  have TB := Lib.hid hT
  have TP := Lib.hid hP
  have HB := Lib.hid hb
  clear hT hP hb
  by_cases hlen : 3000 < s.size
  · have hl : (3000 : Int) < (s.size : Int) := by omega
    go_enter Tryz.func7, Tryz.ntmps7
    have TD := Lib.hid (told_any base w TB.out HB.out)
    go_wp2_with fail
    refine TD.out.mono ?_
    rintro e wt ⟨rfl, bt⟩
    go_wp2_with fail
    go_ret
    exact ⟨rfl, (Below.refl w.heap.size w).trans (bt.mono (Below.refl w.heap.size w).size)⟩
  have hl : ¬ (3000 : Int) < (s.size : Int) := by omega
  go_enter Tryz.func7, Tryz.ntmps7
  have PA1 := Lib.hid (Parse_any s w (TB.out).sp (by omega))
  go_wp2_with fail
  refine PA1.out.mono ?_
  rintro e wp1 ⟨nm1, seats1, sil1, B11, m11, d11, B12, m12, d12, B13, m13, d13, B14, m14, d14, B15, m15, d15, B16, m16, d16, B17, m17, d17, B18, m18, d18, L1, C1, E1, rfl, bp1, hp1⟩
  obtain ⟨px1, hx1, hc1⟩ := parsed hp1
  have fa1 : Below w.heap.size w ((wp1.alloc (.cells #[.string nm1, .int .i64 seats1, .slice B11 m11 d11, .slice B12 m12 d12, .slice B13 m13 d13, .slice B14 m14 d14, .slice B15 m15 d15, .slice B16 m16 d16, .string sil1, .slice B17 m17 d17, .slice B18 m18 d18] 48)).alloc (.cells #[.int .i64 L1, .int .i64 C1] 50)) := (bp1.al _).al _
  obtain ⟨yb1, _⟩ := two_new wp1 48 50 #[.string nm1, .int .i64 seats1, .slice B11 m11 d11, .slice B12 m12 d12, .slice B13 m13 d13, .slice B14 m14 d14, .slice B15 m15 d15, .slice B16 m16 d16, .string sil1, .slice B17 m17 d17, .slice B18 m18 d18] #[.int .i64 L1, .int .i64 C1]
  have YB1 := Lib.hid yb1
  have HX1 := Lib.hid (hx1.stay (((Below.refl _ wp1).al (.cells #[.string nm1, .int .i64 seats1, .slice B11 m11 d11, .slice B12 m12 d12, .slice B13 m13 d13, .slice B14 m14 d14, .slice B15 m15 d15, .slice B16 m16 d16, .string sil1, .slice B17 m17 d17, .slice B18 m18 d18] 48)).al (.cells #[.int .i64 L1, .int .i64 C1] 50)))
  have HC1 := Lib.hid hc1
  have Fa1 := Lib.hid ((Below.refl w.heap.size w).trans ((fa1).mono (Below.refl w.heap.size w).size))
  have TBa1 := Lib.hid ((TB.out).below (fa1) HB.out)
  have TPa1 := Lib.hid ((TP.out).low ((fa1).mono HB.out))
  have HBa1 := Lib.hid (Nat.le_trans HB.out (fa1).size)
  clear bp1 hp1 hx1 hc1 yb1 PA1 fa1
  go_upto_region 4 with fail
  generalize (wp1.alloc (.cells #[.string nm1, .int .i64 seats1, .slice B11 m11 d11, .slice B12 m12 d12, .slice B13 m13 d13, .slice B14 m14 d14, .slice B15 m15 d15, .slice B16 m16 d16, .string sil1, .slice B17 m17 d17, .slice B18 m18 d18] 48)).alloc (.cells #[.int .i64 L1, .int .i64 C1] 50) = W1 at *
  have s0 : W1.cell? ⟨wp1.heap.size, 0, none⟩ = some (.string nm1) := YB1.out.cell 0
  have s1 : W1.cell? ⟨wp1.heap.size, 1, none⟩ = some (.int .i64 seats1) := YB1.out.cell 1
  have s2 : W1.cell? ⟨wp1.heap.size, 2, none⟩ = some (.slice B11 m11 d11) := YB1.out.cell 2
  have s3 : W1.cell? ⟨wp1.heap.size, 3, none⟩ = some (.slice B12 m12 d12) := YB1.out.cell 3
  have s4 : W1.cell? ⟨wp1.heap.size, 4, none⟩ = some (.slice B13 m13 d13) := YB1.out.cell 4
  have s5 : W1.cell? ⟨wp1.heap.size, 5, none⟩ = some (.slice B14 m14 d14) := YB1.out.cell 5
  have s6 : W1.cell? ⟨wp1.heap.size, 6, none⟩ = some (.slice B15 m15 d15) := YB1.out.cell 6
  have s7 : W1.cell? ⟨wp1.heap.size, 7, none⟩ = some (.slice B16 m16 d16) := YB1.out.cell 7
  have s8 : W1.cell? ⟨wp1.heap.size, 8, none⟩ = some (.string sil1) := YB1.out.cell 8
  have s9 : W1.cell? ⟨wp1.heap.size, 9, none⟩ = some (.slice B17 m17 d17) := YB1.out.cell 9
  have s10 : W1.cell? ⟨wp1.heap.size, 10, none⟩ = some (.slice B18 m18 d18) := YB1.out.cell 10
  have PR1 := Lib.hid (Print_any base _ nm1 sil1 seats1 B11 m11 d11 B12 m12 d12 B13 m13 d13 B14 m14 d14 B15 m15 d15 B16 m16 d16 B17 m17 d17 B18 m18 d18 px1 W1 TBa1.out TPa1.out HBa1.out HX1.out)
  go_wp2_with fail
  refine PR1.out.mono ?_
  rintro e V1 ⟨bq1, h1⟩
  have Fq1 := Lib.hid (Fa1.out.trans ((bq1).mono Fa1.out.size))
  have TBq1 := Lib.hid ((TBa1.out).below (bq1) HBa1.out)
  have TPq1 := Lib.hid ((TPa1.out).low ((bq1).mono HBa1.out))
  have HBq1 := Lib.hid (Nat.le_trans HBa1.out (bq1).size)
  clear PR1 bq1 s0 s1 s2 s3 s4 s5 s6 s7 s8 s9 s10
  rcases HC1.out with ⟨hE1, x, hx, hpx⟩ | ⟨hE1, hno⟩
  · subst hE1
    clear hx hpx HC1
    rcases h1 with ⟨t, ht, rfl⟩ | ⟨hno, rfl⟩
    · have HF := Lib.hid ht.form
      obtain ⟨T, hT⟩ : ∃ y, y = str t := ⟨_, rfl⟩
      rw [← hT]
      have hTs : T.size ≤ 65536 := by rw [hT, str_size]; exact ht.2.1
      have HTL : Hid (T.data.toList = t) := by rw [hT]; exact str_list _
      have HTZ : Hid (t.length = T.size) := by rw [hT, str_size]; rfl
      clear hT ht
      go_wp2_with fail
      go_loopw [8, 9, 10] (fun fr dp i wr => ∃ (f d k : Nat), k ≤ T.size ∧ f ≤ k ∧ d ≤ 40000 ∧ fr = .int .i64 f ∧ dp = .int .i64 d ∧ i = .int .i64 k ∧ Hid (FormS d 0 (t.drop f)) ∧ Hid (∀ j, f ≤ j → j < k → t[j]? ≠ some 10) ∧ wr = V1) (fun _ _ i _ => T.size - (intOf i).toNat)
      case atStart => exact ⟨0, 0, 0, by omega, by omega, by omega, rfl, rfl, rfl, HF.out, fun j h1 h2 => by omega, rfl⟩
      case round =>
        obtain ⟨f, d, k, hk, hfk, hd, rfl, rfl, rfl, HFS, HNO, rfl⟩ := hrel
        by_cases hlt : k < T.size
        · obtain ⟨c, hc⟩ : ∃ c : UInt8, T[k] = c := ⟨_, rfl⟩
          have HTK : Hid (t[k]? = some c) := by rw [Hid, ← HTL.out, at_list T hlt, hc]
          by_cases h10 : c = 10
          · subst h10
            obtain ⟨d', hline, hnext⟩ := HFS.out.next (k := k - f) (by rw [List.getElem?_drop, show f + (k - f) = k by omega]; exact HTK.out) (fun j hj => by rw [List.getElem?_drop]; exact HNO.out _ (by omega) (by omega))
            rw [List.drop_drop, show f + (k - f + 1) = k + 1 by omega] at hnext
            obtain ⟨d1, b, hlb, hb, hd0, hd'⟩ := hline
            have HNX := Lib.hid hnext
            have HB1 := Lib.hid hb
            obtain ⟨L, hL⟩ : ∃ y, T.extract f k = y := ⟨_, rfl⟩
            have hLl : L.data.toList = blanks d1 ++ b := by rw [← hL, ext_mid, HTL.out]; exact hlb
            have hLs : L.size = 2 * d1 + b.length := by rw [← size_list, hLl, List.length_append, blanks_len]
            have hLT : L.size ≤ T.size := by rw [← size_list, ← hL, ext_mid, List.length_take, List.length_drop, HTL.out, HTZ.out]; omega
            have hb0 : 1 ≤ b.length := List.length_pos_iff.2 hb.ne
            have HLL := Lib.hid hLl
            obtain ⟨B, hB⟩ : ∃ y, y = str b := ⟨_, rfl⟩
            have hBL : L.extract (2 * d1) L.size = B := by rw [ext_from, hLl, ← blanks_len d1, List.drop_left, hB]
            have HBS : Hid (B = str b) := hB
            have HBZ : Hid (B.size = b.length) := by rw [hB, str_size]; rfl
            have HLS := Lib.hid hLs
            have HLN : Hid (∀ q, q < b.length → (hq : 2 * d1 + q < L.size) → b[q]? = some L[2 * d1 + q]) := fun q hq hh => by
              rw [← at_list L hh, hLl, List.getElem?_append_right (by rw [blanks_len]; omega), blanks_len, show 2 * d1 + q - 2 * d1 = q by omega]
            clear hlb hnext hb hB hLl
            have HD0 := Lib.hid hd0
            have HD1 := Lib.hid hd'
            have hd1 : d1 ≤ 32768 := by omega
            have g0 : (0 : Int) ≤ (f : Int) := by omega
            have g1 : (f : Int) ≤ (k : Int) := by omega
            have g2 : (k : Int) ≤ (T.size : Int) := by omega
            clear hd0 hd' hLs
            go_wp2_with fail
            go_loopw [12] (fun a wr2 => ∃ j : Nat, j ≤ 2 * d1 ∧ a = .int .i64 j ∧ wr2 = wr) (fun a _ => 2 * d1 - (intOf a).toNat)
            case atStart => exact ⟨0, by omega, rfl, rfl⟩
            case round =>
              obtain ⟨j, hj, rfl, rfl⟩ := hrel
              by_cases hjl : j < 2 * d1
              · have hjL : j < L.size := by rw [HLS.out]; omega
                have h32 : L[j] = 32 := at_str L hjL (by rw [HLL.out, List.getElem?_append_left (by rw [blanks_len]; exact hjl)]; exact blanks_at d1 j hjl)
                go_wp2_with fail
                go_roundw
                case rel => exact ⟨j + 1, by omega, by go_num, by trivial⟩
                case measure => simp [intOf]; omega
              obtain rfl : j = 2 * d1 := by omega
              have hjL : 2 * d1 < L.size := by rw [HLS.out]; omega
              have h32 : ((L[2 * d1].toNat : Nat) : Int) ≠ 32 := by
                intro e
                have e2 : L[2 * d1] = 32 := UInt8.toNat_inj.1 (show (L[2 * d1]).toNat = 32 by omega)
                exact HB1.out.head _ (by have := HLN.out 0 (by omega) hjL; rw [this]; rfl) e2
              go_wp2_with fail
              go_loopw [13, 14] (fun wv kv wr2 => ∃ (V : ByteArray) (q : Nat), wv = .string V ∧ kv = .int .i64 q ∧ Hid (WordAt b V.data.toList q) ∧ wr2 = wr) (fun _ kv _ => b.length + 2 - (intOf kv).toNat)
              case atStart => exact ⟨B, 0, by rw [hBL], rfl, by rw [HBS.out, Hid, str_list]; exact .inl ⟨rfl, by omega, fun j hj => by omega⟩, rfl⟩
              case round =>
                obtain ⟨V, q, rfl, rfl, HWA, rfl⟩ := hrel
                have hqb := HWA.out.le
                have HVS := Lib.hid (size_list V)
                have hVle : V.size ≤ 65536 := by have := HLS.out; rw [← HVS.out]; omega
                by_cases hq : q < V.size
                · obtain ⟨hbV, hyes, hno⟩ := HWA.out.go (by rw [HVS.out]; exact hq)
                  have hVb : b[q]? = some V[q] := by rw [hbV]; exact at_list V hq
                  have HY := Lib.hid hyes
                  have HN := Lib.hid hno
                  have HBV := Lib.hid hbV
                  clear hyes hno hbV
                  obtain ⟨c, hc2⟩ : ∃ c : UInt8, V[q] = c := ⟨_, rfl⟩
                  rw [hc2] at hVb
                  have HVB := Lib.hid hVb
                  clear hVb
                  by_cases h32 : c = 32
                  · subst h32
                    have hx : Hid ((V.extract 0 q).data.toList = b.take q) := by rw [Hid, ext_str, str_list, ← HBV.out]
                    go_wp2_with fail
                    go_roundw
                    case rel => exact ⟨_, q + 1, rfl, by go_num, by rw [hx.out]; exact HY.out HVB.out, by trivial⟩
                    case measure => simp [intOf]; omega
                  · have e1 : ¬ ((c.toNat : Nat) : Int) = 32 := fun e => h32 (UInt8.toNat_inj.1 (show c.toNat = 32 by omega))
                    clear h32
                    have HNN := Lib.hid e1
                    go_wp2_with fail
                    go_roundw
                    case rel => exact ⟨V, q + 1, rfl, by go_num, by rw [← HBV.out]; exact HN.out (by rw [HVB.out]; intro e; injection e with e; rw [e] at HNN; exact HNN.out rfl), by trivial⟩
                    case measure => simp [intOf]; omega
                have hWW := HWA.out.end_ (by rw [HVS.out]; exact hq)
                have heq : ∀ z : List UInt8, (V.toList == z) = decide (firstW b = z) := fun z => by rw [tl_eq, hWW]; by_cases h : firstW b = z <;> simp [h]
                have HEQ := Lib.hid heq
                have HD0' := HD0.out
                have HD1' := HD1.out
                obtain ⟨W, hW⟩ : ∃ W, W = firstW b := ⟨_, rfl⟩
                rw [← hW] at HEQ HD0' HD1'
                obtain ⟨m, hm⟩ : ∃ m, L.size = m + 1 := ⟨L.size - 1, by omega⟩
                have hlast : Hid (∀ h : L.size - 1 < L.size, ((L[L.size - 1].toNat : Nat) : Int) ≠ 32) := fun h e => by
                  have e2 : L[L.size - 1] = 32 := UInt8.toNat_inj.1 (show (L[L.size - 1]).toNat = 32 by omega)
                  refine HB1.out.last _ ?_ e2
                  have h3 : L.size - 1 = 2 * d1 + (b.length - 1) := by have := HLS.out; omega
                  rw [HLN.out (b.length - 1) (by omega) (by have := HLS.out; omega)]
                  congr 1
                  simp only [h3]
                have hLlt : L.size - 1 < L.size := by omega
                have zl : ((L.size : Int) == 2 * (d1 : Int)) = false := by have := HLS.out; simp; omega
                have zm : (((L[L.size - 1].toNat : Nat) : Int) == 32) = false := by have := hlast.out hLlt; simpa using this
                clear hWW heq hW HWA HVS hqb hm hlast
                go_upto_region 23 with fail
                go_cut [87] from 38 to 162 (fun cv wc => cv = .bool (closesW W) ∧ wr = wc)
                case first =>
                  by_cases c_end : W = [101, 110, 100]
                  · have hv : closesW W = true := by rw [c_end]; simp [closesW]
                    have e_end : (V.toList == [101, 110, 100]) = true := by rw [HEQ.out]; exact decide_eq_true c_end
                    have e_else : (V.toList == [101, 108, 115, 101]) = false := by rw [HEQ.out]; exact decide_eq_false (by rw [c_end]; decide)
                    clear c_end
                    go_wp2_with fail
                    go_meet
                    case rel => exact ⟨by rw [hv], by trivial⟩
                  by_cases c_else : W = [101, 108, 115, 101]
                  · have hv : closesW W = true := by rw [c_else]; simp [closesW]
                    have e_end : (V.toList == [101, 110, 100]) = false := by rw [HEQ.out]; exact decide_eq_false (by rw [c_else]; decide)
                    have e_else : (V.toList == [101, 108, 115, 101]) = true := by rw [HEQ.out]; exact decide_eq_true c_else
                    clear c_else
                    go_wp2_with fail
                    go_meet
                    case rel => exact ⟨by rw [hv], by trivial⟩
                  have hv : closesW W = false := by simp [closesW, c_end, c_else]
                  have e_end : (V.toList == [101, 110, 100]) = false := by rw [HEQ.out]; exact decide_eq_false c_end
                  have e_else : (V.toList == [101, 108, 115, 101]) = false := by rw [HEQ.out]; exact decide_eq_false c_else
                  clear c_end c_else
                  go_wp2_with fail
                  go_meet
                  case rel => exact ⟨by rw [hv], by trivial⟩
                case rest =>
                  obtain ⟨rfl, rfl⟩ := hcut
                  go_upto_if 87 with fail
                  go_cut [9] from 38 to 162 (fun dv wc => dv = .int .i64 d1 ∧ wr = wc)
                  case first =>
                    cases hcl : closesW W with
                    | true =>
                      obtain rfl : d = d1 + 1 := by rw [HD0', if_pos hcl]
                      clear HD0' HD1' HD0 HD1 hcl
                      go_wp2_with fail
                      go_meet
                      case rel => exact ⟨by first | trivial | go_num | (congr 1; omega), by trivial⟩
                    | false =>
                      obtain rfl : d1 = d := by rw [HD0', if_neg (by rw [hcl]; decide)]
                      go_wp2_with fail
                      go_meet
                      case rel => exact ⟨by trivial, by trivial⟩
                  case rest =>
                    obtain ⟨rfl, rfl⟩ := hcut
                    go_upto_block 2 with fail
                    go_wp2_with fail
                    go_loopw [15] (fun a wr2 => ∃ j : Nat, 2 * d1 ≤ j ∧ j < L.size ∧ a = .int .i64 j ∧ wr2 = wr) (fun a _ => L.size - (intOf a).toNat)
                    case atStart => exact ⟨2 * d1, by omega, by omega, by go_num, rfl⟩
                    case round =>
                      obtain ⟨j, hj0, hj, rfl, rfl⟩ := hrel
                      by_cases hj1 : j + 1 < L.size
                      · obtain ⟨c1, hc1⟩ : ∃ c : UInt8, L[j] = c := ⟨_, rfl⟩
                        obtain ⟨c2, hc2⟩ : ∃ c : UInt8, L[j + 1] = c := ⟨_, rfl⟩
                        have htwo : c1 = 32 → ¬ ((c2.toNat : Nat) : Int) = 32 := two_at HLS.out HLN.out HB1.out hj0 hj1 hc1 hc2
                        by_cases h32 : c1 = 32
                        · have e1 := htwo h32
                          have e2 : ((c1.toNat : Nat) : Int) = 32 := by rw [h32]; rfl
                          clear h32 htwo
                          go_wp2_with fail
                          go_roundw
                          case rel => exact ⟨j + 1, by omega, by omega, by go_num, by trivial⟩
                          case measure => simp [intOf]; omega
                        · have e2 : ¬ ((c1.toNat : Nat) : Int) = 32 := ne32 h32
                          clear h32 htwo
                          go_wp2_with fail
                          go_roundw
                          case rel => exact ⟨j + 1, by omega, by omega, by go_num, by trivial⟩
                          case measure => simp [intOf]; omega
                      go_upto_region 32 with fail
                      go_cut [160] from 38 to 162 (fun cv wc => cv = .bool (opensW W d1) ∧ wr = wc)
                      case first =>
                        by_cases c_start : W = [115, 116, 97, 114, 116]
                        · have hv : opensW W d1 = true := by rw [c_start]; simp [opensW]
                          have e_start : (V.toList == [115, 116, 97, 114, 116]) = true := by rw [HEQ.out]; exact decide_eq_true c_start
                          have e_turn : (V.toList == [116, 117, 114, 110]) = false := by rw [HEQ.out]; exact decide_eq_false (by rw [c_start]; decide)
                          have e_play : (V.toList == [112, 108, 97, 121]) = false := by rw [HEQ.out]; exact decide_eq_false (by rw [c_start]; decide)
                          have e_silent : (V.toList == [115, 105, 108, 101, 110, 116]) = false := by rw [HEQ.out]; exact decide_eq_false (by rw [c_start]; decide)
                          have e_pay : (V.toList == [112, 97, 121]) = false := by rw [HEQ.out]; exact decide_eq_false (by rw [c_start]; decide)
                          have e_if : (V.toList == [105, 102]) = false := by rw [HEQ.out]; exact decide_eq_false (by rw [c_start]; decide)
                          have e_for : (V.toList == [102, 111, 114]) = false := by rw [HEQ.out]; exact decide_eq_false (by rw [c_start]; decide)
                          have e_else : (V.toList == [101, 108, 115, 101]) = false := by rw [HEQ.out]; exact decide_eq_false (by rw [c_start]; decide)
                          clear c_start
                          go_wp2_with fail
                          go_meet
                          case rel => exact ⟨by rw [hv], by trivial⟩
                        by_cases c_turn : W = [116, 117, 114, 110]
                        · have hv : opensW W d1 = true := by rw [c_turn]; simp [opensW]
                          have e_start : (V.toList == [115, 116, 97, 114, 116]) = false := by rw [HEQ.out]; exact decide_eq_false (by rw [c_turn]; decide)
                          have e_turn : (V.toList == [116, 117, 114, 110]) = true := by rw [HEQ.out]; exact decide_eq_true c_turn
                          have e_play : (V.toList == [112, 108, 97, 121]) = false := by rw [HEQ.out]; exact decide_eq_false (by rw [c_turn]; decide)
                          have e_silent : (V.toList == [115, 105, 108, 101, 110, 116]) = false := by rw [HEQ.out]; exact decide_eq_false (by rw [c_turn]; decide)
                          have e_pay : (V.toList == [112, 97, 121]) = false := by rw [HEQ.out]; exact decide_eq_false (by rw [c_turn]; decide)
                          have e_if : (V.toList == [105, 102]) = false := by rw [HEQ.out]; exact decide_eq_false (by rw [c_turn]; decide)
                          have e_for : (V.toList == [102, 111, 114]) = false := by rw [HEQ.out]; exact decide_eq_false (by rw [c_turn]; decide)
                          have e_else : (V.toList == [101, 108, 115, 101]) = false := by rw [HEQ.out]; exact decide_eq_false (by rw [c_turn]; decide)
                          clear c_turn
                          go_wp2_with fail
                          go_meet
                          case rel => exact ⟨by rw [hv], by trivial⟩
                        by_cases c_play : W = [112, 108, 97, 121]
                        · have hv : opensW W d1 = true := by rw [c_play]; simp [opensW]
                          have e_start : (V.toList == [115, 116, 97, 114, 116]) = false := by rw [HEQ.out]; exact decide_eq_false (by rw [c_play]; decide)
                          have e_turn : (V.toList == [116, 117, 114, 110]) = false := by rw [HEQ.out]; exact decide_eq_false (by rw [c_play]; decide)
                          have e_play : (V.toList == [112, 108, 97, 121]) = true := by rw [HEQ.out]; exact decide_eq_true c_play
                          have e_silent : (V.toList == [115, 105, 108, 101, 110, 116]) = false := by rw [HEQ.out]; exact decide_eq_false (by rw [c_play]; decide)
                          have e_pay : (V.toList == [112, 97, 121]) = false := by rw [HEQ.out]; exact decide_eq_false (by rw [c_play]; decide)
                          have e_if : (V.toList == [105, 102]) = false := by rw [HEQ.out]; exact decide_eq_false (by rw [c_play]; decide)
                          have e_for : (V.toList == [102, 111, 114]) = false := by rw [HEQ.out]; exact decide_eq_false (by rw [c_play]; decide)
                          have e_else : (V.toList == [101, 108, 115, 101]) = false := by rw [HEQ.out]; exact decide_eq_false (by rw [c_play]; decide)
                          clear c_play
                          go_wp2_with fail
                          go_meet
                          case rel => exact ⟨by rw [hv], by trivial⟩
                        by_cases c_silent : W = [115, 105, 108, 101, 110, 116]
                        · have hv : opensW W d1 = true := by rw [c_silent]; simp [opensW]
                          have e_start : (V.toList == [115, 116, 97, 114, 116]) = false := by rw [HEQ.out]; exact decide_eq_false (by rw [c_silent]; decide)
                          have e_turn : (V.toList == [116, 117, 114, 110]) = false := by rw [HEQ.out]; exact decide_eq_false (by rw [c_silent]; decide)
                          have e_play : (V.toList == [112, 108, 97, 121]) = false := by rw [HEQ.out]; exact decide_eq_false (by rw [c_silent]; decide)
                          have e_silent : (V.toList == [115, 105, 108, 101, 110, 116]) = true := by rw [HEQ.out]; exact decide_eq_true c_silent
                          have e_pay : (V.toList == [112, 97, 121]) = false := by rw [HEQ.out]; exact decide_eq_false (by rw [c_silent]; decide)
                          have e_if : (V.toList == [105, 102]) = false := by rw [HEQ.out]; exact decide_eq_false (by rw [c_silent]; decide)
                          have e_for : (V.toList == [102, 111, 114]) = false := by rw [HEQ.out]; exact decide_eq_false (by rw [c_silent]; decide)
                          have e_else : (V.toList == [101, 108, 115, 101]) = false := by rw [HEQ.out]; exact decide_eq_false (by rw [c_silent]; decide)
                          clear c_silent
                          go_wp2_with fail
                          go_meet
                          case rel => exact ⟨by rw [hv], by trivial⟩
                        by_cases c_pay : W = [112, 97, 121]
                        · by_cases hz : d1 = 0
                          · have hv : opensW W d1 = true := by rw [c_pay]; simp [opensW, hz]
                            have e_start : (V.toList == [115, 116, 97, 114, 116]) = false := by rw [HEQ.out]; exact decide_eq_false (by rw [c_pay]; decide)
                            have e_turn : (V.toList == [116, 117, 114, 110]) = false := by rw [HEQ.out]; exact decide_eq_false (by rw [c_pay]; decide)
                            have e_play : (V.toList == [112, 108, 97, 121]) = false := by rw [HEQ.out]; exact decide_eq_false (by rw [c_pay]; decide)
                            have e_silent : (V.toList == [115, 105, 108, 101, 110, 116]) = false := by rw [HEQ.out]; exact decide_eq_false (by rw [c_pay]; decide)
                            have e_pay : (V.toList == [112, 97, 121]) = true := by rw [HEQ.out]; exact decide_eq_true c_pay
                            have e_if : (V.toList == [105, 102]) = false := by rw [HEQ.out]; exact decide_eq_false (by rw [c_pay]; decide)
                            have e_for : (V.toList == [102, 111, 114]) = false := by rw [HEQ.out]; exact decide_eq_false (by rw [c_pay]; decide)
                            have e_else : (V.toList == [101, 108, 115, 101]) = false := by rw [HEQ.out]; exact decide_eq_false (by rw [c_pay]; decide)
                            have hz1 : ((d1 : Int) == 0) = true := by simp; omega
                            clear c_pay hz
                            go_wp2_with fail
                            go_meet
                            case rel => exact ⟨by rw [hv], by trivial⟩
                          · have hv : opensW W d1 = false := by rw [c_pay]; simp [opensW, hz]
                            have e_start : (V.toList == [115, 116, 97, 114, 116]) = false := by rw [HEQ.out]; exact decide_eq_false (by rw [c_pay]; decide)
                            have e_turn : (V.toList == [116, 117, 114, 110]) = false := by rw [HEQ.out]; exact decide_eq_false (by rw [c_pay]; decide)
                            have e_play : (V.toList == [112, 108, 97, 121]) = false := by rw [HEQ.out]; exact decide_eq_false (by rw [c_pay]; decide)
                            have e_silent : (V.toList == [115, 105, 108, 101, 110, 116]) = false := by rw [HEQ.out]; exact decide_eq_false (by rw [c_pay]; decide)
                            have e_pay : (V.toList == [112, 97, 121]) = true := by rw [HEQ.out]; exact decide_eq_true c_pay
                            have e_if : (V.toList == [105, 102]) = false := by rw [HEQ.out]; exact decide_eq_false (by rw [c_pay]; decide)
                            have e_for : (V.toList == [102, 111, 114]) = false := by rw [HEQ.out]; exact decide_eq_false (by rw [c_pay]; decide)
                            have e_else : (V.toList == [101, 108, 115, 101]) = false := by rw [HEQ.out]; exact decide_eq_false (by rw [c_pay]; decide)
                            have hz1 : ((d1 : Int) == 0) = false := by simp; omega
                            clear c_pay hz
                            go_wp2_with fail
                            go_meet
                            case rel => exact ⟨by rw [hv], by trivial⟩
                        by_cases c_if : W = [105, 102]
                        · have hv : opensW W d1 = true := by rw [c_if]; simp [opensW]
                          have e_start : (V.toList == [115, 116, 97, 114, 116]) = false := by rw [HEQ.out]; exact decide_eq_false (by rw [c_if]; decide)
                          have e_turn : (V.toList == [116, 117, 114, 110]) = false := by rw [HEQ.out]; exact decide_eq_false (by rw [c_if]; decide)
                          have e_play : (V.toList == [112, 108, 97, 121]) = false := by rw [HEQ.out]; exact decide_eq_false (by rw [c_if]; decide)
                          have e_silent : (V.toList == [115, 105, 108, 101, 110, 116]) = false := by rw [HEQ.out]; exact decide_eq_false (by rw [c_if]; decide)
                          have e_pay : (V.toList == [112, 97, 121]) = false := by rw [HEQ.out]; exact decide_eq_false (by rw [c_if]; decide)
                          have e_if : (V.toList == [105, 102]) = true := by rw [HEQ.out]; exact decide_eq_true c_if
                          have e_for : (V.toList == [102, 111, 114]) = false := by rw [HEQ.out]; exact decide_eq_false (by rw [c_if]; decide)
                          have e_else : (V.toList == [101, 108, 115, 101]) = false := by rw [HEQ.out]; exact decide_eq_false (by rw [c_if]; decide)
                          clear c_if
                          go_wp2_with fail
                          go_meet
                          case rel => exact ⟨by rw [hv], by trivial⟩
                        by_cases c_for : W = [102, 111, 114]
                        · have hv : opensW W d1 = true := by rw [c_for]; simp [opensW]
                          have e_start : (V.toList == [115, 116, 97, 114, 116]) = false := by rw [HEQ.out]; exact decide_eq_false (by rw [c_for]; decide)
                          have e_turn : (V.toList == [116, 117, 114, 110]) = false := by rw [HEQ.out]; exact decide_eq_false (by rw [c_for]; decide)
                          have e_play : (V.toList == [112, 108, 97, 121]) = false := by rw [HEQ.out]; exact decide_eq_false (by rw [c_for]; decide)
                          have e_silent : (V.toList == [115, 105, 108, 101, 110, 116]) = false := by rw [HEQ.out]; exact decide_eq_false (by rw [c_for]; decide)
                          have e_pay : (V.toList == [112, 97, 121]) = false := by rw [HEQ.out]; exact decide_eq_false (by rw [c_for]; decide)
                          have e_if : (V.toList == [105, 102]) = false := by rw [HEQ.out]; exact decide_eq_false (by rw [c_for]; decide)
                          have e_for : (V.toList == [102, 111, 114]) = true := by rw [HEQ.out]; exact decide_eq_true c_for
                          have e_else : (V.toList == [101, 108, 115, 101]) = false := by rw [HEQ.out]; exact decide_eq_false (by rw [c_for]; decide)
                          clear c_for
                          go_wp2_with fail
                          go_meet
                          case rel => exact ⟨by rw [hv], by trivial⟩
                        by_cases c_else : W = [101, 108, 115, 101]
                        · have hv : opensW W d1 = true := by rw [c_else]; simp [opensW]
                          have e_start : (V.toList == [115, 116, 97, 114, 116]) = false := by rw [HEQ.out]; exact decide_eq_false (by rw [c_else]; decide)
                          have e_turn : (V.toList == [116, 117, 114, 110]) = false := by rw [HEQ.out]; exact decide_eq_false (by rw [c_else]; decide)
                          have e_play : (V.toList == [112, 108, 97, 121]) = false := by rw [HEQ.out]; exact decide_eq_false (by rw [c_else]; decide)
                          have e_silent : (V.toList == [115, 105, 108, 101, 110, 116]) = false := by rw [HEQ.out]; exact decide_eq_false (by rw [c_else]; decide)
                          have e_pay : (V.toList == [112, 97, 121]) = false := by rw [HEQ.out]; exact decide_eq_false (by rw [c_else]; decide)
                          have e_if : (V.toList == [105, 102]) = false := by rw [HEQ.out]; exact decide_eq_false (by rw [c_else]; decide)
                          have e_for : (V.toList == [102, 111, 114]) = false := by rw [HEQ.out]; exact decide_eq_false (by rw [c_else]; decide)
                          have e_else : (V.toList == [101, 108, 115, 101]) = true := by rw [HEQ.out]; exact decide_eq_true c_else
                          clear c_else
                          go_wp2_with fail
                          go_meet
                          case rel => exact ⟨by rw [hv], by trivial⟩
                        have hv : opensW W d1 = false := by simp [opensW, c_start, c_turn, c_play, c_silent, c_pay, c_if, c_for, c_else]
                        have e_start : (V.toList == [115, 116, 97, 114, 116]) = false := by rw [HEQ.out]; exact decide_eq_false c_start
                        have e_turn : (V.toList == [116, 117, 114, 110]) = false := by rw [HEQ.out]; exact decide_eq_false c_turn
                        have e_play : (V.toList == [112, 108, 97, 121]) = false := by rw [HEQ.out]; exact decide_eq_false c_play
                        have e_silent : (V.toList == [115, 105, 108, 101, 110, 116]) = false := by rw [HEQ.out]; exact decide_eq_false c_silent
                        have e_pay : (V.toList == [112, 97, 121]) = false := by rw [HEQ.out]; exact decide_eq_false c_pay
                        have e_if : (V.toList == [105, 102]) = false := by rw [HEQ.out]; exact decide_eq_false c_if
                        have e_for : (V.toList == [102, 111, 114]) = false := by rw [HEQ.out]; exact decide_eq_false c_for
                        have e_else : (V.toList == [101, 108, 115, 101]) = false := by rw [HEQ.out]; exact decide_eq_false c_else
                        clear c_start c_turn c_play c_silent c_pay c_if c_for c_else
                        go_wp2_with fail
                        go_meet
                        case rel => exact ⟨by rw [hv], by trivial⟩
                      case rest =>
                        obtain ⟨rfl, rfl⟩ := hcut
                        cases hop : opensW W d1 with
                        | true =>
                          obtain rfl : d' = d1 + 1 := by rw [HD1', if_pos hop]
                          go_wp2_with fail
                          go_roundw
                          case rel => exact ⟨k + 1, d1 + 1, k + 1, by omega, by omega, by omega, by go_num, by go_num, by go_num, HNX.out, fun j h1 h2 => by omega, by trivial⟩
                          case measure => simp [intOf]; omega
                        | false =>
                          obtain rfl : d1 = d' := by rw [HD1', if_neg (by rw [hop]; decide)]
                          go_wp2_with fail
                          go_roundw
                          case rel => exact ⟨k + 1, d1, k + 1, by omega, by omega, by omega, by go_num, by go_num, by go_num, HNX.out, fun j h1 h2 => by omega, by trivial⟩
                          case measure => simp [intOf]; omega
          · have e10 : ¬ ((c.toNat : Nat) : Int) = 10 := fun e => h10 (UInt8.toNat_inj.1 (show c.toNat = 10 by omega))
            have HN10 := Lib.hid h10
            have HTK2 := HTK
            clear h10
            go_wp2_with fail
            go_roundw
            case rel => exact ⟨f, d, k + 1, by omega, by omega, hd, rfl, rfl, by go_num, HFS.out, fun j h1 h2 => by
              rcases Nat.lt_or_ge j k with h | h
              · exact HNO.out j h1 h
              · rw [show j = k by omega, HTK2.out]; intro e; injection e with e; exact HN10.out e, by trivial⟩
            case measure => simp [intOf]; omega
        obtain rfl : k = T.size := by omega
        obtain ⟨hnil, rfl⟩ := HFS.out.done (fun j => by
          rw [List.getElem?_drop]
          rcases Nat.lt_or_ge (f + j) T.size with h | h
          · exact HNO.out _ (by omega) h
          · rw [List.getElem?_eq_none (by rw [HTZ.out]; exact h)]; simp)
        obtain rfl : f = T.size := by
          have := congrArg List.length hnil
          rw [List.length_drop, HTZ.out] at this
          simp at this
          omega
        clear hnil
        have TD := Lib.hid (told_any base wr TBq1.out HBq1.out)
        go_wp2_with fail
        refine TD.out.mono ?_
        rintro e wt ⟨rfl, bt⟩
        go_wp2_with fail
        go_ret
        exact ⟨rfl, Fq1.out.trans (bt.mono Fq1.out.size)⟩
    · have TD := Lib.hid (told_any base V1 TBq1.out HBq1.out)
      go_wp2_with fail
      refine TD.out.mono ?_
      rintro e wt ⟨rfl, bt⟩
      go_wp2_with fail
      go_ret
      exact ⟨rfl, Fq1.out.trans (bt.mono Fq1.out.size)⟩
  · rcases h1 with ⟨t, ht, rfl⟩ | ⟨hno1, rfl⟩
    · have TD := Lib.hid (told_any base V1 TBq1.out HBq1.out)
      go_wp2_with fail
      refine TD.out.mono ?_
      rintro e wt ⟨rfl, bt⟩
      go_wp2_with fail
      go_ret
      exact ⟨rfl, Fq1.out.trans (bt.mono Fq1.out.size)⟩
    · have TD := Lib.hid (told_any base V1 TBq1.out HBq1.out)
      go_wp2_with fail
      refine TD.out.mono ?_
      rintro e wt ⟨rfl, bt⟩
      go_wp2_with fail
      go_ret
      exact ⟨rfl, Fq1.out.trans (bt.mono Fq1.out.size)⟩
end Go.Proofs.YtdgekckedchjbaaGreatDoor
