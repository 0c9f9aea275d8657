
/-
  PrintLoose: of one tree all texts print alike. (Printed by wip/tools/genv30.py.)
-/
import Derived.Test.YtdgekckedchjbaaGreatDoorV24

import Derived.Test.YtdgekckedchjbaaGreatDoorV29
namespace Go.Proofs.YtdgekckedchjbaaGreatDoor
open Go.RowKit

def zeroP : Px := ⟨[], 0, [], [], [], [], [], [], [], [], []⟩
/-- A program's cells, and whether they are a text's. -/
theorem parsed {b : Nat} {l : List UInt8} {cs : List Value} {L C E : Int} {w : World} (h : ExOutP b (progO l) cs L C E w) : ∃ p, PX 16 (fun k => b ≤ k) w cs p ∧ ((E = 0 ∧ ∃ x, progO l = .ok x ∧ p = x.px) ∨ (E ≠ 0 ∧ ∀ x, progO l ≠ .ok x)) := by
  cases hq : progO l with
  | ok x =>
    rw [hq] at h
    obtain ⟨h1, _, _, h2⟩ := h
    exact ⟨x.px, h2.px (progO_ev hq).fit, .inl ⟨h1, x, rfl, rfl⟩⟩
  | bad L' C' E' =>
    rw [hq] at h
    obtain ⟨_, _, _, h1, h2⟩ := h
    refine ⟨zeroP, ?_, .inr ⟨h1, fun x e => by cases e⟩⟩
    rw [h2]
    exact ⟨⟨Nat.zero_le _, Nat.zero_le _, FitN.zero, by simp [zeroP], by simp [zeroP], by simp [zeroP]⟩, _, _, _, _, _, _, _, _, rfl, RowD.nil_ _ _ _ _, RowD.nil_ _ _ _ _, RowD.nil_ _ _ _ _, RowD.nil_ _ _ _ _, RowD.nil_ _ _ _ _, RowD.nil_ _ _ _ _, RowD.nil_ _ _ _ _, RowD.nil_ _ _ _ _⟩


/-- What a parse of l leaves: where its program lies, and whether it is one. -/
def LooseTo (w : World) (l : List UInt8) (v16 v18 : Value) (w' : World) : Prop :=
  ∃ (g : Nat) (nm : ByteArray) (seats : Int) (sil : ByteArray) (B1 : Option Addr) (m1 d1 : Nat) (B2 : Option Addr) (m2 d2 : Nat) (B3 : Option Addr) (m3 d3 : Nat) (B4 : Option Addr) (m4 d4 : Nat) (B5 : Option Addr) (m5 d5 : Nat) (B6 : Option Addr) (m6 d6 : Nat) (B7 : Option Addr) (m7 d7 : Nat) (B8 : Option Addr) (m8 d8 : Nat) (E : Int) (px : Px) (b : Nat),
    v16 = .pointer (some ⟨g, 0, none⟩) ∧ v18 = .int .i64 E ∧
    Blk w' g 48 #[.string nm, .int .i64 seats, .slice B1 m1 d1, .slice B2 m2 d2, .slice B3 m3 d3, .slice B4 m4 d4, .slice B5 m5 d5, .slice B6 m6 d6, .string sil, .slice B7 m7 d7, .slice B8 m8 d8] ∧
    PX 16 (fun k => b ≤ k) w' [.string nm, .int .i64 seats, .slice B1 m1 d1, .slice B2 m2 d2, .slice B3 m3 d3, .slice B4 m4 d4, .slice B5 m5 d5, .slice B6 m6 d6, .string sil, .slice B7 m7 d7, .slice B8 m8 d8] px ∧
    ((E = 0 ∧ ∃ x, progO l = .ok x ∧ px = x.px) ∨ (E ≠ 0 ∧ ∀ x, progO l ≠ .ok x)) ∧ Below w.heap.size w w'
theorem loose_mk {w w6 W9 : World} {l : List UInt8} {b gP gQ : Nat} {L C E : Int} {nm : ByteArray} {seats : Int} {sil : ByteArray} {B1 : Option Addr} {m1 d1 : Nat} {B2 : Option Addr} {m2 d2 : Nat} {B3 : Option Addr} {m3 d3 : Nat} {B4 : Option Addr} {m4 d4 : Nat} {B5 : Option Addr} {m5 d5 : Nat} {B6 : Option Addr} {m6 d6 : Nat} {B7 : Option Addr} {m7 d7 : Nat} {B8 : Option Addr} {m8 d8 : Nat}
    (hp : ExOutP b (progO l) [.string nm, .int .i64 seats, .slice B1 m1 d1, .slice B2 m2 d2, .slice B3 m3 d3, .slice B4 m4 d4, .slice B5 m5 d5, .slice B6 m6 d6, .string sil, .slice B7 m7 d7, .slice B8 m8 d8] L C E w6)
    (hX : Blk W9 gP 48 #[.string nm, .int .i64 seats, .slice B1 m1 d1, .slice B2 m2 d2, .slice B3 m3 d3, .slice B4 m4 d4, .slice B5 m5 d5, .slice B6 m6 d6, .string sil, .slice B7 m7 d7, .slice B8 m8 d8])
    (hk : Kept (fun z => z = gP ∨ z = gQ) w6 W9) (hs : ∀ z, z < w6.heap.size → b ≤ z → ¬ (z = gP ∨ z = gQ)) (hb : Below w.heap.size w W9) :
    LooseTo w l (.pointer (some ⟨gP, 0, none⟩)) (.int .i64 E) W9 := by
  obtain ⟨px, hx, hc⟩ := parsed hp
  exact ⟨gP, nm, seats, sil, B1, m1, d1, B2, m2, d2, B3, m3, d3, B4, m4, d4, B5, m5, d5, B6, m6, d6, B7, m7, d7, B8, m8, d8, E, px, b, rfl, rfl, hX, PX_kept 16 _ (fun k => b ≤ k) _ w6 W9 _ px hk hs (fun _ _ h => h) hx, hc, hb⟩
theorem info_int : (Tryz.prog.info? 3).map (fun i => (i.zero, i.size, i.bytes)) = some (some (.int .i64 0), 1, 8) := by kernel_rfl
def ints (l : List Nat) : List Value := l.map fun (n : Nat) => Value.int .i64 (n : Int)
theorem ints_one (l : List Nat) : ∀ u ∈ ints l, u.oneCell' = true := by
  intro u hu
  obtain ⟨_, _, rfl⟩ := List.mem_map.1 hu
  rfl
theorem ne_byte {c : UInt8} {n : Nat} (hn : n < 256) (h : ¬ c = UInt8.ofNat n) : ¬ ((c.toNat : Nat) : Int) = n := fun h1 => h (UInt8.toNat_inj.1 (by rw [UInt8.toNat_ofNat']; omega))
/-- The places of blanks ahead of k. -/
def spots (t : List UInt8) (k : Nat) : List Nat := (List.range k).filter fun i => decide (t[i]? = some 32 ∨ t[i]? = some 10)
theorem spots_yes {t : List UInt8} {k : Nat} (h : t[k]? = some 32 ∨ t[k]? = some 10) : spots t (k + 1) = spots t k ++ [k] := by
  unfold spots
  rw [List.range_succ, List.filter_append]
  simp [h]
theorem spots_no {t : List UInt8} {k : Nat} (h : ¬ (t[k]? = some 32 ∨ t[k]? = some 10)) : spots t (k + 1) = spots t k := by
  unfold spots
  rw [List.range_succ, List.filter_append, List.filter_cons_of_neg (by simpa using h)]
  simp
theorem spots_len (t : List UInt8) (k : Nat) : (spots t k).length ≤ k := by
  have := List.length_filter_le (fun i => decide (t[i]? = some 32 ∨ t[i]? = some 10)) (List.range k)
  rw [List.length_range] at this
  exact this
theorem spots_at {t : List UInt8} {k i j : Nat} (h : (spots t k)[i]? = some j) : j < k ∧ (t[j]? = some 32 ∨ t[j]? = some 10) := by
  have := List.mem_filter.1 (List.mem_of_getElem? h)
  exact ⟨List.mem_range.1 this.1, by simpa using this.2⟩
theorem PrintIs.spots {p : Px} {t : List UInt8} (h : PrintIs p t) : spots t t.length ≠ [] := by
  have h10 : (10 : UInt8) ∈ t := by
    have := h.1
    unfold rawP at this
    obtain ⟨u, v, hu, hv, rfl⟩ := ocat_some_iff this
    injection hu with hu
    subst hu
    simp [lineB]
  obtain ⟨i, hi, e⟩ := List.getElem_of_mem h10
  intro hn
  have h2 : i ∈ Go.Proofs.YtdgekckedchjbaaGreatDoor.spots t t.length := List.mem_filter.2 ⟨List.mem_range.2 hi, by rw [List.getElem?_eq_getElem hi, e]; simp⟩
  rw [hn] at h2
  cases h2

set_option maxHeartbeats 8000000 in
set_option maxRecDepth 100000 in
theorem printLoose_walk (base : Nat) (s : ByteArray) (at_ how : Nat) (w : World) (hT : Tabs base w) (hP : TabP base w) (hb : base ≤ w.heap.size) (hs : s.size ≤ 9223372036854775807) (hat : at_ < 65536) (hhow : how < 256) :
    Calls Tryz.prog 6 #[.string s, .int .u16 at_, .int .u8 how] w (Tells w true) := by
  have TB := Lib.hid hT
  have TP := Lib.hid hP
  have HB := Lib.hid hb
  clear hT hP hb
  by_cases hlen : 3000 < s.size
  · have hl : (3000 : Int) < (s.size : Int) := by omega
    go_enter Tryz.func6, Tryz.ntmps6
    have TD := Lib.hid (told_any base w TB.out HB.out)
    go_wp2_with fail
    refine TD.out.mono ?_
    rintro e wt ⟨rfl, bt⟩
    go_wp2_with fail
    go_ret
    exact ⟨rfl, (Below.refl w.heap.size w).trans (bt.mono (Below.refl w.heap.size w).size)⟩
  have hl : ¬ (3000 : Int) < (s.size : Int) := by omega
  go_enter Tryz.func6, Tryz.ntmps6
  have PA1 := Lib.hid (Parse_any s w (TB.out).sp (by omega))
  go_wp2_with fail
  refine PA1.out.mono ?_
  rintro e wp1 ⟨nm1, seats1, sil1, B11, m11, d11, B12, m12, d12, B13, m13, d13, B14, m14, d14, B15, m15, d15, B16, m16, d16, B17, m17, d17, B18, m18, d18, L1, C1, E1, rfl, bp1, hp1⟩
  obtain ⟨px1, hx1, hc1⟩ := parsed hp1
  have fa1 : Below w.heap.size w ((wp1.alloc (.cells #[.string nm1, .int .i64 seats1, .slice B11 m11 d11, .slice B12 m12 d12, .slice B13 m13 d13, .slice B14 m14 d14, .slice B15 m15 d15, .slice B16 m16 d16, .string sil1, .slice B17 m17 d17, .slice B18 m18 d18] 48)).alloc (.cells #[.int .i64 L1, .int .i64 C1] 50)) := (bp1.al _).al _
  obtain ⟨yb1, _⟩ := two_new wp1 48 50 #[.string nm1, .int .i64 seats1, .slice B11 m11 d11, .slice B12 m12 d12, .slice B13 m13 d13, .slice B14 m14 d14, .slice B15 m15 d15, .slice B16 m16 d16, .string sil1, .slice B17 m17 d17, .slice B18 m18 d18] #[.int .i64 L1, .int .i64 C1]
  have YB1 := Lib.hid yb1
  have HX1 := Lib.hid (hx1.stay (((Below.refl _ wp1).al (.cells #[.string nm1, .int .i64 seats1, .slice B11 m11 d11, .slice B12 m12 d12, .slice B13 m13 d13, .slice B14 m14 d14, .slice B15 m15 d15, .slice B16 m16 d16, .string sil1, .slice B17 m17 d17, .slice B18 m18 d18] 48)).al (.cells #[.int .i64 L1, .int .i64 C1] 50)))
  have HC1 := Lib.hid hc1
  have Fa1 := Lib.hid ((Below.refl w.heap.size w).trans ((fa1).mono (Below.refl w.heap.size w).size))
  have TBa1 := Lib.hid ((TB.out).below (fa1) HB.out)
  have TPa1 := Lib.hid ((TP.out).low ((fa1).mono HB.out))
  have HBa1 := Lib.hid (Nat.le_trans HB.out (fa1).size)
  clear bp1 hp1 hx1 hc1 yb1 PA1 fa1
  go_upto_region 4 with fail
  generalize (wp1.alloc (.cells #[.string nm1, .int .i64 seats1, .slice B11 m11 d11, .slice B12 m12 d12, .slice B13 m13 d13, .slice B14 m14 d14, .slice B15 m15 d15, .slice B16 m16 d16, .string sil1, .slice B17 m17 d17, .slice B18 m18 d18] 48)).alloc (.cells #[.int .i64 L1, .int .i64 C1] 50) = W1 at *
  rcases HC1.out with ⟨hE1, x, hx, hpx⟩ | ⟨hE1, hno⟩
  · subst hE1
    have HLB := Lib.hid (fun t ht => progO_len hx (by rw [← hpx]; exact ht) : ∀ t, rawP px1 = some t → t.length ≤ 21 * s.data.toList.length)
    clear hx hpx HC1
    have s0 : W1.cell? ⟨wp1.heap.size, 0, none⟩ = some (.string nm1) := YB1.out.cell 0
    have s1 : W1.cell? ⟨wp1.heap.size, 1, none⟩ = some (.int .i64 seats1) := YB1.out.cell 1
    have s2 : W1.cell? ⟨wp1.heap.size, 2, none⟩ = some (.slice B11 m11 d11) := YB1.out.cell 2
    have s3 : W1.cell? ⟨wp1.heap.size, 3, none⟩ = some (.slice B12 m12 d12) := YB1.out.cell 3
    have s4 : W1.cell? ⟨wp1.heap.size, 4, none⟩ = some (.slice B13 m13 d13) := YB1.out.cell 4
    have s5 : W1.cell? ⟨wp1.heap.size, 5, none⟩ = some (.slice B14 m14 d14) := YB1.out.cell 5
    have s6 : W1.cell? ⟨wp1.heap.size, 6, none⟩ = some (.slice B15 m15 d15) := YB1.out.cell 6
    have s7 : W1.cell? ⟨wp1.heap.size, 7, none⟩ = some (.slice B16 m16 d16) := YB1.out.cell 7
    have s8 : W1.cell? ⟨wp1.heap.size, 8, none⟩ = some (.string sil1) := YB1.out.cell 8
    have s9 : W1.cell? ⟨wp1.heap.size, 9, none⟩ = some (.slice B17 m17 d17) := YB1.out.cell 9
    have s10 : W1.cell? ⟨wp1.heap.size, 10, none⟩ = some (.slice B18 m18 d18) := YB1.out.cell 10
    have PR1 := Lib.hid (Print_any base _ nm1 sil1 seats1 B11 m11 d11 B12 m12 d12 B13 m13 d13 B14 m14 d14 B15 m15 d15 B16 m16 d16 B17 m17 d17 B18 m18 d18 px1 W1 TBa1.out TPa1.out HBa1.out HX1.out)
    go_wp2_with fail
    refine PR1.out.mono ?_
    rintro e V1 ⟨bq1, h1⟩
    have Fq1 := Lib.hid (Fa1.out.trans ((bq1).mono Fa1.out.size))
    have TBq1 := Lib.hid ((TBa1.out).below (bq1) HBa1.out)
    have TPq1 := Lib.hid ((TPa1.out).low ((bq1).mono HBa1.out))
    have HBq1 := Lib.hid (Nat.le_trans HBa1.out (bq1).size)
    clear PR1 bq1 s0 s1 s2 s3 s4 s5 s6 s7 s8 s9 s10
    rcases h1 with ⟨t, ht, rfl⟩ | ⟨hno, rfl⟩
    · have hT6 : t.length ≤ 63000 := by have := HLB.out t ht.1; rw [size_list] at this; omega
      have HSP := Lib.hid ht.spots
      have HPI := Lib.hid ht
      obtain ⟨T, hT⟩ : ∃ y, y = str t := ⟨_, rfl⟩
      rw [← hT]
      have HTT := Lib.hid hT
      have hTs : T.size ≤ 63000 := by rw [hT, str_size]; exact hT6
      have HTL : Hid (T.data.toList = t) := by rw [hT]; exact str_list _
      have HTZ : Hid (t.length = T.size) := by rw [hT, str_size]; rfl
      clear hT ht hT6
      go_wp2_with fail
      have b0 : Below V1.heap.size V1 V1 := Below.refl _ _
      have O0 : Hid (V1.ownsRow V1.heap.size 3 1 (.slice none 0 0) (spots t 0).length (ints (spots t 0))) := World.ownsRow_nil _ _ _ _
      go_loopw [12, 13] (fun v i wr => ∃ k : Nat, k ≤ T.size ∧ i = .int .i64 k ∧ Hid (wr.ownsRow V1.heap.size 3 1 v (spots t k).length (ints (spots t k))) ∧ Below V1.heap.size V1 wr) (fun _ i _ => T.size - (intOf i).toNat)
      case atStart => exact ⟨0, by omega, rfl, O0, b0⟩
      case round =>
        obtain ⟨k, hk, rfl, ho, hb⟩ := hrel
        by_cases hlt : k < T.size
        · obtain ⟨c, hc⟩ : ∃ c : UInt8, T[k] = c := ⟨_, rfl⟩
          have hXc : t[k]? = some c := by rw [← HTL.out, at_list T hlt, hc]
          have hle := spots_len t k
          obtain ⟨m, hm⟩ : ∃ m, (spots t k).length = m := ⟨_, rfl⟩
          rw [hm] at ho hle
          have HM := Lib.hid hm
          have HXC := Lib.hid hXc
          have hbl := own_block ho.out
          have hbz := hb.size
          clear hm hXc
          by_cases h32 : c = 32
          · have HN : Hid (spots t (k + 1) = spots t k ++ [k]) := spots_yes (by rw [HXC.out, h32]; simp)
            have e32 : ((c.toNat : Nat) : Int) = 32 := by rw [h32]; rfl
            clear h32
            obtain ⟨i0, hi0, hz0, hz1, hz2⟩ := info_parts info_int
            have own7 := Lib.hid (World.ownsRow.alloc ho.out (.cells #[.int .i64 (k : Int)] 3))
            have RD : Hid (Reads (wr.alloc (.cells #[.int .i64 (k : Int)] 3)) (wr.heap.size + 1) 1 (some ⟨wr.heap.size, 0, none⟩) 1 [.int .i64 (k : Int)]) := by
              refine ⟨by simp, fun _ => ⟨_, rfl, by simp, fun j u hu => ?_⟩⟩
              rw [Addr.add_lit, Nat.zero_add, (Blk.new wr 3 #[.int .i64 (k : Int)]).cell j]
              simpa using hu
            go_wp2_with (first | (at_builtin; refine wpList_append_any _ (by rfl) (.tmp 58) (.tmp 60) 30 rfl V1.heap.size 3 i0 _ 1 8 Tryz.underlying30 hi0 hz0 hz1 hz2 rfl (by omega) u12 m (ints (spots t k)) rfl own7.out _ _ 1 1 [.int .i64 (k : Int)] rfl RD.out (by simp [Value.oneCell']) (by unfold maxLen; omega) (by omega) (by simp; omega) ?_; intro v8 w8 o8 g8 at8; have b8 : Below V1.heap.size V1 w8 := (hb.alloc hbz _).trans ((Kept.of_grown (S := fun k => V1.heap.size ≤ k) g8 hbl).to_below (by simp; omega) (fun k hk => by omega)); have O8 := Lib.hid o8; clear o8 g8 at8))
            go_roundw
            case rel =>
              refine ⟨k + 1, by omega, by go_num, ?_, b8⟩
              rw [Hid, HN.out, List.length_append, HM.out]
              have e : ints (spots t k ++ [k]) = ints (spots t k) ++ [.int .i64 (k : Int)] := by simp [ints]
              rw [e]
              exact O8.out
            case measure => simp [intOf]; omega
          have f32 : ¬ ((c.toNat : Nat) : Int) = 32 := ne_byte (by decide) h32
          by_cases h10 : c = 10
          · have HN : Hid (spots t (k + 1) = spots t k ++ [k]) := spots_yes (by rw [HXC.out, h10]; simp)
            have e10 : ((c.toNat : Nat) : Int) = 10 := by rw [h10]; rfl
            clear h10
            obtain ⟨i0, hi0, hz0, hz1, hz2⟩ := info_parts info_int
            have own7 := Lib.hid (World.ownsRow.alloc ho.out (.cells #[.int .i64 (k : Int)] 3))
            have RD : Hid (Reads (wr.alloc (.cells #[.int .i64 (k : Int)] 3)) (wr.heap.size + 1) 1 (some ⟨wr.heap.size, 0, none⟩) 1 [.int .i64 (k : Int)]) := by
              refine ⟨by simp, fun _ => ⟨_, rfl, by simp, fun j u hu => ?_⟩⟩
              rw [Addr.add_lit, Nat.zero_add, (Blk.new wr 3 #[.int .i64 (k : Int)]).cell j]
              simpa using hu
            go_wp2_with (first | (at_builtin; refine wpList_append_any _ (by rfl) (.tmp 58) (.tmp 60) 30 rfl V1.heap.size 3 i0 _ 1 8 Tryz.underlying30 hi0 hz0 hz1 hz2 rfl (by omega) u12 m (ints (spots t k)) rfl own7.out _ _ 1 1 [.int .i64 (k : Int)] rfl RD.out (by simp [Value.oneCell']) (by unfold maxLen; omega) (by omega) (by simp; omega) ?_; intro v8 w8 o8 g8 at8; have b8 : Below V1.heap.size V1 w8 := (hb.alloc hbz _).trans ((Kept.of_grown (S := fun k => V1.heap.size ≤ k) g8 hbl).to_below (by simp; omega) (fun k hk => by omega)); have O8 := Lib.hid o8; clear o8 g8 at8))
            go_roundw
            case rel =>
              refine ⟨k + 1, by omega, by go_num, ?_, b8⟩
              rw [Hid, HN.out, List.length_append, HM.out]
              have e : ints (spots t k ++ [k]) = ints (spots t k) ++ [.int .i64 (k : Int)] := by simp [ints]
              rw [e]
              exact O8.out
            case measure => simp [intOf]; omega
          have f10 : ¬ ((c.toNat : Nat) : Int) = 10 := ne_byte (by decide) h10
          have HN : Hid (spots t (k + 1) = spots t k) := spots_no (by rw [HXC.out]; simp [h32, h10])
          have b32 : ((((c.toNat : Nat) : Int)) == 32) = false := by simpa using f32
          have b10 : ((((c.toNat : Nat) : Int)) == 10) = false := by simpa using f10
          clear h32 h10
          go_wp2_with fail
          go_roundw
          case rel =>
            refine ⟨k + 1, by omega, by go_num, ?_, hb⟩
            rw [Hid, HN.out, HM.out]
            exact ho.out
          case measure => simp [intOf]; omega
        obtain rfl : k = T.size := by omega
        obtain ⟨A6, c6, rfl⟩ := own_slice ho.out
        have hle := spots_len t T.size
        have hne : 0 < (spots t T.size).length := List.length_pos_iff.2 (by rw [← HTZ.out]; exact HSP.out)
        obtain ⟨ns, hns⟩ : ∃ n, (spots t T.size).length = n := ⟨_, rfl⟩
        rw [hns] at ho hle hne
        rw [hns]
        have RD6 : Hid (RV wr A6 ns (ints (spots t T.size))) := Reads.of_own ho.out
        obtain ⟨i, hi⟩ : ∃ i, at_ % ns = i := ⟨_, rfl⟩
        have hin : i < ns := by rw [← hi]; exact Nat.mod_lt _ hne
        obtain ⟨ab, ao, rfl, hab, hil, hcell⟩ := RD6.out.at_ hin
        obtain ⟨j, hj⟩ : ∃ j, (spots t T.size)[i]? = some j := ⟨_, List.getElem?_eq_getElem (by rw [hns]; exact hin)⟩
        have hcj : (ints (spots t T.size))[i]'hil = .int .i64 (j : Int) := by
          have h1 : (ints (spots t T.size))[i]? = some (.int .i64 (j : Int)) := by unfold ints; rw [List.getElem?_map, hj]; rfl
          rw [List.getElem?_eq_getElem hil] at h1
          exact Option.some.inj h1
        rw [hcj] at hcell
        obtain ⟨hjT, hjb⟩ := spots_at hj
        have HLAW := Lib.hid (loose_law HPI.out hjb)
        have r1 : ((at_ : Nat) : Int).tmod (ns : Int) = (i : Int) := by
          rw [Int.tmod_eq_emod_of_nonneg (by omega), ← hi]
          exact Int.natCast_emod at_ ns
        have q1 : IntKind.i64.wrap ((at_ : Nat) : Int) = (at_ : Int) := IntWalk.i64_in _ ⟨by omega, by omega⟩
        have q2 : IntKind.i64.wrap (i : Int) = (i : Int) := IntWalk.i64_in _ ⟨by omega, by omega⟩
        have n0 : ¬ (ns : Int) = 0 := by omega
        have HNS := Lib.hid hns
        have hbz := hb.size
        clear hi hj hcj hjb hns ho
        go_upto_region 18 with fail
        obtain ⟨jm, hjm⟩ : ∃ jm, how % 5 = jm := ⟨_, rfl⟩
        have hjm5 : jm < 5 := by rw [← hjm]; exact Nat.mod_lt _ (by decide)
        have r2 : ((how : Nat) : Int).tmod 5 = (jm : Int) := by
          rw [Int.tmod_eq_emod_of_nonneg (by omega), ← hjm]
          exact Int.natCast_emod how 5
        have q3 : IntKind.u8.wrap (jm : Int) = (jm : Int) := IntWalk.u8_in _ ⟨by omega, by omega⟩
        clear hjm
        go_cut [15] (fun mv wc => mv = .string (str (moreS jm)) ∧ Hid (Below wr.heap.size wr wc))
        case first =>
          rcases (show jm = 0 ∨ jm = 1 ∨ jm = 2 ∨ jm = 3 ∨ jm = 4 from by omega) with rfl | rfl | rfl | rfl | rfl
          all_goals
            go_wp2_with fail
            go_meet
            case rel => exact ⟨rfl, (Below.refl _ wr).al _⟩
        case rest =>
          obtain ⟨rfl, hbc⟩ := hcut
          obtain ⟨wm, rfl⟩ : ∃ x, x = wc := ⟨_, rfl⟩
          have Fw8 := Lib.hid (Fq1.out.trans (((hb.then_ hbc.out : Below V1.heap.size V1 wm)).mono Fq1.out.size))
          have TBw8 := Lib.hid ((TBq1.out).below ((hb.then_ hbc.out : Below V1.heap.size V1 wm)) HBq1.out)
          have TPw8 := Lib.hid ((TPq1.out).low (((hb.then_ hbc.out : Below V1.heap.size V1 wm)).mono HBq1.out))
          have HBw8 := Lib.hid (Nat.le_trans HBq1.out ((hb.then_ hbc.out : Below V1.heap.size V1 wm)).size)
          have g0 : (0 : Int) ≤ (j : Int) := by omega
          have g1 : (j : Int) ≤ (T.size : Int) := by omega
          obtain ⟨X1, hX1⟩ : ∃ X, T.extract 0 j = X := ⟨_, rfl⟩
          obtain ⟨X2, hX2⟩ : ∃ X, T.extract j T.size = X := ⟨_, rfl⟩
          obtain ⟨M, hM⟩ : ∃ X, str (moreS jm) = X := ⟨_, rfl⟩
          obtain ⟨V, hV⟩ : ∃ X, X1 ++ M = X := ⟨_, rfl⟩
          obtain ⟨U, hU⟩ : ∃ X, V ++ X2 = X := ⟨_, rfl⟩
          have eX1 : X1 = str (t.take j) := by rw [← hX1, ext_str, HTL.out]
          have eX2 : X2 = str (t.drop j) := by rw [← hX2, ext_from, HTL.out]
          have eV : V = str (t.take j ++ moreS jm) := by rw [← hV, eX1, ← hM, str_append]
          have eU : U = str (t.take j ++ moreS jm ++ t.drop j) := by rw [← hU, eV, eX2, str_append]
          have sX1 : X1.size ≤ 63000 := by rw [eX1, str_size, List.length_take]; omega
          have sX2 : X2.size ≤ 63000 := by rw [eX2, str_size, List.length_drop, HTZ.out]; omega
          have sM : M.size ≤ 16 := by rw [← hM, str_size]; exact moreS_len jm
          have sV : V.size ≤ 63016 := by rw [← hV, ByteArray.size_append]; omega
          have sU : U.size ≤ 65536 := by
            have h1 := moreS_len jm
            rw [eU, str_size, List.length_append, List.length_append, List.length_take, List.length_drop, HTZ.out]
            omega
          have HU : Hid (U.data.toList = t.take j ++ moreS jm ++ t.drop j) := by rw [eU]; exact str_list _
          have v1 : ¬ (9223372036854775807 < X1.size + M.size) := by omega
          have v2 : ¬ (9223372036854775807 < V.size + X2.size) := by omega
          rw [hM]
          clear eX1 eX2 eV eU sX1 sX2 sM sV hM
          have PA2 : Hid (∀ W, Below wm.heap.size wm W → Calls Tryz.prog 14 #[.string U] W (ParseTo W (progO U.data.toList))) := fun W hW => Parse_any U W ((TBw8.out.low (hW.mono HBw8.out)).sp) sU
          have FF0 : Hid (Below wm.heap.size wm wm.drew) := (Below.refl wm.heap.size wm).drew
          have FC0 := Lib.hid (PA2.out (wm.drew) FF0.out)
          have FF1 : Hid (Below wm.heap.size wm (wm.alloc (.cells #[.string ⟨#[]⟩, .int .i64 0, .slice none 0 0, .slice none 0 0, .slice none 0 0, .slice none 0 0, .slice none 0 0, .slice none 0 0, .string ⟨#[]⟩, .slice none 0 0, .slice none 0 0] 48)).drew) := ((Below.refl wm.heap.size wm).al (.cells #[.string ⟨#[]⟩, .int .i64 0, .slice none 0 0, .slice none 0 0, .slice none 0 0, .slice none 0 0, .slice none 0 0, .slice none 0 0, .string ⟨#[]⟩, .slice none 0 0, .slice none 0 0] 48)).drew
          have FC1 := Lib.hid (PA2.out ((wm.alloc (.cells #[.string ⟨#[]⟩, .int .i64 0, .slice none 0 0, .slice none 0 0, .slice none 0 0, .slice none 0 0, .slice none 0 0, .slice none 0 0, .string ⟨#[]⟩, .slice none 0 0, .slice none 0 0] 48)).drew) FF1.out)
          have N1P := Lib.hid (Blk.new wm 48 #[.string ⟨#[]⟩, .int .i64 0, .slice none 0 0, .slice none 0 0, .slice none 0 0, .slice none 0 0, .slice none 0 0, .slice none 0 0, .string ⟨#[]⟩, .slice none 0 0, .slice none 0 0])
          have FF2 : Hid (Below wm.heap.size wm (wm.alloc (.cells #[.int .i64 0, .int .i64 0] 50)).drew) := ((Below.refl wm.heap.size wm).al (.cells #[.int .i64 0, .int .i64 0] 50)).drew
          have FC2 := Lib.hid (PA2.out ((wm.alloc (.cells #[.int .i64 0, .int .i64 0] 50)).drew) FF2.out)
          have N2Q := Lib.hid (Blk.new wm 50 #[.int .i64 0, .int .i64 0])
          have FF3 : Hid (Below wm.heap.size wm ((wm.alloc (.cells #[.string ⟨#[]⟩, .int .i64 0, .slice none 0 0, .slice none 0 0, .slice none 0 0, .slice none 0 0, .slice none 0 0, .slice none 0 0, .string ⟨#[]⟩, .slice none 0 0, .slice none 0 0] 48)).alloc (.cells #[.int .i64 0, .int .i64 0] 50)).drew) := (((Below.refl wm.heap.size wm).al (.cells #[.string ⟨#[]⟩, .int .i64 0, .slice none 0 0, .slice none 0 0, .slice none 0 0, .slice none 0 0, .slice none 0 0, .slice none 0 0, .string ⟨#[]⟩, .slice none 0 0, .slice none 0 0] 48)).al (.cells #[.int .i64 0, .int .i64 0] 50)).drew
          have FC3 := Lib.hid (PA2.out (((wm.alloc (.cells #[.string ⟨#[]⟩, .int .i64 0, .slice none 0 0, .slice none 0 0, .slice none 0 0, .slice none 0 0, .slice none 0 0, .slice none 0 0, .string ⟨#[]⟩, .slice none 0 0, .slice none 0 0] 48)).alloc (.cells #[.int .i64 0, .int .i64 0] 50)).drew) FF3.out)
          have N3P := Lib.hid ((two_new wm 48 50 #[.string ⟨#[]⟩, .int .i64 0, .slice none 0 0, .slice none 0 0, .slice none 0 0, .slice none 0 0, .slice none 0 0, .slice none 0 0, .string ⟨#[]⟩, .slice none 0 0, .slice none 0 0] #[.int .i64 0, .int .i64 0]).1)
          have N3Q := Lib.hid ((two_new wm 48 50 #[.string ⟨#[]⟩, .int .i64 0, .slice none 0 0, .slice none 0 0, .slice none 0 0, .slice none 0 0, .slice none 0 0, .slice none 0 0, .string ⟨#[]⟩, .slice none 0 0, .slice none 0 0] #[.int .i64 0, .int .i64 0]).2)
          have FF4 : Hid (Below wm.heap.size wm ((wm.alloc (.cells #[.int .i64 0, .int .i64 0] 50)).alloc (.cells #[.string ⟨#[]⟩, .int .i64 0, .slice none 0 0, .slice none 0 0, .slice none 0 0, .slice none 0 0, .slice none 0 0, .slice none 0 0, .string ⟨#[]⟩, .slice none 0 0, .slice none 0 0] 48)).drew) := (((Below.refl wm.heap.size wm).al (.cells #[.int .i64 0, .int .i64 0] 50)).al (.cells #[.string ⟨#[]⟩, .int .i64 0, .slice none 0 0, .slice none 0 0, .slice none 0 0, .slice none 0 0, .slice none 0 0, .slice none 0 0, .string ⟨#[]⟩, .slice none 0 0, .slice none 0 0] 48)).drew
          have FC4 := Lib.hid (PA2.out (((wm.alloc (.cells #[.int .i64 0, .int .i64 0] 50)).alloc (.cells #[.string ⟨#[]⟩, .int .i64 0, .slice none 0 0, .slice none 0 0, .slice none 0 0, .slice none 0 0, .slice none 0 0, .slice none 0 0, .string ⟨#[]⟩, .slice none 0 0, .slice none 0 0] 48)).drew) FF4.out)
          have N4Q := Lib.hid ((two_new wm 50 48 #[.int .i64 0, .int .i64 0] #[.string ⟨#[]⟩, .int .i64 0, .slice none 0 0, .slice none 0 0, .slice none 0 0, .slice none 0 0, .slice none 0 0, .slice none 0 0, .string ⟨#[]⟩, .slice none 0 0, .slice none 0 0]).1)
          have N4P := Lib.hid ((two_new wm 50 48 #[.int .i64 0, .int .i64 0] #[.string ⟨#[]⟩, .int .i64 0, .slice none 0 0, .slice none 0 0, .slice none 0 0, .slice none 0 0, .slice none 0 0, .slice none 0 0, .string ⟨#[]⟩, .slice none 0 0, .slice none 0 0]).2)
          go_upto_region 19 with fail
          go_cut [16, 17, 18] (fun v16 v17 v18 wc => LooseTo wm U.data.toList v16 v18 wc)
          case first =>
            refine wp_region_held_drew (S := fun _ => True) (by kernel_rfl) trivial (fun hHeld => ?_)
            refine wpAnyH_take (i := 0) (oi := _) (v := ?_) rfl (by kernel_rfl) (by kernel_rfl) (by kernel_rfl) (fun _ _ _ h => h) (Or.inl ⟨by rfl, ?_⟩) (by assumption) ?_
            rotate_left
            · intro w hSw
              (try dsimp only at hSw)
              go_simp
              (try with_reducible rfl)
            try simp only [Act.put, List.setIfInBounds_toArray, List.set_cons_zero, List.set_cons_succ, List.getElem_toArray, List.getElem_cons_zero]
            refine wpAnyH_take (i := 1) (oi := _) (v := ?_) rfl (by kernel_rfl) (by kernel_rfl) (by kernel_rfl) (fun _ _ _ h => h) (Or.inl ⟨by rfl, ?_⟩) (by assumption) ?_
            rotate_left
            · intro w hSw
              (try dsimp only at hSw)
              go_simp
              (try with_reducible rfl)
            try simp only [Act.put, List.setIfInBounds_toArray, List.set_cons_zero, List.set_cons_succ, List.getElem_toArray, List.getElem_cons_succ, List.getElem_cons_zero]
            refine wpAnyH_take (i := 2) (oi := _) (v := ?_) rfl (by kernel_rfl) (by kernel_rfl) (by kernel_rfl) (fun _ _ _ h => h) (Or.inl ⟨by rfl, ?_⟩) (by assumption) ?_
            rotate_left
            · intro w hSw
              (try dsimp only at hSw)
              go_simp
              (try with_reducible rfl)
            try simp only [Act.put, List.setIfInBounds_toArray, List.set_cons_zero, List.set_cons_succ, List.getElem_toArray, List.getElem_cons_succ, List.getElem_cons_zero]
            refine wpAnyH_take (i := 3) (oi := _) (v := ?_) rfl (by kernel_rfl) (by kernel_rfl) (by kernel_rfl) (fun _ _ _ h => h) (Or.inl ⟨by rfl, ?_⟩) (by assumption) ?_
            rotate_left
            · intro w hSw
              (try dsimp only at hSw)
              go_simp
              (try with_reducible rfl)
            try simp only [Act.put, List.setIfInBounds_toArray, List.set_cons_zero, List.set_cons_succ, List.getElem_toArray, List.getElem_cons_succ, List.getElem_cons_zero]
            refine wpAnyH_take (i := 4) (oi := _) (v := ?_) rfl (by kernel_rfl) (by kernel_rfl) (by kernel_rfl) (fun _ _ _ h => h) (Or.inl ⟨by rfl, ?_⟩) (by assumption) ?_
            rotate_left
            · intro w hSw
              (try dsimp only at hSw)
              go_simp
              (try with_reducible rfl)
            try simp only [Act.put, List.setIfInBounds_toArray, List.set_cons_zero, List.set_cons_succ, List.getElem_toArray, List.getElem_cons_succ, List.getElem_cons_zero]
            refine wpAnyH_take (i := 5) (oi := _) (v := ?_) rfl (by kernel_rfl) (by kernel_rfl) (by kernel_rfl) (fun _ _ _ h => h) (Or.inl ⟨by rfl, ?_⟩) (by assumption) ?_
            rotate_left
            · intro w hSw
              (try dsimp only at hSw)
              go_simp
              (try with_reducible rfl)
            try simp only [Act.put, List.setIfInBounds_toArray, List.set_cons_zero, List.set_cons_succ, List.getElem_toArray, List.getElem_cons_succ, List.getElem_cons_zero]
            refine wpAnyH_take (i := 6) (oi := _) (v := ?_) rfl (by kernel_rfl) (by kernel_rfl) (by kernel_rfl) (fun _ _ _ h => h) (Or.inl ⟨by rfl, ?_⟩) (by assumption) ?_
            rotate_left
            · intro w hSw
              (try dsimp only at hSw)
              go_simp
              (try with_reducible rfl)
            try simp only [Act.put, List.setIfInBounds_toArray, List.set_cons_zero, List.set_cons_succ, List.getElem_toArray, List.getElem_cons_succ, List.getElem_cons_zero]
            refine wpAnyH_take (i := 7) (oi := _) (v := ?_) rfl (by kernel_rfl) (by kernel_rfl) (by kernel_rfl) (fun _ _ _ h => h) (Or.inl ⟨by rfl, ?_⟩) (by assumption) ?_
            rotate_left
            · intro w hSw
              (try dsimp only at hSw)
              go_simp
              (try with_reducible rfl)
            try simp only [Act.put, List.setIfInBounds_toArray, List.set_cons_zero, List.set_cons_succ, List.getElem_toArray, List.getElem_cons_succ, List.getElem_cons_zero]
            refine wpAnyH_take (i := 8) (oi := _) (v := ?_) rfl (by kernel_rfl) (by kernel_rfl) (by kernel_rfl) (fun _ _ _ h => h) (Or.inl ⟨by rfl, ?_⟩) (by assumption) ?_
            rotate_left
            · intro w hSw
              (try dsimp only at hSw)
              go_simp
              (try with_reducible rfl)
            try simp only [Act.put, List.setIfInBounds_toArray, List.set_cons_zero, List.set_cons_succ, List.getElem_toArray, List.getElem_cons_succ, List.getElem_cons_zero]
            refine wpAnyH_ready (rs := [9, 14, 15]) (by kernel_rfl) (by simp) ?_
            refine AllReadyH.cons (o := _) rfl (fun K hK => ?_) (AllReadyH.cons (o := _) rfl (fun K hK => ?_) (AllReadyH.cons (o := _) rfl (fun K hK => ?_) AllReadyH.nil))
            · skip
              go_simp
              go_at_call 14
              (with_reducible refine FC0.out.mono ?_)
              rintro e w6 ⟨nm2, seats2, sil2, B21, m21, d21, B22, m22, d22, B23, m23, d23, B24, m24, d24, B25, m25, d25, B26, m26, d26, B27, m27, d27, B28, m28, d28, L2, C2, E2, rfl, b6, hp2⟩
              have bb := FF0.out.trans (b6.mono FF0.out.size)
              have zz := bb.size
              have zb := b6.size
              refine hK.out _ _ trivial (fun hHeld => ?_)
              clear hK K
              try simp only [Act.put, List.setIfInBounds_toArray, List.set_cons_zero, List.set_cons_succ, List.getElem_toArray, List.getElem_cons_succ, List.getElem_cons_zero]
              have zp : (wm.drew).heap.size = wm.heap.size + 0 := by first | rfl | (change (wm).heap.size = _; simp) | simp
              refine wpAnyH_take (i := 10) (oi := _) (v := ?_) rfl (by kernel_rfl) (by kernel_rfl) (by kernel_rfl) (fun _ _ _ h => h) (Or.inl ⟨by rfl, ?_⟩) (by assumption) ?_
              rotate_left
              · intro w hSw
                (try dsimp only at hSw)
                go_simp
                (try with_reducible rfl)
              try simp only [Act.put, List.setIfInBounds_toArray, List.set_cons_zero, List.set_cons_succ, List.getElem_toArray, List.getElem_cons_succ, List.getElem_cons_zero]
              refine wpAnyH_take (i := 11) (oi := _) (v := ?_) rfl (by kernel_rfl) (by kernel_rfl) (by kernel_rfl) (fun _ _ _ h => h) (Or.inl ⟨by rfl, ?_⟩) (by assumption) ?_
              rotate_left
              · intro w hSw
                (try dsimp only at hSw)
                go_simp
                (try with_reducible rfl)
              try simp only [Act.put, List.setIfInBounds_toArray, List.set_cons_zero, List.set_cons_succ, List.getElem_toArray, List.getElem_cons_succ, List.getElem_cons_zero]
              refine wpAnyH_take (i := 12) (oi := _) (v := ?_) rfl (by kernel_rfl) (by kernel_rfl) (by kernel_rfl) (fun _ _ _ h => h) (Or.inl ⟨by rfl, ?_⟩) (by assumption) ?_
              rotate_left
              · intro w hSw
                (try dsimp only at hSw)
                go_simp
                (try with_reducible rfl)
              try simp only [Act.put, List.setIfInBounds_toArray, List.set_cons_zero, List.set_cons_succ, List.getElem_toArray, List.getElem_cons_succ, List.getElem_cons_zero]
              refine wpAnyH_take (i := 13) (oi := _) (v := ?_) rfl (by kernel_rfl) (by kernel_rfl) (by kernel_rfl) (fun _ _ _ h => h) (Or.inl ⟨by rfl, ?_⟩) (by assumption) ?_
              rotate_left
              · intro w hSw
                (try dsimp only at hSw)
                go_simp
                (try with_reducible rfl)
              try simp only [Act.put, List.setIfInBounds_toArray, List.set_cons_zero, List.set_cons_succ, List.getElem_toArray, List.getElem_cons_succ, List.getElem_cons_zero]
              refine wpAnyH_ready (rs := [14, 15]) (by kernel_rfl) (by simp) ?_
              refine AllReadyH.cons (o := _) rfl (fun K hK => ?_) (AllReadyH.cons (o := _) rfl (fun K hK => ?_) AllReadyH.nil)
              · skip
                go_simp
                refine hK.out _ _ trivial (fun hHeld => ?_)
                clear hK K
                try simp only [Act.put, List.setIfInBounds_toArray, List.set_cons_zero, List.set_cons_succ, List.getElem_toArray, List.getElem_cons_succ, List.getElem_cons_zero]
                refine wpAnyH_ready (rs := [15]) (by kernel_rfl) (by simp) ?_
                refine AllReadyH.cons (o := _) rfl (fun K hK => ?_) AllReadyH.nil
                go_simp
                refine hK.out _ _ trivial (fun hHeld => ?_)
                clear hK K
                try simp only [Act.put, List.setIfInBounds_toArray, List.set_cons_zero, List.set_cons_succ, List.getElem_toArray, List.getElem_cons_succ, List.getElem_cons_zero]
                have hP : Blk ((w6.alloc (.cells #[.string ⟨#[]⟩, .int .i64 0, .slice none 0 0, .slice none 0 0, .slice none 0 0, .slice none 0 0, .slice none 0 0, .slice none 0 0, .string ⟨#[]⟩, .slice none 0 0, .slice none 0 0] 48)).alloc (.cells #[.int .i64 0, .int .i64 0] 50)) w6.heap.size 48 #[.string ⟨#[]⟩, .int .i64 0, .slice none 0 0, .slice none 0 0, .slice none 0 0, .slice none 0 0, .slice none 0 0, .slice none 0 0, .string ⟨#[]⟩, .slice none 0 0, .slice none 0 0] := (two_new w6 48 50 #[.string ⟨#[]⟩, .int .i64 0, .slice none 0 0, .slice none 0 0, .slice none 0 0, .slice none 0 0, .slice none 0 0, .slice none 0 0, .string ⟨#[]⟩, .slice none 0 0, .slice none 0 0] #[.int .i64 0, .int .i64 0]).1
                have hQ : Blk ((w6.alloc (.cells #[.string ⟨#[]⟩, .int .i64 0, .slice none 0 0, .slice none 0 0, .slice none 0 0, .slice none 0 0, .slice none 0 0, .slice none 0 0, .string ⟨#[]⟩, .slice none 0 0, .slice none 0 0] 48)).alloc (.cells #[.int .i64 0, .int .i64 0] 50)) (w6.heap.size + 1) 50 #[.int .i64 0, .int .i64 0] := (two_new w6 48 50 #[.string ⟨#[]⟩, .int .i64 0, .slice none 0 0, .slice none 0 0, .slice none 0 0, .slice none 0 0, .slice none 0 0, .slice none 0 0, .string ⟨#[]⟩, .slice none 0 0, .slice none 0 0] #[.int .i64 0, .int .i64 0]).2
                have K6 : Kept (fun _ => False) w6 ((w6.alloc (.cells #[.string ⟨#[]⟩, .int .i64 0, .slice none 0 0, .slice none 0 0, .slice none 0 0, .slice none 0 0, .slice none 0 0, .slice none 0 0, .string ⟨#[]⟩, .slice none 0 0, .slice none 0 0] 48)).alloc (.cells #[.int .i64 0, .int .i64 0] 50)) := ((Kept.refl _ w6).alloc _).alloc _
                have FP : Below wm.heap.size wm ((w6.alloc (.cells #[.string ⟨#[]⟩, .int .i64 0, .slice none 0 0, .slice none 0 0, .slice none 0 0, .slice none 0 0, .slice none 0 0, .slice none 0 0, .string ⟨#[]⟩, .slice none 0 0, .slice none 0 0] 48)).alloc (.cells #[.int .i64 0, .int .i64 0] 50)) := ((bb.alloc zz (.cells #[.string ⟨#[]⟩, .int .i64 0, .slice none 0 0, .slice none 0 0, .slice none 0 0, .slice none 0 0, .slice none 0 0, .slice none 0 0, .string ⟨#[]⟩, .slice none 0 0, .slice none 0 0] 48)).alloc (by simp; omega) (.cells #[.int .i64 0, .int .i64 0] 50))
                generalize ((w6.alloc (.cells #[.string ⟨#[]⟩, .int .i64 0, .slice none 0 0, .slice none 0 0, .slice none 0 0, .slice none 0 0, .slice none 0 0, .slice none 0 0, .string ⟨#[]⟩, .slice none 0 0, .slice none 0 0] 48)).alloc (.cells #[.int .i64 0, .int .i64 0] 50)) = Wp at *
                have v0 : Wp.cell? ⟨w6.heap.size, 0, none⟩ = some (.string ⟨#[]⟩) := hP.cell 0
                have y0 := hP.frozen 0
                have v1 : Wp.cell? ⟨w6.heap.size, 1, none⟩ = some (.int .i64 0) := hP.cell 1
                have y1 := hP.frozen 1
                have v2 : Wp.cell? ⟨w6.heap.size, 2, none⟩ = some (.slice none 0 0) := hP.cell 2
                have y2 := hP.frozen 2
                have v3 : Wp.cell? ⟨w6.heap.size, 3, none⟩ = some (.slice none 0 0) := hP.cell 3
                have y3 := hP.frozen 3
                have v4 : Wp.cell? ⟨w6.heap.size, 4, none⟩ = some (.slice none 0 0) := hP.cell 4
                have y4 := hP.frozen 4
                have v5 : Wp.cell? ⟨w6.heap.size, 5, none⟩ = some (.slice none 0 0) := hP.cell 5
                have y5 := hP.frozen 5
                have v6 : Wp.cell? ⟨w6.heap.size, 6, none⟩ = some (.slice none 0 0) := hP.cell 6
                have y6 := hP.frozen 6
                have v7 : Wp.cell? ⟨w6.heap.size, 7, none⟩ = some (.slice none 0 0) := hP.cell 7
                have y7 := hP.frozen 7
                have v8 : Wp.cell? ⟨w6.heap.size, 8, none⟩ = some (.string ⟨#[]⟩) := hP.cell 8
                have y8 := hP.frozen 8
                have v9 : Wp.cell? ⟨w6.heap.size, 9, none⟩ = some (.slice none 0 0) := hP.cell 9
                have y9 := hP.frozen 9
                have v10 : Wp.cell? ⟨w6.heap.size, 10, none⟩ = some (.slice none 0 0) := hP.cell 10
                have y10 := hP.frozen 10
                refine wpAnyH_ready (rs := [16]) (by kernel_rfl) (by simp) ?_
                refine AllReadyH.cons (o := _) rfl (fun K hK => ?_) AllReadyH.nil
                go_simp
                refine hK.out _ _ trivial (fun hHeld => ?_)
                clear hK K
                try simp only [Act.put, List.setIfInBounds_toArray, List.set_cons_zero, List.set_cons_succ, List.getElem_toArray, List.getElem_cons_succ, List.getElem_cons_zero]
                have K8 := Kept.put11 Wp w6.heap.size (.string nm2) (.int .i64 seats2) (.slice B21 m21 d21) (.slice B22 m22 d22) (.slice B23 m23 d23) (.slice B24 m24 d24) (.slice B25 m25 d25) (.slice B26 m26 d26) (.string sil2) (.slice B27 m27 d27) (.slice B28 m28 d28)
                have P8 := hP.put11 (.string nm2) (.int .i64 seats2) (.slice B21 m21 d21) (.slice B22 m22 d22) (.slice B23 m23 d23) (.slice B24 m24 d24) (.slice B25 m25 d25) (.slice B26 m26 d26) (.string sil2) (.slice B27 m27 d27) (.slice B28 m28 d28)
                have Q8 := hQ.kept K8 (by omega)
                have F8 : Below wm.heap.size wm _ := FP.trans (K8.to_below (by have := FP.size; omega) (fun q hq e => by omega))
                clear v0 y0 v1 y1 v2 y2 v3 y3 v4 y4 v5 y5 v6 y6 v7 y7 v8 y8 v9 y9 v10 y10
                generalize ((((((((((Wp.setCell ⟨w6.heap.size, 0, none⟩ (.string nm2)).setCell ⟨w6.heap.size, 1, none⟩ (.int .i64 seats2)).setCell ⟨w6.heap.size, 2, none⟩ (.slice B21 m21 d21)).setCell ⟨w6.heap.size, 3, none⟩ (.slice B22 m22 d22)).setCell ⟨w6.heap.size, 4, none⟩ (.slice B23 m23 d23)).setCell ⟨w6.heap.size, 5, none⟩ (.slice B24 m24 d24)).setCell ⟨w6.heap.size, 6, none⟩ (.slice B25 m25 d25)).setCell ⟨w6.heap.size, 7, none⟩ (.slice B26 m26 d26)).setCell ⟨w6.heap.size, 8, none⟩ (.string sil2)).setCell ⟨w6.heap.size, 9, none⟩ (.slice B27 m27 d27)).setCell ⟨w6.heap.size, 10, none⟩ (.slice B28 m28 d28) = W8 at *
                have v0 : W8.cell? ⟨(w6.heap.size + 1), 0, none⟩ = some (.int .i64 0) := Q8.cell 0
                have y0 := Q8.frozen 0
                have v1 : W8.cell? ⟨(w6.heap.size + 1), 1, none⟩ = some (.int .i64 0) := Q8.cell 1
                have y1 := Q8.frozen 1
                refine wpAnyH_ready (rs := [17]) (by kernel_rfl) (by simp) ?_
                refine AllReadyH.cons (o := _) rfl (fun K hK => ?_) AllReadyH.nil
                go_simp
                refine hK.out _ _ trivial (fun hHeld => ?_)
                clear hK K
                try simp only [Act.put, List.setIfInBounds_toArray, List.set_cons_zero, List.set_cons_succ, List.getElem_toArray, List.getElem_cons_succ, List.getElem_cons_zero]
                have K9 := Kept.put2 W8 (w6.heap.size + 1) (.int .i64 L2) (.int .i64 C2)
                have X9 := P8.kept K9 (by omega)
                have F9 : Below wm.heap.size wm _ := F8.trans (K9.to_below (by have := F8.size; omega) (fun q hq e => by omega))
                have K69 : Kept (fun z => z = w6.heap.size ∨ z = (w6.heap.size + 1)) w6 _ := ((K6.mono (T := fun z => z = w6.heap.size ∨ z = (w6.heap.size + 1)) (fun _ _ h => h.elim)).then_ K8 (fun _ _ e => .inl e)).then_ K9 (fun _ _ e => .inr e)
                clear v0 y0 v1 y1
                generalize (W8.setCell ⟨(w6.heap.size + 1), 0, none⟩ (.int .i64 L2)).setCell ⟨(w6.heap.size + 1), 1, none⟩ (.int .i64 C2) = W9 at *
                refine wpAnyH_take (i := 18) (oi := _) (v := ?_) rfl (by kernel_rfl) (by kernel_rfl) (by kernel_rfl) (fun _ _ _ h => h) (Or.inl ⟨by rfl, ?_⟩) (by assumption) ?_
                rotate_left
                · intro w hSw
                  (try dsimp only at hSw)
                  go_simp
                  (try with_reducible rfl)
                try simp only [Act.put, List.setIfInBounds_toArray, List.set_cons_zero, List.set_cons_succ, List.getElem_toArray, List.getElem_cons_succ, List.getElem_cons_zero]
                refine wpAnyH_done (by kernel_rfl) ?_ _
                go_goals
                go_wp2_with fail
                go_meet
                case rel => exact loose_mk hp2 X9 K69 (fun z hz hb e => by rcases e with e | e <;> omega) F9
              · skip
                go_simp
                refine hK.out _ _ trivial (fun hHeld => ?_)
                clear hK K
                try simp only [Act.put, List.setIfInBounds_toArray, List.set_cons_zero, List.set_cons_succ, List.getElem_toArray, List.getElem_cons_succ, List.getElem_cons_zero]
                refine wpAnyH_ready (rs := [14]) (by kernel_rfl) (by simp) ?_
                refine AllReadyH.cons (o := _) rfl (fun K hK => ?_) AllReadyH.nil
                go_simp
                refine hK.out _ _ trivial (fun hHeld => ?_)
                clear hK K
                try simp only [Act.put, List.setIfInBounds_toArray, List.set_cons_zero, List.set_cons_succ, List.getElem_toArray, List.getElem_cons_succ, List.getElem_cons_zero]
                have hP : Blk ((w6.alloc (.cells #[.int .i64 0, .int .i64 0] 50)).alloc (.cells #[.string ⟨#[]⟩, .int .i64 0, .slice none 0 0, .slice none 0 0, .slice none 0 0, .slice none 0 0, .slice none 0 0, .slice none 0 0, .string ⟨#[]⟩, .slice none 0 0, .slice none 0 0] 48)) (w6.heap.size + 1) 48 #[.string ⟨#[]⟩, .int .i64 0, .slice none 0 0, .slice none 0 0, .slice none 0 0, .slice none 0 0, .slice none 0 0, .slice none 0 0, .string ⟨#[]⟩, .slice none 0 0, .slice none 0 0] := (two_new w6 50 48 #[.int .i64 0, .int .i64 0] #[.string ⟨#[]⟩, .int .i64 0, .slice none 0 0, .slice none 0 0, .slice none 0 0, .slice none 0 0, .slice none 0 0, .slice none 0 0, .string ⟨#[]⟩, .slice none 0 0, .slice none 0 0]).2
                have hQ : Blk ((w6.alloc (.cells #[.int .i64 0, .int .i64 0] 50)).alloc (.cells #[.string ⟨#[]⟩, .int .i64 0, .slice none 0 0, .slice none 0 0, .slice none 0 0, .slice none 0 0, .slice none 0 0, .slice none 0 0, .string ⟨#[]⟩, .slice none 0 0, .slice none 0 0] 48)) w6.heap.size 50 #[.int .i64 0, .int .i64 0] := (two_new w6 50 48 #[.int .i64 0, .int .i64 0] #[.string ⟨#[]⟩, .int .i64 0, .slice none 0 0, .slice none 0 0, .slice none 0 0, .slice none 0 0, .slice none 0 0, .slice none 0 0, .string ⟨#[]⟩, .slice none 0 0, .slice none 0 0]).1
                have K6 : Kept (fun _ => False) w6 ((w6.alloc (.cells #[.int .i64 0, .int .i64 0] 50)).alloc (.cells #[.string ⟨#[]⟩, .int .i64 0, .slice none 0 0, .slice none 0 0, .slice none 0 0, .slice none 0 0, .slice none 0 0, .slice none 0 0, .string ⟨#[]⟩, .slice none 0 0, .slice none 0 0] 48)) := ((Kept.refl _ w6).alloc _).alloc _
                have FP : Below wm.heap.size wm ((w6.alloc (.cells #[.int .i64 0, .int .i64 0] 50)).alloc (.cells #[.string ⟨#[]⟩, .int .i64 0, .slice none 0 0, .slice none 0 0, .slice none 0 0, .slice none 0 0, .slice none 0 0, .slice none 0 0, .string ⟨#[]⟩, .slice none 0 0, .slice none 0 0] 48)) := ((bb.alloc zz (.cells #[.int .i64 0, .int .i64 0] 50)).alloc (by simp; omega) (.cells #[.string ⟨#[]⟩, .int .i64 0, .slice none 0 0, .slice none 0 0, .slice none 0 0, .slice none 0 0, .slice none 0 0, .slice none 0 0, .string ⟨#[]⟩, .slice none 0 0, .slice none 0 0] 48))
                generalize ((w6.alloc (.cells #[.int .i64 0, .int .i64 0] 50)).alloc (.cells #[.string ⟨#[]⟩, .int .i64 0, .slice none 0 0, .slice none 0 0, .slice none 0 0, .slice none 0 0, .slice none 0 0, .slice none 0 0, .string ⟨#[]⟩, .slice none 0 0, .slice none 0 0] 48)) = Wp at *
                have v0 : Wp.cell? ⟨(w6.heap.size + 1), 0, none⟩ = some (.string ⟨#[]⟩) := hP.cell 0
                have y0 := hP.frozen 0
                have v1 : Wp.cell? ⟨(w6.heap.size + 1), 1, none⟩ = some (.int .i64 0) := hP.cell 1
                have y1 := hP.frozen 1
                have v2 : Wp.cell? ⟨(w6.heap.size + 1), 2, none⟩ = some (.slice none 0 0) := hP.cell 2
                have y2 := hP.frozen 2
                have v3 : Wp.cell? ⟨(w6.heap.size + 1), 3, none⟩ = some (.slice none 0 0) := hP.cell 3
                have y3 := hP.frozen 3
                have v4 : Wp.cell? ⟨(w6.heap.size + 1), 4, none⟩ = some (.slice none 0 0) := hP.cell 4
                have y4 := hP.frozen 4
                have v5 : Wp.cell? ⟨(w6.heap.size + 1), 5, none⟩ = some (.slice none 0 0) := hP.cell 5
                have y5 := hP.frozen 5
                have v6 : Wp.cell? ⟨(w6.heap.size + 1), 6, none⟩ = some (.slice none 0 0) := hP.cell 6
                have y6 := hP.frozen 6
                have v7 : Wp.cell? ⟨(w6.heap.size + 1), 7, none⟩ = some (.slice none 0 0) := hP.cell 7
                have y7 := hP.frozen 7
                have v8 : Wp.cell? ⟨(w6.heap.size + 1), 8, none⟩ = some (.string ⟨#[]⟩) := hP.cell 8
                have y8 := hP.frozen 8
                have v9 : Wp.cell? ⟨(w6.heap.size + 1), 9, none⟩ = some (.slice none 0 0) := hP.cell 9
                have y9 := hP.frozen 9
                have v10 : Wp.cell? ⟨(w6.heap.size + 1), 10, none⟩ = some (.slice none 0 0) := hP.cell 10
                have y10 := hP.frozen 10
                refine wpAnyH_ready (rs := [16]) (by kernel_rfl) (by simp) ?_
                refine AllReadyH.cons (o := _) rfl (fun K hK => ?_) AllReadyH.nil
                go_simp
                refine hK.out _ _ trivial (fun hHeld => ?_)
                clear hK K
                try simp only [Act.put, List.setIfInBounds_toArray, List.set_cons_zero, List.set_cons_succ, List.getElem_toArray, List.getElem_cons_succ, List.getElem_cons_zero]
                have K8 := Kept.put11 Wp (w6.heap.size + 1) (.string nm2) (.int .i64 seats2) (.slice B21 m21 d21) (.slice B22 m22 d22) (.slice B23 m23 d23) (.slice B24 m24 d24) (.slice B25 m25 d25) (.slice B26 m26 d26) (.string sil2) (.slice B27 m27 d27) (.slice B28 m28 d28)
                have P8 := hP.put11 (.string nm2) (.int .i64 seats2) (.slice B21 m21 d21) (.slice B22 m22 d22) (.slice B23 m23 d23) (.slice B24 m24 d24) (.slice B25 m25 d25) (.slice B26 m26 d26) (.string sil2) (.slice B27 m27 d27) (.slice B28 m28 d28)
                have Q8 := hQ.kept K8 (by omega)
                have F8 : Below wm.heap.size wm _ := FP.trans (K8.to_below (by have := FP.size; omega) (fun q hq e => by omega))
                clear v0 y0 v1 y1 v2 y2 v3 y3 v4 y4 v5 y5 v6 y6 v7 y7 v8 y8 v9 y9 v10 y10
                generalize ((((((((((Wp.setCell ⟨(w6.heap.size + 1), 0, none⟩ (.string nm2)).setCell ⟨(w6.heap.size + 1), 1, none⟩ (.int .i64 seats2)).setCell ⟨(w6.heap.size + 1), 2, none⟩ (.slice B21 m21 d21)).setCell ⟨(w6.heap.size + 1), 3, none⟩ (.slice B22 m22 d22)).setCell ⟨(w6.heap.size + 1), 4, none⟩ (.slice B23 m23 d23)).setCell ⟨(w6.heap.size + 1), 5, none⟩ (.slice B24 m24 d24)).setCell ⟨(w6.heap.size + 1), 6, none⟩ (.slice B25 m25 d25)).setCell ⟨(w6.heap.size + 1), 7, none⟩ (.slice B26 m26 d26)).setCell ⟨(w6.heap.size + 1), 8, none⟩ (.string sil2)).setCell ⟨(w6.heap.size + 1), 9, none⟩ (.slice B27 m27 d27)).setCell ⟨(w6.heap.size + 1), 10, none⟩ (.slice B28 m28 d28) = W8 at *
                have v0 : W8.cell? ⟨w6.heap.size, 0, none⟩ = some (.int .i64 0) := Q8.cell 0
                have y0 := Q8.frozen 0
                have v1 : W8.cell? ⟨w6.heap.size, 1, none⟩ = some (.int .i64 0) := Q8.cell 1
                have y1 := Q8.frozen 1
                refine wpAnyH_ready (rs := [17]) (by kernel_rfl) (by simp) ?_
                refine AllReadyH.cons (o := _) rfl (fun K hK => ?_) AllReadyH.nil
                go_simp
                refine hK.out _ _ trivial (fun hHeld => ?_)
                clear hK K
                try simp only [Act.put, List.setIfInBounds_toArray, List.set_cons_zero, List.set_cons_succ, List.getElem_toArray, List.getElem_cons_succ, List.getElem_cons_zero]
                have K9 := Kept.put2 W8 w6.heap.size (.int .i64 L2) (.int .i64 C2)
                have X9 := P8.kept K9 (by omega)
                have F9 : Below wm.heap.size wm _ := F8.trans (K9.to_below (by have := F8.size; omega) (fun q hq e => by omega))
                have K69 : Kept (fun z => z = (w6.heap.size + 1) ∨ z = w6.heap.size) w6 _ := ((K6.mono (T := fun z => z = (w6.heap.size + 1) ∨ z = w6.heap.size) (fun _ _ h => h.elim)).then_ K8 (fun _ _ e => .inl e)).then_ K9 (fun _ _ e => .inr e)
                clear v0 y0 v1 y1
                generalize (W8.setCell ⟨w6.heap.size, 0, none⟩ (.int .i64 L2)).setCell ⟨w6.heap.size, 1, none⟩ (.int .i64 C2) = W9 at *
                refine wpAnyH_take (i := 18) (oi := _) (v := ?_) rfl (by kernel_rfl) (by kernel_rfl) (by kernel_rfl) (fun _ _ _ h => h) (Or.inl ⟨by rfl, ?_⟩) (by assumption) ?_
                rotate_left
                · intro w hSw
                  (try dsimp only at hSw)
                  go_simp
                  (try with_reducible rfl)
                try simp only [Act.put, List.setIfInBounds_toArray, List.set_cons_zero, List.set_cons_succ, List.getElem_toArray, List.getElem_cons_succ, List.getElem_cons_zero]
                refine wpAnyH_done (by kernel_rfl) ?_ _
                go_goals
                go_wp2_with fail
                go_meet
                case rel => exact loose_mk hp2 X9 K69 (fun z hz hb e => by rcases e with e | e <;> omega) F9
            · skip
              go_simp
              refine hK.out _ _ trivial (fun hHeld => ?_)
              clear hK K
              try simp only [Act.put, List.setIfInBounds_toArray, List.set_cons_zero, List.set_cons_succ, List.getElem_toArray, List.getElem_cons_succ, List.getElem_cons_zero]
              refine wpAnyH_ready (rs := [9, 15]) (by kernel_rfl) (by simp) ?_
              refine AllReadyH.cons (o := _) rfl (fun K hK => ?_) (AllReadyH.cons (o := _) rfl (fun K hK => ?_) AllReadyH.nil)
              · skip
                go_simp
                go_at_call 14
                (with_reducible refine FC1.out.mono ?_)
                rintro e w6 ⟨nm2, seats2, sil2, B21, m21, d21, B22, m22, d22, B23, m23, d23, B24, m24, d24, B25, m25, d25, B26, m26, d26, B27, m27, d27, B28, m28, d28, L2, C2, E2, rfl, b6, hp2⟩
                have bb := FF1.out.trans (b6.mono FF1.out.size)
                have zz := bb.size
                have zb := b6.size
                have nP := (N1P.out.drew).below b6 (N1P.out.drew).lt
                refine hK.out _ _ trivial (fun hHeld => ?_)
                clear hK K
                try simp only [Act.put, List.setIfInBounds_toArray, List.set_cons_zero, List.set_cons_succ, List.getElem_toArray, List.getElem_cons_succ, List.getElem_cons_zero]
                have zp : ((wm.alloc (.cells #[.string ⟨#[]⟩, .int .i64 0, .slice none 0 0, .slice none 0 0, .slice none 0 0, .slice none 0 0, .slice none 0 0, .slice none 0 0, .string ⟨#[]⟩, .slice none 0 0, .slice none 0 0] 48)).drew).heap.size = wm.heap.size + 1 := by first | rfl | (change ((wm.alloc (.cells #[.string ⟨#[]⟩, .int .i64 0, .slice none 0 0, .slice none 0 0, .slice none 0 0, .slice none 0 0, .slice none 0 0, .slice none 0 0, .string ⟨#[]⟩, .slice none 0 0, .slice none 0 0] 48))).heap.size = _; simp) | simp
                refine wpAnyH_take (i := 10) (oi := _) (v := ?_) rfl (by kernel_rfl) (by kernel_rfl) (by kernel_rfl) (fun _ _ _ h => h) (Or.inl ⟨by rfl, ?_⟩) (by assumption) ?_
                rotate_left
                · intro w hSw
                  (try dsimp only at hSw)
                  go_simp
                  (try with_reducible rfl)
                try simp only [Act.put, List.setIfInBounds_toArray, List.set_cons_zero, List.set_cons_succ, List.getElem_toArray, List.getElem_cons_succ, List.getElem_cons_zero]
                refine wpAnyH_take (i := 11) (oi := _) (v := ?_) rfl (by kernel_rfl) (by kernel_rfl) (by kernel_rfl) (fun _ _ _ h => h) (Or.inl ⟨by rfl, ?_⟩) (by assumption) ?_
                rotate_left
                · intro w hSw
                  (try dsimp only at hSw)
                  go_simp
                  (try with_reducible rfl)
                try simp only [Act.put, List.setIfInBounds_toArray, List.set_cons_zero, List.set_cons_succ, List.getElem_toArray, List.getElem_cons_succ, List.getElem_cons_zero]
                refine wpAnyH_take (i := 12) (oi := _) (v := ?_) rfl (by kernel_rfl) (by kernel_rfl) (by kernel_rfl) (fun _ _ _ h => h) (Or.inl ⟨by rfl, ?_⟩) (by assumption) ?_
                rotate_left
                · intro w hSw
                  (try dsimp only at hSw)
                  go_simp
                  (try with_reducible rfl)
                try simp only [Act.put, List.setIfInBounds_toArray, List.set_cons_zero, List.set_cons_succ, List.getElem_toArray, List.getElem_cons_succ, List.getElem_cons_zero]
                refine wpAnyH_take (i := 13) (oi := _) (v := ?_) rfl (by kernel_rfl) (by kernel_rfl) (by kernel_rfl) (fun _ _ _ h => h) (Or.inl ⟨by rfl, ?_⟩) (by assumption) ?_
                rotate_left
                · intro w hSw
                  (try dsimp only at hSw)
                  go_simp
                  (try with_reducible rfl)
                try simp only [Act.put, List.setIfInBounds_toArray, List.set_cons_zero, List.set_cons_succ, List.getElem_toArray, List.getElem_cons_succ, List.getElem_cons_zero]
                refine wpAnyH_ready (rs := [15]) (by kernel_rfl) (by simp) ?_
                refine AllReadyH.cons (o := _) rfl (fun K hK => ?_) AllReadyH.nil
                go_simp
                refine hK.out _ _ trivial (fun hHeld => ?_)
                clear hK K
                try simp only [Act.put, List.setIfInBounds_toArray, List.set_cons_zero, List.set_cons_succ, List.getElem_toArray, List.getElem_cons_succ, List.getElem_cons_zero]
                have hP : Blk (w6.alloc (.cells #[.int .i64 0, .int .i64 0] 50)) wm.heap.size 48 #[.string ⟨#[]⟩, .int .i64 0, .slice none 0 0, .slice none 0 0, .slice none 0 0, .slice none 0 0, .slice none 0 0, .slice none 0 0, .string ⟨#[]⟩, .slice none 0 0, .slice none 0 0] := (nP.alloc _)
                have hQ : Blk (w6.alloc (.cells #[.int .i64 0, .int .i64 0] 50)) w6.heap.size 50 #[.int .i64 0, .int .i64 0] := (Blk.new w6 50 #[.int .i64 0, .int .i64 0])
                have K6 : Kept (fun _ => False) w6 (w6.alloc (.cells #[.int .i64 0, .int .i64 0] 50)) := (Kept.refl _ w6).alloc _
                have FP : Below wm.heap.size wm (w6.alloc (.cells #[.int .i64 0, .int .i64 0] 50)) := (bb.alloc zz (.cells #[.int .i64 0, .int .i64 0] 50))
                generalize (w6.alloc (.cells #[.int .i64 0, .int .i64 0] 50)) = Wp at *
                have v0 : Wp.cell? ⟨wm.heap.size, 0, none⟩ = some (.string ⟨#[]⟩) := hP.cell 0
                have y0 := hP.frozen 0
                have v1 : Wp.cell? ⟨wm.heap.size, 1, none⟩ = some (.int .i64 0) := hP.cell 1
                have y1 := hP.frozen 1
                have v2 : Wp.cell? ⟨wm.heap.size, 2, none⟩ = some (.slice none 0 0) := hP.cell 2
                have y2 := hP.frozen 2
                have v3 : Wp.cell? ⟨wm.heap.size, 3, none⟩ = some (.slice none 0 0) := hP.cell 3
                have y3 := hP.frozen 3
                have v4 : Wp.cell? ⟨wm.heap.size, 4, none⟩ = some (.slice none 0 0) := hP.cell 4
                have y4 := hP.frozen 4
                have v5 : Wp.cell? ⟨wm.heap.size, 5, none⟩ = some (.slice none 0 0) := hP.cell 5
                have y5 := hP.frozen 5
                have v6 : Wp.cell? ⟨wm.heap.size, 6, none⟩ = some (.slice none 0 0) := hP.cell 6
                have y6 := hP.frozen 6
                have v7 : Wp.cell? ⟨wm.heap.size, 7, none⟩ = some (.slice none 0 0) := hP.cell 7
                have y7 := hP.frozen 7
                have v8 : Wp.cell? ⟨wm.heap.size, 8, none⟩ = some (.string ⟨#[]⟩) := hP.cell 8
                have y8 := hP.frozen 8
                have v9 : Wp.cell? ⟨wm.heap.size, 9, none⟩ = some (.slice none 0 0) := hP.cell 9
                have y9 := hP.frozen 9
                have v10 : Wp.cell? ⟨wm.heap.size, 10, none⟩ = some (.slice none 0 0) := hP.cell 10
                have y10 := hP.frozen 10
                refine wpAnyH_ready (rs := [16]) (by kernel_rfl) (by simp) ?_
                refine AllReadyH.cons (o := _) rfl (fun K hK => ?_) AllReadyH.nil
                go_simp
                refine hK.out _ _ trivial (fun hHeld => ?_)
                clear hK K
                try simp only [Act.put, List.setIfInBounds_toArray, List.set_cons_zero, List.set_cons_succ, List.getElem_toArray, List.getElem_cons_succ, List.getElem_cons_zero]
                have K8 := Kept.put11 Wp wm.heap.size (.string nm2) (.int .i64 seats2) (.slice B21 m21 d21) (.slice B22 m22 d22) (.slice B23 m23 d23) (.slice B24 m24 d24) (.slice B25 m25 d25) (.slice B26 m26 d26) (.string sil2) (.slice B27 m27 d27) (.slice B28 m28 d28)
                have P8 := hP.put11 (.string nm2) (.int .i64 seats2) (.slice B21 m21 d21) (.slice B22 m22 d22) (.slice B23 m23 d23) (.slice B24 m24 d24) (.slice B25 m25 d25) (.slice B26 m26 d26) (.string sil2) (.slice B27 m27 d27) (.slice B28 m28 d28)
                have Q8 := hQ.kept K8 (by omega)
                have F8 : Below wm.heap.size wm _ := FP.trans (K8.to_below (by have := FP.size; omega) (fun q hq e => by omega))
                clear v0 y0 v1 y1 v2 y2 v3 y3 v4 y4 v5 y5 v6 y6 v7 y7 v8 y8 v9 y9 v10 y10
                generalize ((((((((((Wp.setCell ⟨wm.heap.size, 0, none⟩ (.string nm2)).setCell ⟨wm.heap.size, 1, none⟩ (.int .i64 seats2)).setCell ⟨wm.heap.size, 2, none⟩ (.slice B21 m21 d21)).setCell ⟨wm.heap.size, 3, none⟩ (.slice B22 m22 d22)).setCell ⟨wm.heap.size, 4, none⟩ (.slice B23 m23 d23)).setCell ⟨wm.heap.size, 5, none⟩ (.slice B24 m24 d24)).setCell ⟨wm.heap.size, 6, none⟩ (.slice B25 m25 d25)).setCell ⟨wm.heap.size, 7, none⟩ (.slice B26 m26 d26)).setCell ⟨wm.heap.size, 8, none⟩ (.string sil2)).setCell ⟨wm.heap.size, 9, none⟩ (.slice B27 m27 d27)).setCell ⟨wm.heap.size, 10, none⟩ (.slice B28 m28 d28) = W8 at *
                have v0 : W8.cell? ⟨w6.heap.size, 0, none⟩ = some (.int .i64 0) := Q8.cell 0
                have y0 := Q8.frozen 0
                have v1 : W8.cell? ⟨w6.heap.size, 1, none⟩ = some (.int .i64 0) := Q8.cell 1
                have y1 := Q8.frozen 1
                refine wpAnyH_ready (rs := [17]) (by kernel_rfl) (by simp) ?_
                refine AllReadyH.cons (o := _) rfl (fun K hK => ?_) AllReadyH.nil
                go_simp
                refine hK.out _ _ trivial (fun hHeld => ?_)
                clear hK K
                try simp only [Act.put, List.setIfInBounds_toArray, List.set_cons_zero, List.set_cons_succ, List.getElem_toArray, List.getElem_cons_succ, List.getElem_cons_zero]
                have K9 := Kept.put2 W8 w6.heap.size (.int .i64 L2) (.int .i64 C2)
                have X9 := P8.kept K9 (by omega)
                have F9 : Below wm.heap.size wm _ := F8.trans (K9.to_below (by have := F8.size; omega) (fun q hq e => by omega))
                have K69 : Kept (fun z => z = wm.heap.size ∨ z = w6.heap.size) w6 _ := ((K6.mono (T := fun z => z = wm.heap.size ∨ z = w6.heap.size) (fun _ _ h => h.elim)).then_ K8 (fun _ _ e => .inl e)).then_ K9 (fun _ _ e => .inr e)
                clear v0 y0 v1 y1
                generalize (W8.setCell ⟨w6.heap.size, 0, none⟩ (.int .i64 L2)).setCell ⟨w6.heap.size, 1, none⟩ (.int .i64 C2) = W9 at *
                refine wpAnyH_take (i := 18) (oi := _) (v := ?_) rfl (by kernel_rfl) (by kernel_rfl) (by kernel_rfl) (fun _ _ _ h => h) (Or.inl ⟨by rfl, ?_⟩) (by assumption) ?_
                rotate_left
                · intro w hSw
                  (try dsimp only at hSw)
                  go_simp
                  (try with_reducible rfl)
                try simp only [Act.put, List.setIfInBounds_toArray, List.set_cons_zero, List.set_cons_succ, List.getElem_toArray, List.getElem_cons_succ, List.getElem_cons_zero]
                refine wpAnyH_done (by kernel_rfl) ?_ _
                go_goals
                go_wp2_with fail
                go_meet
                case rel => exact loose_mk hp2 X9 K69 (fun z hz hb e => by rcases e with e | e <;> omega) F9
              · skip
                go_simp
                refine hK.out _ _ trivial (fun hHeld => ?_)
                clear hK K
                try simp only [Act.put, List.setIfInBounds_toArray, List.set_cons_zero, List.set_cons_succ, List.getElem_toArray, List.getElem_cons_succ, List.getElem_cons_zero]
                refine wpAnyH_ready (rs := [9]) (by kernel_rfl) (by simp) ?_
                refine AllReadyH.cons (o := _) rfl (fun K hK => ?_) AllReadyH.nil
                go_simp
                go_at_call 14
                (with_reducible refine FC3.out.mono ?_)
                rintro e w6 ⟨nm2, seats2, sil2, B21, m21, d21, B22, m22, d22, B23, m23, d23, B24, m24, d24, B25, m25, d25, B26, m26, d26, B27, m27, d27, B28, m28, d28, L2, C2, E2, rfl, b6, hp2⟩
                have bb := FF3.out.trans (b6.mono FF3.out.size)
                have zz := bb.size
                have zb := b6.size
                have nP := (N3P.out.drew).below b6 (N3P.out.drew).lt
                have nQ := (N3Q.out.drew).below b6 (N3Q.out.drew).lt
                refine hK.out _ _ trivial (fun hHeld => ?_)
                clear hK K
                try simp only [Act.put, List.setIfInBounds_toArray, List.set_cons_zero, List.set_cons_succ, List.getElem_toArray, List.getElem_cons_succ, List.getElem_cons_zero]
                have zp : (((wm.alloc (.cells #[.string ⟨#[]⟩, .int .i64 0, .slice none 0 0, .slice none 0 0, .slice none 0 0, .slice none 0 0, .slice none 0 0, .slice none 0 0, .string ⟨#[]⟩, .slice none 0 0, .slice none 0 0] 48)).alloc (.cells #[.int .i64 0, .int .i64 0] 50)).drew).heap.size = wm.heap.size + 2 := by first | rfl | (change (((wm.alloc (.cells #[.string ⟨#[]⟩, .int .i64 0, .slice none 0 0, .slice none 0 0, .slice none 0 0, .slice none 0 0, .slice none 0 0, .slice none 0 0, .string ⟨#[]⟩, .slice none 0 0, .slice none 0 0] 48)).alloc (.cells #[.int .i64 0, .int .i64 0] 50))).heap.size = _; simp) | simp
                refine wpAnyH_take (i := 10) (oi := _) (v := ?_) rfl (by kernel_rfl) (by kernel_rfl) (by kernel_rfl) (fun _ _ _ h => h) (Or.inl ⟨by rfl, ?_⟩) (by assumption) ?_
                rotate_left
                · intro w hSw
                  (try dsimp only at hSw)
                  go_simp
                  (try with_reducible rfl)
                try simp only [Act.put, List.setIfInBounds_toArray, List.set_cons_zero, List.set_cons_succ, List.getElem_toArray, List.getElem_cons_succ, List.getElem_cons_zero]
                refine wpAnyH_take (i := 11) (oi := _) (v := ?_) rfl (by kernel_rfl) (by kernel_rfl) (by kernel_rfl) (fun _ _ _ h => h) (Or.inl ⟨by rfl, ?_⟩) (by assumption) ?_
                rotate_left
                · intro w hSw
                  (try dsimp only at hSw)
                  go_simp
                  (try with_reducible rfl)
                try simp only [Act.put, List.setIfInBounds_toArray, List.set_cons_zero, List.set_cons_succ, List.getElem_toArray, List.getElem_cons_succ, List.getElem_cons_zero]
                refine wpAnyH_take (i := 12) (oi := _) (v := ?_) rfl (by kernel_rfl) (by kernel_rfl) (by kernel_rfl) (fun _ _ _ h => h) (Or.inl ⟨by rfl, ?_⟩) (by assumption) ?_
                rotate_left
                · intro w hSw
                  (try dsimp only at hSw)
                  go_simp
                  (try with_reducible rfl)
                try simp only [Act.put, List.setIfInBounds_toArray, List.set_cons_zero, List.set_cons_succ, List.getElem_toArray, List.getElem_cons_succ, List.getElem_cons_zero]
                refine wpAnyH_take (i := 13) (oi := _) (v := ?_) rfl (by kernel_rfl) (by kernel_rfl) (by kernel_rfl) (fun _ _ _ h => h) (Or.inl ⟨by rfl, ?_⟩) (by assumption) ?_
                rotate_left
                · intro w hSw
                  (try dsimp only at hSw)
                  go_simp
                  (try with_reducible rfl)
                try simp only [Act.put, List.setIfInBounds_toArray, List.set_cons_zero, List.set_cons_succ, List.getElem_toArray, List.getElem_cons_succ, List.getElem_cons_zero]
                have hP : Blk w6 wm.heap.size 48 #[.string ⟨#[]⟩, .int .i64 0, .slice none 0 0, .slice none 0 0, .slice none 0 0, .slice none 0 0, .slice none 0 0, .slice none 0 0, .string ⟨#[]⟩, .slice none 0 0, .slice none 0 0] := nP
                have hQ : Blk w6 (wm.heap.size + 1) 50 #[.int .i64 0, .int .i64 0] := nQ
                have K6 : Kept (fun _ => False) w6 w6 := Kept.refl _ w6
                have FP : Below wm.heap.size wm w6 := bb
                have v0 : w6.cell? ⟨wm.heap.size, 0, none⟩ = some (.string ⟨#[]⟩) := hP.cell 0
                have y0 := hP.frozen 0
                have v1 : w6.cell? ⟨wm.heap.size, 1, none⟩ = some (.int .i64 0) := hP.cell 1
                have y1 := hP.frozen 1
                have v2 : w6.cell? ⟨wm.heap.size, 2, none⟩ = some (.slice none 0 0) := hP.cell 2
                have y2 := hP.frozen 2
                have v3 : w6.cell? ⟨wm.heap.size, 3, none⟩ = some (.slice none 0 0) := hP.cell 3
                have y3 := hP.frozen 3
                have v4 : w6.cell? ⟨wm.heap.size, 4, none⟩ = some (.slice none 0 0) := hP.cell 4
                have y4 := hP.frozen 4
                have v5 : w6.cell? ⟨wm.heap.size, 5, none⟩ = some (.slice none 0 0) := hP.cell 5
                have y5 := hP.frozen 5
                have v6 : w6.cell? ⟨wm.heap.size, 6, none⟩ = some (.slice none 0 0) := hP.cell 6
                have y6 := hP.frozen 6
                have v7 : w6.cell? ⟨wm.heap.size, 7, none⟩ = some (.slice none 0 0) := hP.cell 7
                have y7 := hP.frozen 7
                have v8 : w6.cell? ⟨wm.heap.size, 8, none⟩ = some (.string ⟨#[]⟩) := hP.cell 8
                have y8 := hP.frozen 8
                have v9 : w6.cell? ⟨wm.heap.size, 9, none⟩ = some (.slice none 0 0) := hP.cell 9
                have y9 := hP.frozen 9
                have v10 : w6.cell? ⟨wm.heap.size, 10, none⟩ = some (.slice none 0 0) := hP.cell 10
                have y10 := hP.frozen 10
                refine wpAnyH_ready (rs := [16]) (by kernel_rfl) (by simp) ?_
                refine AllReadyH.cons (o := _) rfl (fun K hK => ?_) AllReadyH.nil
                go_simp
                refine hK.out _ _ trivial (fun hHeld => ?_)
                clear hK K
                try simp only [Act.put, List.setIfInBounds_toArray, List.set_cons_zero, List.set_cons_succ, List.getElem_toArray, List.getElem_cons_succ, List.getElem_cons_zero]
                have K8 := Kept.put11 w6 wm.heap.size (.string nm2) (.int .i64 seats2) (.slice B21 m21 d21) (.slice B22 m22 d22) (.slice B23 m23 d23) (.slice B24 m24 d24) (.slice B25 m25 d25) (.slice B26 m26 d26) (.string sil2) (.slice B27 m27 d27) (.slice B28 m28 d28)
                have P8 := hP.put11 (.string nm2) (.int .i64 seats2) (.slice B21 m21 d21) (.slice B22 m22 d22) (.slice B23 m23 d23) (.slice B24 m24 d24) (.slice B25 m25 d25) (.slice B26 m26 d26) (.string sil2) (.slice B27 m27 d27) (.slice B28 m28 d28)
                have Q8 := hQ.kept K8 (by omega)
                have F8 : Below wm.heap.size wm _ := FP.trans (K8.to_below (by have := FP.size; omega) (fun q hq e => by omega))
                clear v0 y0 v1 y1 v2 y2 v3 y3 v4 y4 v5 y5 v6 y6 v7 y7 v8 y8 v9 y9 v10 y10
                generalize ((((((((((w6.setCell ⟨wm.heap.size, 0, none⟩ (.string nm2)).setCell ⟨wm.heap.size, 1, none⟩ (.int .i64 seats2)).setCell ⟨wm.heap.size, 2, none⟩ (.slice B21 m21 d21)).setCell ⟨wm.heap.size, 3, none⟩ (.slice B22 m22 d22)).setCell ⟨wm.heap.size, 4, none⟩ (.slice B23 m23 d23)).setCell ⟨wm.heap.size, 5, none⟩ (.slice B24 m24 d24)).setCell ⟨wm.heap.size, 6, none⟩ (.slice B25 m25 d25)).setCell ⟨wm.heap.size, 7, none⟩ (.slice B26 m26 d26)).setCell ⟨wm.heap.size, 8, none⟩ (.string sil2)).setCell ⟨wm.heap.size, 9, none⟩ (.slice B27 m27 d27)).setCell ⟨wm.heap.size, 10, none⟩ (.slice B28 m28 d28) = W8 at *
                have v0 : W8.cell? ⟨(wm.heap.size + 1), 0, none⟩ = some (.int .i64 0) := Q8.cell 0
                have y0 := Q8.frozen 0
                have v1 : W8.cell? ⟨(wm.heap.size + 1), 1, none⟩ = some (.int .i64 0) := Q8.cell 1
                have y1 := Q8.frozen 1
                refine wpAnyH_ready (rs := [17]) (by kernel_rfl) (by simp) ?_
                refine AllReadyH.cons (o := _) rfl (fun K hK => ?_) AllReadyH.nil
                go_simp
                refine hK.out _ _ trivial (fun hHeld => ?_)
                clear hK K
                try simp only [Act.put, List.setIfInBounds_toArray, List.set_cons_zero, List.set_cons_succ, List.getElem_toArray, List.getElem_cons_succ, List.getElem_cons_zero]
                have K9 := Kept.put2 W8 (wm.heap.size + 1) (.int .i64 L2) (.int .i64 C2)
                have X9 := P8.kept K9 (by omega)
                have F9 : Below wm.heap.size wm _ := F8.trans (K9.to_below (by have := F8.size; omega) (fun q hq e => by omega))
                have K69 : Kept (fun z => z = wm.heap.size ∨ z = (wm.heap.size + 1)) w6 _ := ((K6.mono (T := fun z => z = wm.heap.size ∨ z = (wm.heap.size + 1)) (fun _ _ h => h.elim)).then_ K8 (fun _ _ e => .inl e)).then_ K9 (fun _ _ e => .inr e)
                clear v0 y0 v1 y1
                generalize (W8.setCell ⟨(wm.heap.size + 1), 0, none⟩ (.int .i64 L2)).setCell ⟨(wm.heap.size + 1), 1, none⟩ (.int .i64 C2) = W9 at *
                refine wpAnyH_take (i := 18) (oi := _) (v := ?_) rfl (by kernel_rfl) (by kernel_rfl) (by kernel_rfl) (fun _ _ _ h => h) (Or.inl ⟨by rfl, ?_⟩) (by assumption) ?_
                rotate_left
                · intro w hSw
                  (try dsimp only at hSw)
                  go_simp
                  (try with_reducible rfl)
                try simp only [Act.put, List.setIfInBounds_toArray, List.set_cons_zero, List.set_cons_succ, List.getElem_toArray, List.getElem_cons_succ, List.getElem_cons_zero]
                refine wpAnyH_done (by kernel_rfl) ?_ _
                go_goals
                go_wp2_with fail
                go_meet
                case rel => exact loose_mk hp2 X9 K69 (fun z hz hb e => by rcases e with e | e <;> omega) F9
            · skip
              go_simp
              refine hK.out _ _ trivial (fun hHeld => ?_)
              clear hK K
              try simp only [Act.put, List.setIfInBounds_toArray, List.set_cons_zero, List.set_cons_succ, List.getElem_toArray, List.getElem_cons_succ, List.getElem_cons_zero]
              refine wpAnyH_ready (rs := [9, 14]) (by kernel_rfl) (by simp) ?_
              refine AllReadyH.cons (o := _) rfl (fun K hK => ?_) (AllReadyH.cons (o := _) rfl (fun K hK => ?_) AllReadyH.nil)
              · skip
                go_simp
                go_at_call 14
                (with_reducible refine FC2.out.mono ?_)
                rintro e w6 ⟨nm2, seats2, sil2, B21, m21, d21, B22, m22, d22, B23, m23, d23, B24, m24, d24, B25, m25, d25, B26, m26, d26, B27, m27, d27, B28, m28, d28, L2, C2, E2, rfl, b6, hp2⟩
                have bb := FF2.out.trans (b6.mono FF2.out.size)
                have zz := bb.size
                have zb := b6.size
                have nQ := (N2Q.out.drew).below b6 (N2Q.out.drew).lt
                refine hK.out _ _ trivial (fun hHeld => ?_)
                clear hK K
                try simp only [Act.put, List.setIfInBounds_toArray, List.set_cons_zero, List.set_cons_succ, List.getElem_toArray, List.getElem_cons_succ, List.getElem_cons_zero]
                have zp : ((wm.alloc (.cells #[.int .i64 0, .int .i64 0] 50)).drew).heap.size = wm.heap.size + 1 := by first | rfl | (change ((wm.alloc (.cells #[.int .i64 0, .int .i64 0] 50))).heap.size = _; simp) | simp
                refine wpAnyH_take (i := 10) (oi := _) (v := ?_) rfl (by kernel_rfl) (by kernel_rfl) (by kernel_rfl) (fun _ _ _ h => h) (Or.inl ⟨by rfl, ?_⟩) (by assumption) ?_
                rotate_left
                · intro w hSw
                  (try dsimp only at hSw)
                  go_simp
                  (try with_reducible rfl)
                try simp only [Act.put, List.setIfInBounds_toArray, List.set_cons_zero, List.set_cons_succ, List.getElem_toArray, List.getElem_cons_succ, List.getElem_cons_zero]
                refine wpAnyH_take (i := 11) (oi := _) (v := ?_) rfl (by kernel_rfl) (by kernel_rfl) (by kernel_rfl) (fun _ _ _ h => h) (Or.inl ⟨by rfl, ?_⟩) (by assumption) ?_
                rotate_left
                · intro w hSw
                  (try dsimp only at hSw)
                  go_simp
                  (try with_reducible rfl)
                try simp only [Act.put, List.setIfInBounds_toArray, List.set_cons_zero, List.set_cons_succ, List.getElem_toArray, List.getElem_cons_succ, List.getElem_cons_zero]
                refine wpAnyH_take (i := 12) (oi := _) (v := ?_) rfl (by kernel_rfl) (by kernel_rfl) (by kernel_rfl) (fun _ _ _ h => h) (Or.inl ⟨by rfl, ?_⟩) (by assumption) ?_
                rotate_left
                · intro w hSw
                  (try dsimp only at hSw)
                  go_simp
                  (try with_reducible rfl)
                try simp only [Act.put, List.setIfInBounds_toArray, List.set_cons_zero, List.set_cons_succ, List.getElem_toArray, List.getElem_cons_succ, List.getElem_cons_zero]
                refine wpAnyH_take (i := 13) (oi := _) (v := ?_) rfl (by kernel_rfl) (by kernel_rfl) (by kernel_rfl) (fun _ _ _ h => h) (Or.inl ⟨by rfl, ?_⟩) (by assumption) ?_
                rotate_left
                · intro w hSw
                  (try dsimp only at hSw)
                  go_simp
                  (try with_reducible rfl)
                try simp only [Act.put, List.setIfInBounds_toArray, List.set_cons_zero, List.set_cons_succ, List.getElem_toArray, List.getElem_cons_succ, List.getElem_cons_zero]
                refine wpAnyH_ready (rs := [14]) (by kernel_rfl) (by simp) ?_
                refine AllReadyH.cons (o := _) rfl (fun K hK => ?_) AllReadyH.nil
                go_simp
                refine hK.out _ _ trivial (fun hHeld => ?_)
                clear hK K
                try simp only [Act.put, List.setIfInBounds_toArray, List.set_cons_zero, List.set_cons_succ, List.getElem_toArray, List.getElem_cons_succ, List.getElem_cons_zero]
                have hP : Blk (w6.alloc (.cells #[.string ⟨#[]⟩, .int .i64 0, .slice none 0 0, .slice none 0 0, .slice none 0 0, .slice none 0 0, .slice none 0 0, .slice none 0 0, .string ⟨#[]⟩, .slice none 0 0, .slice none 0 0] 48)) w6.heap.size 48 #[.string ⟨#[]⟩, .int .i64 0, .slice none 0 0, .slice none 0 0, .slice none 0 0, .slice none 0 0, .slice none 0 0, .slice none 0 0, .string ⟨#[]⟩, .slice none 0 0, .slice none 0 0] := (Blk.new w6 48 #[.string ⟨#[]⟩, .int .i64 0, .slice none 0 0, .slice none 0 0, .slice none 0 0, .slice none 0 0, .slice none 0 0, .slice none 0 0, .string ⟨#[]⟩, .slice none 0 0, .slice none 0 0])
                have hQ : Blk (w6.alloc (.cells #[.string ⟨#[]⟩, .int .i64 0, .slice none 0 0, .slice none 0 0, .slice none 0 0, .slice none 0 0, .slice none 0 0, .slice none 0 0, .string ⟨#[]⟩, .slice none 0 0, .slice none 0 0] 48)) wm.heap.size 50 #[.int .i64 0, .int .i64 0] := (nQ.alloc _)
                have K6 : Kept (fun _ => False) w6 (w6.alloc (.cells #[.string ⟨#[]⟩, .int .i64 0, .slice none 0 0, .slice none 0 0, .slice none 0 0, .slice none 0 0, .slice none 0 0, .slice none 0 0, .string ⟨#[]⟩, .slice none 0 0, .slice none 0 0] 48)) := (Kept.refl _ w6).alloc _
                have FP : Below wm.heap.size wm (w6.alloc (.cells #[.string ⟨#[]⟩, .int .i64 0, .slice none 0 0, .slice none 0 0, .slice none 0 0, .slice none 0 0, .slice none 0 0, .slice none 0 0, .string ⟨#[]⟩, .slice none 0 0, .slice none 0 0] 48)) := (bb.alloc zz (.cells #[.string ⟨#[]⟩, .int .i64 0, .slice none 0 0, .slice none 0 0, .slice none 0 0, .slice none 0 0, .slice none 0 0, .slice none 0 0, .string ⟨#[]⟩, .slice none 0 0, .slice none 0 0] 48))
                generalize (w6.alloc (.cells #[.string ⟨#[]⟩, .int .i64 0, .slice none 0 0, .slice none 0 0, .slice none 0 0, .slice none 0 0, .slice none 0 0, .slice none 0 0, .string ⟨#[]⟩, .slice none 0 0, .slice none 0 0] 48)) = Wp at *
                have v0 : Wp.cell? ⟨w6.heap.size, 0, none⟩ = some (.string ⟨#[]⟩) := hP.cell 0
                have y0 := hP.frozen 0
                have v1 : Wp.cell? ⟨w6.heap.size, 1, none⟩ = some (.int .i64 0) := hP.cell 1
                have y1 := hP.frozen 1
                have v2 : Wp.cell? ⟨w6.heap.size, 2, none⟩ = some (.slice none 0 0) := hP.cell 2
                have y2 := hP.frozen 2
                have v3 : Wp.cell? ⟨w6.heap.size, 3, none⟩ = some (.slice none 0 0) := hP.cell 3
                have y3 := hP.frozen 3
                have v4 : Wp.cell? ⟨w6.heap.size, 4, none⟩ = some (.slice none 0 0) := hP.cell 4
                have y4 := hP.frozen 4
                have v5 : Wp.cell? ⟨w6.heap.size, 5, none⟩ = some (.slice none 0 0) := hP.cell 5
                have y5 := hP.frozen 5
                have v6 : Wp.cell? ⟨w6.heap.size, 6, none⟩ = some (.slice none 0 0) := hP.cell 6
                have y6 := hP.frozen 6
                have v7 : Wp.cell? ⟨w6.heap.size, 7, none⟩ = some (.slice none 0 0) := hP.cell 7
                have y7 := hP.frozen 7
                have v8 : Wp.cell? ⟨w6.heap.size, 8, none⟩ = some (.string ⟨#[]⟩) := hP.cell 8
                have y8 := hP.frozen 8
                have v9 : Wp.cell? ⟨w6.heap.size, 9, none⟩ = some (.slice none 0 0) := hP.cell 9
                have y9 := hP.frozen 9
                have v10 : Wp.cell? ⟨w6.heap.size, 10, none⟩ = some (.slice none 0 0) := hP.cell 10
                have y10 := hP.frozen 10
                refine wpAnyH_ready (rs := [16]) (by kernel_rfl) (by simp) ?_
                refine AllReadyH.cons (o := _) rfl (fun K hK => ?_) AllReadyH.nil
                go_simp
                refine hK.out _ _ trivial (fun hHeld => ?_)
                clear hK K
                try simp only [Act.put, List.setIfInBounds_toArray, List.set_cons_zero, List.set_cons_succ, List.getElem_toArray, List.getElem_cons_succ, List.getElem_cons_zero]
                have K8 := Kept.put11 Wp w6.heap.size (.string nm2) (.int .i64 seats2) (.slice B21 m21 d21) (.slice B22 m22 d22) (.slice B23 m23 d23) (.slice B24 m24 d24) (.slice B25 m25 d25) (.slice B26 m26 d26) (.string sil2) (.slice B27 m27 d27) (.slice B28 m28 d28)
                have P8 := hP.put11 (.string nm2) (.int .i64 seats2) (.slice B21 m21 d21) (.slice B22 m22 d22) (.slice B23 m23 d23) (.slice B24 m24 d24) (.slice B25 m25 d25) (.slice B26 m26 d26) (.string sil2) (.slice B27 m27 d27) (.slice B28 m28 d28)
                have Q8 := hQ.kept K8 (by omega)
                have F8 : Below wm.heap.size wm _ := FP.trans (K8.to_below (by have := FP.size; omega) (fun q hq e => by omega))
                clear v0 y0 v1 y1 v2 y2 v3 y3 v4 y4 v5 y5 v6 y6 v7 y7 v8 y8 v9 y9 v10 y10
                generalize ((((((((((Wp.setCell ⟨w6.heap.size, 0, none⟩ (.string nm2)).setCell ⟨w6.heap.size, 1, none⟩ (.int .i64 seats2)).setCell ⟨w6.heap.size, 2, none⟩ (.slice B21 m21 d21)).setCell ⟨w6.heap.size, 3, none⟩ (.slice B22 m22 d22)).setCell ⟨w6.heap.size, 4, none⟩ (.slice B23 m23 d23)).setCell ⟨w6.heap.size, 5, none⟩ (.slice B24 m24 d24)).setCell ⟨w6.heap.size, 6, none⟩ (.slice B25 m25 d25)).setCell ⟨w6.heap.size, 7, none⟩ (.slice B26 m26 d26)).setCell ⟨w6.heap.size, 8, none⟩ (.string sil2)).setCell ⟨w6.heap.size, 9, none⟩ (.slice B27 m27 d27)).setCell ⟨w6.heap.size, 10, none⟩ (.slice B28 m28 d28) = W8 at *
                have v0 : W8.cell? ⟨wm.heap.size, 0, none⟩ = some (.int .i64 0) := Q8.cell 0
                have y0 := Q8.frozen 0
                have v1 : W8.cell? ⟨wm.heap.size, 1, none⟩ = some (.int .i64 0) := Q8.cell 1
                have y1 := Q8.frozen 1
                refine wpAnyH_ready (rs := [17]) (by kernel_rfl) (by simp) ?_
                refine AllReadyH.cons (o := _) rfl (fun K hK => ?_) AllReadyH.nil
                go_simp
                refine hK.out _ _ trivial (fun hHeld => ?_)
                clear hK K
                try simp only [Act.put, List.setIfInBounds_toArray, List.set_cons_zero, List.set_cons_succ, List.getElem_toArray, List.getElem_cons_succ, List.getElem_cons_zero]
                have K9 := Kept.put2 W8 wm.heap.size (.int .i64 L2) (.int .i64 C2)
                have X9 := P8.kept K9 (by omega)
                have F9 : Below wm.heap.size wm _ := F8.trans (K9.to_below (by have := F8.size; omega) (fun q hq e => by omega))
                have K69 : Kept (fun z => z = w6.heap.size ∨ z = wm.heap.size) w6 _ := ((K6.mono (T := fun z => z = w6.heap.size ∨ z = wm.heap.size) (fun _ _ h => h.elim)).then_ K8 (fun _ _ e => .inl e)).then_ K9 (fun _ _ e => .inr e)
                clear v0 y0 v1 y1
                generalize (W8.setCell ⟨wm.heap.size, 0, none⟩ (.int .i64 L2)).setCell ⟨wm.heap.size, 1, none⟩ (.int .i64 C2) = W9 at *
                refine wpAnyH_take (i := 18) (oi := _) (v := ?_) rfl (by kernel_rfl) (by kernel_rfl) (by kernel_rfl) (fun _ _ _ h => h) (Or.inl ⟨by rfl, ?_⟩) (by assumption) ?_
                rotate_left
                · intro w hSw
                  (try dsimp only at hSw)
                  go_simp
                  (try with_reducible rfl)
                try simp only [Act.put, List.setIfInBounds_toArray, List.set_cons_zero, List.set_cons_succ, List.getElem_toArray, List.getElem_cons_succ, List.getElem_cons_zero]
                refine wpAnyH_done (by kernel_rfl) ?_ _
                go_goals
                go_wp2_with fail
                go_meet
                case rel => exact loose_mk hp2 X9 K69 (fun z hz hb e => by rcases e with e | e <;> omega) F9
              · skip
                go_simp
                refine hK.out _ _ trivial (fun hHeld => ?_)
                clear hK K
                try simp only [Act.put, List.setIfInBounds_toArray, List.set_cons_zero, List.set_cons_succ, List.getElem_toArray, List.getElem_cons_succ, List.getElem_cons_zero]
                refine wpAnyH_ready (rs := [9]) (by kernel_rfl) (by simp) ?_
                refine AllReadyH.cons (o := _) rfl (fun K hK => ?_) AllReadyH.nil
                go_simp
                go_at_call 14
                (with_reducible refine FC4.out.mono ?_)
                rintro e w6 ⟨nm2, seats2, sil2, B21, m21, d21, B22, m22, d22, B23, m23, d23, B24, m24, d24, B25, m25, d25, B26, m26, d26, B27, m27, d27, B28, m28, d28, L2, C2, E2, rfl, b6, hp2⟩
                have bb := FF4.out.trans (b6.mono FF4.out.size)
                have zz := bb.size
                have zb := b6.size
                have nQ := (N4Q.out.drew).below b6 (N4Q.out.drew).lt
                have nP := (N4P.out.drew).below b6 (N4P.out.drew).lt
                refine hK.out _ _ trivial (fun hHeld => ?_)
                clear hK K
                try simp only [Act.put, List.setIfInBounds_toArray, List.set_cons_zero, List.set_cons_succ, List.getElem_toArray, List.getElem_cons_succ, List.getElem_cons_zero]
                have zp : (((wm.alloc (.cells #[.int .i64 0, .int .i64 0] 50)).alloc (.cells #[.string ⟨#[]⟩, .int .i64 0, .slice none 0 0, .slice none 0 0, .slice none 0 0, .slice none 0 0, .slice none 0 0, .slice none 0 0, .string ⟨#[]⟩, .slice none 0 0, .slice none 0 0] 48)).drew).heap.size = wm.heap.size + 2 := by first | rfl | (change (((wm.alloc (.cells #[.int .i64 0, .int .i64 0] 50)).alloc (.cells #[.string ⟨#[]⟩, .int .i64 0, .slice none 0 0, .slice none 0 0, .slice none 0 0, .slice none 0 0, .slice none 0 0, .slice none 0 0, .string ⟨#[]⟩, .slice none 0 0, .slice none 0 0] 48))).heap.size = _; simp) | simp
                refine wpAnyH_take (i := 10) (oi := _) (v := ?_) rfl (by kernel_rfl) (by kernel_rfl) (by kernel_rfl) (fun _ _ _ h => h) (Or.inl ⟨by rfl, ?_⟩) (by assumption) ?_
                rotate_left
                · intro w hSw
                  (try dsimp only at hSw)
                  go_simp
                  (try with_reducible rfl)
                try simp only [Act.put, List.setIfInBounds_toArray, List.set_cons_zero, List.set_cons_succ, List.getElem_toArray, List.getElem_cons_succ, List.getElem_cons_zero]
                refine wpAnyH_take (i := 11) (oi := _) (v := ?_) rfl (by kernel_rfl) (by kernel_rfl) (by kernel_rfl) (fun _ _ _ h => h) (Or.inl ⟨by rfl, ?_⟩) (by assumption) ?_
                rotate_left
                · intro w hSw
                  (try dsimp only at hSw)
                  go_simp
                  (try with_reducible rfl)
                try simp only [Act.put, List.setIfInBounds_toArray, List.set_cons_zero, List.set_cons_succ, List.getElem_toArray, List.getElem_cons_succ, List.getElem_cons_zero]
                refine wpAnyH_take (i := 12) (oi := _) (v := ?_) rfl (by kernel_rfl) (by kernel_rfl) (by kernel_rfl) (fun _ _ _ h => h) (Or.inl ⟨by rfl, ?_⟩) (by assumption) ?_
                rotate_left
                · intro w hSw
                  (try dsimp only at hSw)
                  go_simp
                  (try with_reducible rfl)
                try simp only [Act.put, List.setIfInBounds_toArray, List.set_cons_zero, List.set_cons_succ, List.getElem_toArray, List.getElem_cons_succ, List.getElem_cons_zero]
                refine wpAnyH_take (i := 13) (oi := _) (v := ?_) rfl (by kernel_rfl) (by kernel_rfl) (by kernel_rfl) (fun _ _ _ h => h) (Or.inl ⟨by rfl, ?_⟩) (by assumption) ?_
                rotate_left
                · intro w hSw
                  (try dsimp only at hSw)
                  go_simp
                  (try with_reducible rfl)
                try simp only [Act.put, List.setIfInBounds_toArray, List.set_cons_zero, List.set_cons_succ, List.getElem_toArray, List.getElem_cons_succ, List.getElem_cons_zero]
                have hP : Blk w6 (wm.heap.size + 1) 48 #[.string ⟨#[]⟩, .int .i64 0, .slice none 0 0, .slice none 0 0, .slice none 0 0, .slice none 0 0, .slice none 0 0, .slice none 0 0, .string ⟨#[]⟩, .slice none 0 0, .slice none 0 0] := nP
                have hQ : Blk w6 wm.heap.size 50 #[.int .i64 0, .int .i64 0] := nQ
                have K6 : Kept (fun _ => False) w6 w6 := Kept.refl _ w6
                have FP : Below wm.heap.size wm w6 := bb
                have v0 : w6.cell? ⟨(wm.heap.size + 1), 0, none⟩ = some (.string ⟨#[]⟩) := hP.cell 0
                have y0 := hP.frozen 0
                have v1 : w6.cell? ⟨(wm.heap.size + 1), 1, none⟩ = some (.int .i64 0) := hP.cell 1
                have y1 := hP.frozen 1
                have v2 : w6.cell? ⟨(wm.heap.size + 1), 2, none⟩ = some (.slice none 0 0) := hP.cell 2
                have y2 := hP.frozen 2
                have v3 : w6.cell? ⟨(wm.heap.size + 1), 3, none⟩ = some (.slice none 0 0) := hP.cell 3
                have y3 := hP.frozen 3
                have v4 : w6.cell? ⟨(wm.heap.size + 1), 4, none⟩ = some (.slice none 0 0) := hP.cell 4
                have y4 := hP.frozen 4
                have v5 : w6.cell? ⟨(wm.heap.size + 1), 5, none⟩ = some (.slice none 0 0) := hP.cell 5
                have y5 := hP.frozen 5
                have v6 : w6.cell? ⟨(wm.heap.size + 1), 6, none⟩ = some (.slice none 0 0) := hP.cell 6
                have y6 := hP.frozen 6
                have v7 : w6.cell? ⟨(wm.heap.size + 1), 7, none⟩ = some (.slice none 0 0) := hP.cell 7
                have y7 := hP.frozen 7
                have v8 : w6.cell? ⟨(wm.heap.size + 1), 8, none⟩ = some (.string ⟨#[]⟩) := hP.cell 8
                have y8 := hP.frozen 8
                have v9 : w6.cell? ⟨(wm.heap.size + 1), 9, none⟩ = some (.slice none 0 0) := hP.cell 9
                have y9 := hP.frozen 9
                have v10 : w6.cell? ⟨(wm.heap.size + 1), 10, none⟩ = some (.slice none 0 0) := hP.cell 10
                have y10 := hP.frozen 10
                refine wpAnyH_ready (rs := [16]) (by kernel_rfl) (by simp) ?_
                refine AllReadyH.cons (o := _) rfl (fun K hK => ?_) AllReadyH.nil
                go_simp
                refine hK.out _ _ trivial (fun hHeld => ?_)
                clear hK K
                try simp only [Act.put, List.setIfInBounds_toArray, List.set_cons_zero, List.set_cons_succ, List.getElem_toArray, List.getElem_cons_succ, List.getElem_cons_zero]
                have K8 := Kept.put11 w6 (wm.heap.size + 1) (.string nm2) (.int .i64 seats2) (.slice B21 m21 d21) (.slice B22 m22 d22) (.slice B23 m23 d23) (.slice B24 m24 d24) (.slice B25 m25 d25) (.slice B26 m26 d26) (.string sil2) (.slice B27 m27 d27) (.slice B28 m28 d28)
                have P8 := hP.put11 (.string nm2) (.int .i64 seats2) (.slice B21 m21 d21) (.slice B22 m22 d22) (.slice B23 m23 d23) (.slice B24 m24 d24) (.slice B25 m25 d25) (.slice B26 m26 d26) (.string sil2) (.slice B27 m27 d27) (.slice B28 m28 d28)
                have Q8 := hQ.kept K8 (by omega)
                have F8 : Below wm.heap.size wm _ := FP.trans (K8.to_below (by have := FP.size; omega) (fun q hq e => by omega))
                clear v0 y0 v1 y1 v2 y2 v3 y3 v4 y4 v5 y5 v6 y6 v7 y7 v8 y8 v9 y9 v10 y10
                generalize ((((((((((w6.setCell ⟨(wm.heap.size + 1), 0, none⟩ (.string nm2)).setCell ⟨(wm.heap.size + 1), 1, none⟩ (.int .i64 seats2)).setCell ⟨(wm.heap.size + 1), 2, none⟩ (.slice B21 m21 d21)).setCell ⟨(wm.heap.size + 1), 3, none⟩ (.slice B22 m22 d22)).setCell ⟨(wm.heap.size + 1), 4, none⟩ (.slice B23 m23 d23)).setCell ⟨(wm.heap.size + 1), 5, none⟩ (.slice B24 m24 d24)).setCell ⟨(wm.heap.size + 1), 6, none⟩ (.slice B25 m25 d25)).setCell ⟨(wm.heap.size + 1), 7, none⟩ (.slice B26 m26 d26)).setCell ⟨(wm.heap.size + 1), 8, none⟩ (.string sil2)).setCell ⟨(wm.heap.size + 1), 9, none⟩ (.slice B27 m27 d27)).setCell ⟨(wm.heap.size + 1), 10, none⟩ (.slice B28 m28 d28) = W8 at *
                have v0 : W8.cell? ⟨wm.heap.size, 0, none⟩ = some (.int .i64 0) := Q8.cell 0
                have y0 := Q8.frozen 0
                have v1 : W8.cell? ⟨wm.heap.size, 1, none⟩ = some (.int .i64 0) := Q8.cell 1
                have y1 := Q8.frozen 1
                refine wpAnyH_ready (rs := [17]) (by kernel_rfl) (by simp) ?_
                refine AllReadyH.cons (o := _) rfl (fun K hK => ?_) AllReadyH.nil
                go_simp
                refine hK.out _ _ trivial (fun hHeld => ?_)
                clear hK K
                try simp only [Act.put, List.setIfInBounds_toArray, List.set_cons_zero, List.set_cons_succ, List.getElem_toArray, List.getElem_cons_succ, List.getElem_cons_zero]
                have K9 := Kept.put2 W8 wm.heap.size (.int .i64 L2) (.int .i64 C2)
                have X9 := P8.kept K9 (by omega)
                have F9 : Below wm.heap.size wm _ := F8.trans (K9.to_below (by have := F8.size; omega) (fun q hq e => by omega))
                have K69 : Kept (fun z => z = (wm.heap.size + 1) ∨ z = wm.heap.size) w6 _ := ((K6.mono (T := fun z => z = (wm.heap.size + 1) ∨ z = wm.heap.size) (fun _ _ h => h.elim)).then_ K8 (fun _ _ e => .inl e)).then_ K9 (fun _ _ e => .inr e)
                clear v0 y0 v1 y1
                generalize (W8.setCell ⟨wm.heap.size, 0, none⟩ (.int .i64 L2)).setCell ⟨wm.heap.size, 1, none⟩ (.int .i64 C2) = W9 at *
                refine wpAnyH_take (i := 18) (oi := _) (v := ?_) rfl (by kernel_rfl) (by kernel_rfl) (by kernel_rfl) (fun _ _ _ h => h) (Or.inl ⟨by rfl, ?_⟩) (by assumption) ?_
                rotate_left
                · intro w hSw
                  (try dsimp only at hSw)
                  go_simp
                  (try with_reducible rfl)
                try simp only [Act.put, List.setIfInBounds_toArray, List.set_cons_zero, List.set_cons_succ, List.getElem_toArray, List.getElem_cons_succ, List.getElem_cons_zero]
                refine wpAnyH_done (by kernel_rfl) ?_ _
                go_goals
                go_wp2_with fail
                go_meet
                case rel => exact loose_mk hp2 X9 K69 (fun z hz hb e => by rcases e with e | e <;> omega) F9
          case rest =>
            obtain ⟨g2, nm2, seats2, sil2, B21, m21, d21, B22, m22, d22, B23, m23, d23, B24, m24, d24, B25, m25, d25, B26, m26, d26, B27, m27, d27, B28, m28, d28, E2, px2, b2, rfl, rfl, yb2, hx2, hc2, br2⟩ := hcut
            obtain ⟨W2, rfl⟩ : ∃ x, x = wc := ⟨_, rfl⟩
            rw [HU.out] at hc2
            obtain ⟨y, hy, hyx⟩ := HLAW.out jm
            rw [hy] at hc2
            rcases hc2 with ⟨rfl, x2, hx2', hpx2⟩ | ⟨hE2, hno⟩
            rotate_left
            · exact absurd rfl (hno y)
            have hpp : px2 = px1 := by
              injection hx2' with hx2'
              subst hx2'
              rw [hpx2, hyx]
            subst hpp
            have YB2 := Lib.hid yb2
            have HX2 := Lib.hid hx2
            clear hpx2 hx2' yb2 hx2 hy hyx
            have Fw9 := Lib.hid (Fw8.out.trans ((br2).mono Fw8.out.size))
            have TBw9 := Lib.hid ((TBw8.out).below (br2) HBw8.out)
            have TPw9 := Lib.hid ((TPw8.out).low ((br2).mono HBw8.out))
            have HBw9 := Lib.hid (Nat.le_trans HBw8.out (br2).size)
            clear br2
            have s0 : W2.cell? ⟨g2, 0, none⟩ = some (.string nm2) := YB2.out.cell 0
            have s1 : W2.cell? ⟨g2, 1, none⟩ = some (.int .i64 seats2) := YB2.out.cell 1
            have s2 : W2.cell? ⟨g2, 2, none⟩ = some (.slice B21 m21 d21) := YB2.out.cell 2
            have s3 : W2.cell? ⟨g2, 3, none⟩ = some (.slice B22 m22 d22) := YB2.out.cell 3
            have s4 : W2.cell? ⟨g2, 4, none⟩ = some (.slice B23 m23 d23) := YB2.out.cell 4
            have s5 : W2.cell? ⟨g2, 5, none⟩ = some (.slice B24 m24 d24) := YB2.out.cell 5
            have s6 : W2.cell? ⟨g2, 6, none⟩ = some (.slice B25 m25 d25) := YB2.out.cell 6
            have s7 : W2.cell? ⟨g2, 7, none⟩ = some (.slice B26 m26 d26) := YB2.out.cell 7
            have s8 : W2.cell? ⟨g2, 8, none⟩ = some (.string sil2) := YB2.out.cell 8
            have s9 : W2.cell? ⟨g2, 9, none⟩ = some (.slice B27 m27 d27) := YB2.out.cell 9
            have s10 : W2.cell? ⟨g2, 10, none⟩ = some (.slice B28 m28 d28) := YB2.out.cell 10
            have PR2 := Lib.hid (Print_any base _ nm2 sil2 seats2 B21 m21 d21 B22 m22 d22 B23 m23 d23 B24 m24 d24 B25 m25 d25 B26 m26 d26 B27 m27 d27 B28 m28 d28 px2 W2 TBw9.out TPw9.out HBw9.out HX2.out)
            go_wp2_with fail
            refine PR2.out.mono ?_
            rintro e V2 ⟨bq2, h2⟩
            have Fq2 := Lib.hid (Fw9.out.trans ((bq2).mono Fw9.out.size))
            have TBq2 := Lib.hid ((TBw9.out).below (bq2) HBw9.out)
            have TPq2 := Lib.hid ((TPw9.out).low ((bq2).mono HBw9.out))
            have HBq2 := Lib.hid (Nat.le_trans HBw9.out (bq2).size)
            clear PR2 bq2 s0 s1 s2 s3 s4 s5 s6 s7 s8 s9 s10
            rcases h2 with ⟨u, hu, rfl⟩ | ⟨hno, rfl⟩
            rotate_left
            · exact absurd HPI.out (hno t)
            obtain rfl := hu.one HPI.out
            rw [← HTT.out]
            have TD := Lib.hid (told_any base V2 TBq2.out HBq2.out)
            go_wp2_with fail
            refine TD.out.mono ?_
            rintro e wt ⟨rfl, bt⟩
            go_wp2_with fail
            go_ret
            exact ⟨rfl, Fq2.out.trans (bt.mono Fq2.out.size)⟩
    · have TD := Lib.hid (told_any base V1 TBq1.out HBq1.out)
      go_wp2_with fail
      refine TD.out.mono ?_
      rintro e wt ⟨rfl, bt⟩
      go_wp2_with fail
      go_ret
      exact ⟨rfl, Fq1.out.trans (bt.mono Fq1.out.size)⟩
  · have TD := Lib.hid (told_any base W1 TBa1.out HBa1.out)
    go_wp2_with fail
    refine TD.out.mono ?_
    rintro e wt ⟨rfl, bt⟩
    go_wp2_with fail
    go_ret
    exact ⟨rfl, Fa1.out.trans (bt.mono Fa1.out.size)⟩
end Go.Proofs.YtdgekckedchjbaaGreatDoor
