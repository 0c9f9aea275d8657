
/-
  PrintBrackets: no parentheses can be left out: the walk. (Printed by wip/tools/genw3.py.)
-/
import Derived.Test.YtdgekckedchjbaaDoorV24
import Derived.Test.YtdgekckedchjbaaDoorW2
import Derived.Test.YtdgekckedchjbaaDoorN2
import Derived.Deep.RegionHeld3
import Derived.Deep.DeepCutAuto
namespace Go.Proofs.YtdgekckedchjbaaDoor
open Go.RowKit

theorem info_int : (Tryd.prog.info? 3).map (fun i => (i.zero, i.size, i.bytes)) = some (some (.int .i64 0), 1, 8) := by kernel_rfl
def ints (l : List Nat) : List Value := l.map fun (n : Nat) => Value.int .i64 (n : Int)
theorem ne_byte {c : UInt8} {n : Nat} (hn : n < 256) (h : ¬ c = UInt8.ofNat n) : ¬ ((c.toNat : Nat) : Int) = n := fun h1 => h (UInt8.toNat_inj.1 (by rw [UInt8.toNat_ofNat']; omega))
/-- The places of opening parentheses ahead of k. -/
def spots (t : List UInt8) (k : Nat) : List Nat := (List.range k).filter fun i => decide (t[i]? = some 40)
theorem spots_yes {t : List UInt8} {k : Nat} (h : t[k]? = some 40) : spots t (k + 1) = spots t k ++ [k] := by
  unfold spots
  rw [List.range_succ, List.filter_append]
  simp [h]
theorem spots_no {t : List UInt8} {k : Nat} (h : ¬ t[k]? = some 40) : spots t (k + 1) = spots t k := by
  unfold spots
  rw [List.range_succ, List.filter_append, List.filter_cons_of_neg (by simpa using h)]
  simp
theorem spots_len (t : List UInt8) (k : Nat) : (spots t k).length ≤ k := by
  have := List.length_filter_le (fun i => decide (t[i]? = some 40)) (List.range k)
  rw [List.length_range] at this
  exact this
theorem spots_at {t : List UInt8} {k i j : Nat} (h : (spots t k)[i]? = some j) : j < k ∧ t[j]? = some 40 := by
  have := List.mem_filter.1 (List.mem_of_getElem? h)
  exact ⟨List.mem_range.1 this.1, by simpa using this.2⟩
theorem ext_mid (s : ByteArray) (a b : Nat) : s.extract a b = str ((s.data.toList.drop a).take (b - a)) := by
  apply ba_ext
  rw [str_list]
  simp [List.take_drop]
/-- What a parse of l leaves: where its expression lies, and whether it is one. -/
def ReadE (w : World) (l : List UInt8) (v12 v14 : Value) (w' : World) : Prop :=
  ∃ (g : Nat) (op N : Int) (nm : ByteArray) (B : Option Addr) (m d : Nat) (E : Int) (x : Gx) (n : Nat),
    v12 = .pointer (some ⟨g, 0, none⟩) ∧ v14 = .int .i64 E ∧ Blk w' g 40 #[.int .i64 op, .int .i64 N, .string nm, .slice B m d] ∧
    GC (fun _ => True) w' 2513169434843 n [.int .i64 op, .int .i64 N, .string nm, .slice B m d] x ∧ FitG n x ∧ ((E = 0 ∧ ∃ y, exprO l = .ok y ∧ x = y.gx) ∨ E ≠ 0) ∧ Below w.heap.size w w'
theorem read_mk {w w6 W9 : World} {l : List UInt8} {b gP gQ : Nat} {L C E op N : Int} {nm : ByteArray} {B : Option Addr} {m d : Nat}
    (hp : ExOut b (exprO l) [.int .i64 op, .int .i64 N, .string nm, .slice B m d] L C E w6) (hX : Blk W9 gP 40 #[.int .i64 op, .int .i64 N, .string nm, .slice B m d])
    (hk : Kept (fun z => z = gP ∨ z = gQ) w6 W9) (hs : ∀ z, z < w6.heap.size → b ≤ z → ¬ (z = gP ∨ z = gQ)) (hb : Below w.heap.size w W9) :
    ReadE w l (.pointer (some ⟨gP, 0, none⟩)) (.int .i64 E) W9 := by
  cases hq : exprO l with
  | ok y =>
    rw [hq] at hp
    obtain ⟨h1, _, _, h2⟩ := hp
    have h3 := TE.gc (M := 2513169434843) (by omega) y _ h2
    exact ⟨gP, op, N, nm, B, m, d, E, y.gx, y.dep, rfl, rfl, hX, GC.kept hk hs (fun _ _ _ => trivial) _ _ _ h3, FitE.gx y (EvE_fit y (exprO_ev hq)), .inl ⟨h1, y, hq, rfl⟩, hb⟩
  | bad L' C' E' =>
    rw [hq] at hp
    obtain ⟨_, _, _, h1, h2⟩ := hp
    simp only [List.cons.injEq, Value.int.injEq, Value.string.injEq, Value.slice.injEq, and_true, true_and] at h2
    obtain ⟨rfl, rfl, rfl, rfl, rfl, rfl⟩ := h2
    exact ⟨gP, 0, 0, ⟨#[]⟩, none, 0, 0, E, .mk 0 0 ⟨#[]⟩ [], 1, rfl, rfl, hX, ⟨none, 0, 0, rfl, ElsG.none_ _ _ _ _ _ _⟩, fit_leaf 0 0 0 ⟨#[]⟩ FitN.zero (by decide), .inr h1, hb⟩

set_option maxHeartbeats 8000000 in
set_option maxRecDepth 100000 in
theorem printBrackets_walk (base n : Nat) (op N : Int) (nm : ByteArray) (A : Option Addr) (l c which : Nat) (g : Gx) (w : World) (hT : Tabs base w) (hb : base ≤ w.heap.size) (hG : GC (fun _ => True) w 2513169434843 n [.int .i64 op, .int .i64 N, .string nm, .slice A l c] g) (hF : FitG n g) (hwh : which < 256) :
    Calls Tryd.prog 3 #[.agg #[.int .i64 op, .int .i64 N, .string nm, .slice A l c], .int .u8 which] w (Tells w true) := by
  have TB := Lib.hid hT
  have HB := Lib.hid hb
  have c1 : Blk (w.alloc (.cells #[.int .i64 op, .int .i64 N, .string nm, .slice A l c] 24)) w.heap.size 24 #[.int .i64 op, .int .i64 N, .string nm, .slice A l c] := Blk.new w _ _
  have f1 : Below w.heap.size w (w.alloc (.cells #[.int .i64 op, .int .i64 N, .string nm, .slice A l c] 24)) := (Below.refl _ w).al _
  have G1 := Lib.hid (hG.below f1)
  have C1 := Lib.hid c1
  have HF := Lib.hid hF
  have F1 := Lib.hid ((Below.refl w.heap.size w).trans ((f1).mono (Below.refl w.heap.size w).size))
  have TB1 := Lib.hid ((TB.out).below (f1) HB.out)
  have HB1 := Lib.hid (Nat.le_trans HB.out (f1).size)
  clear hT hb hG hF
  go_enter Tryd.func3, Tryd.ntmps3
  go_upto_region 1 with fail
  generalize w.alloc (.cells #[.int .i64 op, .int .i64 N, .string nm, .slice A l c] 24) = W1 at *
  clear c1 f1
  have q0 := C1.out.cell 0
  have q1 := C1.out.cell 1
  have q2 := C1.out.cell 2
  have q3 := C1.out.cell 3
  have DP := Lib.hid (deep_any 2513169434843 (by omega) n (fun _ => True) op N nm A l c g W1 G1.out)
  go_wp2_with fail
  refine DP.out.mono ?_
  rintro e w2 ⟨m1, rfl, b2⟩
  have C2 := Lib.hid (C1.out.below b2 C1.out.lt)
  have G2 := Lib.hid (G1.out.below b2)
  have F2 := Lib.hid (F1.out.trans ((b2).mono F1.out.size))
  have TB2 := Lib.hid ((TB1.out).below (b2) HB1.out)
  have HB2 := Lib.hid (Nat.le_trans HB1.out (b2).size)
  clear q0 q1 q2 q3 b2 DP
  by_cases h30 : (30 : Int) < m1
  · have TD := Lib.hid (told_any base w2 TB2.out HB2.out)
    go_wp2_with fail
    refine TD.out.mono ?_
    rintro e wt ⟨rfl, bt⟩
    go_wp2_with fail
    go_ret
    exact ⟨rfl, F2.out.trans (bt.mono F2.out.size)⟩
  obtain ⟨x1, x2⟩ := two_new w2 24 29 #[.int .i64 op, .int .i64 N, .string nm, .slice A l c] #[.int .i64 0, .string ⟨#[]⟩, .slice (some ⟨w2.heap.size, 0, none⟩) 1 1, .int .i64 0, .int .i64 0, .slice none 0 0, .slice none 0 0]
  have f3 : Below w2.heap.size w2 ((w2.alloc (.cells #[.int .i64 op, .int .i64 N, .string nm, .slice A l c] 24)).alloc (.cells #[.int .i64 0, .string ⟨#[]⟩, .slice (some ⟨w2.heap.size, 0, none⟩) 1 1, .int .i64 0, .int .i64 0, .slice none 0 0, .slice none 0 0] 29)) := ((Below.refl _ w2).al _).al _
  have C3 := Lib.hid (C2.out.below f3 C2.out.lt)
  have G3 := Lib.hid (G2.out.below f3)
  have SZ := Lib.hid (size_prog 2513169434843 n (by omega) (fun _ => True) (some ⟨w2.heap.size, 0, none⟩) 1 1 [g] (w2.heap.size + 1) _ (els_one (D := fun _ => True) (c1 := [.int .i64 op, .int .i64 N, .string nm, .slice A l c]) (by omega) x1 trivial rfl G3.out) x2)
  have q0 := C2.out.cell 0
  have q1 := C2.out.cell 1
  have q2 := C2.out.cell 2
  have q3 := C2.out.cell 3
  have F3 := Lib.hid (F2.out.trans ((f3).mono F2.out.size))
  have TB3 := Lib.hid ((TB2.out).below (f3) HB2.out)
  have HB3 := Lib.hid (Nat.le_trans HB2.out (f3).size)
  clear x1 x2 f3
  go_wp2_with fail
  refine SZ.out.mono ?_
  rintro e w4 ⟨m2, rfl, b4⟩
  generalize (w2.alloc (.cells #[.int .i64 op, .int .i64 N, .string nm, .slice A l c] 24)).alloc (.cells #[.int .i64 0, .string ⟨#[]⟩, .slice (some ⟨w2.heap.size, 0, none⟩) 1 1, .int .i64 0, .int .i64 0, .slice none 0 0, .slice none 0 0] 29) = w3 at *
  have C4 := Lib.hid (C3.out.below b4 C3.out.lt)
  have G4 := Lib.hid (G3.out.below b4)
  have F4 := Lib.hid (F3.out.trans ((b4).mono F3.out.size))
  have TB4 := Lib.hid ((TB3.out).below (b4) HB3.out)
  have HB4 := Lib.hid (Nat.le_trans HB3.out (b4).size)
  clear q0 q1 q2 q3 b4 SZ
  by_cases h60 : (60 : Int) < m2
  · have TD := Lib.hid (told_any base w4 TB4.out HB4.out)
    go_wp2_with fail
    refine TD.out.mono ?_
    rintro e wt ⟨rfl, bt⟩
    go_wp2_with fail
    go_ret
    exact ⟨rfl, F4.out.trans (bt.mono F4.out.size)⟩
  have q0 := C4.out.cell 0
  have q1 := C4.out.cell 1
  have q2 := C4.out.cell 2
  have q3 := C4.out.cell 3
  have OW := Lib.hid (own_any 2513169434843 (Nat.le_refl _) n (fun _ => True) op N nm A l c g w4 G4.out)
  go_wp2_with fail
  refine OW.out.mono ?_
  rintro e w5 ⟨A5, c5, rfl, b5, g5⟩
  have G5 := Lib.hid g5
  have F5 := Lib.hid (F4.out.trans ((b5).mono F4.out.size))
  have TB5 := Lib.hid ((TB4.out).below (b5) HB4.out)
  have HB5 := Lib.hid (Nat.le_trans HB4.out (b5).size)
  clear q0 q1 q2 q3 b5 g5 OW
  have PX := Lib.hid (Expr_any base n _ op N nm A5 l c5 g w5 TB5.out HB5.out G5.out HF.out)
  go_wp2_with fail
  refine PX.out.mono ?_
  rintro e V1 ⟨b6, h6⟩
  have F6 := Lib.hid (F5.out.trans ((b6).mono F5.out.size))
  have TB6 := Lib.hid ((TB5.out).below (b6) HB5.out)
  have HB6 := Lib.hid (Nat.le_trans HB5.out (b6).size)
  clear b6 PX
  rcases h6 with ⟨t, ht, rfl⟩ | ⟨hno, rfl⟩
  rotate_left
  · have TD := Lib.hid (told_any base V1 TB6.out HB6.out)
    go_wp2_with fail
    refine TD.out.mono ?_
    rintro e wt ⟨rfl, bt⟩
    go_wp2_with fail
    go_ret
    exact ⟨rfl, F6.out.trans (bt.mono F6.out.size)⟩
  have HBA := Lib.hid ht.bal
  have HPI := Lib.hid ht
  obtain ⟨T, hT⟩ : ∃ y, y = str t := ⟨_, rfl⟩
  rw [← hT]
  have HTT := Lib.hid hT
  have hTs : T.size ≤ 65536 := by rw [hT, str_size]; exact ht.2.1
  have HTL : Hid (T.data.toList = t) := by rw [hT]; exact str_list _
  have HTZ : Hid (t.length = T.size) := by rw [hT, str_size]; rfl
  clear hT ht
  go_wp2_with fail
  have b0 : Below V1.heap.size V1 V1 := Below.refl _ _
  have O0 : Hid (V1.ownsRow V1.heap.size 3 1 (.slice none 0 0) (spots t 0).length (ints (spots t 0))) := World.ownsRow_nil _ _ _ _
  go_loopw [7, 8] (fun v i wr => ∃ k : Nat, k ≤ T.size ∧ i = .int .i64 k ∧ Hid (wr.ownsRow V1.heap.size 3 1 v (spots t k).length (ints (spots t k))) ∧ Below V1.heap.size V1 wr) (fun _ i _ => T.size - (intOf i).toNat)
  case atStart => exact ⟨0, by omega, rfl, O0, b0⟩
  case round =>
    obtain ⟨k, hk, rfl, ho, hb⟩ := hrel
    by_cases hlt : k < T.size
    · obtain ⟨c, hc⟩ : ∃ c : UInt8, T[k] = c := ⟨_, rfl⟩
      have hXc : t[k]? = some c := by rw [← HTL.out, at_list T hlt, hc]
      have hle := spots_len t k
      obtain ⟨m, hm⟩ : ∃ m, (spots t k).length = m := ⟨_, rfl⟩
      rw [hm] at ho hle
      have HM := Lib.hid hm
      have HXC := Lib.hid hXc
      have hbl := own_block ho.out
      have hbz := hb.size
      clear hm hXc
      by_cases h40 : c = 40
      · have HN : Hid (spots t (k + 1) = spots t k ++ [k]) := spots_yes (by rw [HXC.out, h40])
        have e40 : ((c.toNat : Nat) : Int) = 40 := by rw [h40]; rfl
        clear h40
        obtain ⟨i0, hi0, hz0, hz1, hz2⟩ := info_parts info_int
        have own7 := Lib.hid (World.ownsRow.alloc ho.out (.cells #[.int .i64 (k : Int)] 3))
        have RD : Hid (Reads (wr.alloc (.cells #[.int .i64 (k : Int)] 3)) (wr.heap.size + 1) 1 (some ⟨wr.heap.size, 0, none⟩) 1 [.int .i64 (k : Int)]) := by
          refine ⟨by simp, fun _ => ⟨_, rfl, by simp, fun j u hu => ?_⟩⟩
          rw [Addr.add_lit, Nat.zero_add, (Blk.new wr 3 #[.int .i64 (k : Int)]).cell j]
          simpa using hu
        go_wp2_with (first | (at_builtin; refine wpList_append_any _ (by rfl) (.tmp 49) (.tmp 51) 30 rfl V1.heap.size 3 i0 _ 1 8 Tryd.underlying30 hi0 hz0 hz1 hz2 rfl (by omega) u7 m (ints (spots t k)) rfl own7.out _ _ 1 1 [.int .i64 (k : Int)] rfl RD.out (by simp [Value.oneCell']) (by unfold maxLen; omega) (by omega) (by simp; omega) ?_; intro v8 w8 o8 g8 at8; have b8 : Below V1.heap.size V1 w8 := (hb.alloc hbz _).trans ((Kept.of_grown (S := fun k => V1.heap.size ≤ k) g8 hbl).to_below (by simp; omega) (fun k hk => by omega)); have O8 := Lib.hid o8; clear o8 g8 at8))
        go_roundw
        case rel =>
          refine ⟨k + 1, by omega, by go_num, ?_, b8⟩
          rw [Hid, HN.out, List.length_append, HM.out]
          have e : ints (spots t k ++ [k]) = ints (spots t k) ++ [.int .i64 (k : Int)] := by simp [ints]
          rw [e]
          exact O8.out
        case measure => simp [intOf]; omega
      have f40 : ¬ ((c.toNat : Nat) : Int) = 40 := ne_byte (by decide) h40
      have b40 : ((((c.toNat : Nat) : Int)) == 40) = false := by simpa using f40
      have HN : Hid (spots t (k + 1) = spots t k) := spots_no (by rw [HXC.out]; simp [h40])
      clear h40
      go_wp2_with fail
      go_roundw
      case rel =>
        refine ⟨k + 1, by omega, by go_num, ?_, hb⟩
        rw [Hid, HN.out, HM.out]
        exact ho.out
      case measure => simp [intOf]; omega
    obtain rfl : k = T.size := by omega
    obtain ⟨A6, c6, rfl⟩ := own_slice ho.out
    have hle := spots_len t T.size
    obtain ⟨ns, hns⟩ : ∃ n, (spots t T.size).length = n := ⟨_, rfl⟩
    rw [hns] at ho hle
    rw [hns]
    have Fw := Lib.hid (F6.out.trans ((hb).mono F6.out.size))
    have TBw := Lib.hid ((TB6.out).below (hb) HB6.out)
    have HBw := Lib.hid (Nat.le_trans HB6.out (hb).size)
    by_cases hns0 : ns = 0
    · subst hns0
      have TD := Lib.hid (told_any base wr TBw.out HBw.out)
      go_wp2_with fail
      refine TD.out.mono ?_
      rintro e wt ⟨rfl, bt⟩
      go_wp2_with fail
      go_ret
      exact ⟨rfl, Fw.out.trans (bt.mono Fw.out.size)⟩
    have RD6 : Hid (RV wr A6 ns (ints (spots t T.size))) := Reads.of_own ho.out
    obtain ⟨i, hi⟩ : ∃ i, which % ns = i := ⟨_, rfl⟩
    have hin : i < ns := by rw [← hi]; exact Nat.mod_lt _ (by omega)
    obtain ⟨ab, ao, rfl, hab, hil, hcell⟩ := RD6.out.at_ hin
    obtain ⟨f, hj⟩ : ∃ j, (spots t T.size)[i]? = some j := ⟨_, List.getElem?_eq_getElem (by rw [hns]; exact hin)⟩
    have hcj : (ints (spots t T.size))[i]'hil = .int .i64 (f : Int) := by
      have h1 : (ints (spots t T.size))[i]? = some (.int .i64 (f : Int)) := by unfold ints; rw [List.getElem?_map, hj]; rfl
      rw [List.getElem?_eq_getElem hil] at h1
      exact Option.some.inj h1
    rw [hcj] at hcell
    obtain ⟨hfT, hf40⟩ := spots_at hj
    have HF40 := Lib.hid hf40
    have r1 : ((which : Nat) : Int).tmod (ns : Int) = (i : Int) := by
      rw [Int.tmod_eq_emod_of_nonneg (by omega), ← hi]
      exact Int.natCast_emod which ns
    have q1 : IntKind.i64.wrap ((which : Nat) : Int) = (which : Int) := IntWalk.i64_in _ ⟨by omega, by omega⟩
    have q2 : IntKind.i64.wrap (i : Int) = (i : Int) := IntWalk.i64_in _ ⟨by omega, by omega⟩
    have n0 : ¬ (ns : Int) = 0 := by omega
    have HNS := Lib.hid hns
    have hbz := hb.size
    clear hi hj hcj hf40 hns ho
    obtain ⟨V2, hV2⟩ : ∃ x, x = wr := ⟨_, rfl⟩
    go_wp2_with fail
    go_loopw [10, 11] (fun tv dv wq => ∃ (k : Nat) (d : Int), f ≤ k ∧ k ≤ T.size ∧ tv = .int .i64 k ∧ dv = .int .i64 d ∧ Hid (d = bal ((t.drop f).take (k - f))) ∧ 0 ≤ d ∧ d ≤ k ∧ (f < k → 1 ≤ d) ∧ wq = wr) (fun tv _ _ => T.size - (intOf tv).toNat)
    case atStart => exact ⟨f, 0, by omega, by omega, rfl, rfl, by rw [Hid, Nat.sub_self]; rfl, by omega, by omega, fun h => absurd h (by omega), rfl⟩
    case round =>
      obtain ⟨k, d, hfk, hk, rfl, rfl, hd, hd0, hdk, hd1, rfl⟩ := hrel
      by_cases hlt : k < T.size
      · obtain ⟨c, hc⟩ : ∃ c : UInt8, T[k] = c := ⟨_, rfl⟩
        have hXc : t[k]? = some c := by rw [← HTL.out, at_list T hlt, hc]
        have hnx := bal_next hfk hXc
        rw [← hd.out] at hnx
        have HNX := Lib.hid hnx
        have HXC := Lib.hid hXc
        have w1' : IntKind.i64.wrap (d + 1) = d + 1 := IntWalk.i64_in _ ⟨by omega, by omega⟩
        have w2' : IntKind.i64.wrap (d - 1) = d - 1 := IntWalk.i64_in _ ⟨by omega, by omega⟩
        clear hnx hXc
        by_cases h40 : c = 40
        · have hD : Hid (d + 1 = bal ((t.drop f).take (k + 1 - f))) := by rw [Hid, HNX.out, h40]; rfl
          have e40 : ((c.toNat : Nat) : Int) = 40 := by rw [h40]; rfl
          have z1 : ((d + 1 : Int) == 0) = false := by simp; omega
          clear h40
          go_wp2_with fail
          go_roundw
          case rel => exact ⟨k + 1, d + 1, by omega, by omega, by go_num, rfl, hD, by omega, by omega, fun _ => by omega, by trivial⟩
          case measure => simp [intOf]; omega
        have hfk2 : f < k := by
          rcases Nat.lt_or_ge f k with h | h
          · exact h
          · exfalso
            have : f = k := by omega
            have h1 := HF40.out
            rw [this, HXC.out] at h1
            exact h40 (Option.some.inj h1)
        have hd2 := hd1 hfk2
        have f40 : ¬ ((c.toNat : Nat) : Int) = 40 := ne_byte (by decide) h40
        have b40 : ((((c.toNat : Nat) : Int)) == 40) = false := by simpa using f40
        by_cases h41 : c = 41
        · have hD : Hid (d - 1 = bal ((t.drop f).take (k + 1 - f))) := by rw [Hid, HNX.out, h41]; rfl
          have e41 : ((c.toNat : Nat) : Int) = 41 := by rw [h41]; rfl
          by_cases hz : d = 1
          · have HK41 : Hid (t[k]? = some 41) := by rw [Hid, HXC.out, h41]
            subst hz
            clear h40 h41
            have v0 : ((1 - 1 : Int) == 0) = true := by decide
            have g0 : (0 : Int) ≤ (f : Int) := by omega
            have g1 : (f : Int) ≤ (T.size : Int) := by omega
            have g2 : ((f : Int) + 1) ≤ (k : Int) := by omega
            have g3 : (k : Int) ≤ (T.size : Int) := by omega
            have g4 : ((k : Int) + 1) ≤ (T.size : Int) := by omega
            have g5 : (0 : Int) ≤ ((f : Int) + 1) := by omega
            have g6 : (0 : Int) ≤ ((k : Int) + 1) := by omega
            have q3 : IntKind.i64.wrap ((f : Int) + 1) = (f : Int) + 1 := IntWalk.i64_in _ ⟨by omega, by omega⟩
            have q4 : IntKind.i64.wrap ((k : Int) + 1) = (k : Int) + 1 := IntWalk.i64_in _ ⟨by omega, by omega⟩
            obtain ⟨X1, hX1⟩ : ∃ X, T.extract 0 f = X := ⟨_, rfl⟩
            obtain ⟨X2, hX2⟩ : ∃ X, T.extract (f + 1) k = X := ⟨_, rfl⟩
            obtain ⟨X3, hX3⟩ : ∃ X, T.extract (k + 1) T.size = X := ⟨_, rfl⟩
            obtain ⟨V, hV⟩ : ∃ X, X1 ++ X2 = X := ⟨_, rfl⟩
            obtain ⟨U, hU⟩ : ∃ X, V ++ X3 = X := ⟨_, rfl⟩
            have eX1 : X1 = str (t.take f) := by rw [← hX1, ext_str, HTL.out]
            have eX2 : X2 = str ((t.drop (f + 1)).take (k - (f + 1))) := by rw [← hX2, ext_mid, HTL.out]
            have eX3 : X3 = str (t.drop (k + 1)) := by rw [← hX3, ext_from, HTL.out]
            have eV : V = str (t.take f ++ (t.drop (f + 1)).take (k - (f + 1))) := by rw [← hV, eX1, eX2, str_append]
            have eU : U = str (t.take f ++ (t.drop (f + 1)).take (k - (f + 1)) ++ t.drop (k + 1)) := by rw [← hU, eV, eX3, str_append]
            have sX1 : X1.size ≤ 65536 := by rw [eX1, str_size, List.length_take]; omega
            have sX2 : X2.size ≤ 65536 := by rw [eX2, str_size, List.length_take, List.length_drop, HTZ.out]; omega
            have sX3 : X3.size ≤ 65536 := by rw [eX3, str_size, List.length_drop, HTZ.out]; omega
            have sV : V.size ≤ 131072 := by rw [← hV, ByteArray.size_append]; omega
            have sU : U.size ≤ 65536 := by
              rw [eU, str_size, List.length_append, List.length_append, List.length_take, List.length_take, List.length_drop, List.length_drop, HTZ.out]
              omega
            have HU : Hid (U.data.toList = t.take f ++ (t.drop (f + 1)).take (k - (f + 1)) ++ t.drop (k + 1)) := by rw [eU]; exact str_list _
            have v1 : ¬ (9223372036854775807 < X1.size + X2.size) := by omega
            have v2 : ¬ (9223372036854775807 < V.size + X3.size) := by omega
            have hY := @hX2
            clear eX1 eX2 eX3 eV eU sX1 sX2 sX3 sV hY
            have PA2 : Hid (∀ W, Below wr.heap.size wr W → Calls Tryd.prog 9 #[.string U] W (ExprTo W (exprO U.data.toList))) := fun W hW => Expression_any U W ((TBw.out.low (hW.mono HBw.out)).sp) sU
            have FF0 : Hid (Below wr.heap.size wr wr.drew) := (Below.refl wr.heap.size wr).drew
            have FC0 := Lib.hid (PA2.out (wr.drew) FF0.out)
            have FF1 : Hid (Below wr.heap.size wr (wr.alloc (.cells #[.int .i64 0, .int .i64 0, .string ⟨#[]⟩, .slice none 0 0] 40)).drew) := ((Below.refl wr.heap.size wr).al (.cells #[.int .i64 0, .int .i64 0, .string ⟨#[]⟩, .slice none 0 0] 40)).drew
            have FC1 := Lib.hid (PA2.out ((wr.alloc (.cells #[.int .i64 0, .int .i64 0, .string ⟨#[]⟩, .slice none 0 0] 40)).drew) FF1.out)
            have N1P := Lib.hid (Blk.new wr 40 #[.int .i64 0, .int .i64 0, .string ⟨#[]⟩, .slice none 0 0])
            have FF2 : Hid (Below wr.heap.size wr (wr.alloc (.cells #[.int .i64 0, .int .i64 0] 43)).drew) := ((Below.refl wr.heap.size wr).al (.cells #[.int .i64 0, .int .i64 0] 43)).drew
            have FC2 := Lib.hid (PA2.out ((wr.alloc (.cells #[.int .i64 0, .int .i64 0] 43)).drew) FF2.out)
            have N2Q := Lib.hid (Blk.new wr 43 #[.int .i64 0, .int .i64 0])
            have FF3 : Hid (Below wr.heap.size wr ((wr.alloc (.cells #[.int .i64 0, .int .i64 0, .string ⟨#[]⟩, .slice none 0 0] 40)).alloc (.cells #[.int .i64 0, .int .i64 0] 43)).drew) := (((Below.refl wr.heap.size wr).al (.cells #[.int .i64 0, .int .i64 0, .string ⟨#[]⟩, .slice none 0 0] 40)).al (.cells #[.int .i64 0, .int .i64 0] 43)).drew
            have FC3 := Lib.hid (PA2.out (((wr.alloc (.cells #[.int .i64 0, .int .i64 0, .string ⟨#[]⟩, .slice none 0 0] 40)).alloc (.cells #[.int .i64 0, .int .i64 0] 43)).drew) FF3.out)
            have N3P := Lib.hid ((two_new wr 40 43 #[.int .i64 0, .int .i64 0, .string ⟨#[]⟩, .slice none 0 0] #[.int .i64 0, .int .i64 0]).1)
            have N3Q := Lib.hid ((two_new wr 40 43 #[.int .i64 0, .int .i64 0, .string ⟨#[]⟩, .slice none 0 0] #[.int .i64 0, .int .i64 0]).2)
            have FF4 : Hid (Below wr.heap.size wr ((wr.alloc (.cells #[.int .i64 0, .int .i64 0] 43)).alloc (.cells #[.int .i64 0, .int .i64 0, .string ⟨#[]⟩, .slice none 0 0] 40)).drew) := (((Below.refl wr.heap.size wr).al (.cells #[.int .i64 0, .int .i64 0] 43)).al (.cells #[.int .i64 0, .int .i64 0, .string ⟨#[]⟩, .slice none 0 0] 40)).drew
            have FC4 := Lib.hid (PA2.out (((wr.alloc (.cells #[.int .i64 0, .int .i64 0] 43)).alloc (.cells #[.int .i64 0, .int .i64 0, .string ⟨#[]⟩, .slice none 0 0] 40)).drew) FF4.out)
            have N4Q := Lib.hid ((two_new wr 43 40 #[.int .i64 0, .int .i64 0] #[.int .i64 0, .int .i64 0, .string ⟨#[]⟩, .slice none 0 0]).1)
            have N4P := Lib.hid ((two_new wr 43 40 #[.int .i64 0, .int .i64 0] #[.int .i64 0, .int .i64 0, .string ⟨#[]⟩, .slice none 0 0]).2)
            go_upto_region 25 with fail
            go_cut [12, 13, 14] (fun v12 v13 v14 wc => ReadE wr U.data.toList v12 v14 wc)
            case first =>
              refine wp_region_held_drew (S := fun _ => True) (by kernel_rfl) trivial (fun hHeld => ?_)
              refine wpAnyH_take (i := 0) (oi := _) (v := ?_) rfl (by kernel_rfl) (by kernel_rfl) (by kernel_rfl) (fun _ _ _ h => h) (Or.inl ⟨by rfl, ?_⟩) (by assumption) ?_
              rotate_left
              · intro w hSw
                (try dsimp only at hSw)
                go_simp
                (try with_reducible rfl)
              try simp only [Act.put, List.setIfInBounds_toArray, List.set_cons_zero, List.set_cons_succ, List.getElem_toArray, List.getElem_cons_zero]
              refine wpAnyH_take (i := 1) (oi := _) (v := ?_) rfl (by kernel_rfl) (by kernel_rfl) (by kernel_rfl) (fun _ _ _ h => h) (Or.inl ⟨by rfl, ?_⟩) (by assumption) ?_
              rotate_left
              · intro w hSw
                (try dsimp only at hSw)
                go_simp
                (try with_reducible rfl)
              try simp only [Act.put, List.setIfInBounds_toArray, List.set_cons_zero, List.set_cons_succ, List.getElem_toArray, List.getElem_cons_succ, List.getElem_cons_zero]
              refine wpAnyH_take (i := 2) (oi := _) (v := ?_) rfl (by kernel_rfl) (by kernel_rfl) (by kernel_rfl) (fun _ _ _ h => h) (Or.inl ⟨by rfl, ?_⟩) (by assumption) ?_
              rotate_left
              · intro w hSw
                (try dsimp only at hSw)
                go_simp
                (try with_reducible rfl)
              try simp only [Act.put, List.setIfInBounds_toArray, List.set_cons_zero, List.set_cons_succ, List.getElem_toArray, List.getElem_cons_succ, List.getElem_cons_zero]
              refine wpAnyH_take (i := 3) (oi := _) (v := ?_) rfl (by kernel_rfl) (by kernel_rfl) (by kernel_rfl) (fun _ _ _ h => h) (Or.inl ⟨by rfl, ?_⟩) (by assumption) ?_
              rotate_left
              · intro w hSw
                (try dsimp only at hSw)
                go_simp
                (try with_reducible rfl)
              try simp only [Act.put, List.setIfInBounds_toArray, List.set_cons_zero, List.set_cons_succ, List.getElem_toArray, List.getElem_cons_succ, List.getElem_cons_zero]
              refine wpAnyH_take (i := 4) (oi := _) (v := ?_) rfl (by kernel_rfl) (by kernel_rfl) (by kernel_rfl) (fun _ _ _ h => h) (Or.inl ⟨by rfl, ?_⟩) (by assumption) ?_
              rotate_left
              · intro w hSw
                (try dsimp only at hSw)
                go_simp
                (try with_reducible rfl)
              try simp only [Act.put, List.setIfInBounds_toArray, List.set_cons_zero, List.set_cons_succ, List.getElem_toArray, List.getElem_cons_succ, List.getElem_cons_zero]
              refine wpAnyH_take (i := 5) (oi := _) (v := ?_) rfl (by kernel_rfl) (by kernel_rfl) (by kernel_rfl) (fun _ _ _ h => h) (Or.inl ⟨by rfl, ?_⟩) (by assumption) ?_
              rotate_left
              · intro w hSw
                (try dsimp only at hSw)
                go_simp
                (try with_reducible rfl)
              try simp only [Act.put, List.setIfInBounds_toArray, List.set_cons_zero, List.set_cons_succ, List.getElem_toArray, List.getElem_cons_succ, List.getElem_cons_zero]
              refine wpAnyH_take (i := 6) (oi := _) (v := ?_) rfl (by kernel_rfl) (by kernel_rfl) (by kernel_rfl) (fun _ _ _ h => h) (Or.inl ⟨by rfl, ?_⟩) (by assumption) ?_
              rotate_left
              · intro w hSw
                (try dsimp only at hSw)
                go_simp
                (try with_reducible rfl)
              try simp only [Act.put, List.setIfInBounds_toArray, List.set_cons_zero, List.set_cons_succ, List.getElem_toArray, List.getElem_cons_succ, List.getElem_cons_zero]
              refine wpAnyH_take (i := 7) (oi := _) (v := ?_) rfl (by kernel_rfl) (by kernel_rfl) (by kernel_rfl) (fun _ _ _ h => h) (Or.inl ⟨by rfl, ?_⟩) (by assumption) ?_
              rotate_left
              · intro w hSw
                (try dsimp only at hSw)
                go_simp
                (try with_reducible rfl)
              try simp only [Act.put, List.setIfInBounds_toArray, List.set_cons_zero, List.set_cons_succ, List.getElem_toArray, List.getElem_cons_succ, List.getElem_cons_zero]
              refine wpAnyH_take (i := 8) (oi := _) (v := ?_) rfl (by kernel_rfl) (by kernel_rfl) (by kernel_rfl) (fun _ _ _ h => h) (Or.inl ⟨by rfl, ?_⟩) (by assumption) ?_
              rotate_left
              · intro w hSw
                (try dsimp only at hSw)
                go_simp
                (try with_reducible rfl)
              try simp only [Act.put, List.setIfInBounds_toArray, List.set_cons_zero, List.set_cons_succ, List.getElem_toArray, List.getElem_cons_succ, List.getElem_cons_zero]
              refine wpAnyH_take (i := 9) (oi := _) (v := ?_) rfl (by kernel_rfl) (by kernel_rfl) (by kernel_rfl) (fun _ _ _ h => h) (Or.inl ⟨by rfl, ?_⟩) (by assumption) ?_
              rotate_left
              · intro w hSw
                (try dsimp only at hSw)
                go_simp
                (try with_reducible rfl)
              try simp only [Act.put, List.setIfInBounds_toArray, List.set_cons_zero, List.set_cons_succ, List.getElem_toArray, List.getElem_cons_succ, List.getElem_cons_zero]
              refine wpAnyH_take (i := 10) (oi := _) (v := ?_) rfl (by kernel_rfl) (by kernel_rfl) (by kernel_rfl) (fun _ _ _ h => h) (Or.inl ⟨by rfl, ?_⟩) (by assumption) ?_
              rotate_left
              · intro w hSw
                (try dsimp only at hSw)
                go_simp
                (try with_reducible rfl)
              try simp only [Act.put, List.setIfInBounds_toArray, List.set_cons_zero, List.set_cons_succ, List.getElem_toArray, List.getElem_cons_succ, List.getElem_cons_zero]
              refine wpAnyH_take (i := 11) (oi := _) (v := ?_) rfl (by kernel_rfl) (by kernel_rfl) (by kernel_rfl) (fun _ _ _ h => h) (Or.inl ⟨by rfl, ?_⟩) (by assumption) ?_
              rotate_left
              · intro w hSw
                (try dsimp only at hSw)
                go_simp
                (try with_reducible rfl)
              try simp only [Act.put, List.setIfInBounds_toArray, List.set_cons_zero, List.set_cons_succ, List.getElem_toArray, List.getElem_cons_succ, List.getElem_cons_zero]
              refine wpAnyH_take (i := 12) (oi := _) (v := ?_) rfl (by kernel_rfl) (by kernel_rfl) (by kernel_rfl) (fun _ _ _ h => h) (Or.inl ⟨by rfl, ?_⟩) (by assumption) ?_
              rotate_left
              · intro w hSw
                (try dsimp only at hSw)
                go_simp
                (try with_reducible rfl)
              try simp only [Act.put, List.setIfInBounds_toArray, List.set_cons_zero, List.set_cons_succ, List.getElem_toArray, List.getElem_cons_succ, List.getElem_cons_zero]
              refine wpAnyH_take (i := 13) (oi := _) (v := ?_) rfl (by kernel_rfl) (by kernel_rfl) (by kernel_rfl) (fun _ _ _ h => h) (Or.inl ⟨by rfl, ?_⟩) (by assumption) ?_
              rotate_left
              · intro w hSw
                (try dsimp only at hSw)
                go_simp
                (try with_reducible rfl)
              try simp only [Act.put, List.setIfInBounds_toArray, List.set_cons_zero, List.set_cons_succ, List.getElem_toArray, List.getElem_cons_succ, List.getElem_cons_zero]
              refine wpAnyH_ready (rs := [14, 19, 20]) (by kernel_rfl) (by simp) ?_
              refine AllReadyH.cons (o := _) rfl (fun K hK => ?_) (AllReadyH.cons (o := _) rfl (fun K hK => ?_) (AllReadyH.cons (o := _) rfl (fun K hK => ?_) AllReadyH.nil))
              · skip
                go_simp
                go_at_call 9
                (with_reducible refine FC0.out.mono ?_)
                rintro e w6 ⟨op2, N2, nm2, B2, l2, k2, L2, C2, E2, rfl, b6, hp2⟩
                have bb := FF0.out.trans (b6.mono FF0.out.size)
                have zz := bb.size
                have zb := b6.size
                refine hK.out _ _ trivial (fun hHeld => ?_)
                clear hK K
                try simp only [Act.put, List.setIfInBounds_toArray, List.set_cons_zero, List.set_cons_succ, List.getElem_toArray, List.getElem_cons_succ, List.getElem_cons_zero]
                have zp : (wr.drew).heap.size = wr.heap.size + 0 := by first | rfl | (change (wr).heap.size = _; simp) | simp
                refine wpAnyH_take (i := 15) (oi := _) (v := ?_) rfl (by kernel_rfl) (by kernel_rfl) (by kernel_rfl) (fun _ _ _ h => h) (Or.inl ⟨by rfl, ?_⟩) (by assumption) ?_
                rotate_left
                · intro w hSw
                  (try dsimp only at hSw)
                  go_simp
                  (try with_reducible rfl)
                try simp only [Act.put, List.setIfInBounds_toArray, List.set_cons_zero, List.set_cons_succ, List.getElem_toArray, List.getElem_cons_succ, List.getElem_cons_zero]
                refine wpAnyH_take (i := 16) (oi := _) (v := ?_) rfl (by kernel_rfl) (by kernel_rfl) (by kernel_rfl) (fun _ _ _ h => h) (Or.inl ⟨by rfl, ?_⟩) (by assumption) ?_
                rotate_left
                · intro w hSw
                  (try dsimp only at hSw)
                  go_simp
                  (try with_reducible rfl)
                try simp only [Act.put, List.setIfInBounds_toArray, List.set_cons_zero, List.set_cons_succ, List.getElem_toArray, List.getElem_cons_succ, List.getElem_cons_zero]
                refine wpAnyH_take (i := 17) (oi := _) (v := ?_) rfl (by kernel_rfl) (by kernel_rfl) (by kernel_rfl) (fun _ _ _ h => h) (Or.inl ⟨by rfl, ?_⟩) (by assumption) ?_
                rotate_left
                · intro w hSw
                  (try dsimp only at hSw)
                  go_simp
                  (try with_reducible rfl)
                try simp only [Act.put, List.setIfInBounds_toArray, List.set_cons_zero, List.set_cons_succ, List.getElem_toArray, List.getElem_cons_succ, List.getElem_cons_zero]
                refine wpAnyH_take (i := 18) (oi := _) (v := ?_) rfl (by kernel_rfl) (by kernel_rfl) (by kernel_rfl) (fun _ _ _ h => h) (Or.inl ⟨by rfl, ?_⟩) (by assumption) ?_
                rotate_left
                · intro w hSw
                  (try dsimp only at hSw)
                  go_simp
                  (try with_reducible rfl)
                try simp only [Act.put, List.setIfInBounds_toArray, List.set_cons_zero, List.set_cons_succ, List.getElem_toArray, List.getElem_cons_succ, List.getElem_cons_zero]
                refine wpAnyH_ready (rs := [19, 20]) (by kernel_rfl) (by simp) ?_
                refine AllReadyH.cons (o := _) rfl (fun K hK => ?_) (AllReadyH.cons (o := _) rfl (fun K hK => ?_) AllReadyH.nil)
                · skip
                  go_simp
                  refine hK.out _ _ trivial (fun hHeld => ?_)
                  clear hK K
                  try simp only [Act.put, List.setIfInBounds_toArray, List.set_cons_zero, List.set_cons_succ, List.getElem_toArray, List.getElem_cons_succ, List.getElem_cons_zero]
                  refine wpAnyH_ready (rs := [20]) (by kernel_rfl) (by simp) ?_
                  refine AllReadyH.cons (o := _) rfl (fun K hK => ?_) AllReadyH.nil
                  go_simp
                  refine hK.out _ _ trivial (fun hHeld => ?_)
                  clear hK K
                  try simp only [Act.put, List.setIfInBounds_toArray, List.set_cons_zero, List.set_cons_succ, List.getElem_toArray, List.getElem_cons_succ, List.getElem_cons_zero]
                  have hP : Blk ((w6.alloc (.cells #[.int .i64 0, .int .i64 0, .string ⟨#[]⟩, .slice none 0 0] 40)).alloc (.cells #[.int .i64 0, .int .i64 0] 43)) w6.heap.size 40 #[.int .i64 0, .int .i64 0, .string ⟨#[]⟩, .slice none 0 0] := (two_new w6 40 43 #[.int .i64 0, .int .i64 0, .string ⟨#[]⟩, .slice none 0 0] #[.int .i64 0, .int .i64 0]).1
                  have hQ : Blk ((w6.alloc (.cells #[.int .i64 0, .int .i64 0, .string ⟨#[]⟩, .slice none 0 0] 40)).alloc (.cells #[.int .i64 0, .int .i64 0] 43)) (w6.heap.size + 1) 43 #[.int .i64 0, .int .i64 0] := (two_new w6 40 43 #[.int .i64 0, .int .i64 0, .string ⟨#[]⟩, .slice none 0 0] #[.int .i64 0, .int .i64 0]).2
                  have K6 : Kept (fun _ => False) w6 ((w6.alloc (.cells #[.int .i64 0, .int .i64 0, .string ⟨#[]⟩, .slice none 0 0] 40)).alloc (.cells #[.int .i64 0, .int .i64 0] 43)) := ((Kept.refl _ w6).alloc _).alloc _
                  have FP : Below wr.heap.size wr ((w6.alloc (.cells #[.int .i64 0, .int .i64 0, .string ⟨#[]⟩, .slice none 0 0] 40)).alloc (.cells #[.int .i64 0, .int .i64 0] 43)) := ((bb.alloc zz (.cells #[.int .i64 0, .int .i64 0, .string ⟨#[]⟩, .slice none 0 0] 40)).alloc (by simp; omega) (.cells #[.int .i64 0, .int .i64 0] 43))
                  generalize ((w6.alloc (.cells #[.int .i64 0, .int .i64 0, .string ⟨#[]⟩, .slice none 0 0] 40)).alloc (.cells #[.int .i64 0, .int .i64 0] 43)) = Wp at *
                  have v0 : Wp.cell? ⟨w6.heap.size, 0, none⟩ = some (.int .i64 0) := hP.cell 0
                  have y0 := hP.frozen 0
                  have v1 : Wp.cell? ⟨w6.heap.size, 1, none⟩ = some (.int .i64 0) := hP.cell 1
                  have y1 := hP.frozen 1
                  have v2 : Wp.cell? ⟨w6.heap.size, 2, none⟩ = some (.string ⟨#[]⟩) := hP.cell 2
                  have y2 := hP.frozen 2
                  have v3 : Wp.cell? ⟨w6.heap.size, 3, none⟩ = some (.slice none 0 0) := hP.cell 3
                  have y3 := hP.frozen 3
                  refine wpAnyH_ready (rs := [21]) (by kernel_rfl) (by simp) ?_
                  refine AllReadyH.cons (o := _) rfl (fun K hK => ?_) AllReadyH.nil
                  go_simp
                  refine hK.out _ _ trivial (fun hHeld => ?_)
                  clear hK K
                  try simp only [Act.put, List.setIfInBounds_toArray, List.set_cons_zero, List.set_cons_succ, List.getElem_toArray, List.getElem_cons_succ, List.getElem_cons_zero]
                  have K8 := Kept.put4 Wp w6.heap.size (.int .i64 op2) (.int .i64 N2) (.string nm2) (.slice B2 l2 k2)
                  have P8 := hP.put4 (.int .i64 op2) (.int .i64 N2) (.string nm2) (.slice B2 l2 k2)
                  have Q8 := hQ.kept K8 (by omega)
                  have F8 : Below wr.heap.size wr _ := FP.trans (K8.to_below (by have := FP.size; omega) (fun q hq e => by omega))
                  clear v0 y0 v1 y1 v2 y2 v3 y3
                  generalize (((Wp.setCell ⟨w6.heap.size, 0, none⟩ (.int .i64 op2)).setCell ⟨w6.heap.size, 1, none⟩ (.int .i64 N2)).setCell ⟨w6.heap.size, 2, none⟩ (.string nm2)).setCell ⟨w6.heap.size, 3, none⟩ (.slice B2 l2 k2) = W8 at *
                  have v0 : W8.cell? ⟨(w6.heap.size + 1), 0, none⟩ = some (.int .i64 0) := Q8.cell 0
                  have y0 := Q8.frozen 0
                  have v1 : W8.cell? ⟨(w6.heap.size + 1), 1, none⟩ = some (.int .i64 0) := Q8.cell 1
                  have y1 := Q8.frozen 1
                  refine wpAnyH_ready (rs := [22]) (by kernel_rfl) (by simp) ?_
                  refine AllReadyH.cons (o := _) rfl (fun K hK => ?_) AllReadyH.nil
                  go_simp
                  refine hK.out _ _ trivial (fun hHeld => ?_)
                  clear hK K
                  try simp only [Act.put, List.setIfInBounds_toArray, List.set_cons_zero, List.set_cons_succ, List.getElem_toArray, List.getElem_cons_succ, List.getElem_cons_zero]
                  have K9 := Kept.put2 W8 (w6.heap.size + 1) (.int .i64 L2) (.int .i64 C2)
                  have X9 := P8.kept K9 (by omega)
                  have F9 : Below wr.heap.size wr _ := F8.trans (K9.to_below (by have := F8.size; omega) (fun q hq e => by omega))
                  have K69 : Kept (fun z => z = w6.heap.size ∨ z = (w6.heap.size + 1)) w6 _ := ((K6.mono (T := fun z => z = w6.heap.size ∨ z = (w6.heap.size + 1)) (fun _ _ h => h.elim)).then_ K8 (fun _ _ e => .inl e)).then_ K9 (fun _ _ e => .inr e)
                  clear v0 y0 v1 y1
                  generalize (W8.setCell ⟨(w6.heap.size + 1), 0, none⟩ (.int .i64 L2)).setCell ⟨(w6.heap.size + 1), 1, none⟩ (.int .i64 C2) = W9 at *
                  refine wpAnyH_take (i := 23) (oi := _) (v := ?_) rfl (by kernel_rfl) (by kernel_rfl) (by kernel_rfl) (fun _ _ _ h => h) (Or.inl ⟨by rfl, ?_⟩) (by assumption) ?_
                  rotate_left
                  · intro w hSw
                    (try dsimp only at hSw)
                    go_simp
                    (try with_reducible rfl)
                  try simp only [Act.put, List.setIfInBounds_toArray, List.set_cons_zero, List.set_cons_succ, List.getElem_toArray, List.getElem_cons_succ, List.getElem_cons_zero]
                  refine wpAnyH_done (by kernel_rfl) ?_ _
                  go_goals
                  go_wp2_with fail
                  go_meet
                  case rel => exact read_mk hp2 X9 K69 (fun z hz hb e => by rcases e with e | e <;> omega) F9
                · skip
                  go_simp
                  refine hK.out _ _ trivial (fun hHeld => ?_)
                  clear hK K
                  try simp only [Act.put, List.setIfInBounds_toArray, List.set_cons_zero, List.set_cons_succ, List.getElem_toArray, List.getElem_cons_succ, List.getElem_cons_zero]
                  refine wpAnyH_ready (rs := [19]) (by kernel_rfl) (by simp) ?_
                  refine AllReadyH.cons (o := _) rfl (fun K hK => ?_) AllReadyH.nil
                  go_simp
                  refine hK.out _ _ trivial (fun hHeld => ?_)
                  clear hK K
                  try simp only [Act.put, List.setIfInBounds_toArray, List.set_cons_zero, List.set_cons_succ, List.getElem_toArray, List.getElem_cons_succ, List.getElem_cons_zero]
                  have hP : Blk ((w6.alloc (.cells #[.int .i64 0, .int .i64 0] 43)).alloc (.cells #[.int .i64 0, .int .i64 0, .string ⟨#[]⟩, .slice none 0 0] 40)) (w6.heap.size + 1) 40 #[.int .i64 0, .int .i64 0, .string ⟨#[]⟩, .slice none 0 0] := (two_new w6 43 40 #[.int .i64 0, .int .i64 0] #[.int .i64 0, .int .i64 0, .string ⟨#[]⟩, .slice none 0 0]).2
                  have hQ : Blk ((w6.alloc (.cells #[.int .i64 0, .int .i64 0] 43)).alloc (.cells #[.int .i64 0, .int .i64 0, .string ⟨#[]⟩, .slice none 0 0] 40)) w6.heap.size 43 #[.int .i64 0, .int .i64 0] := (two_new w6 43 40 #[.int .i64 0, .int .i64 0] #[.int .i64 0, .int .i64 0, .string ⟨#[]⟩, .slice none 0 0]).1
                  have K6 : Kept (fun _ => False) w6 ((w6.alloc (.cells #[.int .i64 0, .int .i64 0] 43)).alloc (.cells #[.int .i64 0, .int .i64 0, .string ⟨#[]⟩, .slice none 0 0] 40)) := ((Kept.refl _ w6).alloc _).alloc _
                  have FP : Below wr.heap.size wr ((w6.alloc (.cells #[.int .i64 0, .int .i64 0] 43)).alloc (.cells #[.int .i64 0, .int .i64 0, .string ⟨#[]⟩, .slice none 0 0] 40)) := ((bb.alloc zz (.cells #[.int .i64 0, .int .i64 0] 43)).alloc (by simp; omega) (.cells #[.int .i64 0, .int .i64 0, .string ⟨#[]⟩, .slice none 0 0] 40))
                  generalize ((w6.alloc (.cells #[.int .i64 0, .int .i64 0] 43)).alloc (.cells #[.int .i64 0, .int .i64 0, .string ⟨#[]⟩, .slice none 0 0] 40)) = Wp at *
                  have v0 : Wp.cell? ⟨(w6.heap.size + 1), 0, none⟩ = some (.int .i64 0) := hP.cell 0
                  have y0 := hP.frozen 0
                  have v1 : Wp.cell? ⟨(w6.heap.size + 1), 1, none⟩ = some (.int .i64 0) := hP.cell 1
                  have y1 := hP.frozen 1
                  have v2 : Wp.cell? ⟨(w6.heap.size + 1), 2, none⟩ = some (.string ⟨#[]⟩) := hP.cell 2
                  have y2 := hP.frozen 2
                  have v3 : Wp.cell? ⟨(w6.heap.size + 1), 3, none⟩ = some (.slice none 0 0) := hP.cell 3
                  have y3 := hP.frozen 3
                  refine wpAnyH_ready (rs := [21]) (by kernel_rfl) (by simp) ?_
                  refine AllReadyH.cons (o := _) rfl (fun K hK => ?_) AllReadyH.nil
                  go_simp
                  refine hK.out _ _ trivial (fun hHeld => ?_)
                  clear hK K
                  try simp only [Act.put, List.setIfInBounds_toArray, List.set_cons_zero, List.set_cons_succ, List.getElem_toArray, List.getElem_cons_succ, List.getElem_cons_zero]
                  have K8 := Kept.put4 Wp (w6.heap.size + 1) (.int .i64 op2) (.int .i64 N2) (.string nm2) (.slice B2 l2 k2)
                  have P8 := hP.put4 (.int .i64 op2) (.int .i64 N2) (.string nm2) (.slice B2 l2 k2)
                  have Q8 := hQ.kept K8 (by omega)
                  have F8 : Below wr.heap.size wr _ := FP.trans (K8.to_below (by have := FP.size; omega) (fun q hq e => by omega))
                  clear v0 y0 v1 y1 v2 y2 v3 y3
                  generalize (((Wp.setCell ⟨(w6.heap.size + 1), 0, none⟩ (.int .i64 op2)).setCell ⟨(w6.heap.size + 1), 1, none⟩ (.int .i64 N2)).setCell ⟨(w6.heap.size + 1), 2, none⟩ (.string nm2)).setCell ⟨(w6.heap.size + 1), 3, none⟩ (.slice B2 l2 k2) = W8 at *
                  have v0 : W8.cell? ⟨w6.heap.size, 0, none⟩ = some (.int .i64 0) := Q8.cell 0
                  have y0 := Q8.frozen 0
                  have v1 : W8.cell? ⟨w6.heap.size, 1, none⟩ = some (.int .i64 0) := Q8.cell 1
                  have y1 := Q8.frozen 1
                  refine wpAnyH_ready (rs := [22]) (by kernel_rfl) (by simp) ?_
                  refine AllReadyH.cons (o := _) rfl (fun K hK => ?_) AllReadyH.nil
                  go_simp
                  refine hK.out _ _ trivial (fun hHeld => ?_)
                  clear hK K
                  try simp only [Act.put, List.setIfInBounds_toArray, List.set_cons_zero, List.set_cons_succ, List.getElem_toArray, List.getElem_cons_succ, List.getElem_cons_zero]
                  have K9 := Kept.put2 W8 w6.heap.size (.int .i64 L2) (.int .i64 C2)
                  have X9 := P8.kept K9 (by omega)
                  have F9 : Below wr.heap.size wr _ := F8.trans (K9.to_below (by have := F8.size; omega) (fun q hq e => by omega))
                  have K69 : Kept (fun z => z = (w6.heap.size + 1) ∨ z = w6.heap.size) w6 _ := ((K6.mono (T := fun z => z = (w6.heap.size + 1) ∨ z = w6.heap.size) (fun _ _ h => h.elim)).then_ K8 (fun _ _ e => .inl e)).then_ K9 (fun _ _ e => .inr e)
                  clear v0 y0 v1 y1
                  generalize (W8.setCell ⟨w6.heap.size, 0, none⟩ (.int .i64 L2)).setCell ⟨w6.heap.size, 1, none⟩ (.int .i64 C2) = W9 at *
                  refine wpAnyH_take (i := 23) (oi := _) (v := ?_) rfl (by kernel_rfl) (by kernel_rfl) (by kernel_rfl) (fun _ _ _ h => h) (Or.inl ⟨by rfl, ?_⟩) (by assumption) ?_
                  rotate_left
                  · intro w hSw
                    (try dsimp only at hSw)
                    go_simp
                    (try with_reducible rfl)
                  try simp only [Act.put, List.setIfInBounds_toArray, List.set_cons_zero, List.set_cons_succ, List.getElem_toArray, List.getElem_cons_succ, List.getElem_cons_zero]
                  refine wpAnyH_done (by kernel_rfl) ?_ _
                  go_goals
                  go_wp2_with fail
                  go_meet
                  case rel => exact read_mk hp2 X9 K69 (fun z hz hb e => by rcases e with e | e <;> omega) F9
              · skip
                go_simp
                refine hK.out _ _ trivial (fun hHeld => ?_)
                clear hK K
                try simp only [Act.put, List.setIfInBounds_toArray, List.set_cons_zero, List.set_cons_succ, List.getElem_toArray, List.getElem_cons_succ, List.getElem_cons_zero]
                refine wpAnyH_ready (rs := [14, 20]) (by kernel_rfl) (by simp) ?_
                refine AllReadyH.cons (o := _) rfl (fun K hK => ?_) (AllReadyH.cons (o := _) rfl (fun K hK => ?_) AllReadyH.nil)
                · skip
                  go_simp
                  go_at_call 9
                  (with_reducible refine FC1.out.mono ?_)
                  rintro e w6 ⟨op2, N2, nm2, B2, l2, k2, L2, C2, E2, rfl, b6, hp2⟩
                  have bb := FF1.out.trans (b6.mono FF1.out.size)
                  have zz := bb.size
                  have zb := b6.size
                  have nP := (N1P.out.drew).below b6 (N1P.out.drew).lt
                  refine hK.out _ _ trivial (fun hHeld => ?_)
                  clear hK K
                  try simp only [Act.put, List.setIfInBounds_toArray, List.set_cons_zero, List.set_cons_succ, List.getElem_toArray, List.getElem_cons_succ, List.getElem_cons_zero]
                  have zp : ((wr.alloc (.cells #[.int .i64 0, .int .i64 0, .string ⟨#[]⟩, .slice none 0 0] 40)).drew).heap.size = wr.heap.size + 1 := by first | rfl | (change ((wr.alloc (.cells #[.int .i64 0, .int .i64 0, .string ⟨#[]⟩, .slice none 0 0] 40))).heap.size = _; simp) | simp
                  refine wpAnyH_take (i := 15) (oi := _) (v := ?_) rfl (by kernel_rfl) (by kernel_rfl) (by kernel_rfl) (fun _ _ _ h => h) (Or.inl ⟨by rfl, ?_⟩) (by assumption) ?_
                  rotate_left
                  · intro w hSw
                    (try dsimp only at hSw)
                    go_simp
                    (try with_reducible rfl)
                  try simp only [Act.put, List.setIfInBounds_toArray, List.set_cons_zero, List.set_cons_succ, List.getElem_toArray, List.getElem_cons_succ, List.getElem_cons_zero]
                  refine wpAnyH_take (i := 16) (oi := _) (v := ?_) rfl (by kernel_rfl) (by kernel_rfl) (by kernel_rfl) (fun _ _ _ h => h) (Or.inl ⟨by rfl, ?_⟩) (by assumption) ?_
                  rotate_left
                  · intro w hSw
                    (try dsimp only at hSw)
                    go_simp
                    (try with_reducible rfl)
                  try simp only [Act.put, List.setIfInBounds_toArray, List.set_cons_zero, List.set_cons_succ, List.getElem_toArray, List.getElem_cons_succ, List.getElem_cons_zero]
                  refine wpAnyH_take (i := 17) (oi := _) (v := ?_) rfl (by kernel_rfl) (by kernel_rfl) (by kernel_rfl) (fun _ _ _ h => h) (Or.inl ⟨by rfl, ?_⟩) (by assumption) ?_
                  rotate_left
                  · intro w hSw
                    (try dsimp only at hSw)
                    go_simp
                    (try with_reducible rfl)
                  try simp only [Act.put, List.setIfInBounds_toArray, List.set_cons_zero, List.set_cons_succ, List.getElem_toArray, List.getElem_cons_succ, List.getElem_cons_zero]
                  refine wpAnyH_take (i := 18) (oi := _) (v := ?_) rfl (by kernel_rfl) (by kernel_rfl) (by kernel_rfl) (fun _ _ _ h => h) (Or.inl ⟨by rfl, ?_⟩) (by assumption) ?_
                  rotate_left
                  · intro w hSw
                    (try dsimp only at hSw)
                    go_simp
                    (try with_reducible rfl)
                  try simp only [Act.put, List.setIfInBounds_toArray, List.set_cons_zero, List.set_cons_succ, List.getElem_toArray, List.getElem_cons_succ, List.getElem_cons_zero]
                  refine wpAnyH_ready (rs := [20]) (by kernel_rfl) (by simp) ?_
                  refine AllReadyH.cons (o := _) rfl (fun K hK => ?_) AllReadyH.nil
                  go_simp
                  refine hK.out _ _ trivial (fun hHeld => ?_)
                  clear hK K
                  try simp only [Act.put, List.setIfInBounds_toArray, List.set_cons_zero, List.set_cons_succ, List.getElem_toArray, List.getElem_cons_succ, List.getElem_cons_zero]
                  have hP : Blk (w6.alloc (.cells #[.int .i64 0, .int .i64 0] 43)) wr.heap.size 40 #[.int .i64 0, .int .i64 0, .string ⟨#[]⟩, .slice none 0 0] := (nP.alloc _)
                  have hQ : Blk (w6.alloc (.cells #[.int .i64 0, .int .i64 0] 43)) w6.heap.size 43 #[.int .i64 0, .int .i64 0] := (Blk.new w6 43 #[.int .i64 0, .int .i64 0])
                  have K6 : Kept (fun _ => False) w6 (w6.alloc (.cells #[.int .i64 0, .int .i64 0] 43)) := (Kept.refl _ w6).alloc _
                  have FP : Below wr.heap.size wr (w6.alloc (.cells #[.int .i64 0, .int .i64 0] 43)) := (bb.alloc zz (.cells #[.int .i64 0, .int .i64 0] 43))
                  generalize (w6.alloc (.cells #[.int .i64 0, .int .i64 0] 43)) = Wp at *
                  have v0 : Wp.cell? ⟨wr.heap.size, 0, none⟩ = some (.int .i64 0) := hP.cell 0
                  have y0 := hP.frozen 0
                  have v1 : Wp.cell? ⟨wr.heap.size, 1, none⟩ = some (.int .i64 0) := hP.cell 1
                  have y1 := hP.frozen 1
                  have v2 : Wp.cell? ⟨wr.heap.size, 2, none⟩ = some (.string ⟨#[]⟩) := hP.cell 2
                  have y2 := hP.frozen 2
                  have v3 : Wp.cell? ⟨wr.heap.size, 3, none⟩ = some (.slice none 0 0) := hP.cell 3
                  have y3 := hP.frozen 3
                  refine wpAnyH_ready (rs := [21]) (by kernel_rfl) (by simp) ?_
                  refine AllReadyH.cons (o := _) rfl (fun K hK => ?_) AllReadyH.nil
                  go_simp
                  refine hK.out _ _ trivial (fun hHeld => ?_)
                  clear hK K
                  try simp only [Act.put, List.setIfInBounds_toArray, List.set_cons_zero, List.set_cons_succ, List.getElem_toArray, List.getElem_cons_succ, List.getElem_cons_zero]
                  have K8 := Kept.put4 Wp wr.heap.size (.int .i64 op2) (.int .i64 N2) (.string nm2) (.slice B2 l2 k2)
                  have P8 := hP.put4 (.int .i64 op2) (.int .i64 N2) (.string nm2) (.slice B2 l2 k2)
                  have Q8 := hQ.kept K8 (by omega)
                  have F8 : Below wr.heap.size wr _ := FP.trans (K8.to_below (by have := FP.size; omega) (fun q hq e => by omega))
                  clear v0 y0 v1 y1 v2 y2 v3 y3
                  generalize (((Wp.setCell ⟨wr.heap.size, 0, none⟩ (.int .i64 op2)).setCell ⟨wr.heap.size, 1, none⟩ (.int .i64 N2)).setCell ⟨wr.heap.size, 2, none⟩ (.string nm2)).setCell ⟨wr.heap.size, 3, none⟩ (.slice B2 l2 k2) = W8 at *
                  have v0 : W8.cell? ⟨w6.heap.size, 0, none⟩ = some (.int .i64 0) := Q8.cell 0
                  have y0 := Q8.frozen 0
                  have v1 : W8.cell? ⟨w6.heap.size, 1, none⟩ = some (.int .i64 0) := Q8.cell 1
                  have y1 := Q8.frozen 1
                  refine wpAnyH_ready (rs := [22]) (by kernel_rfl) (by simp) ?_
                  refine AllReadyH.cons (o := _) rfl (fun K hK => ?_) AllReadyH.nil
                  go_simp
                  refine hK.out _ _ trivial (fun hHeld => ?_)
                  clear hK K
                  try simp only [Act.put, List.setIfInBounds_toArray, List.set_cons_zero, List.set_cons_succ, List.getElem_toArray, List.getElem_cons_succ, List.getElem_cons_zero]
                  have K9 := Kept.put2 W8 w6.heap.size (.int .i64 L2) (.int .i64 C2)
                  have X9 := P8.kept K9 (by omega)
                  have F9 : Below wr.heap.size wr _ := F8.trans (K9.to_below (by have := F8.size; omega) (fun q hq e => by omega))
                  have K69 : Kept (fun z => z = wr.heap.size ∨ z = w6.heap.size) w6 _ := ((K6.mono (T := fun z => z = wr.heap.size ∨ z = w6.heap.size) (fun _ _ h => h.elim)).then_ K8 (fun _ _ e => .inl e)).then_ K9 (fun _ _ e => .inr e)
                  clear v0 y0 v1 y1
                  generalize (W8.setCell ⟨w6.heap.size, 0, none⟩ (.int .i64 L2)).setCell ⟨w6.heap.size, 1, none⟩ (.int .i64 C2) = W9 at *
                  refine wpAnyH_take (i := 23) (oi := _) (v := ?_) rfl (by kernel_rfl) (by kernel_rfl) (by kernel_rfl) (fun _ _ _ h => h) (Or.inl ⟨by rfl, ?_⟩) (by assumption) ?_
                  rotate_left
                  · intro w hSw
                    (try dsimp only at hSw)
                    go_simp
                    (try with_reducible rfl)
                  try simp only [Act.put, List.setIfInBounds_toArray, List.set_cons_zero, List.set_cons_succ, List.getElem_toArray, List.getElem_cons_succ, List.getElem_cons_zero]
                  refine wpAnyH_done (by kernel_rfl) ?_ _
                  go_goals
                  go_wp2_with fail
                  go_meet
                  case rel => exact read_mk hp2 X9 K69 (fun z hz hb e => by rcases e with e | e <;> omega) F9
                · skip
                  go_simp
                  refine hK.out _ _ trivial (fun hHeld => ?_)
                  clear hK K
                  try simp only [Act.put, List.setIfInBounds_toArray, List.set_cons_zero, List.set_cons_succ, List.getElem_toArray, List.getElem_cons_succ, List.getElem_cons_zero]
                  refine wpAnyH_ready (rs := [14]) (by kernel_rfl) (by simp) ?_
                  refine AllReadyH.cons (o := _) rfl (fun K hK => ?_) AllReadyH.nil
                  go_simp
                  go_at_call 9
                  (with_reducible refine FC3.out.mono ?_)
                  rintro e w6 ⟨op2, N2, nm2, B2, l2, k2, L2, C2, E2, rfl, b6, hp2⟩
                  have bb := FF3.out.trans (b6.mono FF3.out.size)
                  have zz := bb.size
                  have zb := b6.size
                  have nP := (N3P.out.drew).below b6 (N3P.out.drew).lt
                  have nQ := (N3Q.out.drew).below b6 (N3Q.out.drew).lt
                  refine hK.out _ _ trivial (fun hHeld => ?_)
                  clear hK K
                  try simp only [Act.put, List.setIfInBounds_toArray, List.set_cons_zero, List.set_cons_succ, List.getElem_toArray, List.getElem_cons_succ, List.getElem_cons_zero]
                  have zp : (((wr.alloc (.cells #[.int .i64 0, .int .i64 0, .string ⟨#[]⟩, .slice none 0 0] 40)).alloc (.cells #[.int .i64 0, .int .i64 0] 43)).drew).heap.size = wr.heap.size + 2 := by first | rfl | (change (((wr.alloc (.cells #[.int .i64 0, .int .i64 0, .string ⟨#[]⟩, .slice none 0 0] 40)).alloc (.cells #[.int .i64 0, .int .i64 0] 43))).heap.size = _; simp) | simp
                  refine wpAnyH_take (i := 15) (oi := _) (v := ?_) rfl (by kernel_rfl) (by kernel_rfl) (by kernel_rfl) (fun _ _ _ h => h) (Or.inl ⟨by rfl, ?_⟩) (by assumption) ?_
                  rotate_left
                  · intro w hSw
                    (try dsimp only at hSw)
                    go_simp
                    (try with_reducible rfl)
                  try simp only [Act.put, List.setIfInBounds_toArray, List.set_cons_zero, List.set_cons_succ, List.getElem_toArray, List.getElem_cons_succ, List.getElem_cons_zero]
                  refine wpAnyH_take (i := 16) (oi := _) (v := ?_) rfl (by kernel_rfl) (by kernel_rfl) (by kernel_rfl) (fun _ _ _ h => h) (Or.inl ⟨by rfl, ?_⟩) (by assumption) ?_
                  rotate_left
                  · intro w hSw
                    (try dsimp only at hSw)
                    go_simp
                    (try with_reducible rfl)
                  try simp only [Act.put, List.setIfInBounds_toArray, List.set_cons_zero, List.set_cons_succ, List.getElem_toArray, List.getElem_cons_succ, List.getElem_cons_zero]
                  refine wpAnyH_take (i := 17) (oi := _) (v := ?_) rfl (by kernel_rfl) (by kernel_rfl) (by kernel_rfl) (fun _ _ _ h => h) (Or.inl ⟨by rfl, ?_⟩) (by assumption) ?_
                  rotate_left
                  · intro w hSw
                    (try dsimp only at hSw)
                    go_simp
                    (try with_reducible rfl)
                  try simp only [Act.put, List.setIfInBounds_toArray, List.set_cons_zero, List.set_cons_succ, List.getElem_toArray, List.getElem_cons_succ, List.getElem_cons_zero]
                  refine wpAnyH_take (i := 18) (oi := _) (v := ?_) rfl (by kernel_rfl) (by kernel_rfl) (by kernel_rfl) (fun _ _ _ h => h) (Or.inl ⟨by rfl, ?_⟩) (by assumption) ?_
                  rotate_left
                  · intro w hSw
                    (try dsimp only at hSw)
                    go_simp
                    (try with_reducible rfl)
                  try simp only [Act.put, List.setIfInBounds_toArray, List.set_cons_zero, List.set_cons_succ, List.getElem_toArray, List.getElem_cons_succ, List.getElem_cons_zero]
                  have hP : Blk w6 wr.heap.size 40 #[.int .i64 0, .int .i64 0, .string ⟨#[]⟩, .slice none 0 0] := nP
                  have hQ : Blk w6 (wr.heap.size + 1) 43 #[.int .i64 0, .int .i64 0] := nQ
                  have K6 : Kept (fun _ => False) w6 w6 := Kept.refl _ w6
                  have FP : Below wr.heap.size wr w6 := bb
                  have v0 : w6.cell? ⟨wr.heap.size, 0, none⟩ = some (.int .i64 0) := hP.cell 0
                  have y0 := hP.frozen 0
                  have v1 : w6.cell? ⟨wr.heap.size, 1, none⟩ = some (.int .i64 0) := hP.cell 1
                  have y1 := hP.frozen 1
                  have v2 : w6.cell? ⟨wr.heap.size, 2, none⟩ = some (.string ⟨#[]⟩) := hP.cell 2
                  have y2 := hP.frozen 2
                  have v3 : w6.cell? ⟨wr.heap.size, 3, none⟩ = some (.slice none 0 0) := hP.cell 3
                  have y3 := hP.frozen 3
                  refine wpAnyH_ready (rs := [21]) (by kernel_rfl) (by simp) ?_
                  refine AllReadyH.cons (o := _) rfl (fun K hK => ?_) AllReadyH.nil
                  go_simp
                  refine hK.out _ _ trivial (fun hHeld => ?_)
                  clear hK K
                  try simp only [Act.put, List.setIfInBounds_toArray, List.set_cons_zero, List.set_cons_succ, List.getElem_toArray, List.getElem_cons_succ, List.getElem_cons_zero]
                  have K8 := Kept.put4 w6 wr.heap.size (.int .i64 op2) (.int .i64 N2) (.string nm2) (.slice B2 l2 k2)
                  have P8 := hP.put4 (.int .i64 op2) (.int .i64 N2) (.string nm2) (.slice B2 l2 k2)
                  have Q8 := hQ.kept K8 (by omega)
                  have F8 : Below wr.heap.size wr _ := FP.trans (K8.to_below (by have := FP.size; omega) (fun q hq e => by omega))
                  clear v0 y0 v1 y1 v2 y2 v3 y3
                  generalize (((w6.setCell ⟨wr.heap.size, 0, none⟩ (.int .i64 op2)).setCell ⟨wr.heap.size, 1, none⟩ (.int .i64 N2)).setCell ⟨wr.heap.size, 2, none⟩ (.string nm2)).setCell ⟨wr.heap.size, 3, none⟩ (.slice B2 l2 k2) = W8 at *
                  have v0 : W8.cell? ⟨(wr.heap.size + 1), 0, none⟩ = some (.int .i64 0) := Q8.cell 0
                  have y0 := Q8.frozen 0
                  have v1 : W8.cell? ⟨(wr.heap.size + 1), 1, none⟩ = some (.int .i64 0) := Q8.cell 1
                  have y1 := Q8.frozen 1
                  refine wpAnyH_ready (rs := [22]) (by kernel_rfl) (by simp) ?_
                  refine AllReadyH.cons (o := _) rfl (fun K hK => ?_) AllReadyH.nil
                  go_simp
                  refine hK.out _ _ trivial (fun hHeld => ?_)
                  clear hK K
                  try simp only [Act.put, List.setIfInBounds_toArray, List.set_cons_zero, List.set_cons_succ, List.getElem_toArray, List.getElem_cons_succ, List.getElem_cons_zero]
                  have K9 := Kept.put2 W8 (wr.heap.size + 1) (.int .i64 L2) (.int .i64 C2)
                  have X9 := P8.kept K9 (by omega)
                  have F9 : Below wr.heap.size wr _ := F8.trans (K9.to_below (by have := F8.size; omega) (fun q hq e => by omega))
                  have K69 : Kept (fun z => z = wr.heap.size ∨ z = (wr.heap.size + 1)) w6 _ := ((K6.mono (T := fun z => z = wr.heap.size ∨ z = (wr.heap.size + 1)) (fun _ _ h => h.elim)).then_ K8 (fun _ _ e => .inl e)).then_ K9 (fun _ _ e => .inr e)
                  clear v0 y0 v1 y1
                  generalize (W8.setCell ⟨(wr.heap.size + 1), 0, none⟩ (.int .i64 L2)).setCell ⟨(wr.heap.size + 1), 1, none⟩ (.int .i64 C2) = W9 at *
                  refine wpAnyH_take (i := 23) (oi := _) (v := ?_) rfl (by kernel_rfl) (by kernel_rfl) (by kernel_rfl) (fun _ _ _ h => h) (Or.inl ⟨by rfl, ?_⟩) (by assumption) ?_
                  rotate_left
                  · intro w hSw
                    (try dsimp only at hSw)
                    go_simp
                    (try with_reducible rfl)
                  try simp only [Act.put, List.setIfInBounds_toArray, List.set_cons_zero, List.set_cons_succ, List.getElem_toArray, List.getElem_cons_succ, List.getElem_cons_zero]
                  refine wpAnyH_done (by kernel_rfl) ?_ _
                  go_goals
                  go_wp2_with fail
                  go_meet
                  case rel => exact read_mk hp2 X9 K69 (fun z hz hb e => by rcases e with e | e <;> omega) F9
              · skip
                go_simp
                refine hK.out _ _ trivial (fun hHeld => ?_)
                clear hK K
                try simp only [Act.put, List.setIfInBounds_toArray, List.set_cons_zero, List.set_cons_succ, List.getElem_toArray, List.getElem_cons_succ, List.getElem_cons_zero]
                refine wpAnyH_ready (rs := [14, 19]) (by kernel_rfl) (by simp) ?_
                refine AllReadyH.cons (o := _) rfl (fun K hK => ?_) (AllReadyH.cons (o := _) rfl (fun K hK => ?_) AllReadyH.nil)
                · skip
                  go_simp
                  go_at_call 9
                  (with_reducible refine FC2.out.mono ?_)
                  rintro e w6 ⟨op2, N2, nm2, B2, l2, k2, L2, C2, E2, rfl, b6, hp2⟩
                  have bb := FF2.out.trans (b6.mono FF2.out.size)
                  have zz := bb.size
                  have zb := b6.size
                  have nQ := (N2Q.out.drew).below b6 (N2Q.out.drew).lt
                  refine hK.out _ _ trivial (fun hHeld => ?_)
                  clear hK K
                  try simp only [Act.put, List.setIfInBounds_toArray, List.set_cons_zero, List.set_cons_succ, List.getElem_toArray, List.getElem_cons_succ, List.getElem_cons_zero]
                  have zp : ((wr.alloc (.cells #[.int .i64 0, .int .i64 0] 43)).drew).heap.size = wr.heap.size + 1 := by first | rfl | (change ((wr.alloc (.cells #[.int .i64 0, .int .i64 0] 43))).heap.size = _; simp) | simp
                  refine wpAnyH_take (i := 15) (oi := _) (v := ?_) rfl (by kernel_rfl) (by kernel_rfl) (by kernel_rfl) (fun _ _ _ h => h) (Or.inl ⟨by rfl, ?_⟩) (by assumption) ?_
                  rotate_left
                  · intro w hSw
                    (try dsimp only at hSw)
                    go_simp
                    (try with_reducible rfl)
                  try simp only [Act.put, List.setIfInBounds_toArray, List.set_cons_zero, List.set_cons_succ, List.getElem_toArray, List.getElem_cons_succ, List.getElem_cons_zero]
                  refine wpAnyH_take (i := 16) (oi := _) (v := ?_) rfl (by kernel_rfl) (by kernel_rfl) (by kernel_rfl) (fun _ _ _ h => h) (Or.inl ⟨by rfl, ?_⟩) (by assumption) ?_
                  rotate_left
                  · intro w hSw
                    (try dsimp only at hSw)
                    go_simp
                    (try with_reducible rfl)
                  try simp only [Act.put, List.setIfInBounds_toArray, List.set_cons_zero, List.set_cons_succ, List.getElem_toArray, List.getElem_cons_succ, List.getElem_cons_zero]
                  refine wpAnyH_take (i := 17) (oi := _) (v := ?_) rfl (by kernel_rfl) (by kernel_rfl) (by kernel_rfl) (fun _ _ _ h => h) (Or.inl ⟨by rfl, ?_⟩) (by assumption) ?_
                  rotate_left
                  · intro w hSw
                    (try dsimp only at hSw)
                    go_simp
                    (try with_reducible rfl)
                  try simp only [Act.put, List.setIfInBounds_toArray, List.set_cons_zero, List.set_cons_succ, List.getElem_toArray, List.getElem_cons_succ, List.getElem_cons_zero]
                  refine wpAnyH_take (i := 18) (oi := _) (v := ?_) rfl (by kernel_rfl) (by kernel_rfl) (by kernel_rfl) (fun _ _ _ h => h) (Or.inl ⟨by rfl, ?_⟩) (by assumption) ?_
                  rotate_left
                  · intro w hSw
                    (try dsimp only at hSw)
                    go_simp
                    (try with_reducible rfl)
                  try simp only [Act.put, List.setIfInBounds_toArray, List.set_cons_zero, List.set_cons_succ, List.getElem_toArray, List.getElem_cons_succ, List.getElem_cons_zero]
                  refine wpAnyH_ready (rs := [19]) (by kernel_rfl) (by simp) ?_
                  refine AllReadyH.cons (o := _) rfl (fun K hK => ?_) AllReadyH.nil
                  go_simp
                  refine hK.out _ _ trivial (fun hHeld => ?_)
                  clear hK K
                  try simp only [Act.put, List.setIfInBounds_toArray, List.set_cons_zero, List.set_cons_succ, List.getElem_toArray, List.getElem_cons_succ, List.getElem_cons_zero]
                  have hP : Blk (w6.alloc (.cells #[.int .i64 0, .int .i64 0, .string ⟨#[]⟩, .slice none 0 0] 40)) w6.heap.size 40 #[.int .i64 0, .int .i64 0, .string ⟨#[]⟩, .slice none 0 0] := (Blk.new w6 40 #[.int .i64 0, .int .i64 0, .string ⟨#[]⟩, .slice none 0 0])
                  have hQ : Blk (w6.alloc (.cells #[.int .i64 0, .int .i64 0, .string ⟨#[]⟩, .slice none 0 0] 40)) wr.heap.size 43 #[.int .i64 0, .int .i64 0] := (nQ.alloc _)
                  have K6 : Kept (fun _ => False) w6 (w6.alloc (.cells #[.int .i64 0, .int .i64 0, .string ⟨#[]⟩, .slice none 0 0] 40)) := (Kept.refl _ w6).alloc _
                  have FP : Below wr.heap.size wr (w6.alloc (.cells #[.int .i64 0, .int .i64 0, .string ⟨#[]⟩, .slice none 0 0] 40)) := (bb.alloc zz (.cells #[.int .i64 0, .int .i64 0, .string ⟨#[]⟩, .slice none 0 0] 40))
                  generalize (w6.alloc (.cells #[.int .i64 0, .int .i64 0, .string ⟨#[]⟩, .slice none 0 0] 40)) = Wp at *
                  have v0 : Wp.cell? ⟨w6.heap.size, 0, none⟩ = some (.int .i64 0) := hP.cell 0
                  have y0 := hP.frozen 0
                  have v1 : Wp.cell? ⟨w6.heap.size, 1, none⟩ = some (.int .i64 0) := hP.cell 1
                  have y1 := hP.frozen 1
                  have v2 : Wp.cell? ⟨w6.heap.size, 2, none⟩ = some (.string ⟨#[]⟩) := hP.cell 2
                  have y2 := hP.frozen 2
                  have v3 : Wp.cell? ⟨w6.heap.size, 3, none⟩ = some (.slice none 0 0) := hP.cell 3
                  have y3 := hP.frozen 3
                  refine wpAnyH_ready (rs := [21]) (by kernel_rfl) (by simp) ?_
                  refine AllReadyH.cons (o := _) rfl (fun K hK => ?_) AllReadyH.nil
                  go_simp
                  refine hK.out _ _ trivial (fun hHeld => ?_)
                  clear hK K
                  try simp only [Act.put, List.setIfInBounds_toArray, List.set_cons_zero, List.set_cons_succ, List.getElem_toArray, List.getElem_cons_succ, List.getElem_cons_zero]
                  have K8 := Kept.put4 Wp w6.heap.size (.int .i64 op2) (.int .i64 N2) (.string nm2) (.slice B2 l2 k2)
                  have P8 := hP.put4 (.int .i64 op2) (.int .i64 N2) (.string nm2) (.slice B2 l2 k2)
                  have Q8 := hQ.kept K8 (by omega)
                  have F8 : Below wr.heap.size wr _ := FP.trans (K8.to_below (by have := FP.size; omega) (fun q hq e => by omega))
                  clear v0 y0 v1 y1 v2 y2 v3 y3
                  generalize (((Wp.setCell ⟨w6.heap.size, 0, none⟩ (.int .i64 op2)).setCell ⟨w6.heap.size, 1, none⟩ (.int .i64 N2)).setCell ⟨w6.heap.size, 2, none⟩ (.string nm2)).setCell ⟨w6.heap.size, 3, none⟩ (.slice B2 l2 k2) = W8 at *
                  have v0 : W8.cell? ⟨wr.heap.size, 0, none⟩ = some (.int .i64 0) := Q8.cell 0
                  have y0 := Q8.frozen 0
                  have v1 : W8.cell? ⟨wr.heap.size, 1, none⟩ = some (.int .i64 0) := Q8.cell 1
                  have y1 := Q8.frozen 1
                  refine wpAnyH_ready (rs := [22]) (by kernel_rfl) (by simp) ?_
                  refine AllReadyH.cons (o := _) rfl (fun K hK => ?_) AllReadyH.nil
                  go_simp
                  refine hK.out _ _ trivial (fun hHeld => ?_)
                  clear hK K
                  try simp only [Act.put, List.setIfInBounds_toArray, List.set_cons_zero, List.set_cons_succ, List.getElem_toArray, List.getElem_cons_succ, List.getElem_cons_zero]
                  have K9 := Kept.put2 W8 wr.heap.size (.int .i64 L2) (.int .i64 C2)
                  have X9 := P8.kept K9 (by omega)
                  have F9 : Below wr.heap.size wr _ := F8.trans (K9.to_below (by have := F8.size; omega) (fun q hq e => by omega))
                  have K69 : Kept (fun z => z = w6.heap.size ∨ z = wr.heap.size) w6 _ := ((K6.mono (T := fun z => z = w6.heap.size ∨ z = wr.heap.size) (fun _ _ h => h.elim)).then_ K8 (fun _ _ e => .inl e)).then_ K9 (fun _ _ e => .inr e)
                  clear v0 y0 v1 y1
                  generalize (W8.setCell ⟨wr.heap.size, 0, none⟩ (.int .i64 L2)).setCell ⟨wr.heap.size, 1, none⟩ (.int .i64 C2) = W9 at *
                  refine wpAnyH_take (i := 23) (oi := _) (v := ?_) rfl (by kernel_rfl) (by kernel_rfl) (by kernel_rfl) (fun _ _ _ h => h) (Or.inl ⟨by rfl, ?_⟩) (by assumption) ?_
                  rotate_left
                  · intro w hSw
                    (try dsimp only at hSw)
                    go_simp
                    (try with_reducible rfl)
                  try simp only [Act.put, List.setIfInBounds_toArray, List.set_cons_zero, List.set_cons_succ, List.getElem_toArray, List.getElem_cons_succ, List.getElem_cons_zero]
                  refine wpAnyH_done (by kernel_rfl) ?_ _
                  go_goals
                  go_wp2_with fail
                  go_meet
                  case rel => exact read_mk hp2 X9 K69 (fun z hz hb e => by rcases e with e | e <;> omega) F9
                · skip
                  go_simp
                  refine hK.out _ _ trivial (fun hHeld => ?_)
                  clear hK K
                  try simp only [Act.put, List.setIfInBounds_toArray, List.set_cons_zero, List.set_cons_succ, List.getElem_toArray, List.getElem_cons_succ, List.getElem_cons_zero]
                  refine wpAnyH_ready (rs := [14]) (by kernel_rfl) (by simp) ?_
                  refine AllReadyH.cons (o := _) rfl (fun K hK => ?_) AllReadyH.nil
                  go_simp
                  go_at_call 9
                  (with_reducible refine FC4.out.mono ?_)
                  rintro e w6 ⟨op2, N2, nm2, B2, l2, k2, L2, C2, E2, rfl, b6, hp2⟩
                  have bb := FF4.out.trans (b6.mono FF4.out.size)
                  have zz := bb.size
                  have zb := b6.size
                  have nQ := (N4Q.out.drew).below b6 (N4Q.out.drew).lt
                  have nP := (N4P.out.drew).below b6 (N4P.out.drew).lt
                  refine hK.out _ _ trivial (fun hHeld => ?_)
                  clear hK K
                  try simp only [Act.put, List.setIfInBounds_toArray, List.set_cons_zero, List.set_cons_succ, List.getElem_toArray, List.getElem_cons_succ, List.getElem_cons_zero]
                  have zp : (((wr.alloc (.cells #[.int .i64 0, .int .i64 0] 43)).alloc (.cells #[.int .i64 0, .int .i64 0, .string ⟨#[]⟩, .slice none 0 0] 40)).drew).heap.size = wr.heap.size + 2 := by first | rfl | (change (((wr.alloc (.cells #[.int .i64 0, .int .i64 0] 43)).alloc (.cells #[.int .i64 0, .int .i64 0, .string ⟨#[]⟩, .slice none 0 0] 40))).heap.size = _; simp) | simp
                  refine wpAnyH_take (i := 15) (oi := _) (v := ?_) rfl (by kernel_rfl) (by kernel_rfl) (by kernel_rfl) (fun _ _ _ h => h) (Or.inl ⟨by rfl, ?_⟩) (by assumption) ?_
                  rotate_left
                  · intro w hSw
                    (try dsimp only at hSw)
                    go_simp
                    (try with_reducible rfl)
                  try simp only [Act.put, List.setIfInBounds_toArray, List.set_cons_zero, List.set_cons_succ, List.getElem_toArray, List.getElem_cons_succ, List.getElem_cons_zero]
                  refine wpAnyH_take (i := 16) (oi := _) (v := ?_) rfl (by kernel_rfl) (by kernel_rfl) (by kernel_rfl) (fun _ _ _ h => h) (Or.inl ⟨by rfl, ?_⟩) (by assumption) ?_
                  rotate_left
                  · intro w hSw
                    (try dsimp only at hSw)
                    go_simp
                    (try with_reducible rfl)
                  try simp only [Act.put, List.setIfInBounds_toArray, List.set_cons_zero, List.set_cons_succ, List.getElem_toArray, List.getElem_cons_succ, List.getElem_cons_zero]
                  refine wpAnyH_take (i := 17) (oi := _) (v := ?_) rfl (by kernel_rfl) (by kernel_rfl) (by kernel_rfl) (fun _ _ _ h => h) (Or.inl ⟨by rfl, ?_⟩) (by assumption) ?_
                  rotate_left
                  · intro w hSw
                    (try dsimp only at hSw)
                    go_simp
                    (try with_reducible rfl)
                  try simp only [Act.put, List.setIfInBounds_toArray, List.set_cons_zero, List.set_cons_succ, List.getElem_toArray, List.getElem_cons_succ, List.getElem_cons_zero]
                  refine wpAnyH_take (i := 18) (oi := _) (v := ?_) rfl (by kernel_rfl) (by kernel_rfl) (by kernel_rfl) (fun _ _ _ h => h) (Or.inl ⟨by rfl, ?_⟩) (by assumption) ?_
                  rotate_left
                  · intro w hSw
                    (try dsimp only at hSw)
                    go_simp
                    (try with_reducible rfl)
                  try simp only [Act.put, List.setIfInBounds_toArray, List.set_cons_zero, List.set_cons_succ, List.getElem_toArray, List.getElem_cons_succ, List.getElem_cons_zero]
                  have hP : Blk w6 (wr.heap.size + 1) 40 #[.int .i64 0, .int .i64 0, .string ⟨#[]⟩, .slice none 0 0] := nP
                  have hQ : Blk w6 wr.heap.size 43 #[.int .i64 0, .int .i64 0] := nQ
                  have K6 : Kept (fun _ => False) w6 w6 := Kept.refl _ w6
                  have FP : Below wr.heap.size wr w6 := bb
                  have v0 : w6.cell? ⟨(wr.heap.size + 1), 0, none⟩ = some (.int .i64 0) := hP.cell 0
                  have y0 := hP.frozen 0
                  have v1 : w6.cell? ⟨(wr.heap.size + 1), 1, none⟩ = some (.int .i64 0) := hP.cell 1
                  have y1 := hP.frozen 1
                  have v2 : w6.cell? ⟨(wr.heap.size + 1), 2, none⟩ = some (.string ⟨#[]⟩) := hP.cell 2
                  have y2 := hP.frozen 2
                  have v3 : w6.cell? ⟨(wr.heap.size + 1), 3, none⟩ = some (.slice none 0 0) := hP.cell 3
                  have y3 := hP.frozen 3
                  refine wpAnyH_ready (rs := [21]) (by kernel_rfl) (by simp) ?_
                  refine AllReadyH.cons (o := _) rfl (fun K hK => ?_) AllReadyH.nil
                  go_simp
                  refine hK.out _ _ trivial (fun hHeld => ?_)
                  clear hK K
                  try simp only [Act.put, List.setIfInBounds_toArray, List.set_cons_zero, List.set_cons_succ, List.getElem_toArray, List.getElem_cons_succ, List.getElem_cons_zero]
                  have K8 := Kept.put4 w6 (wr.heap.size + 1) (.int .i64 op2) (.int .i64 N2) (.string nm2) (.slice B2 l2 k2)
                  have P8 := hP.put4 (.int .i64 op2) (.int .i64 N2) (.string nm2) (.slice B2 l2 k2)
                  have Q8 := hQ.kept K8 (by omega)
                  have F8 : Below wr.heap.size wr _ := FP.trans (K8.to_below (by have := FP.size; omega) (fun q hq e => by omega))
                  clear v0 y0 v1 y1 v2 y2 v3 y3
                  generalize (((w6.setCell ⟨(wr.heap.size + 1), 0, none⟩ (.int .i64 op2)).setCell ⟨(wr.heap.size + 1), 1, none⟩ (.int .i64 N2)).setCell ⟨(wr.heap.size + 1), 2, none⟩ (.string nm2)).setCell ⟨(wr.heap.size + 1), 3, none⟩ (.slice B2 l2 k2) = W8 at *
                  have v0 : W8.cell? ⟨wr.heap.size, 0, none⟩ = some (.int .i64 0) := Q8.cell 0
                  have y0 := Q8.frozen 0
                  have v1 : W8.cell? ⟨wr.heap.size, 1, none⟩ = some (.int .i64 0) := Q8.cell 1
                  have y1 := Q8.frozen 1
                  refine wpAnyH_ready (rs := [22]) (by kernel_rfl) (by simp) ?_
                  refine AllReadyH.cons (o := _) rfl (fun K hK => ?_) AllReadyH.nil
                  go_simp
                  refine hK.out _ _ trivial (fun hHeld => ?_)
                  clear hK K
                  try simp only [Act.put, List.setIfInBounds_toArray, List.set_cons_zero, List.set_cons_succ, List.getElem_toArray, List.getElem_cons_succ, List.getElem_cons_zero]
                  have K9 := Kept.put2 W8 wr.heap.size (.int .i64 L2) (.int .i64 C2)
                  have X9 := P8.kept K9 (by omega)
                  have F9 : Below wr.heap.size wr _ := F8.trans (K9.to_below (by have := F8.size; omega) (fun q hq e => by omega))
                  have K69 : Kept (fun z => z = (wr.heap.size + 1) ∨ z = wr.heap.size) w6 _ := ((K6.mono (T := fun z => z = (wr.heap.size + 1) ∨ z = wr.heap.size) (fun _ _ h => h.elim)).then_ K8 (fun _ _ e => .inl e)).then_ K9 (fun _ _ e => .inr e)
                  clear v0 y0 v1 y1
                  generalize (W8.setCell ⟨wr.heap.size, 0, none⟩ (.int .i64 L2)).setCell ⟨wr.heap.size, 1, none⟩ (.int .i64 C2) = W9 at *
                  refine wpAnyH_take (i := 23) (oi := _) (v := ?_) rfl (by kernel_rfl) (by kernel_rfl) (by kernel_rfl) (fun _ _ _ h => h) (Or.inl ⟨by rfl, ?_⟩) (by assumption) ?_
                  rotate_left
                  · intro w hSw
                    (try dsimp only at hSw)
                    go_simp
                    (try with_reducible rfl)
                  try simp only [Act.put, List.setIfInBounds_toArray, List.set_cons_zero, List.set_cons_succ, List.getElem_toArray, List.getElem_cons_succ, List.getElem_cons_zero]
                  refine wpAnyH_done (by kernel_rfl) ?_ _
                  go_goals
                  go_wp2_with fail
                  go_meet
                  case rel => exact read_mk hp2 X9 K69 (fun z hz hb e => by rcases e with e | e <;> omega) F9
            case rest =>
              obtain ⟨g2, op2, N2, nm2, B2, l2, k2, E2, x2, n2, rfl, rfl, y2, gc2, ft2, hc2, br2⟩ := hcut
              obtain ⟨W2, rfl⟩ : ∃ x, x = wc := ⟨_, rfl⟩
              have G7 := Lib.hid gc2
              have F7 := Lib.hid ft2
              have q0 := y2.cell 0
              have q1 := y2.cell 1
              have q2 := y2.cell 2
              have q3 := y2.cell 3
              have F9 := Lib.hid (Fw.out.trans ((br2).mono Fw.out.size))
              have TB9 := Lib.hid ((TBw.out).below (br2) HBw.out)
              have HB9 := Lib.hid (Nat.le_trans HBw.out (br2).size)
              clear gc2 ft2 br2
              have PX2 := Lib.hid (Expr_any base n2 _ op2 N2 nm2 B2 l2 k2 x2 W2 TB9.out HB9.out G7.out F7.out)
              go_wp2_with fail
              refine PX2.out.mono ?_
              rintro e V3 ⟨b7, h7⟩
              have Fx := Lib.hid (F9.out.trans ((b7).mono F9.out.size))
              have TBx := Lib.hid ((TB9.out).below (b7) HB9.out)
              have HBx := Lib.hid (Nat.le_trans HB9.out (b7).size)
              clear b7 PX2 q0 q1 q2 q3 y2
              rcases hc2 with ⟨rfl, y, hy, rfl⟩ | hE2
              · rcases h7 with ⟨u, hu, rfl⟩ | ⟨hno, rfl⟩
                · have hne : u ≠ t := fun e => by
                    rw [HU.out] at hy
                    exact brackets_law hfk2 HF40.out HK41.out hy (e ▸ hu.1)
                  have htl : ((str u).toList == T.toList) = false := by
                    rw [tl_eq, tl_eq, HTL.out, str_list]
                    simpa using hne
                  have TD := Lib.hid (told_any base V3 TBx.out HBx.out)
                  go_wp2_with fail
                  refine TD.out.mono ?_
                  rintro e wt ⟨rfl, bt⟩
                  go_wp2_with fail
                  go_ret
                  exact ⟨rfl, Fx.out.trans (bt.mono Fx.out.size)⟩
                · have TD := Lib.hid (told_any base V3 TBx.out HBx.out)
                  go_wp2_with fail
                  refine TD.out.mono ?_
                  rintro e wt ⟨rfl, bt⟩
                  go_wp2_with fail
                  go_ret
                  exact ⟨rfl, Fx.out.trans (bt.mono Fx.out.size)⟩
              · rcases h7 with ⟨u, hu, rfl⟩ | ⟨hno, rfl⟩
                · have TD := Lib.hid (told_any base V3 TBx.out HBx.out)
                  go_wp2_with fail
                  refine TD.out.mono ?_
                  rintro e wt ⟨rfl, bt⟩
                  go_wp2_with fail
                  go_ret
                  exact ⟨rfl, Fx.out.trans (bt.mono Fx.out.size)⟩
                · have TD := Lib.hid (told_any base V3 TBx.out HBx.out)
                  go_wp2_with fail
                  refine TD.out.mono ?_
                  rintro e wt ⟨rfl, bt⟩
                  go_wp2_with fail
                  go_ret
                  exact ⟨rfl, Fx.out.trans (bt.mono Fx.out.size)⟩
          have z1 : ((d - 1 : Int) == 0) = false := by simp; omega
          clear h40 h41
          go_wp2_with fail
          go_roundw
          case rel => exact ⟨k + 1, d - 1, by omega, by omega, by go_num, rfl, hD, by omega, by omega, fun _ => by omega, by trivial⟩
          case measure => simp [intOf]; omega
        have hD : Hid (d = bal ((t.drop f).take (k + 1 - f))) := by
          have h3 : stepD c = 0 := by unfold stepD; rw [if_neg h40, if_neg h41]
          rw [Hid, HNX.out, h3]
          omega
        have f41 : ¬ ((c.toNat : Nat) : Int) = 41 := ne_byte (by decide) h41
        have b41 : ((((c.toNat : Nat) : Int)) == 41) = false := by simpa using f41
        have z1 : ((d : Int) == 0) = false := by simp; omega
        clear h40 h41
        go_wp2_with fail
        go_roundw
        case rel => exact ⟨k + 1, d, by omega, by omega, by go_num, rfl, hD, by omega, by omega, fun _ => by omega, by trivial⟩
        case measure => simp [intOf]; omega
      exfalso
      obtain rfl : k = T.size := by omega
      have h1 := hd1 (by omega)
      have h2 := HBA.out.2 f
      have h3 : (t.drop f).take (T.size - f) = t.drop f := List.take_of_length_le (by rw [List.length_drop, HTZ.out]; omega)
      have h4 := hd.out
      rw [h3] at h4
      omega
end Go.Proofs.YtdgekckedchjbaaDoor
