/-
  LexPlaces: the walk.
-/
import Derived.Test.YtlfckmekfncboaaDoorL15
import Derived.Test.YtlfckmekfncboaaDoorL22
import Derived.IntWalk
import Derived.Deep.RegionHeld3
import Derived.Deep.DeepCutAuto
namespace Go.Proofs.YtlfckmekfncboaaDoor
open Go.RowKit

theorem info_int : (Tryd.prog.info? 3).map (fun i => (i.zero, i.size, i.bytes)) = some (some (.int .i64 0), 1, 8) := by kernel_rfl
def ints (l : List Nat) : List Value := l.map fun (n : Nat) => Value.int .i64 (n : Int)
theorem ints_one (l : List Nat) : ∀ u ∈ ints l, u.oneCell' = true := by
  intro u hu
  simp only [ints, List.mem_map] at hu
  obtain ⟨n, _, rfl⟩ := hu
  rfl
theorem own_below {w w' : World} {base B size n : Nat} {e : TypeId} {v : Value} {xs : List Value} (h : w.ownsRow base e size v n xs) (hb : Below B w w') (hB : w.heap.size ≤ B) : w'.ownsRow base e size v n xs := by
  refine ⟨h.1, ?_⟩
  rcases h.2 with h2 | ⟨g, cap, cur, hv, hg, hh, r⟩
  · exact .inl h2
  · have hlt : g < w.heap.size := Blk.lt (t := e) (cs := cur) hh
    exact .inr ⟨g, cap, cur, hv, hg, (hb.block g (by omega)).trans hh, r⟩

theorem ne_ten {c : UInt8} (h : ¬ c = 10) : ¬ (c.toNat : Int) = 10 := fun h1 => h (UInt8.toNat_inj.1 (by rw [show c.toNat = 10 by omega]; rfl))
theorem gap_end {X : List UInt8} {p j i : Nat} (hiX : i < X.length) (hji : j ≤ i) (hip : i < p) (h10 : X[i] = 10) (hno : ∀ m (hm : m < X.length), j ≤ m → m < i → X[m] ≠ 10) (hg : Gap X p (j + preN nlB (X.drop j))) : Gap X p (i + 1) := by
  have hn : preN nlB (X.drop j) = i - j := by
    refine preN_eq (by rw [List.length_drop]; omega) (fun m hm h => ?_) (fun hm => ?_)
    · rw [List.getElem_drop]
      have h1 := hno (j + m) (by rw [List.length_drop] at hm; omega) (by omega) (by omega)
      unfold nlB
      rw [decide_eq_true_iff]
      intro h2
      exact h1 (UInt8.toNat_inj.1 (by rw [h2]; rfl))
    · rw [List.getElem_drop]
      simp only [show j + (i - j) = i by omega, h10]
      decide
  rw [hn, show j + (i - j) = i by omega] at hg
  cases hg with
  | done => omega
  | blank _ _ _ h => exact h
  | note h hc _ _ =>
    rw [List.getElem?_eq_getElem hiX, h10] at hc
    exact absurd (Option.some.inj hc) (by decide)

set_option maxHeartbeats 8000000 in
set_option maxRecDepth 100000 in
theorem lexPlaces_walk (s : ByteArray) (w : World) (hT : Spaces w) :
    Calls Tryd.prog 3 #[.string s] w (Tells w true) := by
  have HT := Lib.hid hT
  clear hT
  go_enter Tryd.func3, Tryd.ntmps3
  have y1 : min s.size 400 ≤ s.size := by omega
  have y3 : (0 : Int) ≤ (min s.size 400 : Nat) := by omega
  go_wp2_with fail
  obtain ⟨X, hX, hXl⟩ : ∃ X, s.extract 0 (min (s.size : Int) 400).toNat = str X ∧ X.length ≤ 400 := ⟨_, ext_str s _, by simp; omega⟩
  rw [hX]
  clear hX y1 y3
  obtain ⟨S, hS⟩ : ∃ S, str X = S := ⟨_, rfl⟩
  have sS : S.size = X.length := by rw [← hS, str_size]
  have lS : S.data.toList = X := by rw [← hS, str_list]
  rw [hS]
  have HS := Lib.hid hS
  have HLS := Lib.hid lS
  clear hS lS
  refine (tokens_any S w (HT.out.below (Below.refl _ w)) (by omega)).mono ?_
  intro e w1 hp
  obtain ⟨A1, n1, c1, L1, C1, E1, t1, rfl, hn1, o1, b1, r1⟩ := tok_gen hp
  rw [HLS.out] at r1
  have f1 := b1.al (.cells #[.int .i64 L1, .int .i64 C1] 24)
  have O1 := Lib.hid (o1.below_ ((Below.refl _ w1).al (.cells #[.int .i64 L1, .int .i64 C1] 24)))
  have R1 := Lib.hid r1
  have N1 := Lib.hid hn1
  clear hp o1 r1 hn1 b1
  rcases R1.out with ⟨ok1, rfl⟩ | ⟨er1, rfl⟩
  · have PL := Lib.hid (lexS_places ok1)
    obtain ⟨us, eL, eC, hts, hul⟩ := lexS_ok ok1
    have hpos : 0 < n1 := by rw [N1.out, hts, List.length_append]; simp
    have hn400 : n1 ≤ 401 := by rw [N1.out, hts, List.length_append]; simp; omega
    clear R1 ok1 hts hul us eL eC
    go_upto_region 5 with fail
    generalize w1.alloc (.cells #[.int .i64 L1, .int .i64 C1] 24) = W at *
    have own0 : (W.alloc (.cells #[.int .i64 0] 3)).ownsRow W.heap.size 3 1 (.slice (some ⟨W.heap.size, 0, none⟩) 1 1) 1 (ints [0]) := by
      refine ⟨rfl, .inr ⟨W.heap.size, 1, #[.int .i64 0], rfl, Nat.le_refl _, Blk.new W 3 #[.int .i64 0], Nat.le_refl _, by unfold maxLen; omega, by simp, by simp [ints]⟩⟩
    have O0 := Lib.hid own0
    clear own0
    go_wp2_with fail
    have b0 : Below W.heap.size W (W.alloc (.cells #[.int .i64 0] 3)) := (Below.refl _ W).al _
    go_loopw [6, 7] (fun v i wr => ∃ k : Nat, k ≤ S.size ∧ i = .int .i64 k ∧ Hid (wr.ownsRow W.heap.size 3 1 v (1 + (stF (X.take k) 0).length) (ints (starts (X.take k)))) ∧ Below W.heap.size W wr) (fun _ i _ => S.size - (intOf i).toNat)
    case atStart => exact ⟨0, by omega, rfl, O0, b0⟩
    case round =>
      obtain ⟨k, hk, rfl, ho, hb⟩ := hrel
      by_cases hlt : k < S.size
      · have hkX : k < X.length := by omega
        obtain ⟨c, hc⟩ : ∃ c : UInt8, S[k] = c := ⟨_, rfl⟩
        have hXc : X[k] = c := by
          have h1 := at_list S hlt
          rw [HLS.out, List.getElem?_eq_getElem hkX, hc] at h1
          exact Option.some.inj h1
        have hst : stF (X.take (k + 1)) 0 = stF (X.take k) 0 ++ (if c = 10 then [k + 1] else []) := by
          rw [List.take_succ_eq_append_getElem hkX, stF_append, hXc, List.length_take, Nat.min_eq_left (by omega)]
          simp [stF]
        have hle := stF_length (X.take k) 0
        rw [List.length_take] at hle
        have HST := Lib.hid hst
        clear hst hXc
        by_cases h10 : c = 10
        · have e1 : (c.toNat : Int) = 10 := by rw [h10]; rfl
          have HC := Lib.hid h10
          obtain ⟨i0, hi0, hz0, hz1, hz2⟩ := info_parts info_int
          obtain ⟨m, hm⟩ : ∃ m, (stF (X.take k) 0).length = m := ⟨_, rfl⟩
          rw [hm] at ho hle
          have HM := Lib.hid hm
          clear h10 hm
          have own7 := Lib.hid (World.ownsRow.alloc ho.out (.cells #[.int .i64 ((k : Int) + 1)] 3))
          have RD : Hid (Reads (wr.alloc (.cells #[.int .i64 ((k : Int) + 1)] 3)) (wr.heap.size + 1) 1 (some ⟨wr.heap.size, 0, none⟩) 1 [.int .i64 ((k : Int) + 1)]) := by
            refine ⟨by simp, fun _ => ⟨_, rfl, by simp, fun j u hu => ?_⟩⟩
            rw [Addr.add_lit, Nat.zero_add, (Blk.new wr 3 #[.int .i64 ((k : Int) + 1)]).cell j]
            simpa using hu
          have hbl := own_block ho.out
          have hbz := hb.size
          go_wp2_with (first | (at_builtin; refine wpList_append_any _ (by rfl) (.tmp 38) (.tmp 41) 29 rfl W.heap.size 3 i0 _ 1 8 Tryd.underlying29 hi0 hz0 hz1 hz2 rfl (by omega) u6 (1 + m) (ints (starts (X.take k))) rfl own7.out _ _ 1 1 [.int .i64 ((k : Int) + 1)] rfl RD.out (by simp [Value.oneCell']) (by unfold maxLen; omega) (by omega) (by simp; omega) ?_; intro v8 w8 o8 g8 at8; have b8 : Below W.heap.size W w8 := (hb.alloc hbz _).trans ((Kept.of_grown (S := fun k => W.heap.size ≤ k) g8 hbl).to_below (by simp; omega) (fun k hk => by omega)); have O8 := Lib.hid o8; clear o8 g8 at8))
          go_roundw
          case rel =>
            refine ⟨k + 1, by omega, by go_num, ?_, b8⟩
            rw [Hid, HST.out, if_pos HC.out]
            have := O8.out
            unfold starts at this ⊢
            rw [HST.out, if_pos HC.out, List.length_append, HM.out]
            have e : ints (0 :: (stF (X.take k) 0 ++ [k + 1])) = ints (0 :: stF (X.take k) 0) ++ [.int .i64 ((k : Int) + 1)] := by simp [ints]
            rw [e]
            exact this
          case measure => simp [intOf]; omega
        · have e1 : ¬ (c.toNat : Int) = 10 := ne_ten h10
          have HC := Lib.hid h10
          clear h10
          go_wp2_with fail
          go_roundw
          case rel =>
            refine ⟨k + 1, by omega, by go_num, ?_, hb⟩
            rw [Hid]
            unfold starts
            rw [HST.out, if_neg HC.out, List.append_nil]
            exact ho.out
          case measure => simp [intOf]; omega
      · obtain rfl : k = X.length := by omega
        have htk : X.take X.length = X := List.take_length
        rw [htk] at ho
        have hv6 := own_slice ho.out
        obtain ⟨A6, c6, rfl⟩ := hv6
        obtain ⟨ns, hns⟩ : ∃ n, 1 + (stF X 0).length = n := ⟨_, rfl⟩
        rw [hns] at ho
        rw [hns]
        have fV := f1.then_ hb
        have RD6 : Hid (RV wr A6 ns (ints (starts X))) := Reads.of_own ho.out
        have RDT : Hid (Reads wr wr.heap.size 5 A1 n1 (tksCells t1)) := (O1.out.below_ hb).reads N1.out
        have hns' : ns = (starts X).length := by rw [← hns]; unfold starts; simp; omega
        have HNS := Lib.hid hns'
        clear hns hns' ho hb O0 O1 f1 b0 htk hlt
        rename World => V
        go_wp2_with fail
        go_loopw [8, 9] (fun b i wr => ∃ k bb : Nat, k ≤ n1 ∧ i = .int .i64 k ∧ b = .int .i64 bb ∧ bb ≤ X.length ∧ Hid (Placed X bb (t1.drop k) ∨ (k = n1 ∧ bb = X.length)) ∧ Below V.heap.size V wr) (fun _ i _ => n1 - (intOf i).toNat)
        case atStart => exact ⟨0, 0, by omega, rfl, rfl, by omega, .inl PL.out, Below.refl _ _⟩
        case round =>
          obtain ⟨k, bb, hk, rfl, rfl, hbb, hpl, hbv⟩ := hrel
          by_cases hlt : k < n1
          · have hkt : k < t1.length := by rw [← N1.out]; exact hlt
            have hd := List.drop_eq_getElem_cons hkt
            have hpl2 : Placed X bb (t1.drop k) := by
              rcases hpl.out with h | ⟨h, _⟩
              · exact h
              · omega
            obtain ⟨t, p, us, hd2, st, hcase⟩ := hpl2.step
            rw [hd] at hd2
            obtain ⟨ht, hus⟩ := List.cons.inj hd2
            have cT := tksCells_cut t1 k hkt
            rw [ht] at cT
            obtain ⟨g, o, rfl, hg, hc⟩ := RDT.out.chunk (by omega) hlt cT
            obtain ⟨kd, tx, tn, tl, tc⟩ := t
            obtain ⟨s1, s2, s3, ⟨v, hv, hvp⟩, s5, s6, s7, s8⟩ := st
            simp only at s1 s2 s3 hv hvp s5 s6 s7 s8 hcase
            obtain ⟨ln, rfl⟩ : ∃ ln : Nat, tl = (ln : Int) + 1 := ⟨(tl - 1).toNat, by omega⟩
            obtain ⟨cc, rfl⟩ : ∃ cc : Nat, tc = (cc : Int) := ⟨tc.toNat, by omega⟩
            rw [show ((ln : Int) + 1 - 1).toNat = ln by omega] at hv
            have hlns : ln < ns := by rw [HNS.out]; omega
            obtain ⟨b6, o6, rfl, hb6, hl6, c6'⟩ := RD6.out.at_ hlns
            have e6 : (ints (starts X))[ln]'hl6 = .int .i64 (v : Int) := by
              have h : (ints (starts X))[ln]? = some (.int .i64 (v : Int)) := by
                unfold ints
                rw [List.getElem?_map, hv]
                rfl
              rw [List.getElem?_eq_getElem hl6] at h
              exact Option.some.inj h
            rw [e6] at c6'
            have hcell := hbv.cell (p := ⟨b6, o6 + ln, none⟩) hb6
            have k6 := hcell.trans c6'
            have q0 := (hbv.cell (p := ⟨g, o + k * 5, none⟩) hg).trans (hc 0 _ rfl)
            have q1 := (hbv.cell (p := ⟨g, o + k * 5 + 1, none⟩) hg).trans (hc 1 _ rfl)
            have q2 := (hbv.cell (p := ⟨g, o + k * 5 + 2, none⟩) hg).trans (hc 2 _ rfl)
            have q3 := (hbv.cell (p := ⟨g, o + k * 5 + 3, none⟩) hg).trans (hc 3 _ rfl)
            have q4 := (hbv.cell (p := ⟨g, o + k * 5 + 4, none⟩) hg).trans (hc 4 _ rfl)
            obtain ⟨T, hT⟩ : ∃ T, str tx = T := ⟨_, rfl⟩
            obtain ⟨z, hz⟩ : ∃ z, p + tx.length = z := ⟨_, rfl⟩
            have hTz : T.size = tx.length := by rw [← hT, str_size]
            have hext : S.extract p z = T := by
              rw [← HS.out, ← hT, ← s7]
              apply ba_ext
              rw [str_list, ← hz]
              simp [str]
            rw [hT] at q1
            have hgw : g < wr.heap.size := Nat.lt_of_lt_of_le hg hbv.size
            have hbw6 : b6 < wr.heap.size := Nat.lt_of_lt_of_le hb6 hbv.size
            have G := Lib.hid s8
            have HZ := Lib.hid hz
            have HCASE := Lib.hid hcase
            have HUS := Lib.hid hus
            have hv400 : v ≤ p + 1 := by omega
            have hlnb : ln ≤ 400 := by
              have := stF_length X 0
              have h2 := HNS.out
              unfold starts at h2
              simp at h2
              omega
            clear hc cT hd hd2 ht hus hv c6' e6 hcell hpl hpl2 hkt s1 s2 s8 hT hcase PL s7 hl6
            have x1 : IntKind.i64.wrap ((ln : Int) + 1 - 1) = (ln : Int) := by rw [IntKind.wrap_i64]; omega
            have x1' : IntKind.i64.wrap (ln : Int) = (ln : Int) := by rw [IntKind.wrap_i64]; omega
            have x2 : IntKind.i64.wrap ((v : Int) + (cc : Int)) = (p : Int) + 1 := by rw [IntKind.wrap_i64]; omega
            have x3 : IntKind.i64.wrap ((p : Int) + 1 - 1) = (p : Int) := by rw [IntKind.wrap_i64]; omega
            have x4 : IntKind.i64.wrap (p : Int) = (p : Int) := by rw [IntKind.wrap_i64]; omega
            have x5 : (0 : Int) ≤ (ln : Int) := by omega
            have x6 : (ln : Int) < (ns : Int) := by omega
            go_wp2_with fail
            go_quiet (fail)
            clear x1 x1' x2 x3 x4 x5 x6 q0 q1 q2 q3 q4 k6
            have k0 : (wr.alloc (.cells #[.int .i64 kd, .string T, .int .i64 tn, .int .i64 ((ln : Int) + 1), .int .i64 (cc : Int)] 31)).cell? ⟨wr.heap.size, 0, none⟩ = some (.int .i64 kd) := (Blk.new wr 31 #[.int .i64 kd, .string T, .int .i64 tn, .int .i64 ((ln : Int) + 1), .int .i64 (cc : Int)]).cell 0
            have k1 : (wr.alloc (.cells #[.int .i64 kd, .string T, .int .i64 tn, .int .i64 ((ln : Int) + 1), .int .i64 (cc : Int)] 31)).cell? ⟨wr.heap.size, 1, none⟩ = some (.string T) := (Blk.new wr 31 #[.int .i64 kd, .string T, .int .i64 tn, .int .i64 ((ln : Int) + 1), .int .i64 (cc : Int)]).cell 1
            have hb2 : Below V.heap.size V (wr.alloc (.cells #[.int .i64 kd, .string T, .int .i64 tn, .int .i64 ((ln : Int) + 1), .int .i64 (cc : Int)] 31)) := hbv.alloc hbv.size _
            obtain ⟨W2, hW2⟩ : ∃ W2, wr.alloc (.cells #[.int .i64 kd, .string T, .int .i64 tn, .int .i64 ((ln : Int) + 1), .int .i64 (cc : Int)] 31) = W2 := ⟨_, rfl⟩
            rw [hW2] at k0 k1 hb2 ⊢
            clear hW2
            have hzX : z ≤ X.length := by omega
            have hTz2 : p + T.size = z := by omega
            clear hTz hz
            go_wp2_with fail
            have kk0 : ∀ q, (W2.drewN q).cell? ⟨wr.heap.size, 0, none⟩ = some (.int .i64 kd) := fun _ => k0
            have kk1 : ∀ q, (W2.drewN q).cell? ⟨wr.heap.size, 1, none⟩ = some (.string T) := fun _ => k1
            go_cut [119] (fun v wx => v = .bool false ∧ ∃ q, wx = W2.drewN q)
            case first =>
              have x1 : IntKind.i64.wrap ((p : Int) + (T.size : Int)) = (z : Int) := by rw [IntKind.wrap_i64]; omega
              have x2 : (p : Int) + (T.size : Int) = (z : Int) := by omega
              have x3 : ¬ ((p : Int) < (bb : Int)) := by omega
              have x4 : (z : Int) ≤ (X.length : Int) := by omega
              have x5 : (p : Int) ≤ (z : Int) := by omega
              have x6 : (0 : Int) ≤ (p : Int) := by omega
              have x7 : IntKind.i64.wrap (z : Int) = (z : Int) := by rw [IntKind.wrap_i64]; omega
              have x8 : IntKind.i64.wrap ((n1 : Int) - 1) = (n1 : Int) - 1 := by rw [IntKind.wrap_i64]; omega
              have hlen : us.length + (k + 1) = n1 := by rw [N1.out, ← HUS.out, List.length_drop]; have := N1.out; omega
              rcases HCASE.out with ⟨rfl, hu, _⟩ | ⟨hk0, hu, _⟩
              · have x9 : (k : Int) = (n1 : Int) - 1 := by rw [hu] at hlen; simp at hlen; omega
                have x10 : ((k : Int) == (n1 : Int) - 1) = true := by rw [x9]; simp
                clear hlen hu x9
                go_quiet (fail)
                go_wp2_with fail
                go_meet
                exact ⟨by rw [decide_eq_false (by omega)], _, rfl⟩
              · have x9 : ¬ ((k : Int) = (n1 : Int) - 1) := by have := List.length_pos_iff.2 hu; omega
                have x10 : ((k : Int) == (n1 : Int) - 1) = false := by simpa using x9
                have x11 : (kd == 0) = false := by simpa using hk0
                clear hlen hu
                go_quiet (fail)
                go_wp2_with fail
                go_meet
                exact ⟨by rw [decide_eq_false (by omega)], _, rfl⟩
            case rest =>
              obtain ⟨rfl, q, rfl⟩ := hcut
              have hb3 : Below V.heap.size V (W2.drewN q) := below_drewN hb2 q
              have k1' := kk1 q
              clear kk0 kk1 k0 k1 hb2 hext
              generalize W2.drewN q = W3 at *
              go_wp2_with fail
              go_loopw [12] (fun kv wr => ∃ j : Nat, j ≤ p + 1 ∧ kv = .int .i64 j ∧ Hid (p < j ∨ Gap X p j) ∧ W3 = wr) (fun kv _ => p + 1 - (intOf kv).toNat)
              case atStart => exact ⟨bb, by omega, rfl, .inr G.out, rfl⟩
              case round =>
                obtain ⟨j, hj, rfl, hg, rfl⟩ := hrel
                by_cases hlt3 : j < p
                · have hG : Gap X p j := hg.out.resolve_left (by omega)
                  have hjS : j < S.size := by omega
                  have hjX : j < X.length := by omega
                  obtain ⟨c, hcS⟩ : ∃ c : UInt8, S[j] = c := ⟨_, rfl⟩
                  have hXc : X[j]? = some c := by
                    have h1 := at_list S hjS
                    rw [HLS.out, hcS] at h1
                    exact h1
                  clear hg
                  cases hG with
                  | done => omega
                  | blank h hc hb' hgn =>
                    rw [hXc] at hc
                    obtain rfl := Option.some.inj hc
                    have HGN := Lib.hid hgn
                    clear hgn hc hXc h
                    rcases hb' with h | h | h
                    · have e1 : (c.toNat : Int) = 10 := by rw [h]; rfl
                      clear h
                      go_wp2_with fail
                      go_roundw
                      case rel => exact ⟨j + 1, by omega, by go_num, .inr HGN.out, trivial⟩
                      case measure => simp [intOf]; omega
                    · have e1 : (c.toNat : Int) = 32 := by rw [h]; rfl
                      clear h
                      go_wp2_with fail
                      go_roundw
                      case rel => exact ⟨j + 1, by omega, by go_num, .inr HGN.out, trivial⟩
                      case measure => simp [intOf]; omega
                    · have e1 : (c.toNat : Int) = 9 := by rw [h]; rfl
                      clear h
                      go_wp2_with fail
                      go_roundw
                      case rel => exact ⟨j + 1, by omega, by go_num, .inr HGN.out, trivial⟩
                      case measure => simp [intOf]; omega
                  | note h hc hle hgn =>
                    rw [hXc] at hc
                    have h35 := Option.some.inj hc
                    have e1 : (c.toNat : Int) = 35 := by rw [h35]; rfl
                    have HGN := Lib.hid hgn
                    clear hgn hc hXc h h35 hle
                    go_wp2_with fail
                    clear e1
                    go_loopw [12] (fun kv wr => ∃ i : Nat, j ≤ i ∧ i ≤ p ∧ kv = .int .i64 i ∧ Hid (∀ m (hm : m < X.length), j ≤ m → m < i → X[m] ≠ 10) ∧ W3 = wr) (fun kv _ => p - (intOf kv).toNat)
                    case atStart => exact ⟨j, by omega, by omega, rfl, fun m _ h1 h2 => absurd h1 (by omega), rfl⟩
                    case round =>
                      obtain ⟨i, hji, hip, rfl, hno, rfl⟩ := hrel
                      by_cases hlt4 : i < p
                      · have hiS : i < S.size := by omega
                        have hiX : i < X.length := by omega
                        obtain ⟨c2, hcS2⟩ : ∃ c : UInt8, S[i] = c := ⟨_, rfl⟩
                        have hXc2 : X[i] = c2 := by
                          have h1 := at_list S hiS
                          rw [HLS.out, hcS2, List.getElem?_eq_getElem hiX] at h1
                          exact Option.some.inj h1
                        have HX2 := Lib.hid hXc2
                        clear hXc2
                        by_cases h10 : c2 = 10
                        · have e2 : (c2.toNat : Int) = 10 := by rw [h10]; rfl
                          have hnext : Hid (Gap X p (i + 1)) := gap_end hiX hji hlt4 (by rw [HX2.out, h10]) hno.out HGN.out
                          clear h10 hno HGN
                          go_wp2_with fail
                          go_roundw
                          case rel => exact ⟨i + 1, by omega, by go_num, .inr hnext.out, trivial⟩
                          case measure => simp [intOf]; omega
                        · have e2 : ¬ (c2.toNat : Int) = 10 := ne_ten h10
                          have hnext : Hid (∀ m (hm : m < X.length), j ≤ m → m < i + 1 → X[m] ≠ 10) := fun m hm h1 h2 => by
                            rcases Nat.lt_or_ge m i with h3 | h3
                            · exact hno.out m hm h1 h3
                            · obtain rfl : m = i := by omega
                              rw [HX2.out]
                              exact h10
                          clear h10 hno HGN
                          go_wp2_with fail
                          go_roundw
                          case rel => exact ⟨i + 1, by omega, by omega, by go_num, hnext, trivial⟩
                          case measure => simp [intOf]; omega
                      · obtain rfl : i = p := by omega
                        clear hno HGN
                        go_wp2_with fail
                        go_roundw
                        case rel => exact ⟨i + 1, by omega, by go_num, .inl (by omega), trivial⟩
                        case measure => simp [intOf]; omega
                · have hnx : Hid (Placed X z (t1.drop (k + 1)) ∨ (k + 1 = n1 ∧ z = X.length)) := by
                    rw [Hid, HUS.out, ← HZ.out]
                    rcases HCASE.out with ⟨_, h1, h2⟩ | ⟨_, _, h⟩
                    · refine .inr ⟨?_, h2⟩
                      have h3 := congrArg List.length (HUS.out.trans h1)
                      rw [List.length_drop, ← N1.out] at h3
                      simp at h3
                      omega
                    · exact .inl h
                  clear hg
                  go_wp2_with fail
                  go_roundw
                  case rel => exact ⟨k + 1, z, by omega, by go_num, by go_num, hzX, hnx, hb3⟩
                  case measure => simp [intOf]; omega
          · obtain rfl : k = n1 := by omega
            obtain rfl : bb = X.length := by
              rcases hpl.out with h | ⟨_, h⟩
              · rw [List.drop_of_length_le (by rw [N1.out]; omega)] at h
                exact absurd rfl h.ne
              · exact h
            have fr := fV.then_ hbv
            go_wp2_with (go_at_call 11; refine (known_any _ (HT.out.below fr)).mono ?_; rintro e w7 ⟨rfl, b7⟩; have f7 := fr.then_ b7)
            go_ret
            exact ⟨rfl, f7⟩
  · obtain ⟨z2, _, _⟩ := lexS_err er1
    clear R1 er1
    go_wp2_with fail
    refine (known_any _ (HT.out.below f1)).mono ?_
    rintro e w7 ⟨rfl, b7⟩
    go_wp2_with fail
    go_ret
    exact ⟨rfl, f1.then_ b7⟩
end Go.Proofs.YtlfckmekfncboaaDoor
