/-
  LexBlanks: the walk.
-/
import Derived.Test.YtlfckmekfncboaaDoorL15
import Derived.Test.YtlfckmekfncboaaDoorL25
import Derived.IntWalk
import Derived.Deep.DeepCutAuto
namespace Go.Proofs.YtlfckmekfncboaaDoor
open Go.RowKit

theorem ne_ten {c : UInt8} (h : ¬ c = 10) : ¬ (c.toNat : Int) = 10 := fun h1 => h (UInt8.toNat_inj.1 (by rw [show c.toNat = 10 by omega]; rfl))
theorem str_one (s : ByteArray) {k : Nat} (h : k < s.size) : s.extract k (k + 1) = str [s[k]] := by
  apply ba_ext
  rw [str_list]
  have h1 : k < s.data.toList.length := by rw [size_list]; exact h
  have h2 := List.drop_eq_getElem_cons h1
  have e : s.data.toList[k] = s[k] := by
    have := at_list s h
    rw [List.getElem?_eq_getElem h1] at this
    exact Option.some.inj this
  simp
  rw [h2, e]
  simp
theorem sameT_end {xs us : List Tk} {L C L2 C2 : Int} (h : xs.map Tk.bare = us.map Tk.bare) : sameT (xs ++ [⟨0, [], 0, L, C⟩]) (us ++ [⟨0, [], 0, L2, C2⟩]) = true := by
  unfold sameT
  rw [decide_eq_true_iff, List.map_append, List.map_append, h]
  rfl
/-- The comment. -/
def noteS (l : List UInt8) : List UInt8 := l.filter fun c => decide (c ≠ 10)
theorem noteS_no (l : List UInt8) : ∀ x ∈ noteS l, x ≠ 10 := by
  intro x hx
  simp only [noteS, List.mem_filter, decide_eq_true_eq] at hx
  exact hx.2
theorem noteS_len (l : List UInt8) : (noteS l).length ≤ l.length := List.length_filter_le _ _

theorem textsLen_take (us : List Tk) (k : Nat) : textsLen (us.take k) ≤ textsLen us := by
  have h : textsLen us = textsLen (us.take k) + textsLen (us.drop k) := by
    have h1 : us.map (fun u : Tk => u.text.length) = (us.take k).map (fun u : Tk => u.text.length) ++ (us.drop k).map (fun u : Tk => u.text.length) := by rw [← List.map_append, List.take_append_drop]
    unfold textsLen
    rw [h1, List.sum_append]
  omega

set_option maxHeartbeats 4000000 in
set_option maxRecDepth 100000 in
theorem lexBlanks_walk (s t : ByteArray) (ev : Int) (w : World) (hs : s.size ≤ 9223372036854775807) (ht : t.size ≤ 9223372036854775807) (hT : Spaces w) :
    Calls Tryd.prog 7 #[.string s, .string t, .int .i64 ev] w (Tells w true) := by
  have HT := Lib.hid hT
  clear hT
  go_enter Tryd.func7, Tryd.ntmps7
  have y1 : min s.size 300 ≤ s.size := by omega
  have y2 : min t.size 20 ≤ t.size := by omega
  have y3 : (0 : Int) ≤ (min s.size 300 : Nat) := by omega
  have y4 : (0 : Int) ≤ (min t.size 20 : Nat) := by omega
  go_wp2_with fail
  go_region
  go_upto_region 2 with fail
  obtain ⟨X, hX, hXl⟩ : ∃ X, s.extract 0 (min (s.size : Int) 300).toNat = str X ∧ X.length ≤ 300 := ⟨_, ext_str s _, by simp; omega⟩
  obtain ⟨Y, hY, hYl⟩ : ∃ X, t.extract 0 (min (t.size : Int) 20).toNat = str X ∧ X.length ≤ 20 := ⟨_, ext_str t _, by simp; omega⟩
  rw [hX, hY]
  clear hX hY y1 y2 y3 y4 hs ht
  obtain ⟨S, hS⟩ : ∃ S, str X = S := ⟨_, rfl⟩
  obtain ⟨T, hT⟩ : ∃ S, str Y = S := ⟨_, rfl⟩
  have sS : S.size = X.length := by rw [← hS, str_size]
  have sT : T.size = Y.length := by rw [← hT, str_size]
  have lS : S.data.toList = X := by rw [← hS, str_list]
  have lT : T.data.toList = Y := by rw [← hT, str_list]
  rw [hS, hT]
  have HLS := Lib.hid lS
  have HLT := Lib.hid lT
  have SS := Lib.hid sS
  have ST := Lib.hid sT
  clear hS hT lS lT sS
  obtain ⟨u, hu⟩ : ∃ u : Nat, IntKind.u64.wrap ev = (u : Int) := ⟨(IntKind.u64.wrap ev).toNat, by rw [IntKind.wrap_u64]; omega⟩
  have hu' : ev % 18446744073709551616 = (u : Int) := by rw [← hu, IntKind.wrap_u64]
  obtain ⟨p, hp, hpl⟩ : ∃ p : Nat, (u : Int) % 5 = (p : Int) ∧ p < 5 := ⟨u % 5, by omega, by omega⟩
  have wp1 : IntKind.i64.wrap (p : Int) = p := by rw [IntKind.wrap_i64]; omega
  have b0 := (Below.refl w.heap.size w).drew
  generalize w.drew = W0 at *
  clear sT
  go_wp2_with fail
  clear hu hu' hp wp1
  go_loopw [7, 8] (fun v i wr => ∃ k : Nat, k ≤ T.size ∧ i = .int .i64 k ∧ v = .string (str (35 :: noteS (Y.take k))) ∧ W0 = wr) (fun _ i _ => T.size - (intOf i).toNat)
  case atStart => exact ⟨0, by omega, rfl, by simp [noteS, str], rfl⟩
  case round =>
    obtain ⟨k, hk, rfl, rfl, rfl⟩ := hrel
    by_cases hlt : k < T.size
    · have hkY : k < Y.length := by rw [← ST.out]; exact hlt
      obtain ⟨c, hc⟩ : ∃ c : UInt8, T[k] = c := ⟨_, rfl⟩
      have hYc : Y[k] = c := by
        have h1 := at_list T hlt
        rw [HLT.out, List.getElem?_eq_getElem hkY, hc] at h1
        exact Option.some.inj h1
      have hst : noteS (Y.take (k + 1)) = noteS (Y.take k) ++ (if c = 10 then [] else [c]) := by
        rw [List.take_succ_eq_append_getElem hkY, hYc]
        unfold noteS
        rw [List.filter_append]
        by_cases h : c = 10 <;> simp [h]
      have hle := noteS_len (Y.take k)
      rw [List.length_take] at hle
      have HST := Lib.hid hst
      clear hst hYc
      by_cases h10 : c = 10
      · have e1 : (c.toNat : Int) = 10 := by rw [h10]; rfl
        have HC := Lib.hid h10
        clear h10
        go_wp2_with fail
        go_roundw
        case rel => exact ⟨k + 1, by omega, by go_num, by rw [HST.out, if_pos HC.out, List.append_nil], trivial⟩
        case measure => simp [intOf]; omega
      · have e1 : ¬ (c.toNat : Int) = 10 := ne_ten h10
        have hQ1 : T.extract k (k + 1) = str [c] := by rw [str_one T hlt, hc]
        obtain ⟨Q, hQ⟩ : ∃ Q, str [c] = Q := ⟨_, rfl⟩
        rw [hQ] at hQ1
        obtain ⟨V, hV⟩ : ∃ V, str (35 :: noteS (Y.take k)) = V := ⟨_, rfl⟩
        have hVQ : V ++ Q = str (35 :: noteS (Y.take (k + 1))) := by rw [← hV, ← hQ, str_append, HST.out, if_neg h10]; rfl
        obtain ⟨V2, hV2⟩ : ∃ V, str (35 :: noteS (Y.take (k + 1))) = V := ⟨_, rfl⟩
        rw [hV2] at hVQ
        have zQ : Q.size = 1 := by rw [← hQ, str_size]; rfl
        have zV : V.size ≤ 400 := by rw [← hV, str_size]; simp; omega
        have z1 : ¬ (9223372036854775807 < V.size + Q.size) := by omega
        have z2 : (k : Int) + 1 ≤ (T.size : Int) := by omega
        have z3 : (k : Int) ≤ (k : Int) + 1 := by omega
        have z4 : (0 : Int) ≤ (k : Int) := by omega
        have HV2 := Lib.hid hV2
        rw [hV]
        clear h10 hQ hV hV2 hle zQ
        go_wp2_with fail
        go_roundw
        case rel => exact ⟨k + 1, by omega, by go_num, by rw [HV2.out], trivial⟩
        case measure => simp [intOf]; omega
    · obtain rfl : k = T.size := by omega
      have htk : Y.take T.size = Y := List.take_of_length_le (by rw [ST.out]; omega)
      rw [htk]
      have hno := noteS_no Y
      have hnl := noteS_len Y
      generalize noteS Y = nn at hno hnl
      have HNO := Lib.hid hno
      obtain ⟨CL, hCL⟩ : ∃ V, str (35 :: nn) = V := ⟨_, rfl⟩
      have zC : CL.size ≤ 21 := by rw [← hCL, str_size]; simp; omega
      rw [hCL]
      have HCL := Lib.hid hCL
      clear hno hCL htk hlt
      go_wp2_with fail
      have sS := SS.out
      refine (tokens_any S W0 (HT.out.below b0) (by omega)).mono ?_
      intro e w1 hp
      obtain ⟨A1, n1, c1, L1, C1, E1, t1, rfl, hn1, o1, b1, r1⟩ := tok_gen hp
      rw [HLS.out] at r1
      have f1 := (b0.then_ b1).al (.cells #[.int .i64 L1, .int .i64 C1] 24)
      have O1 := Lib.hid (o1.below_ ((Below.refl _ w1).al (.cells #[.int .i64 L1, .int .i64 C1] 24)))
      clear hp o1 b1 sS
      rcases r1 with ⟨ok1, rfl⟩ | ⟨er1, rfl⟩
      · obtain ⟨us, eL, eC, rfl, hg, htl, hul⟩ := lexS_good ok1
        obtain ⟨m, hm⟩ : ∃ m, us.length = m := ⟨_, rfl⟩
        have hnm : n1 = m + 1 := by rw [hn1, List.length_append, hm]; rfl
        have HG := Lib.hid hg
        have HM := Lib.hid hm
        have HTL := Lib.hid htl
        have hm300 : m ≤ 300 := by omega
        clear ok1 hg hm htl hul hn1
        go_upto_region 12 with fail
        generalize w1.alloc (.cells #[.int .i64 L1, .int .i64 C1] 24) = W at *
        have RD : Hid (Reads W W.heap.size 5 A1 n1 (tksCells (us ++ [⟨0, [], 0, eL, eC⟩]))) := O1.out.reads (by rw [List.length_append, HM.out, hnm]; rfl)
        clear O1
        go_wp2_with fail
        go_loopw [12, 13, 14] (fun v q i wr => ∃ k : Nat, k ≤ m ∧ i = .int .i64 k ∧ q = .int .i64 k ∧ v = .string (str (bld (sepI (35 :: nn) (1 + p)) 0 (us.take k))) ∧ W = wr) (fun _ _ i _ => m - (intOf i).toNat)
        case atStart => exact ⟨0, by omega, rfl, rfl, by simp [bld, str], rfl⟩
        case round =>
          obtain ⟨k, hk, rfl, rfl, rfl, rfl⟩ := hrel
          have hbl := bld_len (sepI (35 :: nn) (1 + p)) 23 (fun i => sepI_len _ _ i (by simp; omega)) (us.take k) 0
          have htl : textsLen (us.take k) ≤ 300 := Nat.le_trans (textsLen_take us k) (by have := HTL.out; omega)
          have hbl2 : (bld (sepI (35 :: nn) (1 + p)) 0 (us.take k)).length ≤ 7200 := by
            have h1 : (us.take k).length * 23 ≤ 300 * 23 := Nat.mul_le_mul_right _ (by rw [List.length_take]; omega)
            omega
          clear hbl htl
          by_cases hlt : k < m
          · have hku : k < us.length := by rw [HM.out]; exact hlt
            have hkt : k < (us ++ [(⟨0, [], 0, eL, eC⟩ : Tk)]).length := by simp; omega
            have cT := tksCells_cut _ k hkt
            rw [List.getElem_append_left hku] at cT
            have htk := List.take_succ_eq_append_getElem hku
            have hux : us[k].text.length ≤ 300 := by
              have h1 := textsLen_take us (k + 1)
              rw [htk, textsLen_snoc] at h1
              have := HTL.out
              omega
            obtain ⟨g, o, rfl, hgl, hcc⟩ := RD.out.chunk (by omega) (by omega : k < n1) cT
            generalize us[k] = x at *
            obtain ⟨xk, xt, xn, xl, xc⟩ := x
            have q1 := hcc 1 _ rfl
            simp only at q1 hux
            have hsn := bld_snoc (sepI (35 :: nn) (1 + p)) ⟨xk, xt, xn, xl, xc⟩ (us.take k) 0
            rw [← htk, List.length_take, Nat.min_eq_left (by omega), Nat.zero_add] at hsn
            obtain ⟨V0, hV0⟩ : ∃ V, str (bld (sepI (35 :: nn) (1 + p)) 0 (us.take k)) = V := ⟨_, rfl⟩
            obtain ⟨XT, hXT⟩ : ∃ V, str xt = V := ⟨_, rfl⟩
            obtain ⟨L1, hL1⟩ : ∃ L, bld (sepI (35 :: nn) (1 + p)) 0 (us.take k) ++ xt = L := ⟨_, rfl⟩
            obtain ⟨V1, hV1⟩ : ∃ V, str L1 = V := ⟨_, rfl⟩
            obtain ⟨V4, hV4⟩ : ∃ V, str (bld (sepI (35 :: nn) (1 + p)) 0 (us.take (k + 1))) = V := ⟨_, rfl⟩
            have z0 : V0.size ≤ 7200 := by rw [← hV0, str_size]; exact hbl2
            have zX : XT.size ≤ 300 := by rw [← hXT, str_size]; exact hux
            have h01 : V0 ++ XT = V1 := by rw [← hV0, ← hXT, ← hV1, ← hL1, str_append]
            have z1 : L1.length ≤ 7500 := by rw [← hL1, List.length_append]; omega
            rw [hL1] at hsn
            have zV1 : V1.size ≤ 7500 := by rw [← hV1, str_size]; exact z1
            have x1 : ¬ (9223372036854775807 < V0.size + XT.size) := by omega
            have x5 : (k : Int) + 1 < (n1 : Int) := by omega
            obtain ⟨r, hr0⟩ : ∃ r, (k + 1) % (1 + p) = r := ⟨_, rfl⟩
            have hr : ((k : Int) + 1) % (1 + (p : Int)) = (r : Int) := by rw [← hr0]; simp [Int.natCast_emod]
            rw [hXT] at q1
            rw [hV0]
            have HV4 := Lib.hid hV4
            have HV1 := Lib.hid hV1
            have HSN := Lib.hid hsn
            have HR0 := Lib.hid hr0
            clear hcc cT hkt hV0 hXT hV1 hV4 hsn htk hux z0 zX hbl2 hku hr0 hL1
            by_cases e0 : r = 0
            · obtain ⟨V2, hV2⟩ : ∃ V, str (L1 ++ [32]) = V := ⟨_, rfl⟩
              obtain ⟨V3, hV3⟩ : ∃ V, str (L1 ++ [32] ++ 35 :: nn) = V := ⟨_, rfl⟩
              have h12 : V1 ++ (⟨#[32]⟩ : ByteArray) = V2 := by rw [← HV1.out, ← hV2]; exact str_append L1 [32]
              have h23 : V2 ++ CL = V3 := by rw [← hV2, ← HCL.out, ← hV3, str_append]
              have h34 : V3 ++ (⟨#[10]⟩ : ByteArray) = V4 := by
                have hsep : sepI (35 :: nn) (1 + p) k = 32 :: (35 :: nn) ++ [10] := by unfold sepI; rw [HR0.out, if_pos e0]
                rw [← HV4.out, HSN.out, hsep, ← hV3]
                refine (str_append _ [10]).trans ?_
                simp
              have x2 : ¬ (9223372036854775807 < V1.size + 1) := by omega
              have z2 : V2.size ≤ 7501 := by rw [← hV2, str_size]; simp; omega
              have x3 : ¬ (9223372036854775807 < V2.size + CL.size) := by omega
              have z3 : V3.size ≤ 7600 := by rw [← hV3, str_size]; simp; omega
              have x4 : ¬ (9223372036854775807 < V3.size + 1) := by omega
              have er : (r : Int) = 0 := by omega
              clear e0 hV2 hV3 z2 z3
              go_wp2_with fail
              go_roundw
              case rel => exact ⟨k + 1, by omega, by go_num, by go_num, by rw [HV4.out], trivial⟩
              case measure => simp [intOf]; omega
            · have er0 : ¬ (r : Int) = 0 := by omega
              by_cases e1 : r = 1
              · have h14 : V1 ++ (⟨#[9, 32, 32]⟩ : ByteArray) = V4 := by
                  have hsep : sepI (35 :: nn) (1 + p) k = [9, 32, 32] := by unfold sepI; rw [HR0.out, if_neg e0, if_pos e1]
                  rw [← HV4.out, HSN.out, hsep, ← HV1.out]
                  exact str_append _ [9, 32, 32]
                have x2 : ¬ (9223372036854775807 < V1.size + 3) := by omega
                have er : (r : Int) = 1 := by omega
                clear e0 e1 er0
                go_wp2_with fail
                go_roundw
                case rel => exact ⟨k + 1, by omega, by go_num, by go_num, by rw [HV4.out], trivial⟩
                case measure => simp [intOf]; omega
              · have h14 : V1 ++ (⟨#[10, 10]⟩ : ByteArray) = V4 := by
                  have hsep : sepI (35 :: nn) (1 + p) k = [10, 10] := by unfold sepI; rw [HR0.out, if_neg e0, if_neg e1]
                  rw [← HV4.out, HSN.out, hsep, ← HV1.out]
                  exact str_append _ [10, 10]
                have x2 : ¬ (9223372036854775807 < V1.size + 2) := by omega
                have er : ¬ (r : Int) = 1 := by omega
                clear e0 e1
                go_wp2_with fail
                go_roundw
                case rel => exact ⟨k + 1, by omega, by go_num, by go_num, by rw [HV4.out], trivial⟩
                case measure => simp [intOf]; omega
          · obtain rfl : k = m := by omega
            have htk : us.take k = us := List.take_of_length_le (by rw [HM.out]; omega)
            rw [htk] at hbl2 ⊢
            obtain ⟨V0, hV0⟩ : ∃ V, str (bld (sepI (35 :: nn) (1 + p)) 0 us) = V := ⟨_, rfl⟩
            obtain ⟨U, hU⟩ : ∃ V, str (bld (sepI (35 :: nn) (1 + p)) 0 us ++ 35 :: nn) = V := ⟨_, rfl⟩
            have h0U : V0 ++ CL = U := by rw [← hV0, ← HCL.out, ← hU, str_append]
            have z0 : V0.size ≤ 7200 := by rw [← hV0, str_size]; exact hbl2
            have zU : U.size ≤ 7300 := by rw [← hU, str_size, List.length_append]; simp; omega
            have lU : U.data.toList = bld (sepI (35 :: nn) (1 + p)) 0 us ++ 35 :: nn := by rw [← hU, str_list]
            have x1 : ¬ (9223372036854775807 < V0.size + CL.size) := by omega
            have x5 : ¬ ((k : Int) + 1 < (n1 : Int)) := by omega
            rw [hV0]
            have HLU := Lib.hid lU
            clear hV0 hU htk hlt lU z0 hbl2
            go_wp2_with fail
            obtain ⟨xs, xL, xC, hx, hxb⟩ := lexS_blanks HNO.out (1 + p) HG.out
            refine (tokens_any U W (HT.out.below f1) (by omega)).mono ?_
            intro e w3 hp
            obtain ⟨A3, c3, rfl, o3, b3⟩ := tok_ok (by rw [HLU.out]; exact hx) hp
            have HXB := Lib.hid hxb
            have f3 := (f1.then_ b3).al (.cells #[.int .i64 0, .int .i64 0] 24)
            have O3 := Lib.hid (o3.below_ ((Below.refl _ w3).al (.cells #[.int .i64 0, .int .i64 0] 24)))
            have RDL := Lib.hid (show W.heap.size ≤ (w3.alloc (.cells #[.int .i64 0, .int .i64 0] 24)).heap.size by have := b3.size; simp; omega)
            have RD1 := Lib.hid ((RD.out.below b3).alloc b3.size (.cells #[.int .i64 0, .int .i64 0] 24))
            obtain ⟨n3, hn3⟩ : ∃ n, (xs ++ [(⟨0, [], 0, xL, xC⟩ : Tk)]).length = n := ⟨_, rfl⟩
            rw [hn3] at O3
            rw [hn3]
            have HN3 := Lib.hid hn3
            have hn31 : n3 = n1 := by
              rw [← hn3, List.length_append, hnm]
              have := congrArg List.length hxb
              rw [List.length_map, List.length_map, HM.out] at this
              rw [this]
              rfl
            clear hp o3 b3 hx hxb hn3 RD
            go_upto_region 25 with fail
            generalize w3.alloc (.cells #[.int .i64 0, .int .i64 0] 24) = W3 at *
            have K1 : Hid (∀ w7, Below W3.heap.size W3 w7 → Reads w7 w7.heap.size 5 A1 n1 (tksCells (us ++ [⟨0, [], 0, eL, eC⟩]))) := fun w7 b7 => (RD1.out.below_ b7 RDL.out).more (Nat.le_trans RDL.out b7.size)
            have K3 : Hid (∀ w7, Below W3.heap.size W3 w7 → Reads w7 w7.heap.size 5 A3 n3 (tksCells (xs ++ [⟨0, [], 0, xL, xC⟩]))) := fun w7 b7 => (O3.out.below_ b7).reads HN3.out.symm
            have K4 : Hid (∀ w7, Below W3.heap.size W3 w7 → Calls Tryd.prog 18 #[.slice A3 n3 c3, .slice A1 n1 c1] w7 (Tells w7 true)) := fun w7 b7 => by
              have := same_at (xs ++ [(⟨0, [], 0, xL, xC⟩ : Tk)]) (us ++ [(⟨0, [], 0, eL, eC⟩ : Tk)]) A3 A1 _ _ c3 c1 w7 HN3.out (by rw [List.length_append, HM.out, hnm]; rfl) (K3.out w7 b7) (K1.out w7 b7) (by omega)
              rw [sameT_end HXB.out] at this
              exact this
            have K5 : Hid (∀ w7, Below W3.heap.size W3 w7 → Calls Tryd.prog 18 #[.slice A3 (k + 1) c3, .slice A1 (k + 1) c1] w7 (Tells w7 true)) := fun w7 b7 => by
              have h := K4.out w7 b7
              rw [hn31, hnm] at h
              exact h
            clear K1 K3 K4 RD1 O3 x1 x5 h0U
            go_wp2_with (first | (go_at_call 11; refine (known_any _ (HT.out.below f3)).mono ?_; rintro e w7 ⟨rfl, b7⟩; have f7 := f3.then_ b7) | (go_at_call 18; refine (K5.out w7 b7).mono ?_; rintro e w10 ⟨rfl, b10⟩; have f10 := f7.then_ b10))
            go_ret
            exact ⟨rfl, f10⟩
      · obtain ⟨z2, _, _⟩ := lexS_err er1
        obtain rfl : n1 = 0 := hn1
        clear er1 O1
        go_wp2_with (go_at_call 11; refine (known_any _ (HT.out.below f1)).mono ?_; rintro e w7 ⟨rfl, b7⟩; have f7 := f1.then_ b7)
        go_ret
        exact ⟨rfl, f7⟩
end Go.Proofs.YtlfckmekfncboaaDoor
