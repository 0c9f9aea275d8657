/-
  OctetThere: the walk.
-/
import Derived.Test.YtcjgpfocngipmaaKnown
import Derived.Test.YtcjgpfocngipmaaThereL
import Derived.Deep.RegionHeld3
import Derived.Deep.DeepCutAuto
namespace Go.Proofs.Ytcjgpfocngipmaa
open Go.RowKit

/-- The first 50 bytes of a text. -/
def cutS (s : ByteArray) : List UInt8 := s.data.toList.take 50
/-- Bytes twice. -/
def enc2 (s : ByteArray) : List UInt8 := encT (cutS s) ++ encT (cutS s)
/-- All that is put. -/
def allPut (ns : List Nat) (ks : List Int) (ss : List ByteArray) : List UInt8 := cat num ns ++ (cat (fun k => num (fold k)) ks ++ cat enc2 ss)

theorem cut_small {s : ByteArray} (h : s.size ≤ 50) : s = ⟨(cutS s).toArray⟩ := by
  unfold cutS
  rw [List.take_of_length_le (by simpa using h)]
theorem cut_big (s : ByteArray) : s.extract 0 50 = ⟨(cutS s).toArray⟩ := by
  apply ByteArray.ext
  rw [ByteArray.data_extract]
  unfold cutS
  apply Array.ext'
  simp

theorem num_there (lo g x most : Nat) (pre rest B : List UInt8) (w : World) (hB : B = pre ++ (num x ++ rest)) (hx : U64 x) (hm : x ≤ most) (hr : Rdr w lo g B pre.length 0) :
    Calls Try.prog 23 #[.pointer (some ⟨g, 0, none⟩), .int .u64 most] w
      fun e w' => e = .returned (.int .u64 x) ∧ Rdr w' lo g B (pre ++ num x).length 0 ∧ Kept (fun k => k = g) w w' := by
  have h := num_any lo g pre.length 0 most B w hr
  rw [hB, readNum_at pre rest x most hx hm, ← hB] at h
  exact h
theorem int_there (lo g : Nat) (k : Int) (pre rest B : List UInt8) (w : World) (hB : B = pre ++ (num (fold k) ++ rest)) (h1 : -9223372036854775808 ≤ k) (h2 : k ≤ 9223372036854775807) (hr : Rdr w lo g B pre.length 0) :
    Calls Try.prog 22 #[.pointer (some ⟨g, 0, none⟩)] w
      fun e w' => e = .returned (.int .i64 k) ∧ Rdr w' lo g B (pre ++ num (fold k)).length 0 ∧ Kept (fun k => k = g) w w' := by
  have h := int_any lo g pre.length 0 B w hr
  have hf := fold_lt h1 h2
  rw [hB, readNum_at pre rest (fold k) maxU hf (by unfold maxU; omega), ← hB] at h
  simp only [unfold_fold] at h
  exact h
theorem bytes_there (lo g : Nat) (t pre rest B : List UInt8) (w : World) (hB : B = pre ++ (encT t ++ rest)) (ht : t.length ≤ 50) (hr : Rdr w lo g B pre.length 0) :
    Calls Try.prog 26 #[.pointer (some ⟨g, 0, none⟩), .int .i64 50] w (GotB lo g B (t, (pre ++ encT t).length, 0) w) := by
  have h := bytes_any lo g pre.length 0 50 50 B w hr rfl (by omega)
  rw [hB, readBytes_at pre rest t 50 (by omega) ht, ← hB] at h
  exact h
theorem text_there (lo g : Nat) (t pre rest B : List UInt8) (w : World) (hB : B = pre ++ (encT t ++ rest)) (ht : t.length ≤ 50) (hr : Rdr w lo g B pre.length 0) :
    Calls Try.prog 28 #[.pointer (some ⟨g, 0, none⟩), .int .i64 50] w
      fun e w' => e = .returned (.string ⟨t.toArray⟩) ∧ Rdr w' lo g B (pre ++ encT t).length 0 ∧ Kept (fun k => k = g) w w' := by
  have h := text_any lo g pre.length 0 50 50 B w hr rfl (by omega)
  rw [hB, readBytes_at pre rest t 50 (by omega) ht, ← hB] at h
  exact h

set_option maxHeartbeats 4000000 in
set_option maxRecDepth 100000 in
theorem octetThere_any (A0 A1 A2 : Option Addr) (m0 c0 m1 c1 m2 c2 : Nat) (ns : List Nat) (ks : List Int) (ss : List ByteArray) (w : World)
    (hc0 : m0 ≤ c0) (r0 : RV w A0 m0 (ns.map fun n : Nat => Value.int .u64 (n : Int))) (u0 : ∀ n ∈ ns, U64 n)
    (hc1 : m1 ≤ c1) (r1 : RV w A1 m1 (ks.map (Value.int .i64))) (u1 : ∀ k ∈ ks, -9223372036854775808 ≤ k ∧ k ≤ 9223372036854775807)
    (hc2 : m2 ≤ c2) (r2 : RV w A2 m2 (ss.map Value.string)) (u2 : ∀ s ∈ ss, s.size ≤ maxLen) :
    Calls Try.prog 11 #[.slice A0 m0 c0, .slice A1 m1 c1, .slice A2 m2 c2] w (Tells w true) := by
  have HU0 := Lib.hid u0
  have HU1 := Lib.hid u1
  have HU2 := Lib.hid u2
  clear u0 u1 u2
  go_enter Try.func11, Try.ntmps11
  go_upto_region 1 with fail
  go_cut [0, 1, 2] (fun s0 s1 s2 wx => ∃ p0 p1 p2 q : Nat, p0 ≤ m0 ∧ p0 ≤ 20 ∧ s0 = .slice A0 p0 c0 ∧ p1 ≤ m1 ∧ p1 ≤ 20 ∧ s1 = .slice A1 p1 c1 ∧ p2 ≤ m2 ∧ p2 ≤ 20 ∧ s2 = .slice A2 p2 c2 ∧ wx = w.drewN q)
  case first =>
    go_quiet (fail)
    go_wp2_with fail
    all_goals
      go_meet
      first
        | exact ⟨20, 20, 20, _, by omega, by omega, rfl, by omega, by omega, rfl, by omega, by omega, rfl, rfl⟩
        | exact ⟨20, 20, m2, _, by omega, by omega, rfl, by omega, by omega, rfl, by omega, by omega, rfl, rfl⟩
        | exact ⟨20, m1, 20, _, by omega, by omega, rfl, by omega, by omega, rfl, by omega, by omega, rfl, rfl⟩
        | exact ⟨20, m1, m2, _, by omega, by omega, rfl, by omega, by omega, rfl, by omega, by omega, rfl, rfl⟩
        | exact ⟨m0, 20, 20, _, by omega, by omega, rfl, by omega, by omega, rfl, by omega, by omega, rfl, rfl⟩
        | exact ⟨m0, 20, m2, _, by omega, by omega, rfl, by omega, by omega, rfl, by omega, by omega, rfl, rfl⟩
        | exact ⟨m0, m1, 20, _, by omega, by omega, rfl, by omega, by omega, rfl, by omega, by omega, rfl, rfl⟩
        | exact ⟨m0, m1, m2, _, by omega, by omega, rfl, by omega, by omega, rfl, by omega, by omega, rfl, rfl⟩
  case rest =>
    obtain ⟨p0, p1, p2, q, h0, g0, rfl, h1, g1, rfl, h2, g2, rfl, rfl⟩ := hcut
    replace r0 := (r0.upto h0).drewN q
    replace r1 := (r1.upto h1).drewN q
    replace r2 := (r2.upto h2).drewN q
    rw [← List.map_take] at r0 r1 r2
    have HU0' : Hid (∀ n ∈ ns.take p0, U64 n) := fun n hn => HU0.out n (List.mem_of_mem_take hn)
    have HU1' : Hid (∀ k ∈ ks.take p1, -9223372036854775808 ≤ k ∧ k ≤ 9223372036854775807) := fun n hn => HU1.out n (List.mem_of_mem_take hn)
    have HU2' : Hid (∀ s ∈ ss.take p2, s.size ≤ maxLen) := fun n hn => HU2.out n (List.mem_of_mem_take hn)
    clear HU0 HU1 HU2
    have hb0 : Below w.heap.size w (w.drewN q) := below_drewN (Below.refl _ _) q
    generalize w.drewN q = w0 at r0 r1 r2 hb0 ⊢
    generalize ns.take p0 = ns at r0 HU0'
    generalize ks.take p1 = ks at r1 HU1'
    generalize ss.take p2 = ss at r2 HU2'
    have l0 := Lib.hid r0.len
    have l1 := Lib.hid r1.len
    have l2 := Lib.hid r2.len
    clear h0 h1 h2 hc0 hc1 hc2
    go_wp2_with fail
    go_loopw [7, 8] (fun b i wr => ∃ (A : Option Addr) (n c k : Nat), b = .slice A n c ∧ k ≤ p0 ∧ n ≤ k * 10 ∧ i = .int .i64 k ∧ RB wr A n (cat num (ns.take k)) ∧ Below w0.heap.size w0 wr) (fun _ i _ => p0 - (intOf i).toNat)
    case atStart => exact ⟨none, 0, 0, 0, rfl, Nat.zero_le _, Nat.le_refl _, rfl, RB.none_, Below.refl _ _⟩
    case round =>
      obtain ⟨A, n, c, k, rfl, hk, hn, rfl, rb, hbr⟩ := hrel
      by_cases hlt : k < p0
      · obtain ⟨b, o, rfl, hbl, hkl, hc⟩ := (r0.below hbr).at_ hlt
        rw [List.getElem_map] at hc
        rw [List.length_map] at hkl
        have hU := HU0'.out ns[k] (List.getElem_mem _)
        have HT := Lib.hid (cat_take num ns k hkl)
        have h10 := num_le10 hU
        go_wp2_with fail
        refine (putNum_any _ _ _ ns[k] _ _ rb hU (by omega)).mono ?_
        rintro e w1 ⟨v1, rfl, o1, b1⟩
        obtain ⟨A', n', c', rfl, -, -, r'⟩ := o1.got
        have hn' : n' ≤ (k + 1) * 10 := by have := r'.len; have := rb.len; simp only [List.length_append] at *; omega
        rw [← HT.out] at r'
        have hb' := hbr.then_ b1
        clear rb o1 b1 hbr
        go_wp2_with fail
        go_roundw
        case rel => exact ⟨A', n', c', k + 1, rfl, by omega, hn', by go_num, r', hb'⟩
        case measure => simp [intOf]; omega
      · go_wp2_with fail
        obtain ⟨w1, rfl⟩ : ∃ w1 : World, w1 = wr := ⟨_, rfl⟩
        have hkn : ns.take k = ns := List.take_of_length_le (by have := l0.out; rw [List.length_map] at this; omega)
        rw [hkn] at rb
        have hn0 : n ≤ 200 := by omega
        clear hkn hn
        go_loopw [7, 9] (fun b i wr => ∃ (A : Option Addr) (n c k : Nat), b = .slice A n c ∧ k ≤ p1 ∧ n ≤ 200 + k * 10 ∧ i = .int .i64 k ∧ RB wr A n (cat num ns ++ cat (fun k => num (fold k)) (ks.take k)) ∧ Below w0.heap.size w0 wr) (fun _ i _ => p1 - (intOf i).toNat)
        case atStart => exact ⟨A, n, c, 0, rfl, Nat.zero_le _, by omega, rfl, by rw [List.take_zero]; show RB _ _ _ (cat num ns ++ []); rw [List.append_nil]; exact rb, hbr⟩
        case round =>
          clear rb hbr hn0
          obtain ⟨A, n, c, k1, rfl, hk, hn, rfl, rb, hbr⟩ := hrel
          by_cases hlt1 : k1 < p1
          · obtain ⟨b, o, rfl, hbl, hkl, hc⟩ := (r1.below hbr).at_ hlt1
            rw [List.getElem_map] at hc
            rw [List.length_map] at hkl
            have hU := HU1'.out ks[k1] (List.getElem_mem _)
            obtain ⟨hU1, hU2⟩ := hU
            have HT := Lib.hid (cat_take (fun k => num (fold k)) ks k1 hkl)
            have h10 := num_le10 (fold_lt hU1 hU2)
            go_wp2_with fail
            refine (putInt_any _ _ _ ks[k1] _ _ rb hU1 hU2 (by omega)).mono ?_
            rintro e w1' ⟨v1, rfl, o1, b1⟩
            obtain ⟨A', n', c', rfl, -, -, r'⟩ := o1.got
            have hn' : n' ≤ 200 + (k1 + 1) * 10 := by have := r'.len; have := rb.len; simp only [List.length_append] at *; omega
            rw [List.append_assoc, ← HT.out] at r'
            have hb' := hbr.then_ b1
            clear rb o1 b1 hbr
            go_wp2_with fail
            go_roundw
            case rel => exact ⟨A', n', c', k1 + 1, rfl, by omega, hn', by go_num, r', hb'⟩
            case measure => simp [intOf]; omega
          · go_wp2_with fail
            obtain ⟨w2, rfl⟩ : ∃ w2 : World, w2 = wr := ⟨_, rfl⟩
            have hkn : ks.take k1 = ks := List.take_of_length_le (by have := l1.out; rw [List.length_map] at this; omega)
            rw [hkn] at rb
            have hn0 : n ≤ 400 := by omega
            clear hkn hn
            go_loopw [7, 10, 11] (fun b i _ wr => ∃ (A : Option Addr) (n c k : Nat), b = .slice A n c ∧ k ≤ p2 ∧ n ≤ 400 + k * 120 ∧ i = .int .i64 k ∧ RB wr A n (cat num ns ++ cat (fun k => num (fold k)) ks ++ cat enc2 (ss.take k)) ∧ Below w0.heap.size w0 wr) (fun _ i _ _ => p2 - (intOf i).toNat)
            case atStart => exact ⟨A, n, c, 0, rfl, Nat.zero_le _, by omega, rfl, by rw [List.take_zero]; show RB _ _ _ (_ ++ []); rw [List.append_nil]; exact rb, hbr⟩
            case round =>
              clear rb hbr hn0
              obtain ⟨A, n, c, k2, rfl, hk, hn, rfl, rb, hbr⟩ := hrel
              by_cases hlt2 : k2 < p2
              · obtain ⟨b, o, rfl, hbl, hkl, hc⟩ := (r2.below hbr).at_ hlt2
                rw [List.getElem_map] at hc
                rw [List.length_map] at hkl
                have hU := HU2'.out ss[k2] (List.getElem_mem _)
                have HT := Lib.hid (cat_take enc2 ss k2 hkl)
                have hz1 : (0 : Int) ≤ (k2 : Int) := by omega
                have hz2 : (k2 : Int) < (p2 : Int) := by omega
                unfold maxLen at hU
                generalize hst : ss[k2] = st at hU hc HT
                go_upto_region 14 with fail
                go_cut [11] (fun s11 wx => s11 = .string ⟨(cutS st).toArray⟩ ∧ ∃ q, wx = wr.drewN q)
                case first =>
                  by_cases h50 : st.size ≤ 50
                  · have HC := Lib.hid (cut_small h50)
                    go_quiet (fail)
                    go_wp2_with fail
                    go_meet
                    exact ⟨by rw [← HC.out], _, rfl⟩
                  · have HC := Lib.hid (cut_big st)
                    go_quiet (fail)
                    go_wp2_with fail
                    go_meet
                    exact ⟨by rw [HC.out], _, rfl⟩
                case rest =>
                  obtain ⟨rfl, q, rfl⟩ := hcut
                  have rbq := rb.drewN q
                  have hbq := below_drewN hbr q
                  have hcl : (cutS st).length ≤ 50 := by unfold cutS; rw [List.length_take]; omega
                  have hsz : (ByteArray.mk (cutS st).toArray).size = (cutS st).length := by show (cutS st).toArray.size = _; simp
                  have HSZ := Lib.hid hsz
                  clear hsz
                  generalize wr.drewN q = wq at rbq hbq ⊢
                  clear rb hbr
                  go_wp2_with ((with_reducible show wpList _ _ _ (⟨some 75, _, _, _, _, _⟩ :: _) _ _); refine wpList_conv8 _ rfl (.tmp 74) rfl ⟨(cutS st).toArray⟩ rfl ?_; intro A4 n4 c4 w4 r4 b4 hnc4)
                  have r4 : RB w4 A4 n4 (cutS st) := by simpa using r4
                  have hn4 : n4 ≤ 50 := by have := r4.len; omega
                  refine (putBytes_any _ _ _ _ _ _ _ _ _ (rbq.below b4) r4 (by omega)).mono ?_
                  rintro e w5 ⟨v5, rfl, o5, b5⟩
                  obtain ⟨A5, n5, c5, rfl, -, -, r5⟩ := o5.got
                  have h10 := num_le10 (n := (cutS st).length) (by omega)
                  have hn5 : n5 ≤ n + 60 := by have := r5.len; have := rbq.len; simp only [List.length_append] at *; omega
                  go_wp2_with fail
                  refine (putText_any _ _ _ _ _ _ r5 (by rw [HSZ.out]; omega)).mono ?_
                  rintro e w6 ⟨v6, rfl, o6, b6⟩
                  obtain ⟨A6, n6, c6, rfl, -, -, r6⟩ := o6.got
                  have r6 : RB w6 A6 n6 (cat num ns ++ cat (fun k => num (fold k)) ks ++ cat enc2 (ss.take (k2 + 1))) := by
                    rw [HT.out]
                    have e : (cat num ns ++ cat (fun k => num (fold k)) ks ++ cat enc2 (ss.take k2) ++ num (cutS st).length ++ cutS st ++ num (ByteArray.mk (cutS st).toArray).size ++ (ByteArray.mk (cutS st).toArray).data.toList) = (cat num ns ++ cat (fun k => num (fold k)) ks ++ (cat enc2 (ss.take k2) ++ enc2 st)) := by
                      rw [HSZ.out]
                      unfold enc2 encT
                      simp
                    rw [← e]
                    exact r6
                  have hn6 : n6 ≤ 400 + (k2 + 1) * 120 := by
                    have h1 := r6.len
                    have h2 := rbq.len
                    rw [HT.out] at h1
                    unfold enc2 encT at h1
                    unfold enc2 encT at h2
                    simp only [List.length_append] at h1 h2
                    omega
                  have hb6 := ((hbq.then_ b4).then_ b5).then_ b6
                  clear r5 o5 b5 r4 b4 rbq hbq o6 b6 HT
                  go_wp2_with fail
                  go_roundw
                  case rel => exact ⟨A6, n6, c6, k2 + 1, rfl, by omega, hn6, by go_num, r6, hb6⟩
                  case measure => simp [intOf]; omega
              · go_wp2_with fail
                have hkn : ss.take k2 = ss := List.take_of_length_le (by have := l2.out; rw [List.length_map] at this; omega)
                rw [hkn, List.append_assoc] at rb
                have hn0 : n ≤ 2800 := by omega
                clear hkn hn
                obtain ⟨wl, rfl⟩ : ∃ wl : World, wl = wr := ⟨_, rfl⟩
                refine (newReader_any _ _ _ _ _ rb (by omega)).mono ?_
                rintro e w3 ⟨g, rfl, rd, b3⟩
                have hb3 := hbr.then_ b3
                have hgl := rd.lo_le
                have hgs := rd.lt
                have s0 := hbr.size
                clear rb hbr b3
                generalize hB : cat num ns ++ (cat (fun k => num (fold k)) ks ++ cat enc2 ss) = B at rd
                have HB := Lib.hid hB
                clear hB
                go_wp2_with fail
                go_loopw [13] (fun i wz => ∃ (k : Nat) (pre : List UInt8), k ≤ p0 ∧ i = .int .i64 k ∧ Hid (B = pre ++ (cat num (ns.drop k) ++ (cat (fun k => num (fold k)) ks ++ cat enc2 ss))) ∧ Rdr wz wl.heap.size g B pre.length 0 ∧ Kept (fun k => k = g) w3 wz) (fun i _ => p0 - (intOf i).toNat)
                case atStart => exact ⟨0, [], Nat.zero_le _, rfl, HB.out.symm, rd, Kept.refl _ _⟩
                case round =>
                  clear rd
                  obtain ⟨k3, pre, hk3, rfl, HP, rd, kz⟩ := hrel
                  have hbz : Below w0.heap.size w0 wr := hb3.trans (kz.to_below (by have := hb3.size; omega) (fun k h1 h2 => by omega))
                  by_cases hlt3 : k3 < p0
                  · obtain ⟨b, o, rfl, hbl, hkl, hc⟩ := (r0.below hbz).at_ hlt3
                    rw [List.getElem_map] at hc
                    rw [List.length_map] at hkl
                    have hU := HU0'.out ns[k3] (List.getElem_mem _)
                    have HD := Lib.hid (cat_drop num ns k3 hkl)
                    have hz1 : (0 : Int) ≤ (k3 : Int) := by omega
                    have hz2 : (k3 : Int) < (p0 : Int) := by omega
                    have hbw : b < w0.heap.size := by obtain ⟨b', o', e', hb', _⟩ := r0.at_ hlt3; simp at e'; omega
                    generalize hx : ns[k3] = x at hc hU HD
                    have HP' : Hid (B = pre ++ (num x ++ (cat num (ns.drop (k3 + 1)) ++ (cat (fun k => num (fold k)) ks ++ cat enc2 ss)))) := by
                      rw [Hid, HP.out, HD.out]; simp
                    have HC := Lib.hid (fun W (h : Rdr W wl.heap.size g B pre.length 0) => num_there wl.heap.size g x x pre _ B W HP'.out hU (Nat.le_refl _) h)
                    have rdd := rd.below (below_drewN (Below.refl _ _) 1)
                    have hc' : wr.drew.cell? ⟨b, o + k3, none⟩ = some (.int .u64 (x : Int)) := hc
                    have hnx : ((x : Int) != (x : Int)) = false := by simp
                    clear hx
                    go_wp2_with fail
                    go_region_held3 (fun w' => w'.cell? ⟨b, o + k3, none⟩ = some (.int .u64 (x : Int))) (first | exact hc' | exact hc7)
                      (first | (go_at_call 23; refine (HC.out _ rdd).mono ?_; rintro e w7 ⟨rfl, rd7, k7⟩; have hc7 := (k7.cell (p := ⟨b, o + k3, none⟩) (show b < wr.heap.size by omega) (show ¬ b = g by omega)).trans hc'))
                    go_wp2_with fail
                    go_roundw
                    case rel => exact ⟨k3 + 1, pre ++ num x, by omega, by go_num, by rw [Hid, List.append_assoc]; exact HP'.out, rd7, kz.drew.trans k7⟩
                    case measure => simp [intOf]; omega
                  · go_wp2_with fail
                    obtain ⟨wm, rfl⟩ : ∃ wm : World, wm = wr := ⟨_, rfl⟩
                    have HP0 : Hid (B = pre ++ (cat (fun k => num (fold k)) ks ++ cat enc2 ss)) := by
                      have hd : ns.drop k3 = [] := List.drop_eq_nil_of_le (by have := l0.out; rw [List.length_map] at this; omega)
                      rw [Hid, HP.out, hd]; rfl
                    have sm := kz.size
                    go_loopw [14] (fun i wz => ∃ (k : Nat) (pre : List UInt8), k ≤ p1 ∧ i = .int .i64 k ∧ Hid (B = pre ++ (cat (fun k => num (fold k)) (ks.drop k) ++ cat enc2 ss)) ∧ Rdr wz wl.heap.size g B pre.length 0 ∧ Kept (fun k => k = g) w3 wz) (fun i _ => p1 - (intOf i).toNat)
                    case atStart => exact ⟨0, pre, Nat.zero_le _, rfl, HP0, rd, kz⟩
                    case round =>
                      clear rd kz hbz HP HP0
                      obtain ⟨k4, pre, hk4, rfl, HP, rd, kz⟩ := hrel
                      have hbz : Below w0.heap.size w0 wr := hb3.trans (kz.to_below (by have := hb3.size; omega) (fun k h1 h2 => by omega))
                      by_cases hlt4 : k4 < p1
                      · obtain ⟨b, o, rfl, hbl, hkl, hc⟩ := (r1.below hbz).at_ hlt4
                        rw [List.getElem_map] at hc
                        rw [List.length_map] at hkl
                        have hU := HU1'.out ks[k4] (List.getElem_mem _)
                        have HD := Lib.hid (cat_drop (fun k => num (fold k)) ks k4 hkl)
                        have hz1 : (0 : Int) ≤ (k4 : Int) := by omega
                        have hz2 : (k4 : Int) < (p1 : Int) := by omega
                        have hbw : b < w0.heap.size := by obtain ⟨b', o', e', hb', _⟩ := r1.at_ hlt4; simp at e'; omega
                        generalize hx : ks[k4] = x at hc hU HD
                        obtain ⟨hU1, hU2⟩ := hU
                        have HP' : Hid (B = pre ++ (num (fold x) ++ (cat (fun k => num (fold k)) (ks.drop (k4 + 1)) ++ cat enc2 ss))) := by
                          rw [Hid, HP.out, HD.out]; simp
                        have HC := Lib.hid (fun W (h : Rdr W wl.heap.size g B pre.length 0) => int_there wl.heap.size g x pre _ B W HP'.out hU1 hU2 h)
                        have rdd := rd.below (below_drewN (Below.refl _ _) 1)
                        have hc' : wr.drew.cell? ⟨b, o + k4, none⟩ = some (.int .i64 x) := hc
                        have hnx : (x != x) = false := by simp
                        clear hx
                        go_wp2_with fail
                        go_region_held3 (fun w' => w'.cell? ⟨b, o + k4, none⟩ = some (.int .i64 x)) (first | exact hc' | exact hc7)
                          (first | (go_at_call 22; refine (HC.out _ rdd).mono ?_; rintro e w7 ⟨rfl, rd7, k7⟩; have hc7 := (k7.cell (p := ⟨b, o + k4, none⟩) (show b < wr.heap.size by omega) (show ¬ b = g by omega)).trans hc'))
                        go_wp2_with fail
                        go_roundw
                        case rel => exact ⟨k4 + 1, pre ++ num (fold x), by omega, by go_num, by rw [Hid, List.append_assoc]; exact HP'.out, rd7, kz.drew.trans k7⟩
                        case measure => simp [intOf]; omega
                      · go_wp2_with fail
                        obtain ⟨wn, rfl⟩ : ∃ wn : World, wn = wr := ⟨_, rfl⟩
                        have HP0 : Hid (B = pre ++ cat enc2 ss) := by
                          have hd : ks.drop k4 = [] := List.drop_eq_nil_of_le (by have := l1.out; rw [List.length_map] at this; omega)
                          rw [Hid, HP.out, hd]; rfl
                        go_loopw [15, 16] (fun i _ wz => ∃ (k : Nat) (pre : List UInt8), k ≤ p2 ∧ i = .int .i64 k ∧ Hid (B = pre ++ cat enc2 (ss.drop k)) ∧ Rdr wz wl.heap.size g B pre.length 0 ∧ Kept (fun k => k = g) w3 wz) (fun i _ _ => p2 - (intOf i).toNat)
                        case atStart => exact ⟨0, pre, Nat.zero_le _, rfl, HP0, rd, kz⟩
                        case round =>
                          clear rd kz hbz HP HP0
                          obtain ⟨k5, pre, hk5, rfl, HP, rd, kz⟩ := hrel
                          have hbz : Below w0.heap.size w0 wr := hb3.trans (kz.to_below (by have := hb3.size; omega) (fun k h1 h2 => by omega))
                          by_cases hlt5 : k5 < p2
                          · obtain ⟨b, o, rfl, hbl, hkl, hc⟩ := (r2.below hbz).at_ hlt5
                            rw [List.getElem_map] at hc
                            rw [List.length_map] at hkl
                            have hU := HU2'.out ss[k5] (List.getElem_mem _)
                            have HD := Lib.hid (cat_drop enc2 ss k5 hkl)
                            have hz1 : (0 : Int) ≤ (k5 : Int) := by omega
                            have hz2 : (k5 : Int) < (p2 : Int) := by omega
                            unfold maxLen at hU
                            generalize hst : ss[k5] = st at hU hc HD
                            go_upto_region 32 with fail
                            go_cut [16] (fun s16 wx => s16 = .string ⟨(cutS st).toArray⟩ ∧ ∃ q, wx = wr.drewN q)
                            case first =>
                              by_cases h50 : st.size ≤ 50
                              · have HC := Lib.hid (cut_small h50)
                                go_quiet (fail)
                                go_wp2_with fail
                                go_meet
                                exact ⟨by rw [← HC.out], _, rfl⟩
                              · have HC := Lib.hid (cut_big st)
                                go_quiet (fail)
                                go_wp2_with fail
                                go_meet
                                exact ⟨by rw [HC.out], _, rfl⟩
                            case rest =>
                              obtain ⟨rfl, q, rfl⟩ := hcut
                              have hcl : (cutS st).length ≤ 50 := by unfold cutS; rw [List.length_take]; omega
                              have HP' : Hid (B = pre ++ (encT (cutS st) ++ (encT (cutS st) ++ cat enc2 (ss.drop (k5 + 1))))) := by
                                rw [Hid, HP.out, HD.out]; unfold enc2; simp
                              have HP2 : Hid (B = (pre ++ encT (cutS st)) ++ (encT (cutS st) ++ cat enc2 (ss.drop (k5 + 1)))) := by
                                rw [Hid, HP'.out]; simp
                              have HP3 : Hid (B = (pre ++ encT (cutS st) ++ encT (cutS st)) ++ cat enc2 (ss.drop (k5 + 1))) := by
                                rw [Hid, HP'.out]; simp
                              clear HD HP hst hc hU
                              generalize cutS st = t at hcl HP' HP2 HP3 ⊢
                              have rdq := rd.below (below_drewN (Below.refl _ _) q)
                              have kq := kz.drewN q
                              generalize wr.drewN q = wq at rdq kq ⊢
                              clear rd kz hbz
                              go_wp2_with fail
                              refine (bytes_there wl.heap.size g t pre _ B _ HP'.out hcl rdq).mono ?_
                              rintro e w7 ⟨v7, rfl, o7, rd7, k7⟩
                              obtain ⟨A7, m7, c7, rfl, -, -, r7⟩ := o7.got
                              have hcv := run_text c7 r7
                              have rd7 : Rdr w7 wl.heap.size g B (pre ++ encT t).length 0 := rd7
                              have hne : (t != t) = false := by simp
                              go_wp2_with fail
                              refine (text_there wl.heap.size g t (pre ++ encT t) _ B _ HP2.out hcl rd7).mono ?_
                              rintro e w8 ⟨rfl, rd8, k8⟩
                              go_wp2_with fail
                              go_roundw
                              case rel => exact ⟨k5 + 1, pre ++ encT t ++ encT t, by omega, by go_num, HP3, rd8, (kq.trans k7).trans k8⟩
                              case measure => simp [intOf]; omega
                          · have HL : Hid (B.length = pre.length) := by
                              have hd : ss.drop k5 = [] := List.drop_eq_nil_of_le (by have := l2.out; rw [List.length_map] at this; omega)
                              have h := HP.out
                              rw [hd] at h
                              rw [Hid, h]
                              show (pre ++ []).length = _
                              rw [List.append_nil]
                            have HE : Hid (endOf B pre.length 0 = 0) := by unfold endOf; rw [Hid, if_neg (by simp), if_neg (by have := HL.out; omega)]
                            have HZ : Hid (B.length - pre.length = 0) := by have := HL.out; rw [Hid]; omega
                            clear HL HP
                            go_wp2_with fail
                            refine (known_any _).mono ?_
                            rintro e w7 ⟨rfl, b7⟩
                            go_wp2_with fail
                            refine (end_any _ g pre.length 0 B _ (rd.below b7)).mono ?_
                            rintro e w8 ⟨rfl, b8⟩
                            rw [HE.out]
                            go_wp2_with fail
                            refine (left_tells _ g pre.length 0 B _ ((rd.below b7).below b8)).mono ?_
                            rintro e w9 ⟨rfl, b9⟩
                            rw [HZ.out]
                            go_wp2_with fail
                            go_ret
                            exact ⟨rfl, hb0.then_ (((hbz.then_ b7).then_ b8).then_ b9)⟩
end Go.Proofs.Ytcjgpfocngipmaa
