/-
  TopupAll: the walk.
-/
import Derived.Test.YtdbffjipoiphpaaT25
namespace Go.Proofs.Ytdbffjipoiphpaa
open Go.RowKit

/-- The k-th seat from p on. -/
def sq (p n k : Nat) : Nat := if p + k < n then p + k else p + k - n
theorem sq_lt {p n k : Nat} (hp : p < n) (hk : k < n) : sq p n k < n := by unfold sq; split <;> omega
theorem sq_mod {p n k : Nat} (hp : p < n) (hk : k < n) : (p + k) % n = sq p n k := by
  unfold sq
  split
  · exact Nat.mod_eq_of_lt (by assumption)
  · rw [Nat.mod_eq_sub_mod (by omega)]
    exact Nat.mod_eq_of_lt (by omega)
theorem sq_inj {p n j k : Nat} (_hp : p < n) (hj : j < n) (hk : k < n) (h : sq p n j = sq p n k) : j = k := by
  unfold sq at h
  split at h <;> split at h <;> omega
theorem sq_all {p n i : Nat} (hp : p < n) (hi : i < n) : ∃ j, j < n ∧ sq p n j = i := by
  refine ⟨if p ≤ i then i - p else i + n - p, ?_, ?_⟩
  · split <;> omega
  · unfold sq
    split <;> split <;> omega

theorem seat_form (first : Int) (k : Nat) (hk : 0 < k) (hk8 : k ≤ 8) : ∃ p, p < k ∧ ∀ j, j < k → (wrap64 (wrap64 ((IntKind.u64.wrap first).tmod (k : Int)) + (j : Int))).tmod (k : Int) = ((sq p k j : Nat) : Int) := by
  have h0 : 0 ≤ IntKind.u64.wrap first := by rw [IntKind.wrap_u64]; exact Int.emod_nonneg _ (by omega)
  generalize IntKind.u64.wrap first = u at *
  rw [Int.tmod_eq_emod_of_nonneg h0]
  have h1 : 0 ≤ u % (k : Int) := Int.emod_nonneg _ (by omega)
  have h2 : u % (k : Int) < k := Int.emod_lt_of_pos _ (by omega)
  obtain ⟨p, hp⟩ : ∃ p : Nat, u % (k : Int) = (p : Int) := ⟨_, (Int.toNat_of_nonneg h1).symm⟩
  rw [hp] at h1 h2 ⊢
  have hpk : p < k := by omega
  refine ⟨p, hpk, fun j hj => ?_⟩
  have e1 : wrap64 (p : Int) = p := by unfold wrap64; omega
  have e2 : wrap64 ((p : Int) + (j : Int)) = ((p + j : Nat) : Int) := by unfold wrap64; omega
  rw [e1, e2, Int.tmod_eq_emod_of_nonneg (by omega), ← Int.natCast_emod, sq_mod hpk hj]
theorem RI.cell_at {w : World} {b o n k : Nat} {xs : List Int} (h : RI w (some ⟨b, o, none⟩) n xs) (hk : k < n) : w.cell? ⟨b, o + k, none⟩ = some (.int .i64 (xs.getD k 0)) := by
  obtain ⟨b', o', e, _, hl, hc⟩ := h.at_ hk
  injection e with e
  injection e with e1 e2
  subst e1 e2
  rw [hc, List.getD_eq_getElem?_getD, List.getElem?_eq_getElem hl]; rfl

/-- What holds at each round of TopupAll's second loop. -/
structure AllAt (w : World) (m : Nat) (A A' : Option Addr) (s a : List Int) (g gs cs p k : Nat) (V : Nat → Bool) (W : World) : Prop where
  ra : RA w m A A' s a g gs cs V W
  was : ∀ j, j < k → V (sq p s.length j) = true
  not : ∀ j, k ≤ j → j < s.length → V (sq p s.length j) = false
theorem AllAt.next {w W W' : World} {m : Nat} {A A' : Option Addr} {s a : List Int} {g gs cs p k : Nat} {V : Nat → Bool} (h : AllAt w m A A' s a g gs cs p k V W) (hp : p < s.length) (hk : k < s.length) (hr : RA w m A A' s a g gs cs (upd V (sq p s.length k)) W') : AllAt w m A A' s a g gs cs p (k + 1) (upd V (sq p s.length k)) W' := by
  refine ⟨hr, fun j hj => ?_, fun j h1 h2 => ?_⟩
  · unfold upd
    rcases Nat.lt_or_ge j k with h1 | h1
    · rw [h.was j h1]; rfl
    · obtain rfl : j = k := by omega
      simp
  · unfold upd
    rw [h.not j (by omega) h2]
    have : (sq p s.length j == sq p s.length k) = false := by
      rw [beq_eq_false_iff_ne]
      intro e
      have := sq_inj hp h2 hk e
      omega
    rw [this]; rfl
theorem AllAt.done {w W : World} {m : Nat} {A A' : Option Addr} {s a : List Int} {g gs cs p : Nat} {V : Nat → Bool} (h : AllAt w m A A' s a g gs cs p s.length V W) (hp : p < s.length) : cnt a V s.length = 0 := by
  rw [cnt_zero]
  intro i hi
  obtain ⟨j, hj, rfl⟩ := sq_all hp hi
  rw [h.was j hj, Bool.or_true]

theorem getD_at {l : List Int} {i : Nat} (h : i < l.length) : l[i] = l.getD i 0 := by
  rw [List.getD_eq_getElem?_getD, List.getElem?_eq_getElem h]; rfl

set_option maxHeartbeats 4000000 in
set_option maxRecDepth 100000 in
theorem all_walk (A0 A1 : Option Addr) (n0 c0 n1 c1 : Nat) (xs ys : List Int) (first : Int) (w : World) (hx : RV w A0 n0 (xs.map (Value.int .u16))) (hy : RV w A1 n1 (ys.map (Value.int .u16))) (hxw : ∀ z ∈ xs, 0 ≤ z ∧ z ≤ 65535) (hyw : ∀ z ∈ ys, 0 ≤ z ∧ z ≤ 65535) (hf : -9223372036854775808 ≤ first ∧ first ≤ 9223372036854775807) :
    Calls Try.prog 4 #[.slice A0 n0 c0, .slice A1 n1 c1, .int .i64 first] w (Tells w true) := by
  have HR := Lib.hid (raised_any A0 A1 n0 c0 n1 c1 xs ys w hx hy hxw hyw _ rfl)
  clear hx hy hxw hyw
  obtain ⟨hf0, hf1⟩ := hf
  generalize xs.take _ = s at HR
  generalize ys.take _ = a at HR
  go_enter Try.func4, Try.ntmps4
  go_wp2_with fail
  refine HR.out.mono ?_
  clear HR
  rintro e w1 ⟨A, c, A', c', m, hm0, hm1, f1, r1, r2, hc1, hc2, ⟨hno, rfl⟩ | ⟨⟨hok, hpos⟩, S, g, gs, cs, wp, rfl, B1, hS⟩⟩
  · go_wp2_with fail
    refine (known_any _).mono ?_
    rintro e w2 ⟨rfl, b2⟩
    go_wp2_with fail
    go_ret
    exact ⟨rfl, f1.then_ b2⟩
  · have ra : RA w m A A' s a g gs cs (fun _ => false) w1 := ⟨S, wp, _, B1, hS, PS_start hok hpos, r1, r2, hm0, hm1, f1, hok⟩
    clear B1 hS r1 r2 hm0 hm1 f1 hpos
    have h8 := hok.few
    have h2 := hok.two
    obtain ⟨n, hn⟩ : ∃ n, n = s.length := ⟨_, rfl⟩
    have HN := Lib.hid hn
    have HA := Lib.hid hok.len
    rw [← hn] at h8 h2 hc1 hc2
    rw [← hn]
    clear hn hok
    have ha : RI w1 A' n a := by rw [HN.out]; exact ra.a_
    have HRI := Lib.hid ha
    clear ha
    have han : a.length = n := by rw [HN.out]; exact HA.out
    have HAN := Lib.hid han
    clear han
    have RA1 := Lib.hid ra
    clear ra
    have HW := Lib.hid (fun (x : Int) (hx : x ∈ a) => RA1.out.ok.ar x hx)
    go_wp2_with fail
    go_loopw [11, 12] (fun l i wr => ∃ k : Nat, k ≤ n ∧ i = .int .i64 k ∧ l = .int .i64 (cnt a (fun _ => false) k : Nat) ∧ wr = w1) (fun _ i _ => n - (intOf i).toNat)
    case atStart => exact ⟨0, by omega, rfl, rfl, rfl⟩
    case round =>
      obtain ⟨k, hk, rfl, rfl, hwr⟩ := hrel
      subst hwr
      have hck := cnt_le a (fun _ => false) k
      by_cases hlt : k < n
      · obtain ⟨bb, oo, rfl, hbb, hl, hcc⟩ := HRI.out.at_ hlt
        have hw := HW.out _ (List.getElem_mem hl)
        have HC := Lib.hid (cnt_succ a (fun _ => false) k)
        rw [getD_at hl] at hcc hw
        simp only [Bool.or_false] at HC
        generalize a.getD k 0 = x at *
        obtain ⟨hw0, hw1⟩ := hw
        generalize cnt a (fun _ => false) k = q at *
        by_cases hx : 0 < x
        · have hx' : (x == 0) = false := by rw [beq_eq_false_iff_ne]; omega
          rw [hx'] at HC
          clear hx'
          go_wp2_with fail
          go_roundw
          case rel => exact ⟨k + 1, by omega, by go_num, by rw [HC.out]; go_num, trivial⟩
          case measure => simp [intOf]; omega
        · obtain rfl : x = 0 := by omega
          go_wp2_with fail
          go_roundw
          case rel => exact ⟨k + 1, by omega, by go_num, by rw [HC.out]; rfl, trivial⟩
          case measure => simp [intOf]; omega
      · obtain rfl : k = n := by omega
        have hck := cnt_le a (fun _ => false) k
        go_wp2_with fail
        obtain ⟨q, hq⟩ : ∃ q, cnt a (fun _ => false) k = q := ⟨_, rfl⟩
        rw [hq]
        rw [hq] at hck
        have HQ := Lib.hid hq
        clear hq
        obtain ⟨p, hpk, hsf⟩ := seat_form first k (by omega) (by omega)
        have SF := Lib.hid hsf
        clear hsf
        have st : AllAt w m A A' s a g gs cs p 0 (fun _ => false) wr := ⟨RA1.out, fun j h => absurd h (by omega), fun _ _ _ => rfl⟩
        have ST : Hid (cnt a (fun _ => false) k = q ∧ AllAt w m A A' s a g gs cs p 0 (fun _ => false) wr) := ⟨HQ.out, st⟩
        clear st HRI RA1 HQ
        go_loopw [11, 13] (fun l i W => ∃ (j q : Nat) (V : Nat → Bool), j ≤ k ∧ i = .int .i64 j ∧ l = .int .i64 q ∧ q ≤ k ∧ Hid (cnt a V k = q ∧ AllAt w m A A' s a g gs cs p j V W)) (fun _ i _ => k - (intOf i).toNat)
        case atStart => exact ⟨0, q, _, by omega, rfl, rfl, hck, ST⟩
        case round =>
          clear ST hck
          obtain ⟨j, q, V, hj, rfl, rfl, hqk, ST⟩ := hrel
          by_cases hlt : j < k
          · go_upto_region 15 with fail
            rw [SF.out j hlt]
            have hik := sq_lt hpk hlt
            obtain ⟨hcq, st⟩ := ST.out
            have hnv : V (sq p k j) = false := by
              have h := st.not j (Nat.le_refl _)
              rw [← HN.out] at h
              exact h hlt
            have HCQ := Lib.hid hcq
            have HNX := Lib.hid (fun (W' : World) => st.next (W' := W') (by rw [← HN.out]; exact hpk) (by rw [← HN.out]; exact hlt))
            rw [← HN.out] at HNX
            have ra := st.ra
            clear st hcq ST
            obtain ⟨i, hie⟩ : ∃ i, sq p k j = i := ⟨_, rfl⟩
            rw [hie] at hik hnv HNX
            rw [hie]
            clear hie
            have his : i < s.length := by rw [← HN.out]; exact hik
            have raa := ra.a_
            rw [← HN.out] at raa
            obtain ⟨bb, oo, rfl, hbb, hl, hc9⟩ := raa.at_ hik
            have hcc := raa.cell_at hik
            have hw := HW.out _ (List.getElem_mem hl)
            rw [getD_at hl] at hw
            clear raa hc9 hl
            have hxz : (a.getD i 0 == 0 || V i) = (a.getD i 0 == 0) := by rw [hnv, Bool.or_false]
            have HCU := Lib.hid (cnt_upd a V i k)
            rw [hxz] at HCU
            have HXZ := Lib.hid hxz
            have HCL := Lib.hid (fun W (r : RA w m A (some ⟨bb, oo, none⟩) s a g gs cs V W) => (show W.cell? ⟨bb, oo + i, none⟩ = some (.int .i64 (a.getD i 0)) from r.a_.cell_at his))
            have HCL2 := Lib.hid (fun W (r : RA w m A (some ⟨bb, oo, none⟩) s a g gs cs (upd V i) W) => (show W.cell? ⟨bb, oo + i, none⟩ = some (.int .i64 (a.getD i 0)) from r.a_.cell_at his))
            clear hxz hnv
            obtain ⟨x, hx⟩ : ∃ x, a.getD i 0 = x := ⟨_, rfl⟩
            have HPZ := Lib.hid (fun W (r : RA w m A (some ⟨bb, oo, none⟩) s a g gs cs V W) => put_zero r i his)
            have HPM := Lib.hid (fun W (r : RA w m A (some ⟨bb, oo, none⟩) s a g gs cs V W) => put_more r i (x + 1) his)
            have HPR := Lib.hid (fun W (r : RA w m A (some ⟨bb, oo, none⟩) s a g gs cs V W) => put_right r i his)
            have HPT := Lib.hid (fun W (r : RA w m A (some ⟨bb, oo, none⟩) s a g gs cs (upd V i) W) => put_twice r i his)
            have HUP : Hid ((x == 0 || upd V i i) = true) := by simp [Hid, upd]
            rw [hx] at hcc hw HCU HXZ HCL HCL2 HPZ HPM HPR HPT
            have HX := Lib.hid hx
            clear hx
            obtain ⟨hw0, hw1⟩ := hw
            by_cases hz : x = 0
            · subst hz
              have hcu : cnt a (upd V i) k = q := by
                have h1 := HCU.out
                rw [if_neg (by simp)] at h1
                rw [← HCQ.out]; omega
              have HCV := Lib.hid hcu
              clear hcu
              go_wp2_with fail
              refine (HPZ.out _ ra trivial).mono ?_
              rintro e w2 ⟨z, rfl, hz0, ra2⟩
              have a2 := HNX.out _ ra2
              go_wp2_with fail
              go_roundw
              case rel => exact ⟨j + 1, q, upd V i, by omega, by go_num, rfl, hqk, ⟨HCV.out, a2⟩⟩
              case measure => simp [intOf]; omega
            · have hzb : (x == 0) = false := by rw [beq_eq_false_iff_ne]; exact hz
              have hcu : cnt a V k = cnt a (upd V i) k + 1 := by
                have h1 := HCU.out
                rwa [hzb, if_pos ⟨hik, rfl⟩] at h1
              have hq1 : q = cnt a (upd V i) k + 1 := by rw [← HCQ.out]; exact hcu
              obtain ⟨r, hr⟩ : ∃ r, cnt a (upd V i) k = r := ⟨_, rfl⟩
              rw [hr] at hq1
              subst hq1
              have HCR := Lib.hid hr
              have hc0 : 0 < cnt a V s.length := by rw [← HN.out, HCQ.out]; omega
              have HC0 := Lib.hid hc0
              have HZ1 : Hid ((x == 0 || V i) = false) := by rw [Hid, HXZ.out]; exact hzb
              clear hc0 hr hcu hz
              go_wp2_with fail
              refine (open_waits ra HC0.out).mono ?_
              rintro e w2 ⟨r0, r1, r2, r3, r4, r5, r6, r7, rnum, rtill, rB, rBL, rn, rc, rnl, rcl, rfl, ra2⟩
              go_wp2_with fail
              refine (stakes_waits (ra2.al _) HC0.out).mono ?_
              rintro e w3 ⟨B3, c3, rfl, ri3, ra3⟩
              have rs3 := ra3.s_
              rw [← HN.out] at ri3 rs3
              rw [← HN.out]
              go_wp2_with fail
              refine (ints_true B3 A k c3 c s _ ri3 rs3 (by omega)).mono ?_
              rintro e w4 ⟨rfl, b4⟩
              have ra4 := ra3.below b4
              have cc4 := HCL.out _ ra4
              clear ra3 ri3 rs3 b4 ra2
              go_wp2_with fail
              refine (HPM.out _ ra4 HZ1.out (by omega)).mono ?_
              rintro e w5 ⟨z, rfl, rfl, ra5⟩
              have cc5 := HCL.out _ ra5
              clear ra4
              go_wp2_with fail
              refine (HPR.out _ ra5 HZ1.out).mono ?_
              rintro e w6 ⟨z, rfl, rfl, ra6⟩
              have cc6 := HCL2.out _ ra6
              clear ra5
              have hrk : r ≤ k := by omega
              by_cases hr0 : r = 0
              · subst hr0
                have a6 := HNX.out _ ra6
                go_wp2_with fail
                go_roundw
                case rel => exact ⟨j + 1, 0, upd V i, by omega, by go_num, rfl, by omega, ⟨HCR.out, a6⟩⟩
                case measure => simp [intOf]; omega
              · have hr1 : 0 < r := by omega
                have hcp : 0 < cnt a (upd V i) s.length := by rw [← HN.out, HCR.out]; omega
                have HCP := Lib.hid hcp
                clear hcp hr0
                go_wp2_with fail
                refine (HPT.out _ ra6 HUP.out HCP.out).mono ?_
                rintro e w7 ⟨z, rfl, rfl, ra7⟩
                have a7 := HNX.out _ ra7
                go_wp2_with fail
                go_roundw
                case rel => exact ⟨j + 1, r, upd V i, by omega, by go_num, by go_num, by omega, ⟨HCR.out, a7⟩⟩
                case measure => simp [intOf]; omega
          · obtain rfl : j = k := by omega
            obtain ⟨hcq, st⟩ := ST.out
            have hpj : p < s.length := by rw [← HN.out]; exact hpk
            have hst := st
            rw [HN.out] at hst
            have hc0 := hst.done hpj
            have hq0 : q = 0 := by rw [← hcq, HN.out]; exact hc0
            subst hq0
            have HC0 := Lib.hid hc0
            have ra := st.ra
            clear st hst hc0 hcq ST
            go_wp2_with fail
            refine (open_done ra HC0.out).mono ?_
            rintro e w2 ⟨r0, r1, r2, r3, r4, r5, r6, r7, rnum, rtill, rB, rBL, rn, rc, rnl, rcl, rfl, ra2⟩
            go_wp2_with fail
            refine (stakes_done (ra2.al _) HC0.out).mono ?_
            rintro e w3 ⟨B3, c3, rfl, ri3, ra3⟩
            have rs3 := ra3.s_
            have rt3 := ra3.a_
            rw [← HN.out] at ri3 rs3 rt3
            rw [← HN.out]
            clear ra ra2
            have RI3 := Lib.hid ri3
            have RS3 := Lib.hid rs3
            have RT3 := Lib.hid rt3
            have RA3 := Lib.hid ra3
            clear ri3 rs3 rt3 ra3
            go_wp2_with fail
            go_loopw [22] (fun i W => ∃ t y : Nat, t ≤ j ∧ i = .int .i64 t ∧ W = w3.drewN y) (fun i _ => j - (intOf i).toNat)
            case atStart => exact ⟨0, 0, by omega, rfl, rfl⟩
            case round =>
              obtain ⟨t, y, ht, rfl, rfl⟩ := hrel
              by_cases htj : t < j
              · obtain ⟨b1, o1, rfl, _, hl1, hx1⟩ := RI3.out.at_ htj
                obtain ⟨b2, o2, rfl, _, hl2, hx2⟩ := RS3.out.at_ htj
                obtain ⟨b3, o3, rfl, _, hl3, hx3⟩ := RT3.out.at_ htj
                have c1 := RI3.out.cell_at htj
                have c2 := RS3.out.cell_at htj
                have c3 := RT3.out.cell_at htj
                have hs9 := RA3.out.ok.sr _ (List.getElem_mem hl2)
                have ha9 := RA3.out.ok.ar _ (List.getElem_mem hl3)
                rw [getD_at hl2] at hs9
                rw [getD_at hl3] at ha9
                have hz9 : (List.zipWith (· + ·) s a).getD t 0 = s.getD t 0 + a.getD t 0 := by
                  rw [← getD_at hl1, ← getD_at hl2, ← getD_at hl3, List.getElem_zipWith]
                rw [hz9] at c1
                clear hz9 hx1 hx2 hx3
                clear hl1 hl2 hl3
                generalize s.getD t 0 = sx at *
                generalize a.getD t 0 = ax at *
                have g1 : (0 : Int) ≤ (t : Int) := by omega
                have g2 : (t : Int) < (j : Int) := by omega
                have g3 : decide (j ≤ t) = false := by simp; omega
                have g4 : decide ((j : Int) ≤ (t : Int)) = false := by simp; omega
                have g5 : IntKind.i64.wrap (sx + ax) = sx + ax := IntWalk.i64_in _ (by omega)
                have g6 : ((sx + ax) != (sx + ax)) = false := by simp
                go_wp2_with fail
                go_quiet (fail)
                clear g5
                go_wp2_with fail
                go_roundw
                case rel => exact ⟨t + 1, _, by omega, by go_num, rfl⟩
                case measure => simp [intOf]; omega
              · go_wp2_with fail
                refine (known_any _).mono ?_
                rintro e w4 ⟨rfl, b4⟩
                have ra4 := (RA3.out.drewN y).below b4
                go_wp2_with fail
                refine (held_done ra4 HC0.out).mono ?_
                rintro e w5 ⟨rfl, ra5⟩
                go_wp2_with fail
                refine (pot_done ra5 HC0.out).mono ?_
                rintro e w6 ⟨rfl, ra6⟩
                go_wp2_with fail
                go_ret
                exact ⟨by simp, ra6.fr⟩
end Go.Proofs.Ytdbffjipoiphpaa
