/-
  TopupOrder: the walk.
-/
import Derived.Test.YtdbffjipoiphpaaT27
namespace Go.Proofs.Ytdbffjipoiphpaa
open Go.RowKit

theorem rem_form (z : Int) (n : Nat) (hn : 0 < n) : ∃ q, q < n ∧ z % (n : Int) = ((q : Nat) : Int) := by
  have h1 : 0 ≤ z % (n : Int) := Int.emod_nonneg _ (by omega)
  have h2 : z % (n : Int) < n := Int.emod_lt_of_pos _ (by omega)
  exact ⟨(z % (n : Int)).toNat, by omega, by omega⟩

/-- At the first loop: those up to k have laid with the first bank. -/
def Ord1 (w : World) (m M D : Nat) (A' : Option Addr) (s a : List Int) (g1 gs1 cs1 g2 gs2 cs2 k : Nat) (W : World) : Prop :=
  ∃ V, OrdAt w m M D A' s a g1 gs1 cs1 g2 gs2 cs2 V (fun _ => false) (List.replicate s.length false) W ∧ ∀ i, i < k → V i = true
/-- At the second loop: with the first bank all have laid; with the second those that are marked. -/
def Ord2 (w : World) (m M D : Nat) (A' : Option Addr) (s a : List Int) (g1 gs1 cs1 g2 gs2 cs2 : Nat) (dn : List Bool) (W : World) : Prop :=
  ∃ V1 V2, OrdAt w m M D A' s a g1 gs1 cs1 g2 gs2 cs2 V1 V2 dn W ∧ (∀ i, i < s.length → V1 i = true) ∧ ∀ i, i < s.length → dn.getD i false = true → V2 i = true
/-- At the third loop: with the second one those from t on have, too. -/
def Ord3 (w : World) (m M D : Nat) (A' : Option Addr) (s a : List Int) (g1 gs1 cs1 g2 gs2 cs2 t : Nat) (dn : List Bool) (W : World) : Prop :=
  ∃ V1 V2, OrdAt w m M D A' s a g1 gs1 cs1 g2 gs2 cs2 V1 V2 dn W ∧ (∀ i, i < s.length → V1 i = true) ∧ (∀ i, i < s.length → dn.getD i false = true → V2 i = true) ∧ ∀ i, t ≤ i → i < s.length → V2 i = true
section
variable {w W W' : World} {m M D : Nat} {A' : Option Addr} {s a : List Int} {g1 gs1 cs1 g2 gs2 cs2 k : Nat} {dn : List Bool}
def Ord1Says (w : World) (m M D : Nat) (A' : Option Addr) (s a : List Int) (g1 gs1 cs1 g2 gs2 cs2 k : Nat) (e : Ending) (W' : World) : Prop := ∃ z, e = .returned (.int .i64 z) ∧ Ord1 w m M D A' s a g1 gs1 cs1 g2 gs2 cs2 k W'
theorem Ord1.put (h : Ord1 w m M D A' s a g1 gs1 cs1 g2 gs2 cs2 k W) (hk : k < s.length) :
    Calls Try.prog 16 #[.pointer (some ⟨g1, 0, none⟩), .int .i64 60, .int .i64 (k : Int), .int .i64 (a.getD k 0)] W (Ord1Says w m M D A' s a g1 gs1 cs1 g2 gs2 cs2 (k + 1)) := by
  obtain ⟨V, h1, h2⟩ := h
  refine (h1.put1 k hk).mono ?_
  rintro e W' ⟨z, rfl, h3⟩
  refine ⟨z, rfl, _, h3, fun i hi => ?_⟩
  unfold upd
  rcases Nat.lt_or_ge i k with h4 | h4
  · rw [h2 i h4]; rfl
  · obtain rfl : i = k := by omega
    simp
theorem Ord1.a_ (h : Ord1 w m M D A' s a g1 gs1 cs1 g2 gs2 cs2 k W) : RI W A' s.length a := by
  obtain ⟨V, h1, h2⟩ := h
  exact h1.a_
theorem Ord1.next (h : Ord1 w m M D A' s a g1 gs1 cs1 g2 gs2 cs2 s.length W) : Ord2 w m M D A' s a g1 gs1 cs1 g2 gs2 cs2 (List.replicate s.length false) W := by
  obtain ⟨V, h1, h2⟩ := h
  refine ⟨V, _, h1, h2, fun i hi hq => ?_⟩
  simp [List.getD_eq_getElem?_getD, hi] at hq
theorem Ord2.a_ (h : Ord2 w m M D A' s a g1 gs1 cs1 g2 gs2 cs2 dn W) : RI W A' s.length a := by
  obtain ⟨V, V2, h1, h2⟩ := h
  exact h1.a_
theorem Ord2.cell (h : Ord2 w m M D A' s a g1 gs1 cs1 g2 gs2 cs2 dn W) {i : Nat} (hi : i < s.length) : W.cell? ⟨D, i, none⟩ = some (.bool (dn.getD i false)) ∧ W.frozen? ⟨D, i, none⟩ = false := by
  obtain ⟨V, V2, h1, h2⟩ := h
  refine ⟨?_, h1.marks.frozen i⟩
  rw [h1.marks.cell i]
  have := h1.len
  simp [List.getD_eq_getElem?_getD, show i < dn.length by omega]
theorem Ord2.fr (h : Ord2 w m M D A' s a g1 gs1 cs1 g2 gs2 cs2 dn W) : Below w.heap.size w W := by
  obtain ⟨V, V2, h1, h2⟩ := h
  exact h1.fr
theorem Ord2.below (h : Ord2 w m M D A' s a g1 gs1 cs1 g2 gs2 cs2 dn W) (hb : Below W.heap.size W W') : Ord2 w m M D A' s a g1 gs1 cs1 g2 gs2 cs2 dn W' := by
  obtain ⟨V, V2, h1, h2⟩ := h
  exact ⟨V, V2, h1.below hb, h2⟩
/-- The second bank's part is laid; the mark is yet to be set. -/
def Ord2Says (w : World) (m M D : Nat) (A' : Option Addr) (s a : List Int) (g1 gs1 cs1 g2 gs2 cs2 k : Nat) (dn : List Bool) (e : Ending) (W' : World) : Prop := ∃ z, e = .returned (.int .i64 z) ∧ Ord2 w m M D A' s a g1 gs1 cs1 g2 gs2 cs2 dn W' ∧ Ord2 w m M D A' s a g1 gs1 cs1 g2 gs2 cs2 (dn.set k true) (W'.setCell ⟨D, k, none⟩ (.bool true))
theorem Ord2.put (h : Ord2 w m M D A' s a g1 gs1 cs1 g2 gs2 cs2 dn W) (hk : k < s.length) :
    Calls Try.prog 16 #[.pointer (some ⟨g2, 0, none⟩), .int .i64 60, .int .i64 (k : Int), .int .i64 (a.getD k 0)] W (Ord2Says w m M D A' s a g1 gs1 cs1 g2 gs2 cs2 k dn) := by
  obtain ⟨V1, V2, h1, h2, h3⟩ := h
  refine (h1.put2 k hk).mono ?_
  rintro e W' ⟨z, rfl, h4⟩
  have hl := h1.len
  refine ⟨z, rfl, ⟨V1, _, h4, h2, fun i hi hq => ?_⟩, ⟨V1, _, h4.mark k, h2, fun i hi hq => ?_⟩⟩
  · unfold upd; rw [h3 i hi hq]; rfl
  · rw [set_getD dn k i (by omega), Bool.or_eq_true] at hq
    unfold upd
    rcases hq with hq | hq
    · rw [h3 i hi hq]; rfl
    · rw [hq, Bool.or_true]
theorem Ord2.mark (h : Ord2 w m M D A' s a g1 gs1 cs1 g2 gs2 cs2 dn W) (hk : k < s.length) (hd : dn.getD k false = true) : Ord2 w m M D A' s a g1 gs1 cs1 g2 gs2 cs2 (dn.set k true) (W.setCell ⟨D, k, none⟩ (.bool true)) := by
  obtain ⟨V1, V2, h1, h2, h3⟩ := h
  have hl := h1.len
  refine ⟨V1, V2, h1.mark k, h2, fun i hi hq => ?_⟩
  rw [set_getD dn k i (by omega), Bool.or_eq_true] at hq
  rcases hq with hq | hq
  · exact h3 i hi hq
  · have : i = k := by simpa using hq
    subst this
    exact h3 i hi hd
theorem Ord2.next (h : Ord2 w m M D A' s a g1 gs1 cs1 g2 gs2 cs2 dn W) : Ord3 w m M D A' s a g1 gs1 cs1 g2 gs2 cs2 s.length dn W := by
  obtain ⟨V1, V2, h1, h2, h3⟩ := h
  exact ⟨V1, V2, h1, h2, h3, fun i h4 h5 => absurd h4 (by omega)⟩
theorem Ord3.two (h : Ord3 w m M D A' s a g1 gs1 cs1 g2 gs2 cs2 k dn W) : Ord2 w m M D A' s a g1 gs1 cs1 g2 gs2 cs2 dn W := by
  obtain ⟨V1, V2, h1, h2, h3, h4⟩ := h
  exact ⟨V1, V2, h1, h2, h3⟩
theorem Ord3.skip (h : Ord3 w m M D A' s a g1 gs1 cs1 g2 gs2 cs2 (k + 1) dn W) (hd : dn.getD k false = true) : Ord3 w m M D A' s a g1 gs1 cs1 g2 gs2 cs2 k dn W := by
  obtain ⟨V1, V2, h1, h2, h3, h4⟩ := h
  refine ⟨V1, V2, h1, h2, h3, fun i h5 h6 => ?_⟩
  rcases Nat.lt_or_ge k i with h7 | h7
  · exact h4 i h7 h6
  · obtain rfl : i = k := by omega
    exact h3 i h6 hd
def Ord3Says (w : World) (m M D : Nat) (A' : Option Addr) (s a : List Int) (g1 gs1 cs1 g2 gs2 cs2 k : Nat) (dn : List Bool) (e : Ending) (W' : World) : Prop := ∃ z, e = .returned (.int .i64 z) ∧ Ord3 w m M D A' s a g1 gs1 cs1 g2 gs2 cs2 k dn W'
theorem Ord3.put (h : Ord3 w m M D A' s a g1 gs1 cs1 g2 gs2 cs2 (k + 1) dn W) (hk : k < s.length) :
    Calls Try.prog 16 #[.pointer (some ⟨g2, 0, none⟩), .int .i64 60, .int .i64 (k : Int), .int .i64 (a.getD k 0)] W (Ord3Says w m M D A' s a g1 gs1 cs1 g2 gs2 cs2 k dn) := by
  obtain ⟨V1, V2, h1, h2, h3, h4⟩ := h
  refine (h1.put2 k hk).mono ?_
  rintro e W' ⟨z, rfl, h5⟩
  refine ⟨z, rfl, V1, _, h5, h2, fun i hi hq => ?_, fun i h6 h7 => ?_⟩
  · unfold upd; rw [h3 i hi hq]; rfl
  · unfold upd
    rcases Nat.lt_or_ge k i with h8 | h8
    · rw [h4 i h8 h7]; rfl
    · obtain rfl : i = k := by omega
      simp
/-- Both are done. -/
theorem Ord3.done (h : Ord3 w m M D A' s a g1 gs1 cs1 g2 gs2 cs2 0 dn W) : ∃ S wp T tp, BAt W S g1 gs1 cs1 wp (rsD s a) ∧ BAt W T g2 gs2 cs2 tp (rsD s a) := by
  obtain ⟨V1, V2, h1, h2, h3, h4⟩ := h
  obtain ⟨S, wp, b, x1, x2, x3⟩ := h1.one
  obtain ⟨T, tp, c, y1, y2, y3⟩ := h1.two
  obtain rfl := PS_all x3 h2
  obtain rfl := PS_all y3 (fun i hi => h4 i (by omega) hi)
  exact ⟨S, wp, T, tp, x1, y1⟩
end

set_option maxHeartbeats 4000000 in
set_option maxRecDepth 100000 in
theorem order_walk (A0 A1 A2 : Option Addr) (n0 c0 n1 c1 n2 c2 : Nat) (xs ys os : List Int) (w : World) (hx : RV w A0 n0 (xs.map (Value.int .u16))) (hy : RV w A1 n1 (ys.map (Value.int .u16))) (hxw : ∀ z ∈ xs, 0 ≤ z ∧ z ≤ 65535) (hyw : ∀ z ∈ ys, 0 ≤ z ∧ z ≤ 65535) (ho : RV w A2 n2 (os.map (Value.int .u8))) (how : ∀ z ∈ os, 0 ≤ z ∧ z ≤ 255) (hn2 : n2 ≤ 9223372036854775807) :
    Calls Try.prog 5 #[.slice A0 n0 c0, .slice A1 n1 c1, .slice A2 n2 c2] w (Tells w true) := by
  have HR := Lib.hid (raised_any A0 A1 n0 c0 n1 c1 xs ys w hx hy hxw hyw _ rfl)
  have HR2 := Lib.hid (fun w1 (b : Below w.heap.size w w1) => raised_any A0 A1 n0 c0 n1 c1 xs ys w1 (hx.below b) (hy.below b) hxw hyw _ rfl)
  have HO := Lib.hid ho
  have HOW := Lib.hid how
  clear hx hy hxw hyw ho how
  generalize xs.take _ = s at HR HR2
  generalize ys.take _ = a at HR HR2
  go_enter Try.func5, Try.ntmps5
  go_wp2_with fail
  refine HR.out.mono ?_
  clear HR
  rintro e w1 ⟨A, c, A', c', m, hm0, hm1, f1, r1, r2, hc1, hc2, ⟨hno, rfl⟩ | ⟨⟨hok, hpos⟩, S, g, gs, cs, wp, rfl, B1, hS⟩⟩
  · go_wp2_with fail
    refine (HR2.out _ f1).mono ?_
    rintro e w2 ⟨Ax, cx, Ay, cy, mx, hmx0, hmx1, fx, rx1, rx2, hcx1, hcx2, ⟨_, rfl⟩ | ⟨hyes, _⟩⟩
    · go_wp2_with fail
      refine (known_any _).mono ?_
      rintro e w3 ⟨rfl, b3⟩
      go_wp2_with fail
      go_ret
      exact ⟨rfl, (f1.then_ fx).then_ b3⟩
    · exact absurd hyes hno
  · go_wp2_with fail
    refine (HR2.out _ f1).mono ?_
    rintro e w2 ⟨Ax, cx, Ay, cy, mx, hmx0, hmx1, fx, rx1, rx2, hcx1, hcx2, ⟨hno, _⟩ | ⟨_, T, h, hs, ds, tp, rfl, B2, hT⟩⟩
    · exact absurd ⟨hok, hpos⟩ hno
    have h8 := hok.few
    have h2 := hok.two
    have st : Ord1 w m w1.heap.size w2.heap.size A' s a g gs cs h hs ds 0 (w2.alloc (falses s.length)) := by
      have fa : Below w2.heap.size w2 (w2.alloc (falses s.length)) := (Below.refl _ w2).al _
      refine ⟨fun _ => false, ⟨⟨S, wp, _, (B1.below fx).below fa, fun k hk => ⟨hS k hk, B1.lt k hk⟩, PS_start hok hpos⟩, ⟨T, tp, _, B2.below fa, fun k hk => ⟨by have := hT k hk; omega, B2.lt k hk⟩, PS_start hok hpos⟩, Reads.below (Reads.below r2 (fx.mono hm1)) (fa.mono (by have := fx.size; omega)), falses_blk _ _, by simp, hm0, hm1, fx.size, (f1.then_ fx).then_ fa, hok⟩, fun i hi => absurd hi (by omega)⟩
    clear B1 B2 hS hT rx1 rx2 r1 r2 hcx1 hcx2 hmx0 hmx1 fx f1 hpos
    obtain ⟨M, hM⟩ : ∃ M, M = w1.heap.size := ⟨_, rfl⟩
    rw [← hM] at st hm1
    clear hM
    obtain ⟨n, hn⟩ : ∃ n, n = s.length := ⟨_, rfl⟩
    rw [← hn] at h8 h2 hc1 hc2 st
    rw [← hn]
    have HN := Lib.hid hn
    clear hn hok
    have ST := Lib.hid st
    clear st
    have hmk := run_make_bools n (by omega)
    go_wp2_with fail
    clear hmk
    obtain ⟨D, hD⟩ : ∃ D, D = w2.heap.size := ⟨_, rfl⟩
    rw [← hD] at ST ⊢
    clear hD
    generalize w2.alloc (falses n) = W0 at ST ⊢
    go_loopw [15] (fun i W => ∃ k : Nat, k ≤ n ∧ i = .int .i64 k ∧ Hid (Ord1 w m M D A' s a g gs cs h hs ds k W)) (fun i _ => n - (intOf i).toNat)
    case atStart => exact ⟨0, by omega, rfl, ST⟩
    case round =>
      clear ST
      obtain ⟨k, hk, rfl, ST⟩ := hrel
      by_cases hlt : k < n
      · have hks : k < s.length := by rw [← HN.out]; exact hlt
        have raa := ST.out.a_
        rw [← HN.out] at raa
        obtain ⟨bb, oo, rfl, hbb, hl, hc9⟩ := raa.at_ hlt
        have hcc := raa.cell_at hlt
        have HP := Lib.hid (ST.out.put hks)
        clear hc9 hl raa
        generalize a.getD k 0 = x at *
        go_wp2_with fail
        refine HP.out.mono ?_
        rintro e w3 ⟨z, rfl, st3⟩
        have ST3 := Lib.hid st3
        clear st3
        go_wp2_with fail
        go_roundw
        case rel => exact ⟨k + 1, by omega, by go_num, ST3⟩
        case measure => simp [intOf]; omega
      · obtain rfl : k = n := by omega
        have st2 := ST.out
        rw [HN.out] at st2
        have ST2 := Lib.hid st2.next
        clear st2 ST
        have hlen : (List.replicate s.length false).length = k := by rw [List.length_replicate, HN.out]
        generalize List.replicate s.length false = dn0 at *
        have HLEN := Lib.hid hlen
        clear hlen
        go_wp2_with fail
        go_loopw [16] (fun i W => ∃ (t : Nat) (dn : List Bool), t ≤ n2 ∧ i = .int .i64 t ∧ Hid (dn.length = k ∧ Ord2 w m M D A' s a g gs cs h hs ds dn W)) (fun i _ => n2 - (intOf i).toNat)
        case atStart => exact ⟨0, dn0, by omega, rfl, ⟨HLEN.out, ST2.out⟩⟩
        case round =>
          clear ST2 HLEN
          obtain ⟨t, dn, ht, rfl, ST⟩ := hrel
          have hks2 : k ≤ s.length := by rw [← HN.out]; exact Nat.le_refl _
          by_cases hlt : t < n2 ∧ t < 20
          · obtain ⟨hlt, h20⟩ := hlt
            have fr := ST.out.2.fr
            obtain ⟨bo, oo, rfl, hbo, hlo, hco⟩ := HO.out.at_ hlt
            have hlo' : t < os.length := by simpa using hlo
            have hzw := HOW.out _ (List.getElem_mem hlo')
            simp only [List.getElem_map] at hco
            have hcz := (fr.cell (p := ⟨bo, oo + t, none⟩) hbo).trans hco
            generalize os[t] = z at *
            clear hco hlo hlo'
            obtain ⟨hz0, hz1⟩ := hzw
            obtain ⟨q, hqk, hq⟩ := rem_form z k (by omega)
            have HQ := Lib.hid hq
            clear hq fr
            go_upto_region 15 with fail
            rw [HQ.out]
            have hqs : q < s.length := by omega
            have raa := ST.out.2.a_
            rw [← HN.out] at raa
            obtain ⟨bb, ob, rfl, hbb, hl, hc9⟩ := raa.at_ hqk
            have hcc := raa.cell_at hqk
            have hdc := ST.out.2.cell hqs
            have HP := Lib.hid (ST.out.2.put hqs)
            have HMK := Lib.hid (fun hd => ST.out.2.mark hqs hd)
            have HLEN : Hid ((dn.set q true).length = k) := by rw [Hid, List.length_set]; exact ST.out.1
            clear hc9 hl raa ST
            obtain ⟨hd1, hd2⟩ := hdc
            generalize a.getD q 0 = x at *
            have g0 : (0 : Int) ≤ (q : Int) := by omega
            have g1 : (q : Int) < (k : Int) := by omega
            cases hdq : dn.getD q false
            · rw [hdq] at hd1
              clear hdq HMK
              go_wp2_with fail
              refine HP.out.mono ?_
              rintro e w3 ⟨z9, rfl, st3, st4⟩
              obtain ⟨e1, e2⟩ := st3.cell hqs
              have ST4 := Lib.hid st4
              clear st3 st4
              go_wp2_with fail
              go_roundw
              case rel => exact ⟨t + 1, dn.set q true, by omega, by go_num, ⟨HLEN.out, ST4.out⟩⟩
              case measure => simp [intOf]; omega
            · rw [hdq] at hd1
              have ST4 := Lib.hid (HMK.out hdq)
              clear hdq HP HMK
              go_wp2_with fail
              go_roundw
              case rel => exact ⟨t + 1, dn.set q true, by omega, by go_num, ⟨HLEN.out, ST4.out⟩⟩
              case measure => simp [intOf]; omega
          · have st3 := ST.out.2.next
            rw [← HN.out] at st3
            have ST3 := Lib.hid st3
            clear ST st3
            rcases Nat.lt_or_ge t n2 with h9 | h9
            all_goals
              go_wp2_with fail
              go_loopw [18] (fun i W => ∃ t : Nat, t ≤ k ∧ i = .int .i64 ((t : Int) - 1) ∧ Hid (Ord3 w m M D A' s a g gs cs h hs ds t dn W)) (fun i _ => (intOf i + 1).toNat)
              case atStart => exact ⟨k, by omega, rfl, ST3⟩
              case round =>
                clear ST3
                obtain ⟨y, hy, rfl, ST⟩ := hrel
                rcases y with _ | y
                · obtain ⟨S9, wp9, T9, tp9, B9, C9⟩ := ST.out.done
                  have fr := ST.out.two.fr
                  clear ST
                  go_wp2_with fail
                  refine (known_any _).mono ?_
                  rintro e w4 ⟨rfl, b4⟩
                  have B4 := B9.below b4
                  have C4 := C9.below b4
                  have f4 := fr.then_ b4
                  go_wp2_with fail
                  refine (same_done S9 T9 g gs cs h hs ds wp9 tp9 _ _ _ B4 C4 rfl rfl).mono ?_
                  rintro e w5 ⟨rfl, b5⟩
                  have B5 := B4.below b5
                  have C5 := C4.below b5
                  have f5 := f4.then_ b5
                  go_wp2_with fail
                  refine (same_done T9 S9 h hs ds g gs cs tp9 wp9 _ _ _ C5 B5 rfl rfl).mono ?_
                  rintro e w6 ⟨rfl, b6⟩
                  have B6 := B5.below b6
                  have C6 := C5.below b6
                  have f6 := f5.then_ b6
                  go_wp2_with fail
                  refine (stakes_any S9 g gs cs wp9 _ _ B6).mono ?_
                  rintro e w7 ⟨g7, c7, rfl, l7, i7, b7⟩
                  have C7 := C6.below b7
                  have f7 := f6.then_ b7
                  go_wp2_with fail
                  refine (stakes_any T9 h hs ds tp9 _ _ C7).mono ?_
                  rintro e w8 ⟨g8, c8, rfl, l8, i8, b8⟩
                  have f8 := f7.then_ b8
                  have r7 := i7.ri.below b8
                  have r8 := i8.ri
                  have hl8 : (rsD s a).stakes.length ≤ 8 := C7.ok.few
                  go_wp2_with fail
                  refine (ints_true _ _ _ _ _ _ _ r7 r8 (by omega)).mono ?_
                  rintro e w9 ⟨rfl, b9⟩
                  go_wp2_with fail
                  go_ret
                  exact ⟨rfl, f8.then_ b9⟩
                · rw [show (((y + 1 : Nat) : Int) - 1) = (y : Int) from by omega]
                  have hyk : y < k := by omega
                  have hys : y < s.length := by rw [← HN.out]; exact hyk
                  have raa := ST.out.two.a_
                  rw [← HN.out] at raa
                  obtain ⟨bb, oo, rfl, hbb, hl, hc9⟩ := raa.at_ hyk
                  have hcc := raa.cell_at hyk
                  have hdc := ST.out.two.cell hys
                  have HP := Lib.hid (ST.out.put hys)
                  have HSK := Lib.hid (fun hd => ST.out.skip hd)
                  clear hc9 hl raa ST
                  obtain ⟨hd1, hd2⟩ := hdc
                  generalize a.getD y 0 = x at *
                  have g0 : (0 : Int) ≤ (y : Int) := by omega
                  have g1 : (y : Int) < (k : Int) := by omega
                  cases hdq : dn.getD y false
                  · rw [hdq] at hd1
                    clear hdq HSK
                    go_wp2_with fail
                    refine HP.out.mono ?_
                    rintro e w3 ⟨z, rfl, st3⟩
                    have ST3 := Lib.hid st3
                    clear st3
                    go_wp2_with fail
                    go_roundw
                    case rel => exact ⟨y, by omega, rfl, ST3⟩
                    case measure => simp [intOf]
                  · rw [hdq] at hd1
                    have ST3 := Lib.hid (HSK.out hdq)
                    clear hdq HP HSK
                    go_wp2_with fail
                    go_roundw
                    case rel => exact ⟨y, by omega, rfl, ST3⟩
                    case measure => simp [intOf]
end Go.Proofs.Ytdbffjipoiphpaa
