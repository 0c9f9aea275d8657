
/-
  package baizeref02: bytes are taken in; their digest.
-/
import Derived.Test.YtidppcaohkfnfaaH6
import Derived.Test.YtidppcaohkfnfaaOctet
import Derived.LoopN
import Derived.Deep.RegionLaw
import Derived.Deep.DeepCutAuto
namespace Go.Proofs.Ytidppcaohkfnfaa
open Go.RowKit

/-- Bytes, a 1 behind them, and so many 0. -/
def padK (l : List UInt8) (k : Nat) : List UInt8 := l ++ 1 :: List.replicate k 0
theorem padK_len (l : List UInt8) (k : Nat) : (padK l k).length = l.length + 1 + k := by simp [padK]; omega
theorem padK_succ (l : List UInt8) (k : Nat) : padK l k ++ [0] = padK l (k + 1) := by
  unfold padK
  rw [List.append_assoc, List.cons_append, ← List.replicate_succ']
theorem padK_at (l : List UInt8) (k i : Nat) (h : i < (padK l k).length) : (((padK l k)[i]'h).toNat : Int) = pad l i := by
  have hl := padK_len l k
  have h' : i < (l ++ 1 :: List.replicate k 0).length := h
  show ((((l ++ 1 :: List.replicate k 0)[i]'h').toNat : Nat) : Int) = pad l i
  clear h
  rcases Nat.lt_trichotomy i l.length with h1 | h1 | h1
  · rw [List.getElem_append_left h1, pad_in h1]
  · subst h1
    rw [List.getElem_append_right (Nat.le_refl _), pad_end]
    simp
  · rw [List.getElem_append_right (by omega), pad_out h1]
    obtain ⟨j, hj⟩ : ∃ j, i - l.length = j + 1 := ⟨i - l.length - 1, by omega⟩
    simp [hj]

/-- The box and the result of a walk of the reference, and the bytes that it made. -/
structure Bs (w : World) (s : S4) (v : Value) (L : List UInt8) (wr : World) : Prop where
  own : Blk wr w.heap.size 103 (sc s)
  res : Blk wr (w.heap.size + 1) 103 #[.int .u64 0, .int .u64 0, .int .u64 0, .int .u64 0]
  row : OB wr (w.heap.size + 2) v L
  fr : Below w.heap.size w wr
theorem Bs.size {w : World} {s : S4} {v : Value} {L : List UInt8} {wr : World} (h : Bs w s v L wr) : w.heap.size + 2 ≤ wr.heap.size := by have := h.res.lt; omega
theorem Bs.below {w : World} {s : S4} {v v' : Value} {L L' : List UInt8} {wr w' : World} (h : Bs w s v L wr) (hb : Below (w.heap.size + 2) wr w') (ho : OB w' (w.heap.size + 2) v' L') : Bs w s v' L' w' :=
  ⟨h.own.below hb (by omega), h.res.below hb (by omega), ho, h.fr.trans (hb.mono (by omega))⟩
theorem Bs.put {w : World} {s s' : S4} {v : Value} {L : List UInt8} {wr : World} (h : Bs w s v L wr) : Bs w s' v L ((((wr.setCell ⟨w.heap.size, 0, none⟩ (.int .u64 s'.a)).setCell ⟨w.heap.size, 1, none⟩ (.int .u64 s'.b)).setCell ⟨w.heap.size, 2, none⟩ (.int .u64 s'.c)).setCell ⟨w.heap.size, 3, none⟩ (.int .u64 s'.d)) := by
  refine ⟨(((h.own.set_ 0 _).set_ 1 _).set_ 2 _).set_ 3 _, (((h.res.far (by simp) _).far (by simp) _).far (by simp) _).far (by simp) _, ?_, (((h.fr.setCell (Nat.le_refl _) _).setCell (Nat.le_refl _) _).setCell (Nat.le_refl _) _).setCell (Nat.le_refl _) _⟩
  have st : ∀ (W : World) (i : Nat) (u : Value), OB W (w.heap.size + 2) v L → OB (W.setCell ⟨w.heap.size, i, none⟩ u) (w.heap.size + 2) v L := by
    intro W i u ho
    exact ho.other (g := w.heap.size) ⟨rfl, rfl, rfl, by simp [World.setCell], fun k hk hn => Below.heap_setCell W _ u k (fun e => hn (by rw [e]))⟩ (by omega)
  exact st _ _ _ (st _ _ _ (st _ _ _ (st _ _ _ h.row)))

theorem bs12 {w : World} {s : S4} {v : Value} {L : List UInt8} {wr : World} {g : Nat} {t : TypeId} {c0 c1 c2 c3 c4 c5 c6 c7 : Value} (h : Bs w s v L wr) (hd : Blk wr g t #[c0, c1, c2, c3, c4, c5, c6, c7]) :
    wr.cell? ⟨w.heap.size, 0, none⟩ = some (.int .u64 s.a) ∧ wr.cell? ⟨w.heap.size, 1, none⟩ = some (.int .u64 s.b) ∧ wr.cell? ⟨w.heap.size, 2, none⟩ = some (.int .u64 s.c) ∧ wr.cell? ⟨w.heap.size, 3, none⟩ = some (.int .u64 s.d) ∧
    wr.cell? ⟨g, 0, none⟩ = some c0 ∧ wr.cell? ⟨g, 1, none⟩ = some c1 ∧ wr.cell? ⟨g, 2, none⟩ = some c2 ∧ wr.cell? ⟨g, 3, none⟩ = some c3 ∧ wr.cell? ⟨g, 4, none⟩ = some c4 ∧ wr.cell? ⟨g, 5, none⟩ = some c5 ∧ wr.cell? ⟨g, 6, none⟩ = some c6 ∧ wr.cell? ⟨g, 7, none⟩ = some c7 :=
  ⟨h.own.cell 0, h.own.cell 1, h.own.cell 2, h.own.cell 3, hd.cell 0, hd.cell 1, hd.cell 2, hd.cell 3, hd.cell 4, hd.cell 5, hd.cell 6, hd.cell 7⟩
theorem Bs.then_ {w : World} {s : S4} {v : Value} {L : List UInt8} {wr w' : World} (h : Bs w s v L wr) (hb : Below wr.heap.size wr w') : Bs w s v L w' := h.below (hb.mono h.size) (h.row.below hb (Nat.le_refl _))

set_option maxHeartbeats 4000000 in
set_option maxRecDepth 100000 in
theorem refBytesS_any (s : S4) (A : Option Addr) (n c : Nat) (l : List UInt8) (w : World) (hr : RB w A n l) (hn : n ≤ 140737488355300) :
    Calls Try.prog 59 #[sv s, .slice A n c] w fun e w' => e = .returned (sv (bytesS s l)) ∧ Below w.heap.size w w' := by
  have hlen := hr.len
  have HB := Lib.hid (bytesS_eq s l n hlen)
  obtain ⟨M, hM⟩ : ∃ M, M = n / 8 + 1 := ⟨_, rfl⟩
  have hM1 : n < 8 * M := by omega
  have hM2 : 8 * M ≤ n + 8 := by omega
  have HM := Lib.hid hM
  have HL := Lib.hid hlen
  have HR := Lib.hid hr
  clear hlen hr hM
  go_enter Try.func59, Try.ntmps59
  go_upto_region 1 with fail
  obtain ⟨y0, y1⟩ := blk_two w 103 103 (sc s) #[.int .u64 0, .int .u64 0, .int .u64 0, .int .u64 0]
  have f0 : Below w.heap.size w ((w.alloc (.cells (sc s) 103)).alloc (.cells #[.int .u64 0, .int .u64 0, .int .u64 0, .int .u64 0] 103)) := ((Below.refl _ w).al _).al _
  have z0 : ((w.alloc (.cells (sc s) 103)).alloc (.cells #[.int .u64 0, .int .u64 0, .int .u64 0, .int .u64 0] 103)).heap.size = w.heap.size + 2 := by simp
  generalize ((w.alloc (.cells (sc s) 103)).alloc (.cells #[.int .u64 0, .int .u64 0, .int .u64 0, .int .u64 0] 103)) = W0 at *
  have Z0 := Lib.hid z0
  clear z0
  have ho0 := OB.made W0 (w.heap.size + 2) (Nat.le_of_eq Z0.out.symm)
  have hs0 : Bs w s (.slice (some ⟨W0.heap.size, 0, none⟩) 0 0) [] (W0.alloc (.cells #[] 5)) := ⟨y0.alloc _, y1.alloc _, ho0, f0.al _⟩
  have HS0 := Lib.hid hs0
  have r1 := HR.out.below (f0.al (.cells #[] 5))
  clear y0 y1 f0 ho0 hs0
  go_wp2_with (first | (at_builtin; refine wpList_app8 _ rfl (.tmp 9) (.tmp 10) rfl (w.heap.size + 2) _ [] rfl HS0.out.row A n c l rfl r1 (by simp; omega) HS0.out.size ?_; intro v3 w3 ho3 hb3; have hs3 := Lib.hid (HS0.out.below hb3 ho3); clear ho3 hb3) | (at_builtin; refine wpList_app8 _ rfl (.tmp 11) (.tmp 12) rfl (w.heap.size + 2) _ ([] ++ l) rfl (hs3.out.row.alloc _) _ 1 1 [1] rfl (RB.one _ (by decide) _) (by simp; have := HL.out; omega) (by have := hs3.out.size; simp; omega) ?_; intro v4 w4 ho4 hb4; have hs4 := Lib.hid ((hs3.out.below (((Below.refl _ _).alloc (hs3.out.size) _)) (hs3.out.row.alloc _)).below hb4 ho4); clear ho4 hb4))
  have hs5 : Hid (Bs w s v4 (padK l 0) w4) := hs4.out
  clear hs4 hs3 HS0 r1 HR
  go_loopw [5] (fun v wr => ∃ k, n + 1 + k ≤ 8 * M ∧ Hid (Bs w s v (padK l k) wr)) (fun v _ => match v with | .slice _ q _ => 8 * M - q | _ => 0)
  case atStart => exact ⟨0, by omega, hs5⟩
  case round =>
    clear hs5
    obtain ⟨k, hk, hs⟩ := hrel
    obtain ⟨A', q, c', rfl, hqc, hcm, rb⟩ := hs.out.row.got
    have hq : q = n + 1 + k := by rw [rb.len, padK_len, HL.out]
    unfold maxLen at hcm
    have HQ := Lib.hid hq
    have hsz := hs.out.size
    have ho := Lib.hid (hs.out.row)
    clear rb
    by_cases hlt : q < 8 * M
    · have hmod : (((q : Int) % 8) != 0) = true := by simp; omega
      clear hq
      go_wp2_with (first | (at_builtin; refine wpList_app8 _ rfl (.tmp 18) (.tmp 19) rfl (w.heap.size + 2) _ (padK l k) rfl (ho.out.alloc _) _ 1 1 [0] rfl (RB.one _ (by decide) _) (by rw [padK_len]; have := HL.out; have := HQ.out; simp; omega) (by simp; omega) ?_; intro v6 w6 ho6 hb6))
      have hs6 := (hs.out.below (((Below.refl _ _).alloc hsz _)) (ho.out.alloc _)).below hb6 ho6
      rw [padK_succ] at hs6
      obtain ⟨A6, q6, c6, rfl, hqc6, _, rb6⟩ := hs6.row.got
      have hq6 : q6 = n + 1 + (k + 1) := by rw [rb6.len, padK_len, HL.out]
      have HS6 := Lib.hid hs6
      clear hs6 rb6 ho6 hb6 hmod
      go_wp2_with fail
      go_roundw
      case rel => exact ⟨k + 1, by have := HQ.out; omega, HS6⟩
      case measure => simp; have := HQ.out; omega
    · have hmod : (((q : Int) % 8) != 0) = false := by simp; omega
      obtain ⟨gv, rfl, hgv, hgl0, hql⟩ := OB.addr ho.out (by omega)
      clear hql hgl0
      have hq8 : q = 8 * M := by omega
      have HQ8 := Lib.hid hq8
      have hqM : q ≤ n + 8 := by omega
      clear hq ho hq8
      go_wp2_with fail
      clear hmod
      have hs' : Hid (Bs w (wordsTo l s 0) (.slice (some ⟨gv, 0, none⟩) q c') (padK l k) wr) := hs.out
      clear hs
      go_loopw [6] (fun i wr2 => ∃ j p : Nat, j ≤ M ∧ p ≤ q ∧ Hid (p = 8 * j) ∧ i = .int .i64 p ∧ Hid (Bs w (wordsTo l s j) (.slice (some ⟨gv, 0, none⟩) q c') (padK l k) wr2)) (fun i _ => q - (intOf i).toNat)
      case atStart => exact ⟨0, 0, by omega, by omega, rfl, rfl, hs'⟩
      case round =>
        clear hs'
        obtain ⟨j, p, hj, hp, HP, rfl, hs⟩ := hrel
        by_cases hpq : p < q
        · have hjM : j < M := by have := HP.out; have := HQ8.out; omega
          have hgl : gv < wr.heap.size := ((hs.out.row.block gv rfl)).2
          have hc : ∀ i, i < 8 → wr.cell? ⟨gv, p + i, none⟩ = some (.int .u8 (word l j i)) := by
            intro i hi
            have hpl : p + i < (padK l k).length := by
              have h1 := hs.out.row.rb.len
              have := HP.out
              have := HQ8.out
              omega
            have := (OB.cell hs.out.row hpl).1
            rw [padK_at] at this
            rw [this]
            unfold word
            rw [HP.out]
          have e0 : wr.cell? ⟨gv, p, none⟩ = some (.int .u8 (word l j 0)) := hc 0 (by omega)
          have e1 := hc 1 (by omega)
          have e2 := hc 2 (by omega)
          have e3 := hc 3 (by omega)
          have e4 := hc 4 (by omega)
          have e5 := hc 5 (by omega)
          have e6 := hc 6 (by omega)
          have e7 := hc 7 (by omega)
          clear hc
          have pq : (p : Int) + 8 ≤ (q : Int) := by have := HP.out; have := HQ8.out; omega
          have pn : p + 8 ≤ q := by omega
          go_wp2_with fail
          refine wp_loop_rounds 9 ?_
          iterate 9
            rw [rounds_succ]
            go_wp2_with fail
          clear e0 e1 e2 e3 e4 e5 e6 e7
          have hd0 : Below wr.heap.size wr (wr.alloc (.cells #[.int .u8 (word l j 0), .int .u8 (word l j 1), .int .u8 (word l j 2), .int .u8 (word l j 3), .int .u8 (word l j 4), .int .u8 (word l j 5), .int .u8 (word l j 6), .int .u8 (word l j 7)] 82)) := (Below.refl _ wr).al _
          have hd1 := Blk.new wr 82 #[.int .u8 (word l j 0), .int .u8 (word l j 1), .int .u8 (word l j 2), .int .u8 (word l j 3), .int .u8 (word l j 4), .int .u8 (word l j 5), .int .u8 (word l j 6), .int .u8 (word l j 7)]
          have hs2 := hs.out.then_ hd0
          generalize (wr.alloc (.cells #[.int .u8 (word l j 0), .int .u8 (word l j 1), .int .u8 (word l j 2), .int .u8 (word l j 3), .int .u8 (word l j 4), .int .u8 (word l j 5), .int .u8 (word l j 6), .int .u8 (word l j 7)] 82)) = W2 at *
          have p0 := bs12 (hs2.then_ (Below.refl _ _).drew) hd1.drew
          have HS2 := Lib.hid hs2
          have HD1 := Lib.hid hd1
          have dl := hd1.lt
          clear hs2 hd1 hd0
          obtain ⟨k0, k1, k2, k3, k4, k5, k6, k7, k8, k9, k10, k11⟩ := p0
          have HP' : Hid (p + 8 = 8 * (j + 1)) := by have := HP.out; show p + 8 = _; omega
          go_region_law (first | (go_simp; go_at_call 74; refine (refNum8_any (word l j) _ (word_by l j)).mono ?_; rintro e w3' ⟨rfl, b3⟩; have HS3 := Lib.hid ((HS2.out.then_ (Below.refl _ _).drew).then_ b3); obtain ⟨m0, m1, m2, m3⟩ := HS3.out.own.four) | (go_simp; go_at_call 73; refine (refIn_any (wordsTo l s j) _ _).mono ?_; rintro e w4' ⟨rfl, b4⟩; have HS4 := Lib.hid (HS3.out.then_ b4); obtain ⟨n0, n1, n2, n3⟩ := HS4.out.own.four; have q0 := HS4.out.own.frozen 0; have q1 := HS4.out.own.frozen 1; have q2 := HS4.out.own.frozen 2; have q3 := HS4.out.own.frozen 3))
          all_goals
            have HS5 : Hid (Bs w (wordsTo l s (j + 1)) (.slice (some ⟨gv, 0, none⟩) q c') (padK l k) _) := HS4.out.put (s' := wordsTo l s (j + 1))
            clear q0 q1 q2 q3 n0 n1 n2 n3 k0 k1 k2 k3 k4 k5 k6 k7 k8 k9 k10 k11
            go_wp2_with fail
            go_roundw
            case rel => exact ⟨j + 1, p + 8, by omega, by omega, HP', by go_num, HS5⟩
            case measure => simp [intOf]; omega
        · have hjM : j = M := by have := HP.out; have := HQ8.out; omega
          subst hjM
          have hs2 := hs.out
          obtain ⟨c0, c1, c2, c3⟩ := hs2.own.four
          have HS2 := Lib.hid hs2
          clear hs2
          go_wp2_with fail
          refine (refIn_any (wordsTo l s j) n _).mono ?_
          rintro e w5 ⟨rfl, b5⟩
          have hs5 := HS2.out.then_ b5
          obtain ⟨d0, d1, d2, d3⟩ := hs5.res.four
          have q0 := hs5.res.frozen 0
          have q1 := hs5.res.frozen 1
          have q2 := hs5.res.frozen 2
          have q3 := hs5.res.frozen 3
          have f5 := hs5.fr
          clear hs5
          go_wp2_with fail
          refine bodyPost_ret (v := sv (inS (wordsTo l s j) n)) (by simp [results, Try.results59, go_sem, d0, d1, d2, d3]) rfl ⟨?_, ?_⟩
          · rw [HB.out, HM.out]
            rfl
          · exact (((f5.setCell (by simp) _).setCell (by simp) _).setCell (by simp) _).setCell (by simp) _

set_option maxHeartbeats 1000000 in
set_option maxRecDepth 100000 in
theorem refHashOf_any (A : Option Addr) (n c : Nat) (l : List UInt8) (w : World) (hr : RB w A n l) (hn : n ≤ 140737488355300) :
    Calls Try.prog 45 #[.slice A n c] w fun e w' => e = .returned (dv (hashOf l)) ∧ Below w.heap.size w w' := by
  go_enter Try.func45, Try.ntmps45
  go_wp2_with fail
  have y0 := Blk.new w 82 zero8
  have f0 := (Below.refl _ w).al (.cells zero8 82)
  refine (refBegin_any _ _).mono ?_
  rintro e w1 ⟨rfl, b1⟩
  have y1 := y0.below b1 y0.lt
  have f1 := f0.then_ b1
  clear y0 f0 b1
  go_wp2_with fail
  refine (refBytesS_any (beg 1) A n c l w1 (hr.below f1) hn).mono ?_
  rintro e w2 ⟨rfl, b2⟩
  have y2 := y1.below b2 y1.lt
  have f2 := f1.then_ b2
  clear y1 f1 b2
  go_wp2_with fail
  refine (refOut_any _ _).mono ?_
  rintro e w3 ⟨rfl, b3⟩
  have f3 := f2.then_ b3
  obtain ⟨⟨k0, k1, k2, k3, k4, k5, k6, k7⟩, q0, q1, q2, q3, q4, q5, q6, q7⟩ := (y2.below b3 y2.lt).eight
  go_wp2_with fail
  refine bodyPost_ret (v := dv (hashOf l)) (by simp [results, Try.results45, go_sem, hashOf, k0, k1, k2, k3, k4, k5, k6, k7]) rfl ⟨rfl, ?_⟩
  exact Below.set8 f3 (Nat.le_refl _) _ _ _ _ _ _ _ _
end Go.Proofs.Ytidppcaohkfnfaa
