/-
  The digest of a raise, the document's.
-/
import Derived.Test.YtdbffjipoiphpaaT32
import Derived.Deep.RegionHeld3
import Derived.Deep.DeepCutAuto
import Derived.Lib.SlBytesConst
namespace Go.Proofs.Ytdbffjipoiphpaa
open Go.RowKit

set_option maxHeartbeats 400000 in
set_option maxRecDepth 100000 in
theorem signed_any (k : Int) (w : World) (h1 : -9223372036854775808 ≤ k) (h2 : k ≤ 9223372036854775807) :
    Calls Try.prog 63 #[.int .i64 k] w (GotL w (num (fold k))) := by
  go_enter Try.func63, Try.ntmps63
  go_wp2_with fail
  refine (refFold_any k w h1 h2).mono ?_
  rintro e w1 ⟨rfl, rfl⟩
  go_wp2_with fail
  refine ((refNum_any (fold k) w (fold_lt h1 h2)).mono fun _ _ h => Got.l h).mono ?_
  rintro e w1 ⟨A1, n1, c1, rfl, hc1, hm1, hn1, r1, b1⟩
  have HN := Lib.hid hn1
  clear hn1
  go_wp2_with fail
  go_ret
  exact ⟨A1, n1, c1, rfl, hc1, hm1, HN.out, r1, b1⟩

set_option maxHeartbeats 400000 in
set_option maxRecDepth 100000 in
theorem signedO_any (k : Int) (w : World) (h1 : -9223372036854775808 ≤ k) (h2 : k ≤ 9223372036854775807) :
    Calls Try.prog 63 #[.int .i64 k] w (Got w.heap.size w (num (fold k))) := by
  go_enter Try.func63, Try.ntmps63
  go_wp2_with fail
  refine (refFold_any k w h1 h2).mono ?_
  rintro e w1 ⟨rfl, rfl⟩
  go_wp2_with fail
  refine (refNum_any (fold k) w (fold_lt h1 h2)).mono ?_
  rintro e w1 ⟨v, rfl, o1, b1⟩
  go_wp2_with fail
  go_ret
  exact ⟨v, rfl, o1, b1⟩

/-- The box and the result of the reference's Digest, and the bytes that it made. -/
structure Dz (w : World) (C : Array Value) (v : Value) (L : List UInt8) (wr : World) : Prop where
  own : Blk wr w.heap.size 41 C
  res : Blk wr (w.heap.size + 1) 30 zero8
  row : OB wr (w.heap.size + 2) v L
  fr : Below w.heap.size w wr
theorem Dz.c8 {w wr : World} {d : Nat → Int} {nm : Int} {A : Option Addr} {n c : Nat} {till : Int} {v : Value} {L : List UInt8} (h : Dz w (rvC d nm A n c till) v L wr) : wr.cell? ⟨w.heap.size, 8, none⟩ = some (.int .i64 nm) := h.own.cell 8
theorem Dz.c9 {w wr : World} {d : Nat → Int} {nm : Int} {A : Option Addr} {n c : Nat} {till : Int} {v : Value} {L : List UInt8} (h : Dz w (rvC d nm A n c till) v L wr) : wr.cell? ⟨w.heap.size, 9, none⟩ = some (.slice A n c) := h.own.cell 9
theorem Dz.c10 {w wr : World} {d : Nat → Int} {nm : Int} {A : Option Addr} {n c : Nat} {till : Int} {v : Value} {L : List UInt8} (h : Dz w (rvC d nm A n c till) v L wr) : wr.cell? ⟨w.heap.size, 10, none⟩ = some (.int .i64 till) := h.own.cell 10
section
variable {w wr w' : World} {C : Array Value} {v v' : Value} {L L' : List UInt8}
theorem Dz.size (h : Dz w C v L wr) : w.heap.size + 2 ≤ wr.heap.size := by have := h.res.lt; omega
theorem Dz.app (h : Dz w C v L wr) (hb : Below (w.heap.size + 2) wr w') (ho : OB w' (w.heap.size + 2) v' L') : Dz w C v' L' w' :=
  ⟨h.own.below hb (by omega), h.res.below hb (by omega), ho, h.fr.trans (hb.mono (by omega))⟩
theorem Dz.then_ (h : Dz w C v L wr) (hb : Below wr.heap.size wr w') : Dz w C v L w' := h.app (hb.mono h.size) (h.row.below hb (Nat.le_refl _))
end

/-- append of bytes in a region that draws its order; which block may have turned. -/
theorem step_app8g (w : World) {ops : Array Oper} {o : Oper} {a : Act} {Q : Exit → Act → World → Prop} {K : Act → World → Prop} {E : Prop} (hgd : o.guard = none) (s x : Operand)
    (ho : o.op = .call { callee := .builtin .append, args := #[s, x], argTypes := #[54, 54] })
    (base : Nat) (v : Value) (l : List UInt8) (hs : a.eval s = v) (hown : OB w base v l)
    (A : Option Addr) (m c : Nat) (l' : List UInt8) (hx : a.eval x = .slice A m c) (hr : RB w A m l')
    (hb : l.length + m ≤ 140737488355328) (hbase : base ≤ w.heap.size)
    (h : ∀ v' w', OB w' base v' (l ++ l') → w.grownBy w' v.ownBlock → K (a.put o.dst v') w') :
    if Region.wanted o (yielded ops a.tmps) = true then Oper.wp Try.prog o a w K Q else E := by
  have hw : Region.wanted o (yielded ops a.tmps) = true := by simp [Region.wanted, hgd]
  rw [if_pos hw]
  obtain ⟨i, hi, hz0, hz1, hz2⟩ := info_parts u8_info
  have hm := hr.len
  refine wp_append_any w s x 54 ho base 5 i (.int .u8 0) 1 1 Try.underlying54 hi hz0 hz1 hz2 rfl (by decide) v l.length (B8 l) hs hown w.heap.size A m c (B8 l') hx hr (B8_one _) (by simp only [maxLen]; omega) (by omega) hbase ?_
  intro v' w' h1 h2 _
  refine h v' w' ?_ h2
  unfold OB
  rw [List.length_append, B8_append, ← hm]
  exact h1

set_option maxHeartbeats 4000000 in
set_option maxRecDepth 100000 in
theorem refDigest_any (d : Nat → Int) (nm till : Int) (A : Option Addr) (n c : Nat) (adds : List Int) (w : World) (hd : By d) (hnm : -9223372036854775808 ≤ nm ∧ nm ≤ 9223372036854775807) (htl : -9223372036854775808 ≤ till ∧ till ≤ 9223372036854775807) (hr : RI w A n adds) (hn : n ≤ 20) (ha : ∀ x ∈ adds, -9223372036854775808 ≤ x ∧ x ≤ 9223372036854775807) :
    Calls Try.prog 26 #[.agg (rvC d nm A n c till)] w fun e w' => e = .returned (dv (hashOf (rbytes d nm adds till))) ∧ Below w.heap.size w w' := by
  have HR := Lib.hid hr
  have HA := Lib.hid ha
  have HL := Lib.hid hr.len
  clear hr ha
  have kc := fun (w : World) (C : Array Value) (n c : Nat) => Lib.run_convert_bytes_const (P := Try.prog) w 54 5 C n c Try.underlying54 Try.underlying5
  go_enter Try.func26, Try.ntmps26
  go_upto_region 1 with fail
  obtain ⟨y0, y1⟩ := blk_two w 41 30 (rvC d nm A n c till) zero8
  have f0 : Below w.heap.size w ((w.alloc (.cells (rvC d nm A n c till) 41)).alloc (.cells zero8 30)) := ((Below.refl _ w).al _).al _
  have z0 : ((w.alloc (.cells (rvC d nm A n c till) 41)).alloc (.cells zero8 30)).heap.size = w.heap.size + 2 := by simp
  generalize (w.alloc (.cells (rvC d nm A n c till) 41)).alloc (.cells zero8 30) = W0 at *
  have HY0 := Lib.hid y0
  have HY1 := Lib.hid y1
  have HZ0 := Lib.hid z0
  clear y0 y1 z0
  go_wp2_with fail
  refine (refBytes_any _ 5 5 [114, 97, 105, 115, 101] _ (RB.row W0 [114, 97, 105, 115, 101] _ _ _ (fun j hj => by
    match j, hj with
    | 0, _ => rfl
    | 1, _ => rfl
    | 2, _ => rfl
    | 3, _ => rfl
    | 4, _ => rfl)) (by omega)).mono ?_
  rintro e w1 ⟨v1, rfl, ho1, b1⟩
  have a1 : Below W0.heap.size W0 w1 := (((Below.refl _ W0).al _)).then_ b1
  have D1 : Hid (Dz w (rvC d nm A n c till) v1 rb1 w1) := ⟨HY0.out.below a1 HY0.out.lt, HY1.out.below a1 HY1.out.lt, ho1.mono (by simp; have := HZ0.out; omega), f0.then_ a1⟩
  clear HY0 HY1 f0 ho1 b1 a1
  go_wp2_with fail
  clear kc
  go_loopw [4, 5] (fun v i wr => ∃ k : Nat, k ≤ 8 ∧ i = .int .i64 k ∧ Hid (OB wr w1.heap.size v ((tabL d).take k)) ∧ Below w1.heap.size w1 wr) (fun _ i _ => 8 - (intOf i).toNat)
  case atStart => exact ⟨0, by omega, rfl, OB.nil _ _, Below.refl _ _⟩
  case round =>
    obtain ⟨k, hk, rfl, ho, b2⟩ := hrel
    have D2 := Lib.hid (D1.out.then_ b2)
    by_cases hlt : k < 8
    · have e0 : wr.cell? ⟨w.heap.size, k, none⟩ = some (.int .u8 (d k)) := by
        rw [D2.out.own.cell]
        match k, hlt with
        | 0, _ => rfl
        | 1, _ => rfl
        | 2, _ => rfl
        | 3, _ => rfl
        | 4, _ => rfl
        | 5, _ => rfl
        | 6, _ => rfl
        | 7, _ => rfl
      have hT : (tabL d).take (k + 1) = (tabL d).take k ++ [UInt8.ofNat (d k).toNat] := by
        rw [List.take_succ_eq_append_getElem (by rw [tabL_len]; exact hlt)]
        simp [tabL]
      have HT := Lib.hid hT
      have HBy := Lib.hid (byte_of (hd k))
      clear hT
      have hle := b2.size
      have q0 : (k : Int) < 8 := by omega
      go_wp2_with (at_builtin; refine wpList_app8 _ rfl (.tmp 14) (.tmp 19) rfl w1.heap.size _ ((tabL d).take k) rfl (ho.out.alloc _) _ 1 1 [UInt8.ofNat (d k).toNat] rfl (RB.one _ HBy.out _) (by simp; omega) (by simp; omega) ?_; intro v3 w3 ho3 hb3)
      have b3 : Below w1.heap.size w1 w3 := (b2.alloc hle _).trans hb3
      have HO3 : Hid (OB w3 w1.heap.size v3 ((tabL d).take (k + 1))) := by rw [Hid, HT.out]; exact ho3
      clear ho3 hb3 e0
      go_wp2_with fail
      go_roundw
      case rel => exact ⟨k + 1, by omega, by go_num, HO3, b3⟩
      case measure => simp [intOf]; omega
    · obtain rfl : k = 8 := by omega
      obtain ⟨At, nt, ct, rfl, _, _, rt⟩ := ho.out.got
      rw [List.take_of_length_le (by rw [tabL_len]; omega)] at rt
      have hnt : nt ≤ 8 := by have := rt.len; rw [tabL_len] at this; omega
      clear ho D1
      have FR := (Below.refl wr.heap.size wr).drew
      have DC := Lib.hid (D2.out.then_ FR)
      have RT := Lib.hid rt
      have e1 : rb1.length + (num 8 ++ tabL d).length ≤ 140737488355328 := by have := rb2_len d; simp [rb2] at this; simp; omega
      have e2 : (rb1 ++ (num 8 ++ tabL d)).length + (num (fold nm)).length ≤ 140737488355328 := by have := rb3_len d nm hnm; simp [rb3, rb2] at this; simp; omega
      clear rt D2
      go_upto_region 7 with fail
      go_cut [3] (fun v wc => ∃ v7, v = v7 ∧ Hid (Dz w (rvC d nm A n c till) v7 (rb3 d nm) wc))
      case first =>
        go_region_held3 (fun w' => w'.cell? ⟨w.heap.size, 8, none⟩ = some (.int .i64 nm)) (exact DC.out.c8)
          (first
            | (go_at_call 62; refine (refBytes_any At nt ct (tabL d) _ (RT.out.below FR) (by omega)).mono ?_; rintro e x1 ⟨vb, rfl, ob, bb⟩; obtain ⟨Ab, nb, cb, rfl, _, _, rb⟩ := ob.got; have RX := Lib.hid rb; have NX := Lib.hid rb.len; rw [tabL_len] at RX NX; have FR := FR.then_ bb; have DC := Lib.hid (DC.out.then_ bb); (try have OS := Lib.hid (OS.out.below bb (Nat.le_refl _))); clear rb ob)
            | (go_at_call 63; refine (signedO_any nm _ hnm.1 hnm.2).mono ?_; rintro e x2 ⟨vs, rfl, os, bb⟩; obtain ⟨As, ns, cs, rfl, _, _, rs⟩ := os.got; have NS := Lib.hid rs.len; have OS := Lib.hid os; have HBk := Lib.hid (DC.out.row.block); (try have FR := FR.then_ bb); have DC := Lib.hid (DC.out.then_ bb); (try have RX := Lib.hid (RX.out.below bb)); clear rs os)
            | (refine step_app8g _ rfl (.tmp 21) (.tmp 23) rfl (w.heap.size + 2) v1 rb1 (by rfl) DC.out.row Ab nb cb (num 8 ++ tabL d) (by rfl) RX.out (by rw [NX.out]; exact e1) DC.out.size ?_; intro va xa oa ga; (try have OS := Lib.hid (OS.out.other' ga (fun g hg => (HBk.out g hg).2))); have DC := Lib.hid (DC.out.app (DC.out.row.grown ga DC.out.size) oa); clear oa ga)
            | (refine step_app8g _ rfl (.tmp 24) (.tmp 27) rfl (w.heap.size + 2) _ (rb1 ++ (num 8 ++ tabL d)) (by rfl) DC.out.row As ns cs (num (fold nm)) (by rfl) OS.out.rb (by rw [NS.out]; exact e2) DC.out.size ?_; intro va xa oa ga; have DC := Lib.hid (DC.out.app (DC.out.row.grown ga DC.out.size) oa); clear oa ga))
        all_goals
          clear e1 e2
          go_wp2_with fail
          go_meet
          case rel => exact ⟨_, rfl, DC.out⟩
      case rest =>
        obtain ⟨v7, rfl, D7⟩ := hcut
        clear DC FR RT e1 e2 b2
        have k9 := D7.out.c9
        go_wp2_with fail
        refine (refNum_any n _ (by unfold U64; omega)).mono ?_
        rintro e w8 ⟨v8, rfl, o8, b8⟩
        obtain ⟨A8, n8, c8, rfl, _, _, r8⟩ := o8.got
        have D8 := Lib.hid (D7.out.then_ b8)
        have N8 := Lib.hid r8.len
        have q8 : (rb3 d nm).length + (num n).length ≤ 140737488355328 := by have := rb4_len d nm n hnm (by omega); simp [rb4] at this; omega
        clear o8 b8 k9 D7
        go_wp2_with (at_builtin; refine wpList_app8 _ rfl (.tmp 29) (.tmp 34) rfl (w.heap.size + 2) _ (rb3 d nm) rfl D8.out.row A8 n8 c8 (num n) rfl r8 (by rw [N8.out]; exact q8) D8.out.size ?_; intro v9 w9 o9 b9)
        have D9 : Hid (Dz w (rvC d nm A n c till) v9 (rb4 d nm n ++ intsL (adds.take 0)) w9) := by
          have := D8.out.app b9 o9
          rw [Hid]
          simpa [intsL, rb4] using this
        clear o9 b9 q8 r8 D8
        go_wp2_with fail
        go_loopw [3, 6] (fun v i wr => ∃ k : Nat, k ≤ n ∧ i = .int .i64 k ∧ Hid (Dz w (rvC d nm A n c till) v (rb4 d nm n ++ intsL (adds.take k)) wr)) (fun _ i _ => n - (intOf i).toNat)
        case atStart => exact ⟨0, by omega, rfl, D9⟩
        case round =>
          clear D9
          obtain ⟨k, hk, rfl, DK⟩ := hrel
          have k9 := DK.out.c9
          by_cases hlt : k < n
          · obtain ⟨ba, oa, rfl, hba, hla, hca⟩ := (HR.out.below DK.out.fr).at_ hlt
            have hx := HA.out _ (List.getElem_mem hla)
            have HT := Lib.hid (List.take_succ_eq_append_getElem hla)
            have hlen := intsL_len (adds.take k) (fun x hx => HA.out x (List.mem_of_mem_take hx))
            have h4 := rb4_len d nm n hnm (by omega)
            have h5 := num_le10 (fold_lt hx.1 hx.2)
            generalize adds[k] = x at *
            have q9 : (rb4 d nm n ++ intsL (adds.take k)).length + (num (fold x)).length ≤ 140737488355328 := by
              simp only [List.length_append]
              have : (adds.take k).length ≤ k := List.length_take_le _ _
              omega
            clear hlen h4 h5
            go_wp2_with fail
            refine (signedO_any x _ hx.1 hx.2).mono ?_
            rintro e w10 ⟨v10, rfl, o10, b10⟩
            obtain ⟨A10, n10, c10, rfl, _, _, r10⟩ := o10.got
            have D10 := Lib.hid (DK.out.then_ b10)
            have N10 := Lib.hid r10.len
            clear o10 b10 hca k9
            go_wp2_with (at_builtin; refine wpList_app8 _ rfl (.tmp 43) (.tmp 49) rfl (w.heap.size + 2) _ (rb4 d nm n ++ intsL (adds.take k)) rfl D10.out.row A10 n10 c10 (num (fold x)) rfl r10 (by rw [N10.out]; exact q9) D10.out.size ?_; intro v11 w11 o11 b11)
            have D11 : Hid (Dz w (rvC d nm (some ⟨ba, oa, none⟩) n c till) v11 (rb4 d nm n ++ intsL (adds.take (k + 1))) w11) := by
              rw [Hid, HT.out, intsL_snoc, ← List.append_assoc]
              exact D10.out.app b11 o11
            clear o11 b11 r10 D10 DK q9 HT
            go_wp2_with fail
            go_roundw
            case rel => exact ⟨k + 1, by omega, by go_num, D11⟩
            case measure => simp [intOf]; omega
          · obtain rfl : k = n := by omega
            have k10 := DK.out.c10
            have hk2 := HL.out
            have hlen := intsL_len adds HA.out
            have h4 := rb4_len d nm k hnm (by omega)
            have h5 := num_le10 (fold_lt htl.1 htl.2)
            have q9 : (rb4 d nm k ++ intsL adds).length + (num (fold till)).length ≤ 140737488355328 := by
              simp only [List.length_append]
              omega
            have q10 : (rb4 d nm k ++ intsL adds).length + (num (fold till)).length ≤ 1000 := by
              simp only [List.length_append]
              omega
            have DL0 := DK.out
            rw [List.take_of_length_le (by omega)] at DL0
            have DL := Lib.hid DL0
            clear hlen h4 h5 hk2 DK DL0
            go_wp2_with fail
            refine (signedO_any till _ htl.1 htl.2).mono ?_
            rintro e w10 ⟨v10, rfl, o10, b10⟩
            obtain ⟨A10, n10, c10, rfl, _, _, r10⟩ := o10.got
            have D10 := Lib.hid (DL.out.then_ b10)
            have N10 := Lib.hid r10.len
            clear o10 b10 k9 k10
            go_wp2_with (at_builtin; refine wpList_app8 _ rfl (.tmp 51) (.tmp 54) rfl (w.heap.size + 2) _ (rb4 d nm k ++ intsL adds) rfl D10.out.row A10 n10 c10 (num (fold till)) rfl r10 (by rw [N10.out]; exact q9) D10.out.size ?_; intro v11 w11 o11 b11; obtain ⟨A11, n11, c11, rfl, h1, h2, r11⟩ := o11.got; have D11 := Lib.hid (D10.out.app b11 o11); have N11 := Lib.hid r11.len; clear o11 b11)
            refine (refHashOf_any A11 n11 c11 _ _ r11 (by rw [N11.out]; simp only [List.length_append] at q10 ⊢; omega)).mono ?_
            rintro e w12 ⟨rfl, b12⟩
            have HE : Hid (rb4 d nm k ++ intsL adds ++ num (fold till) = rbytes d nm adds till) := by
              rw [Hid, rbytes, ← HL.out]
            rw [HE.out]
            have D12 := D11.out.then_ b12
            obtain ⟨⟨k0, k1, k2, k3, k4, k5, k6, k7⟩, q0, q1, q2, q3, q4, q5, q6, q7⟩ := D12.res.eight
            have f12 := D12.fr
            clear D12 r11
            go_wp2_with fail
            refine bodyPost_ret (v := dv (hashOf (rbytes d nm adds till))) (by simp [results, Try.results26, go_sem, k0, k1, k2, k3, k4, k5, k6, k7]) rfl ⟨rfl, ?_⟩
            exact Below.set8 f12 (by simp) _ _ _ _ _ _ _ _
end Go.Proofs.Ytdbffjipoiphpaa
