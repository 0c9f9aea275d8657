
/-
  JournalCrash: the law's walk.
-/
import Derived.Test.YtidppcaohkfnfaaK20
namespace Go.Proofs.Ytidppcaohkfnfaa
open Go.RowKit

def nums (l : List Nat) : List Value := l.map fun k : Nat => Value.int .i64 (k : Int)
theorem nums_length (l : List Nat) : (nums l).length = l.length := by simp [nums]
theorem nums_at (l : List Nat) {k : Nat} (h : k < (nums l).length) : (nums l)[k]'h = .int .i64 ((l[k]'(by rw [nums_length] at h; exact h) : Nat) : Int) := by simp [nums]
theorem nums_one (l : List Nat) : ∀ u ∈ nums l, u.oneCell' = true := by
  intro u hu
  obtain ⟨_, _, rfl⟩ := List.mem_map.1 hu
  rfl
theorem int_info : (Try.prog.info? 3).map (fun i => (i.zero, i.size, i.bytes)) = some (some (.int .i64 0), 1, 8) := by kernel_rfl
theorem new_int (W : World) (e : TypeId) (v : Value) : Reads (W.alloc (.cells #[v] e)) (W.heap.size + 1) 1 (some ⟨W.heap.size, 0, none⟩) 1 [v] := by
  refine ⟨by simp, fun _ => ⟨_, rfl, by simp, fun j u hu => ?_⟩⟩
  rw [Addr.add_lit, Nat.zero_add, (Blk.new W e #[v]).cell j]
  simpa using hu
theorem cut_of (a : Int) (q : Nat) (hq : q ≤ 100000) : ∃ ct : Nat, ct ≤ q ∧ wrap64 ((IntKind.u64.wrap a).tmod ((q : Int) + 1)) = (ct : Int) := by
  have hu1 : 0 ≤ IntKind.u64.wrap a := by rw [IntKind.wrap_u64]; omega
  generalize IntKind.u64.wrap a = u at hu1 ⊢
  rw [Int.tmod_eq_emod_of_nonneg hu1]
  have h1 : 0 ≤ u % ((q : Int) + 1) := Int.emod_nonneg _ (by omega)
  have h2 : u % ((q : Int) + 1) < (q : Int) + 1 := Int.emod_lt_of_pos _ (by omega)
  rw [IntWalk.wrap64_in _ (by omega)]
  exact ⟨(u % ((q : Int) + 1)).toNat, by omega, by omega⟩
theorem _root_.Go.Proofs.Ytidppcaohkfnfaa.RIn.below {D : Nat → Prop} {w w' : World} {A : Option Addr} {n : Nat} {l : List UInt8} (h : RIn D w A n l) (hb : Below w.heap.size w w') : RIn D w' A n l := h.kept (Kept.of_below (S := fun _ => False) hb) (fun _ _ h => h)
theorem opens_all {es : List En} (h : ∀ e ∈ es, e.Right) : Opens (allB D8 es) es [] := ⟨(List.append_nil _).symm, h, begins_nil⟩
theorem cut_take {ms : List Me} {k : Nat} (hk : k < ms.length) : ms.take (k + 1) = ms.take k ++ [ms[k]] := List.take_succ_eq_append_getElem hk

set_option maxHeartbeats 4000000 in
set_option maxRecDepth 100000 in
theorem journalCrash_walk (A1 : Option Addr) (n1 c1 : Nat) (ms1 : List Me) (a : Int) (more : Me) (w : World) (h1 : Ins w A1 n1 c1 ms1) (hm : more.Ok (fun k => k < w.heap.size) w) :
    Calls Try.prog 5 #[.slice A1 n1 c1, .int .i64 a, more.val] w (Tells w true) := by
  have ES := Lib.hid (fillCut_small ms1 16)
  have f0 : Below w.heap.size w (w.alloc (.cells #[.int .i64 more.kind, .string more.key, .slice more.A more.n more.c] 45)) := (Below.refl _ w).al _
  have x0 := Blk.new w 45 #[.int .i64 more.kind, .string more.key, .slice more.A more.n more.c]
  have CUT := Lib.hid (cut_any' A1 n1 c1 ms1 16 _ (h1.below f0) (by decide))
  have HM := Lib.hid hm
  clear h1 hm
  obtain ⟨i0, hi0, hz0, hz1, hz2⟩ := info_parts int_info
  unfold Me.val
  go_enter Try.func5, Try.ntmps5
  go_wp2_with fail
  refine CUT.out.mono ?_
  rintro e w1 ⟨A3, n3, c3, rfl, hn3, hm3, hc3, hcm3, r3, ok3, b1⟩
  have X1 := Lib.hid (x0.below b1 x0.lt)
  have F1 := f0.then_ b1
  have zw := x0.lt
  have z1 := b1.size
  have HES : Hid (fill ((ms1.take 16).map cutM) = fillCut ms1 16) := rfl
  generalize (ms1.take 16).map cutM = ms at *
  generalize fillCut ms1 16 = es at *
  have HN3 := Lib.hid hn3
  have R3 := Lib.hid r3
  have OK3 := Lib.hid ok3
  clear CUT b1 x0 f0 hn3 r3 ok3
  go_wp2_with fail
  refine (new_any w1).mono ?_
  intro e w2 hnew
  obtain ⟨S, g, rfl, j2, hS, b2⟩ := Jn.of_new hnew
  have J2 := Lib.hid j2
  have HS := Lib.hid hS
  have B2 := Lib.hid b2
  have z2 := b2.size
  clear hnew j2 hS b2
  go_wp2_with fail
  go_loopg [8, 9] n3 (fun gk v i wr => ∃ (k : Nat) (S : Nat → Prop), gk = n3 - k ∧ k ≤ n3 ∧ i = .int .i64 k ∧ Hid (Jn wr S g (fill (ms.take k))) ∧ Hid (wr.ownsRow w1.heap.size 3 1 v (endsOf (fill (ms.take k))).length (nums (endsOf (fill (ms.take k))))) ∧ Hid (∀ k, S k → w1.heap.size ≤ k) ∧ Hid (∀ k, v.ownBlock = some k → ¬ S k) ∧ Hid (Below w1.heap.size w1 wr))
  case atStart => exact ⟨0, S, by omega, by omega, rfl, J2, World.ownsRow_nil _ _ _ _, HS, fun k hk => by simp [Value.ownBlock] at hk, B2⟩
  case round =>
    clear J2 HS B2 S z2
    obtain ⟨k, S, hgk, hk, rfl, hj, ho, hS, hvS, hB⟩ := hrel
    have HGK := Lib.hid hgk
    clear hgk
    by_cases hlt : k < n3
    · have hkl : k < ms.length := by rw [← HN3.out]; exact hlt
      have cT := meCells_cut ms k hkl
      obtain ⟨b, o, rfl, hb, hcl⟩ := R3.out.chunk (by omega) hlt cT
      obtain ⟨okm, hsm⟩ := OK3.out _ (List.getElem_mem hkl)
      have okm := okm.below hB.out
      have HTK : Hid (fill (ms.take (k + 1)) = fill (ms.take k) ++ fill [ms[k]]) := by rw [Hid, cut_take hkl, fill_append]
      have HEL : Hid ((fill (ms.take k)).length ≤ 16) := by
        have h1 := fill_len (ms.take k)
        rw [List.length_take] at h1
        rw [Hid]
        omega
      generalize fill (ms.take k) = fs at *
      generalize ms[k] = m at *
      clear cT
      have q0 : wr.cell? ⟨b, o + k * 3, none⟩ = some (.int .i64 m.kind) := (hB.out.cell (p := ⟨b, o + k * 3, none⟩) hb).trans (hcl 0 _ rfl)
      have q1 : wr.cell? ⟨b, o + k * 3 + 1, none⟩ = some (.string m.key) := (hB.out.cell (p := ⟨b, o + k * 3 + 1, none⟩) hb).trans (hcl 1 _ rfl)
      have q2 : wr.cell? ⟨b, o + k * 3 + 2, none⟩ = some (.slice m.A m.n m.c) := (hB.out.cell (p := ⟨b, o + k * 3 + 2, none⟩) hb).trans (hcl 2 _ rfl)
      have hsz := hB.out.size
      have g1 : (0 : Int) ≤ (k : Int) := by omega
      have g2 : (k : Int) < (n3 : Int) := by omega
      have hDS : Hid (∀ q, q < w.heap.size + 1 → ¬ S q) := fun q hd hs => by
        have h2 := hS.out q hs
        have h3 : (w.alloc (.cells #[.int .i64 more.kind, .string more.key, .slice more.A more.n more.c] 45)).heap.size = w.heap.size + 1 := by simp
        omega
      clear hcl
      by_cases hri : m.Right
      · have ADD := Lib.hid (add_yes S _ g fs m wr hj.out okm hri (Nat.lt_of_le_of_lt HEL.out (by omega)) (fun q hd => hDS.out q (by simpa using hd)))
        have HEN : Hid (m.en.Right) := (Me.right_en okm).2 hri
        clear hri okm
        go_wp2_with fail
        refine ADD.out.mono ?_
        rintro e w3 ⟨v3, S3, B3, rfl, j3, s1, s2, o3, hB3, k3⟩
        obtain ⟨A4, n4, c4, rfl, -, -, -⟩ := o3.got
        have hul := own_blk ho.out
        have HO3 := Lib.hid (own_other ho.out k3 (fun q hq => hvS.out q hq))
        have HV3 : Hid (∀ q, u8.ownBlock = some q → ¬ S3 q) := fun q hq h => by
          have hql := hul q hq
          rcases s1 q h with h | h
          · exact hvS.out q hq h
          · omega
        have HS3 : Hid (∀ q, S3 q → w1.heap.size ≤ q) := fun q h => by
          rcases s1 q h with h | h
          · exact hS.out q h
          · omega
        have HF3 : Hid (Below w1.heap.size w1 w3) := hB.out.trans (k3.to_below hsz (fun q hq h => by have := hS.out q h; omega))
        have J3 := Lib.hid j3
        have hes : Hid (fill (ms.take (k + 1)) = fs ++ [m.en]) := by rw [Hid, HTK.out, fill_one HEN.out]
        have LB : Hid ((allB D8 (fs ++ [m.en])).length ≤ 4000000) := by
          have h1 := allB_len j3.right
          rw [List.length_append, List.length_singleton] at h1
          have h2 := HEL.out
          rw [Hid]
          exact Nat.le_trans h1 (Nat.le_trans (Nat.mul_le_mul_right 66000 (show fs.length + 1 ≤ 17 by omega)) (by decide))
        have BY := Lib.hid (jbytes_any S3 g (fs ++ [m.en]) w3 j3 (by rw [List.length_append, List.length_singleton]; have := HEL.out; omega))
        have z3 := HF3.out.size
        clear ADD s1 s2 o3 k3 j3 q0 q1 q2 hul
        go_wp2_with fail
        refine BY.out.mono ?_
        rintro e w4 ⟨v4, rfl, o4, b4⟩
        obtain ⟨A5, c5, rfl, -, -, -⟩ := o4.form
        have HO4 := own_other HO3.out (Kept.of_below (S := fun _ => False) b4) (fun _ _ h => h)
        have J4 := Lib.hid (J3.out.below b4)
        have HF4 := Lib.hid (HF3.out.then_ b4)
        have z4 := b4.size
        have HEE : Hid (endsOf (fs ++ [m.en]) = endsOf fs ++ [(allB D8 (fs ++ [m.en])).length]) := endsOf_snoc _ _
        generalize (allB D8 (fs ++ [m.en])).length = lx at *
        have RD := Lib.hid (new_int w4 3 (.int .i64 (lx : Int)))
        have HO5 := Lib.hid (World.ownsRow.alloc (w := w4) HO4 (.cells #[.int .i64 (lx : Int)] 3))
        have hfl : (endsOf fs).length ≤ 16 := by rw [endsOf_len]; exact HEL.out
        clear BY o4 b4 HO4
        go_wp2_with (at_builtin; refine wpList_append_any _ rfl (.tmp 50) (.tmp 54) 47 rfl w1.heap.size 3 i0 _ 1 8 Try.underlying47 hi0 hz0 hz1 hz2 rfl (by omega) _ (endsOf fs).length _ rfl HO5.out _ _ 1 1 [.int .i64 (lx : Int)] rfl RD.out (by simp [Value.oneCell']) (by unfold maxLen; omega) (by omega) (by simp; omega) ?_; intro v8 w8 o8 g8 at8)
        have K8 : Kept (fun z => u8.ownBlock = some z) w4 w8 := (Kept.of_below (S := fun z => u8.ownBlock = some z) ((Below.refl _ w4).al (.cells #[.int .i64 (lx : Int)] 3))).then_ (Kept.of_grown (S := fun z => u8.ownBlock = some z) g8 (fun q e => e)) (fun _ _ h => h)
        have hub := own_base HO5.out
        have HB8 : Hid (Below w1.heap.size w1 w8) := HF4.out.trans (K8.to_below (by omega) (fun q hq e => by have := hub q e; omega))
        have HJ8 : Hid (Jn w8 S3 g (fill (ms.take (k + 1)))) := by rw [Hid, hes.out]; exact J4.out.kept K8 (fun q hq e => HV3.out q e hq)
        have HO8 : Hid (w8.ownsRow w1.heap.size 3 1 v8 (endsOf (fill (ms.take (k + 1)))).length (nums (endsOf (fill (ms.take (k + 1)))))) := by
          have e2 : nums (endsOf fs ++ [lx]) = nums (endsOf fs) ++ [.int .i64 (lx : Int)] := by simp [nums]
          rw [Hid, hes.out, HEE.out, e2, List.length_append, List.length_singleton]
          exact o8
        have HV8 : Hid (∀ q, v8.ownBlock = some q → ¬ S3 q) := fun q hq h => by
          rcases at8 with e | e
          · exact HV3.out q (e ▸ hq) h
          · rw [e] at hq
            injection hq with hq
            have h1 := J4.out.lt q h
            have h2 : w4.heap.size + 1 = q := by simpa using hq
            omega
        clear o8 g8 at8 K8 RD HO5 hub
        go_roundg (n3 - (k + 1))
        case measure => have := HGK.out; omega
        case rel => exact ⟨k + 1, S3, rfl, by omega, by go_num, HJ8, HO8, HS3, HV8, HB8⟩
      · have ADD := Lib.hid (add_no g m wr hri)
        have HEN : Hid (¬ m.en.Right) := fun h => hri ((Me.right_en okm).1 h)
        clear hri okm
        go_wp2_with fail
        refine ADD.out.mono ?_
        rintro e w3 ⟨rfl, b3⟩
        have hes : Hid (fill (ms.take (k + 1)) = fs) := by rw [Hid, HTK.out, fill_none HEN.out, List.append_nil]
        have HJ3 : Hid (Jn w3 S g (fill (ms.take (k + 1)))) := by rw [Hid, hes.out]; exact hj.out.below b3
        have HO3 : Hid (w3.ownsRow w1.heap.size 3 1 u8 (endsOf (fill (ms.take (k + 1)))).length (nums (endsOf (fill (ms.take (k + 1)))))) := by
          rw [Hid, hes.out]
          exact own_other ho.out (Kept.of_below (S := fun _ => False) b3) (fun _ _ h => h)
        have HB3 := Lib.hid (hB.out.then_ b3)
        clear ADD q0 q1 q2 b3
        go_wp2_with fail
        go_roundg (n3 - (k + 1))
        case measure => have := HGK.out; omega
        case rel => exact ⟨k + 1, S, rfl, by omega, by go_num, HJ3, HO3, hS, hvS, HB3⟩
    · obtain rfl : k = n3 := by omega
      obtain ⟨wA, rfl⟩ : ∃ x, x = wr := ⟨_, rfl⟩
      have HT : Hid (fill (ms.take k) = es) := by rw [Hid, List.take_of_length_le (by rw [← HN3.out]; exact Nat.le_refl _)]; exact HES.out
      rw [HT.out] at hj ho
      obtain ⟨A4, c4, rfl, hn4, hc4, r4⟩ := own_form ho.out
      have R4 := Lib.hid r4
      have hsz := hB.out.size
      have X2 := Lib.hid (X1.out.below (hB.out.mono (by omega)) (by omega))
      have F2 : Below w.heap.size w wA := F1.trans (hB.out.mono (by omega))
      have HM2 := Lib.hid (HM.out.below F2)
      have HL : Hid (es.length ≤ 16) := ES.out.len
      have JS : Hid (∀ q, S q → w.heap.size < q) := fun q hq => by have := hS.out q hq; omega
      obtain ⟨nE, hE⟩ : ∃ x, es.length = x := ⟨_, rfl⟩
      rw [endsOf_len, hE] at hn4 R4 ⊢
      have HE := Lib.hid hE
      have hnE : nE ≤ 16 := by rw [← hE]; exact HL.out
      obtain ⟨X, hX⟩ : ∃ X, allB D8 es = X := ⟨_, rfl⟩
      obtain ⟨q, hq⟩ : ∃ q, X.length = q := ⟨_, rfl⟩
      have hq' : q ≤ 3200 := by rw [← hq, ← hX]; exact ES.out.bytes
      have HX := Lib.hid hX
      have HQ := Lib.hid hq
      have HRI := Lib.hid ES.out.right
      have ALL := Lib.hid (all_any S g es wA hj.out (by omega))
      clear R3 OK3 HES HN3 HM ES ho hS hvS HT F1 X1 hB r4 hE hX hq
      go_wp2_with fail
      refine ALL.out.mono ?_
      rintro e w4 ⟨ls, rfl, har, hls, b4⟩
      have hll : ls.length = nE := by rw [← HE.out, ← hls, List.length_map]
      rw [hll] at har ⊢
      have HAR := Lib.hid har
      have HLS := Lib.hid hls
      have HLL := Lib.hid hll
      have BY := Lib.hid (jbytes_any S g es w4 (hj.out.below b4) (by rw [HE.out]; omega))
      rw [HX.out] at BY
      have F4 := F2.then_ b4
      have X4 := Lib.hid (X2.out.below b4 X2.out.lt)
      have R5 := Lib.hid ((R4.out.below b4).more b4.size)
      have HM4 := Lib.hid (HM2.out.below b4)
      have z4 := b4.size
      clear har hls hll b4 ALL X2 R4 HM2 F2 hj
      go_wp2_with fail
      refine BY.out.mono ?_
      rintro e w5 ⟨v5, rfl, o5, b5⟩
      obtain ⟨A5, c5, rfl, hc5, hm5, r5⟩ := o5.form
      rw [HQ.out] at hc5 r5 ⊢
      have HR5 := Lib.hid r5
      have F5 := F4.then_ b5
      have X5 := Lib.hid (X4.out.below b5 X4.out.lt)
      have R6 := Lib.hid ((R5.out.below b5).more b5.size)
      have HM5 := Lib.hid (HM4.out.below b5)
      have HAR5 := Lib.hid (HAR.out.below b5)
      have z5 := b5.size
      obtain ⟨ct, hctq, hct⟩ := cut_of a q (by omega)
      clear BY o5 b5 X4 R5 HM4 HAR F4 r5
      go_wp2_with fail
      rw [hct]
      go_loopg [15, 16, 17] nE (fun gk x y i wr => ∃ (k h : Nat), gk = nE - k ∧ k ≤ nE ∧ i = .int .i64 k ∧ x = .int .i64 h ∧ y = .int .i64 ((allB D8 (es.take h)).length : Int) ∧ Hid (Left es ct k h) ∧ Hid (Below w5.heap.size w5 wr))
      case atStart => exact ⟨0, 0, by omega, by omega, rfl, rfl, by simp [allB], Left.zero _ _, Below.refl _ _⟩
      case round =>
        clear hct
        obtain ⟨i, h, hgk, hk, rfl, rfl, rfl, hl, hB⟩ := hrel
        have HGK := Lib.hid hgk
        clear hgk
        by_cases hlt : i < nE
        · obtain ⟨b, o, rfl, hb, hkl, hcc⟩ := RV.at_ (R6.out.below hB.out |>.more hB.out.size) hlt
          have hie : i < es.length := by rw [HE.out]; exact hlt
          have e1 : (nums (endsOf es))[i]'hkl = .int .i64 ((allB D8 (es.take (i + 1))).length : Int) := by
            rw [nums_at, endsOf_at es hie]
          rw [e1] at hcc
          have g1 : (0 : Int) ≤ (i : Int) := by omega
          have g2 : (i : Int) < (nE : Int) := by omega
          have HH : Hid ((allB D8 (es.take (i + 1))).length ≤ ct → Left es ct (i + 1) (i + 1)) := fun hc => hl.out.yes hc
          have HN : Hid (¬ (allB D8 (es.take (i + 1))).length ≤ ct → Left es ct (i + 1) h) := fun hc => hl.out.no hc
          obtain ⟨sk, hsk⟩ : ∃ x, (allB D8 (es.take (i + 1))).length = x := ⟨_, rfl⟩
          rw [hsk] at HH HN hcc
          have HSK := Lib.hid hsk
          clear e1 hsk
          by_cases hle : sk ≤ ct
          · have g3 : (sk : Int) ≤ (ct : Int) := by omega
            have HL1 := Lib.hid (HH.out hle)
            clear HH HN hl
            go_upto_region 19 with fail
            go_quiet (fail)
            go_wp2_with fail
            go_roundg (nE - (i + 1))
            case measure => have := HGK.out; omega
            case rel => exact ⟨i + 1, i + 1, rfl, by omega, by go_num, by go_num, by rw [HSK.out], HL1, below_drewN hB.out _⟩
          · have g3 : ¬ (sk : Int) ≤ (ct : Int) := by omega
            have HL1 := Lib.hid (HN.out hle)
            clear HH HN hl
            go_wp2_with fail
            go_roundg (nE - (i + 1))
            case measure => have := HGK.out; omega
            case rel => exact ⟨i + 1, h, rfl, by omega, by go_num, rfl, rfl, HL1, hB⟩
        · obtain rfl : i = nE := by omega
          obtain ⟨wB, rfl⟩ : ∃ x, x = wr := ⟨_, rfl⟩
          have hlo : Left es ct es.length h := by rw [HE.out]; exact hl.out
          obtain ⟨LO1, LO2⟩ := hlo.opens HRI.out (by rw [HX.out, HQ.out]; exact hctq)
          have hh : h ≤ i := hl.out.le
          have hfit := hl.out.fits
          rw [HX.out] at LO1 LO2
          have htk : X.take (allB D8 (es.take h)).length = allB D8 (es.take h) := by
            have h1 : X = allB D8 (es.take h) ++ allB D8 (es.drop h) := by rw [← HX.out, ← allB_append, List.take_append_drop]
            conv => lhs; arg 2; rw [h1]
            rw [List.take_left]
          obtain ⟨z, hz⟩ : ∃ z, (allB D8 (es.take h)).length = z := ⟨_, rfl⟩
          rw [hz] at LO1 LO2 hfit htk
          generalize (X.take ct).drop z = rest at *
          have HZ := Lib.hid hz
          have HTK := Lib.hid htk
          have HRT : Hid (∀ e ∈ es.take h, e.Right) := fun e he => HRI.out e (List.mem_of_mem_take he)
          have hhl : Hid ((es.take h).length = h) := by rw [Hid, List.length_take, HE.out]; omega
          have HEH : Hid (es.take h = (es.take h)) := rfl
          obtain ⟨eh, heh⟩ : ∃ x, es.take h = x := ⟨_, rfl⟩
          rw [heh] at LO1 HZ HTK HRT hhl
          have HEQ := Lib.hid heh
          obtain ⟨tn, htn⟩ : ∃ tn, tornE rest = tn := ⟨_, rfl⟩
          have TC : Hid ((tn = 26 ∧ (z : Int) < (ct : Int)) ∨ (tn = 0 ∧ ¬ (z : Int) < (ct : Int))) := by
            rw [Hid, ← htn]
            by_cases hzc : z < ct
            · have hne : rest ≠ [] := fun h0 => by rw [h0] at LO2; simp at LO2; omega
              exact .inl ⟨torn_some hne, by omega⟩
            · have hne : rest = [] := List.eq_nil_of_length_eq_zero (by omega)
              exact .inr ⟨by rw [hne, torn_nil], by omega⟩
          have HTN := Lib.hid htn
          have RU := (HR5.out.below hB.out).upto (k := ct) (by omega)
          have OP := Lib.hid (open_any' A5 ct c5 _ wB RU (by omega) (by unfold maxLen at hm5; exact hm5) (by omega))
          have HLO := Lib.hid LO1
          have F6 := F5.then_ hB.out
          have X6 := Lib.hid (X5.out.below hB.out X5.out.lt)
          have HM6 := Lib.hid (HM5.out.below hB.out)
          have HAR6 := Lib.hid (HAR5.out.below hB.out)
          have HR6 : Hid (RIn (fun k => k < wB.heap.size) wB A5 q X) := (RIn.of_rb (HR5.out.below hB.out)).mono (fun k hk _ => hk)
          have z6 := hB.out.size
          have i1 : (0 : Int) ≤ (ct : Int) := by omega
          have i2 : (ct : Int) ≤ (c5 : Int) := by omega
          have i3 : (q : Int) ≤ (c5 : Int) := by omega
          rw [hz]
          have F5' : Hid (w.heap.size ≤ wB.heap.size) := F6.size
          clear hlo LO1 LO2 htk hz htn RU F5 X5 HM5 HAR5 HR5 hB hl R6 HEH heh
          go_wp2_with fail
          refine OP.out.mono ?_
          rintro e w6 ⟨So, go_, eh2, rest2, rfl, j6, hSo, ho6, b6⟩
          obtain ⟨rfl, rfl⟩ := opens_inj ho6 HLO.out
          rw [HZ.out, HTN.out]
          have JO := Lib.hid j6
          have HSo := Lib.hid hSo
          have F7 := F6.then_ b6
          have X7 := Lib.hid (X6.out.below b6 X6.out.lt)
          have HM7 := Lib.hid (HM6.out.below b6)
          have HAR7 := Lib.hid (HAR6.out.below b6)
          have HR7 := Lib.hid (HR6.out.below b6)
          have z7 := b6.size
          clear j6 hSo ho6 b6 OP F6 X6 HM6 HAR6 HR6
          go_wp2_with fail
          refine (jlen_any So go_ _ w6 JO.out).mono ?_
          rintro e w7 ⟨rfl, rfl⟩
          rw [hhl.out]
          have HAE := Lib.hid (all_any So go_ eh2 w6 JO.out (by rw [hhl.out]; omega))
          rcases TC.out with ⟨rfl, gt⟩ | ⟨rfl, gt⟩
          all_goals
            clear TC HTN
            go_wp2_with fail
            refine HAE.out.mono ?_
            rintro e w7 ⟨lx, rfl, har, hlx, b7⟩
            have hll : lx.length = h := by rw [← hhl.out, ← hlx, List.length_map]
            rw [hll] at har ⊢
            have HAX := Lib.hid har
            have HLX := Lib.hid hlx
            have HLXL := Lib.hid hll
            have JO2 := Lib.hid (JO.out.below b7)
            have F8 := F7.then_ b7
            have X8 := Lib.hid (X7.out.below b7 X7.out.lt)
            have HM8 := Lib.hid (HM7.out.below b7)
            have HAR8 := Lib.hid (HAR7.out.below b7)
            have HR8 := Lib.hid (HR7.out.below b7)
            have z8 := b7.size
            clear har hlx hll b7 HAE F7 X7 HM7 HAR7 HR7 JO
            go_wp2_with fail
            go_loopg [22] h (fun gk i wr => ∃ (k : Nat), gk = h - k ∧ k ≤ h ∧ i = .int .i64 k ∧ Hid (Below w7.heap.size w7 wr))
            case atStart => exact ⟨0, by omega, by omega, rfl, Below.refl _ _⟩
            case round =>
              obtain ⟨k, hgk, hk, rfl, hB⟩ := hrel
              have HGK := Lib.hid hgk
              clear hgk
              by_cases hlt : k < h
              · have hkx : k < lx.length := by rw [HLXL.out]; exact hlt
                have hkl : k < ls.length := by rw [HLL.out]; omega
                have cX := meCells_cut lx k hkx
                have cL := meCells_cut ls k hkl
                have harx := HAX.out
                have harl := HAR8.out
                rw [← HLXL.out] at harx
                rw [← HLL.out] at harl
                obtain ⟨b, o, hbo, hb, hcl⟩ := harx.reads.chunk (by omega) hkx cX
                obtain ⟨b2, o2, hbo2, hb2, hcl2⟩ := harl.reads.chunk (by omega) hkl cL
                injection hbo with hbo
                injection hbo2 with hbo2
                injection hbo with hbo1 hbo3
                injection hbo2 with hbo4 hbo5
                subst hbo1 hbo3 hbo4 hbo5
                obtain ⟨_, okx, rix⟩ := HAX.out.own _ (List.getElem_mem hkx)
                obtain ⟨_, okl, ril⟩ := HAR8.out.own _ (List.getElem_mem hkl)
                have hsame : Hid (sameE (lx[k]).en (ls[k]).en = true) := by
                  refine sameE_iff.2 ?_
                  have hke : k < es.length := by rw [HE.out]; omega
                  have e1 : es[k] = (ls[k]).en := by
                    have := HLS.out
                    subst this
                    simp
                  have hkh : k < eh2.length := by rw [hhl.out]; exact hlt
                  have e2 : eh2[k] = (lx[k]).en := by
                    have := HLX.out
                    subst this
                    simp
                  rw [← e1, ← e2]
                  have := HEQ.out
                  subst this
                  simp
                generalize lx[k] = m at *
                generalize ls[k] = m' at *
                have hlA : w6.heap.size < w7.heap.size := HAX.out.lt
                have hlB : wA.heap.size < w7.heap.size := HAR8.out.lt
                have hcl' : ∀ j u, m.cells[j]? = some u → w7.cell? ⟨w6.heap.size, k * 3 + j, none⟩ = some u := fun j u hu => by
                  have := hcl j u hu
                  rwa [Nat.zero_add] at this
                have hcl2' : ∀ j u, m'.cells[j]? = some u → w7.cell? ⟨wA.heap.size, k * 3 + j, none⟩ = some u := fun j u hu => by
                  have := hcl2 j u hu
                  rwa [Nat.zero_add] at this
                have HL : Hid (∀ W, Below wr.heap.size wr W → W.cell? ⟨w6.heap.size, k * 3, none⟩ = some (.int .i64 m.kind) ∧ W.cell? ⟨w6.heap.size, k * 3 + 1, none⟩ = some (.string m.key) ∧ W.cell? ⟨w6.heap.size, k * 3 + 2, none⟩ = some (.slice m.A m.n m.c) ∧ W.cell? ⟨wA.heap.size, k * 3, none⟩ = some (.int .i64 m'.kind) ∧ W.cell? ⟨wA.heap.size, k * 3 + 1, none⟩ = some (.string m'.key) ∧ W.cell? ⟨wA.heap.size, k * 3 + 2, none⟩ = some (.slice m'.A m'.n m'.c)) := fun W hW => by
                  have hb7 := hB.out.then_ hW
                  exact ⟨(hb7.cell (p := ⟨w6.heap.size, k * 3, none⟩) hlA).trans (hcl' 0 _ rfl), (hb7.cell (p := ⟨w6.heap.size, k * 3 + 1, none⟩) hlA).trans (hcl' 1 _ rfl), (hb7.cell (p := ⟨w6.heap.size, k * 3 + 2, none⟩) hlA).trans (hcl' 2 _ rfl),
                    (hb7.cell (p := ⟨wA.heap.size, k * 3, none⟩) hlB).trans (hcl2' 0 _ rfl), (hb7.cell (p := ⟨wA.heap.size, k * 3 + 1, none⟩) hlB).trans (hcl2' 1 _ rfl), (hb7.cell (p := ⟨wA.heap.size, k * 3 + 2, none⟩) hlB).trans (hcl2' 2 _ rfl)⟩
                clear hcl' hcl2'
                have okm1 := Lib.hid (okx.below hB.out)
                have okn1 := Lib.hid (okl.below hB.out)
                have hmn : m.n ≤ 65536 := rix.2.2.2
                have hmn' : m'.n ≤ 65536 := ril.2.2.2
                have rr : Below wr.heap.size wr wr.drew := (Below.refl _ wr).drew
                have g1 : (0 : Int) ≤ (k : Int) := by omega
                have g2' : (k : Int) < (h : Int) := by omega
                have g3 : (k : Int) < (i : Int) := by omega
                clear hcl hcl2 okx okl rix ril harx harl cX cL hb hb2
                go_upto_region 27 with fail
                go_region_held3 (fun W => W.cell? ⟨w6.heap.size, k * 3, none⟩ = some (.int .i64 m.kind) ∧ W.cell? ⟨w6.heap.size, k * 3 + 1, none⟩ = some (.string m.key) ∧ W.cell? ⟨w6.heap.size, k * 3 + 2, none⟩ = some (.slice m.A m.n m.c) ∧ W.cell? ⟨wA.heap.size, k * 3, none⟩ = some (.int .i64 m'.kind) ∧ W.cell? ⟨wA.heap.size, k * 3 + 1, none⟩ = some (.string m'.key) ∧ W.cell? ⟨wA.heap.size, k * 3 + 2, none⟩ = some (.slice m'.A m'.n m'.c))
                  (with_reducible exact HL.out _ rr)
                  (first | (go_at_call 13; refine (esame_any _ _ m m' _ (okm1.out.below rr) (okn1.out.below rr) (by omega) (by omega)).mono ?_; rintro e w8 ⟨rfl, b8⟩; have rr := rr.then_ b8; rw [hsame.out]))
                have HB8 := Lib.hid (hB.out.then_ rr)
                clear HL okm1 okn1 rr hsame
                go_wp2_with fail
                go_roundg (h - (k + 1))
                case measure => have := HGK.out; omega
                case rel => exact ⟨k + 1, rfl, by omega, by go_num, HB8⟩
              · obtain rfl : k = h := by omega
                obtain ⟨wC, rfl⟩ : ∃ x, x = wr := ⟨_, rfl⟩
                have X9 := X8.out.below hB.out X8.out.lt
                have q0 : wC.cell? ⟨w.heap.size, 0, none⟩ = some (.int .i64 more.kind) := X9.cell 0
                have q1 : wC.cell? ⟨w.heap.size, 1, none⟩ = some (.string more.key) := X9.cell 1
                have q2 : wC.cell? ⟨w.heap.size, 2, none⟩ = some (.slice more.A more.n more.c) := X9.cell 2
                have F9 := F8.then_ hB.out
                have HM9 := HM8.out.below hB.out
                have b1 : Below wC.heap.size wC (wC.alloc (.cells #[.int .i64 more.kind, .string more.key, .slice more.A more.n more.c] 45)) := (Below.refl _ wC).al _
                have zF := F9.size
                have hins : Ins (wC.alloc (.cells #[.int .i64 more.kind, .string more.key, .slice more.A more.n more.c] 45)) (some ⟨wC.heap.size, 0, none⟩) 1 1 [more] := by
                  have h1 := new_entry wC 45 more
                  have h2 : meCells [more] = more.cells := by simp [meCells]
                  refine ⟨?_, rfl, Nat.le_refl _, by decide, fun m hm => ?_⟩
                  · rw [h2]
                    exact h1.more (by simp)
                  · obtain rfl := List.mem_singleton.1 hm
                    exact (HM9.below b1).mono (fun q hq _ => hq)
                have CU := Lib.hid (cut_any' _ 1 1 [more] 1 _ hins (by decide))
                have JO3 := Lib.hid ((JO2.out.below hB.out).below b1)
                have HR9 := Lib.hid ((HR8.out.below hB.out).below b1)
                have hko := hhl.out
                have F10 := F9.then_ b1
                have HSO : Hid (∀ q, So q → w.heap.size ≤ q) := fun q hq => by have := HSo.out q hq; have := F5'.out; omega
                have HM10 := Lib.hid ((HM9.below b1).cut)
                have HX3 : Hid (X.take z = allB D8 eh2) := HTK.out
                clear hB X9 X8 F8 HM8 HM9 HAR8 HAX HLX HLXL JO2 HR8 b1 hins F9
                go_wp2_with fail
                refine CU.out.mono ?_
                rintro e w9 ⟨A10, n10, c10, rfl, hn10, hm10, hc10, hcm10, r10, ok10, b9⟩
                obtain rfl : n10 = 1 := hn10
                obtain ⟨-, hmxn, hmxk⟩ := ok10 (cutM more) (by simp)
                have hmx := Lib.hid (HM10.out.below b9)
                have hcell : meCells (([more].take 1).map cutM) = (cutM more).cells := by simp [meCells]
                rw [hcell] at r10
                have hm60 := (cutM_len more).1
                generalize cutM more = mx at *
                obtain ⟨b, o, rfl, hb, hcl⟩ := r10.chunk (k := 0) (by omega) (by omega) (show ((mx.cells).drop (0 * 3)).take 3 = mx.cells from rfl)
                rw [Nat.zero_mul, Nat.add_zero] at hcl
                have q0 : w9.cell? ⟨b, o, none⟩ = some (.int .i64 mx.kind) := hcl 0 _ rfl
                have q1 : w9.cell? ⟨b, o + 1, none⟩ = some (.string mx.key) := hcl 1 _ rfl
                have q2 : w9.cell? ⟨b, o + 2, none⟩ = some (.slice mx.A mx.n mx.c) := hcl 2 _ rfl
                have JO4 := Lib.hid (JO3.out.below b9)
                have HR10 := Lib.hid (HR9.out.below b9)
                have F11 := F10.then_ b9
                clear CU HM10 hcl r10 ok10 b9 hcell JO3 HR9 F10
                by_cases hri : mx.Right
                · have ADD := Lib.hid (add_yes So _ go_ eh2 mx w9 JO4.out hmx.out hri (by rw [hko]; omega) (fun q hd hs => by have := HSO.out q hs; omega))
                  have HRI2 := Lib.hid ((Me.right_en hmx.out).2 hri)
                  clear hri
                  go_wp2_with fail
                  refine ADD.out.mono ?_
                  rintro e w10 ⟨v10, S3, B3, rfl, j3, s1, s2, o3, hB3, k3⟩
                  obtain ⟨A11, c11, rfl, hc11, hm11, r11⟩ := o3.form
                  obtain ⟨lw, hlw⟩ : ∃ x, (entryB D8 mx.en).length = x := ⟨_, rfl⟩
                  have hlw1 : 1 ≤ lw := by have := entryB_long mx.en; omega
                  have hlw2 : lw ≤ 200 := by rw [← hlw]; exact entryB_small HRI2.out (by show mx.body.length ≤ 60; rw [← hmx.out.len]; exact hm60)
                  have HLW := Lib.hid hlw
                  rw [hlw] at hc11 r11 ⊢
                  have hAll : Hid (∀ x ∈ eh2 ++ [mx.en], x.Right) := j3.right
                  have JO5 := Lib.hid j3
                  have F12 : Below w.heap.size w w10 := F11.trans (k3.to_below F11.size (fun q hq hs => by have := HSO.out q hs; omega))
                  have HR11 := Lib.hid r11
                  have HR12 : Hid (RB w10 A5 z (allB D8 eh2)) := by
                    have h1 := (HR10.out.kept k3 (fun q hq hs => by have := HSo.out q hs; omega)).rb.upto (k := z) (by omega)
                    rw [HX3.out] at h1
                    exact h1
                  have HLL2 : Hid ((allB D8 eh2).length = z) := HZ.out
                  have HAA : Hid (allB D8 (eh2 ++ [mx.en]) = allB D8 eh2 ++ entryB D8 mx.en) := by rw [Hid, allB_append, allB_one]
                  generalize allB D8 eh2 = Y at *
                  generalize entryB D8 mx.en = Z at *
                  have i1 : (0 : Int) ≤ (z : Int) := by omega
                  have i2 : (z : Int) ≤ (c5 : Int) := by omega
                  have i3 : (q : Int) ≤ (c5 : Int) := by omega
                  have hw : IntKind.i64.wrap ((z : Int) + (lw : Int)) = (z : Int) + (lw : Int) := IntWalk.i64_in _ (by omega)
                  have i4 : (lw : Int) > 0 := by omega
                  clear ADD j3 s1 s2 o3 k3 r11 hlw q0 q1 q2 HR10 F11 JO4
                  go_wp2_with (at_builtin; first | (refine wpList_app8 _ rfl (.tmp 150) (.tmp 153) rfl w10.heap.size _ [] rfl (OB.made w10 _ (Nat.le_refl _)) A5 z c5 Y rfl (HR12.out.alloc _) (by simp; omega) (by simp) ?_; intro v4 w4 o4 b4; obtain ⟨A4', n4, c4', rfl, -, -, r4⟩ := o4.got) | (refine wpList_app8 _ rfl (.tmp 154) (.tmp 155) rfl w10.heap.size _ ([] ++ Y) rfl o4 A11 lw c11 Z rfl (HR11.out.below (((Below.refl _ w10).al _).trans b4)) (by rw [List.nil_append, HLL2.out]; omega) (by have := b4.size; simp at this ⊢; omega) ?_; intro v5 w5' o5 b5'; obtain ⟨A5', n5', c5', rfl, hn5', hc5', r5'⟩ := o5.got))
                  have f5 := (((Below.refl _ w10).al (.cells #[] 5)).trans b4).trans b5'
                  have JO6 := Lib.hid (JO5.out.below f5)
                  have F13 := F12.then_ f5
                  have e1 : [] ++ Y ++ Z = allB D8 (eh2 ++ [mx.en]) := by rw [HAA.out, List.nil_append]
                  have hn6 : n5' = z + lw := by
                    have h1 := r5'.len
                    rw [List.length_append, List.nil_append, HLL2.out] at h1
                    rw [h1, HLW.out]
                  rw [e1] at r5'
                  unfold maxLen at hc5'
                  have OP2 := Lib.hid (open_any' A5' n5' c5' _ w5' r5' hn5' hc5' (by omega))
                  have hz2 : Hid (((allB D8 (eh2 ++ [mx.en])).length : Int) = (z : Int) + (lw : Int)) := by rw [Hid, HAA.out, List.length_append, HLL2.out, HLW.out]; omega
                  clear b4 b5' f5 o4 o5 r4 r5' e1 JO5 F12 HR11 HR12 hw
                  refine OP2.out.mono ?_
                  rintro e w11 ⟨Sp, gp, ep, rp, rfl, jp, hSp, hop, b11⟩
                  obtain ⟨hp1, hp2⟩ := opens_inj hop (opens_all hAll.out)
                  rw [hp1] at jp ⊢
                  rw [hp2, hz2.out, torn_nil]
                  have JP := Lib.hid jp
                  have JO7 := Lib.hid (JO6.out.below b11)
                  have F14 := F13.then_ b11
                  have hw : IntKind.i64.wrap ((z : Int) + (lw : Int)) = (z : Int) + (lw : Int) := IntWalk.i64_in _ (by omega)
                  clear OP2 jp hSp hop b11 hp1 hp2 JO6 F13
                  go_wp2_with fail
                  refine (known_any w11).mono ?_
                  rintro e w12 ⟨rfl, b12⟩
                  have JP2 := Lib.hid (JP.out.below b12)
                  have JO8 := Lib.hid (JO7.out.below b12)
                  have F15 := F14.then_ b12
                  clear JP JO7 F14 b12
                  go_wp2_with fail
                  refine (jsame_any Sp S3 gp go_ _ _ w12 JP2.out JO8.out (by rw [List.length_append, List.length_singleton, hko]; omega)).mono ?_
                  rintro e w13 ⟨rfl, b13⟩
                  rw [decide_eq_true rfl]
                  go_wp2_with fail
                  go_ret
                  exact ⟨by show Ending.returned (.bool (decide (0 < lw))) = _; rw [decide_eq_true (show 0 < lw by omega)], F15.then_ b13⟩
                · have ADD := Lib.hid (add_no go_ mx w9 hri)
                  clear hri
                  go_wp2_with fail
                  refine ADD.out.mono ?_
                  rintro e w10 ⟨rfl, b10⟩
                  have HR12 : Hid (RB w10 A5 z (allB D8 eh2)) := by
                    have h1 := (HR10.out.below b10).rb.upto (k := z) (by omega)
                    rw [HX3.out] at h1
                    exact h1
                  have HLL2 : Hid ((allB D8 eh2).length = z) := HZ.out
                  have JO5 := Lib.hid (JO4.out.below b10)
                  have F12 := F11.then_ b10
                  obtain ⟨Y, hY⟩ : ∃ Y, allB D8 eh2 = Y := ⟨_, rfl⟩
                  rw [hY] at HR12 HLL2
                  have HY := Lib.hid hY
                  have i1 : (0 : Int) ≤ (z : Int) := by omega
                  have i2 : (z : Int) ≤ (c5 : Int) := by omega
                  have i3 : (q : Int) ≤ (c5 : Int) := by omega
                  clear ADD q0 q1 q2 HR10 F11 JO4 b10 hY
                  go_wp2_with (at_builtin; first | (refine wpList_app8 _ rfl (.tmp 150) (.tmp 153) rfl w10.heap.size _ [] rfl (OB.made w10 _ (Nat.le_refl _)) A5 z c5 Y rfl (HR12.out.alloc _) (by simp; omega) (by simp) ?_; intro v4 w4 o4 b4; obtain ⟨A4', n4, c4', rfl, -, -, r4⟩ := o4.got) | (refine wpList_app8 _ rfl (.tmp 154) (.tmp 155) rfl w10.heap.size _ ([] ++ Y) rfl o4 none 0 0 [] rfl RB.none_ (by rw [List.nil_append, HLL2.out]; omega) (by have := b4.size; simp at this ⊢; omega) ?_; intro v5 w5' o5 b5'; obtain ⟨A5', n5', c5', rfl, hn5', hc5', r5'⟩ := o5.got))
                  have f5 := (((Below.refl _ w10).al (.cells #[] 5)).trans b4).trans b5'
                  have JO6 := Lib.hid (JO5.out.below f5)
                  have F13 := F12.then_ f5
                  have e1 : [] ++ Y ++ [] = allB D8 eh2 := by rw [HY.out, List.nil_append, List.append_nil]
                  have hn6 : n5' = z := by
                    have h1 := r5'.len
                    rw [List.append_nil, List.nil_append, HLL2.out] at h1
                    exact h1
                  rw [e1] at r5'
                  unfold maxLen at hc5'
                  have hAll : Hid (∀ x ∈ eh2, x.Right) := JO5.out.right
                  have OP2 := Lib.hid (open_any' A5' n5' c5' _ w5' r5' hn5' hc5' (by omega))
                  have hz2 : Hid (((allB D8 eh2).length : Int) = (z : Int)) := by rw [Hid, HZ.out]
                  clear b4 b5' f5 o4 o5 r4 r5' e1 JO5 F12 HR12
                  refine OP2.out.mono ?_
                  rintro e w11 ⟨Sp, gp, ep, rp, rfl, jp, hSp, hop, b11⟩
                  obtain ⟨hp1, hp2⟩ := opens_inj hop (opens_all hAll.out)
                  rw [hp1] at jp ⊢
                  rw [hp2, hz2.out, torn_nil]
                  have JP := Lib.hid jp
                  have JO7 := Lib.hid (JO6.out.below b11)
                  have F14 := F13.then_ b11
                  have hw : IntKind.i64.wrap ((z : Int) + 0) = (z : Int) := by rw [Int.add_zero]; exact IntWalk.i64_in _ (by omega)
                  clear OP2 jp hSp hop b11 hp1 hp2 JO6 F13
                  go_wp2_with fail
                  refine (known_any w11).mono ?_
                  rintro e w12 ⟨rfl, b12⟩
                  have JP2 := Lib.hid (JP.out.below b12)
                  have JO8 := Lib.hid (JO7.out.below b12)
                  have F15 := F14.then_ b12
                  clear JP JO7 F14 b12
                  go_wp2_with fail
                  refine (jsame_any Sp So gp go_ _ _ w12 JP2.out JO8.out (by rw [hko]; omega)).mono ?_
                  rintro e w13 ⟨rfl, b13⟩
                  rw [decide_eq_true rfl]
                  go_wp2_with fail
                  go_ret
                  exact ⟨rfl, F15.then_ b13⟩
end Go.Proofs.Ytidppcaohkfnfaa
