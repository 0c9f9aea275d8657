
/-
  The law's OwnExpr: a tree of the document's as the program's.
-/
import Derived.Test.YtdgekckedchjbaaGreatDoorQH
namespace Go.Proofs.YtdgekckedchjbaaGreatDoor
open Go.RowKit

theorem info_oexpr : (Tryz.prog.info? 40).map (fun i => (i.zero, i.size, i.bytes)) = some (some (.agg #[.int .i64 0, .int .i64 0, .string ByteArray.empty, .slice none 0 0]), 4, 56) := by kernel_rfl
theorem OwnG.keptB {S : Nat → Prop} {w w' : World} {base : Nat} {t : TypeId} {M n : Nat} {v : Value} {l : List Gx} (h : OwnG w base t M n v l) (hk : Kept S w w') (hs : ∀ z, base ≤ z → ¬ S z) : OwnG w' base t M n v l := by
  obtain ⟨ys, h1, h2, h3⟩ := h
  refine ⟨ys, own_keptS h1 hk (fun k e => hs k (own_ge h1 k e)), h2, fun i hi => ?_⟩
  exact GC.kept hk (fun k _ hd => hs k hd.1) (fun k _ hd => hd) n _ _ (h3 i hi)
/-- One more operand behind the others. -/
theorem own_mk {w wr w6 w8 : World} {t te : TypeId} {M n k c' c8 : Nat} {ecs zcs : Array Value} {op N : Int} {nm : ByteArray} {A' A8 : Option Addr} {l : List Gx} {g : Gx} {ys cs : List Value} {ob : Obj}
    (B1 : Blk wr w.heap.size te ecs) (B2 : Blk wr (w.heap.size + 1) t zcs) (B3 : Blk wr (w.heap.size + 2) t #[.int .i64 op, .int .i64 N, .string nm, .slice A' k c']) (hbw : Below w.heap.size w wr)
    (how : wr.ownsRow (w.heap.size + 3) t 4 (.slice A' k c') k ys) (hyl : ys.length = k * 4) (htl : (l.take k).length = k)
    (hold : ∀ i (h : i < (l.take k).length), GC (fun z => w.heap.size + 3 ≤ z ∧ (Value.slice A' k c').ownBlock ≠ some z) wr M n ((ys.drop (i * 4)).take 4) ((l.take k)[i]'h)) (htk : l.take (k + 1) = l.take k ++ [g])
    (b6 : Below wr.heap.size wr w6) (o6 : GC (fun z => wr.heap.size ≤ z) w6 M n cs g) (hcs : cs.length = 4)
    (o8 : w8.ownsRow (w.heap.size + 3) t 4 (.slice A8 (k + 1) c8) (k + 1) (ys ++ cs)) (g8 : (w6.alloc ob).grownBy w8 (Value.slice A' k c').ownBlock) (at8 : (Value.slice A8 (k + 1) c8).ownBlock = (Value.slice A' k c').ownBlock ∨ (Value.slice A8 (k + 1) c8).ownBlock = some (w6.alloc ob).heap.size) :
    ∃ (A : Option Addr) (c : Nat), Blk (w8.setCell ⟨w.heap.size + 2, 3, none⟩ (.slice A8 (k + 1) c8)) w.heap.size te ecs ∧ Blk (w8.setCell ⟨w.heap.size + 2, 3, none⟩ (.slice A8 (k + 1) c8)) (w.heap.size + 1) t zcs ∧ Blk (w8.setCell ⟨w.heap.size + 2, 3, none⟩ (.slice A8 (k + 1) c8)) (w.heap.size + 2) t #[.int .i64 op, .int .i64 N, .string nm, .slice A (k + 1) c] ∧
      OwnG (w8.setCell ⟨w.heap.size + 2, 3, none⟩ (.slice A8 (k + 1) c8)) (w.heap.size + 3) t M n (.slice A (k + 1) c) (l.take (k + 1)) ∧ Below w.heap.size w (w8.setCell ⟨w.heap.size + 2, 3, none⟩ (.slice A8 (k + 1) c8)) := by
  have hog := own_ge how
  have hol := own_lt how
  have hwz := hbw.size
  have h3 := B3.lt
  have K6 : Kept (fun z => (Value.slice A' k c').ownBlock = some z) wr w6 := Kept.of_below b6
  have K68 : Kept (fun z => (Value.slice A' k c').ownBlock = some z) w6 w8 := ((Kept.refl (fun z => (Value.slice A' k c').ownBlock = some z) w6).alloc ob).then_ (Kept.of_grown g8 (fun _ e => e)) (fun _ _ e => e)
  have K8 : Kept (fun z => (Value.slice A' k c').ownBlock = some z) wr w8 := K6.then_ K68 (fun _ _ e => e)
  have z6 : (w6.alloc ob).heap.size = w6.heap.size + 1 := by simp
  have zz := b6.size
  have ng : GC (fun z => wr.heap.size ≤ z ∧ z < w6.heap.size) w8 M n cs g := GC.kept K68 (fun z _ hz e => by have := hol z e; omega) (fun z hz h => ⟨h, hz⟩) _ _ _ o6
  have ho8 := o8
  have hyl8 := hyl
  rw [← htl] at hyl8
  have ow : OwnG w8 (w.heap.size + 3) t M n (.slice A8 (k + 1) c8) (l.take (k + 1)) := by
    rw [htk]
    refine OwnG.push (by rw [htl]; exact ho8) hyl8 hcs hold K8 (fun z hz hne e => ?_) ng (fun z hz hd => ⟨by omega, fun e => ?_⟩)
    · rcases at8 with h | h
      · exact hne (h ▸ e)
      · rw [h] at e
        have e := Option.some.inj e
        omega
    · rcases at8 with h | h
      · have := hol z (h ▸ e)
        omega
      · rw [h] at e
        have e := Option.some.inj e
        omega
  have K9 : Kept (fun z => z = w.heap.size + 2) w8 (w8.setCell ⟨w.heap.size + 2, 3, none⟩ (.slice A8 (k + 1) c8)) := (Kept.refl (fun z => z = w.heap.size + 2) w8).setCell (p := ⟨w.heap.size + 2, 3, none⟩) (fun _ => rfl) _
  have n1 : ∀ b, b < w.heap.size + 3 → ¬ (Value.slice A' k c').ownBlock = some b := fun b hb e => by have := hog b e; omega
  refine ⟨A8, c8, (B1.kept K8 (n1 _ (by omega))).kept K9 (by omega), (B2.kept K8 (n1 _ (by omega))).kept K9 (by omega), ?_, ow.keptB K9 (fun z hz e => by omega), ?_⟩
  · have := (B3.kept K8 (n1 _ (by omega))).set_ 3 (.slice A8 (k + 1) c8)
    simpa using this
  · exact (hbw.trans (K8.to_below hwz (fun z hz e => by have := hog _ e; omega))).trans (K9.to_below (by have := K8.size; omega) (fun z hz e => by omega))
/-- What is asked of OwnExpr, at a depth. -/
def OwnOk (M n : Nat) : Prop := ∀ (D : Nat → Prop) (op N : Int) (nm : ByteArray) (A : Option Addr) (len cap : Nat) (g : Gx) (w : World), GC D w M n [.int .i64 op, .int .i64 N, .string nm, .slice A len cap] g →
  Calls Tryz.prog 12 #[.agg #[.int .i64 op, .int .i64 N, .string nm, .slice A len cap]] w fun e w' => ∃ A' c', e = .returned (.agg #[.int .i64 op, .int .i64 N, .string nm, .slice A' len c']) ∧ Below w.heap.size w w' ∧ GC (fun z => w.heap.size ≤ z) w' M n [.int .i64 op, .int .i64 N, .string nm, .slice A' len c'] g
set_option maxHeartbeats 4000000 in
set_option maxRecDepth 100000 in
theorem own_step (M n : Nat) (hM : M ≤ 2513169434843) (H : OwnOk M n) : OwnOk M (n + 1) := by
  intro D op N nm A len cap g w hg
  obtain ⟨gop, gN, gnm, l⟩ := g
  obtain ⟨A0, len0, cap0, hcs, hel⟩ := hg
  simp only [List.cons.injEq, Value.int.injEq, Value.string.injEq, Value.slice.injEq, and_true, true_and] at hcs
  obtain ⟨rfl, rfl, rfl, rfl, rfl, rfl⟩ := hcs
  obtain ⟨xs, hrd, -, hl, hk, hc⟩ := hel
  have HRD := Lib.hid hrd
  have HK := Lib.hid hk
  have HC := Lib.hid hc
  have HH := Lib.hid H
  have HLM : Hid (len ≤ M) := hl
  obtain ⟨W1, hW1⟩ : ∃ W, W = (((w.alloc (.cells #[.int .i64 op, .int .i64 N, .string nm, .slice A len cap] 24)).alloc (.cells #[.int .i64 0, .int .i64 0, .string ⟨#[]⟩, .slice none 0 0] 40)).alloc (.cells #[.int .i64 op, .int .i64 N, .string nm, .slice none 0 0] 40)) := ⟨_, rfl⟩
  have c1 : Blk W1 w.heap.size 24 #[.int .i64 op, .int .i64 N, .string nm, .slice A len cap] := by
    rw [hW1]
    exact ((Blk.new w _ _).alloc _).alloc _
  have c2 : Blk W1 (w.heap.size + 1) 40 #[.int .i64 0, .int .i64 0, .string ⟨#[]⟩, .slice none 0 0] := by
    rw [hW1]
    have := (Blk.new (w.alloc (.cells #[.int .i64 op, .int .i64 N, .string nm, .slice A len cap] 24)) 40 #[.int .i64 0, .int .i64 0, .string ⟨#[]⟩, .slice none 0 0]).alloc (.cells #[.int .i64 op, .int .i64 N, .string nm, .slice none 0 0] 40)
    simpa using this
  have c3 : Blk W1 (w.heap.size + 2) 40 #[.int .i64 op, .int .i64 N, .string nm, .slice none 0 0] := by
    rw [hW1]
    have := Blk.new ((w.alloc (.cells #[.int .i64 op, .int .i64 N, .string nm, .slice A len cap] 24)).alloc (.cells #[.int .i64 0, .int .i64 0, .string ⟨#[]⟩, .slice none 0 0] 40)) 40 #[.int .i64 op, .int .i64 N, .string nm, .slice none 0 0]
    simpa using this
  have f1 : Below w.heap.size w W1 := by
    rw [hW1]
    exact (((Below.refl _ w).al _).al _).al _
  have C1 := Lib.hid c1
  have C2 := Lib.hid c2
  have C3 := Lib.hid c3
  have F1 := Lib.hid f1
  have HW := Lib.hid hW1
  clear hrd hk hc H hl c1 c2 c3 f1 hW1
  go_enter Tryz.func12, Tryz.ntmps12
  go_upto_region 2 with fail
  rw [← show W1 = _ from HW.out]
  clear HW
  go_wp2_with fail
  go_loopw [4] (fun i wr => ∃ (k : Nat) (A' : Option Addr) (c' : Nat), k ≤ len ∧ i = .int .i64 k ∧ Hid (Blk wr w.heap.size 24 #[.int .i64 op, .int .i64 N, .string nm, .slice A len cap]) ∧ Hid (Blk wr (w.heap.size + 1) 40 #[.int .i64 0, .int .i64 0, .string ⟨#[]⟩, .slice none 0 0]) ∧ Hid (Blk wr (w.heap.size + 2) 40 #[.int .i64 op, .int .i64 N, .string nm, .slice A' k c']) ∧ Hid (OwnG wr (w.heap.size + 3) 40 M n (.slice A' k c') (l.take k)) ∧ Hid (Below w.heap.size w wr)) (fun i _ => len - (intOf i).toNat)
  case atStart => exact ⟨0, none, 0, by omega, rfl, C1.out, C2.out, C3.out, OwnG.nil _ _ _ _ _, F1.out⟩
  case round =>
    obtain ⟨k, A', c', hkl, rfl, B1, B2, B3, ho, hbw⟩ := hrel
    by_cases hlt : k < len
    · have hkk : k < l.length := by rw [HK.out]; exact hlt
      have ec := HC.out k hkk
      have HTK := Lib.hid (List.take_succ_eq_append_getElem hkk)
      generalize l[k] = g at *
      obtain ⟨op2, N2, nm2, A2, len2, cap2, hcs⟩ := ec.form
      obtain ⟨bb, oo, rfl, hbb, hcells⟩ := HRD.out.chunk (by omega) hlt hcs
      rw [hcs] at ec
      have E0 := Lib.hid ((hbw.out.cell (p := ⟨bb, oo + k * 4, none⟩) hbb).trans (hcells 0 _ rfl))
      have E1 := Lib.hid ((hbw.out.cell (p := ⟨bb, oo + k * 4 + 1, none⟩) hbb).trans (hcells 1 _ rfl))
      have E2 := Lib.hid ((hbw.out.cell (p := ⟨bb, oo + k * 4 + 2, none⟩) hbb).trans (hcells 2 _ rfl))
      have E3 := Lib.hid ((hbw.out.cell (p := ⟨bb, oo + k * 4 + 3, none⟩) hbb).trans (hcells 3 _ rfl))
      have g1 : (0 : Int) ≤ (k : Int) := by omega
      have g2 : (k : Int) < (len : Int) := by omega
      have hwz := hbw.out.size
      have h3 := B3.out.lt
      clear hcells hcs
      obtain ⟨ys, how, hyl, hold⟩ := ho.out
      have htl : (l.take k).length = k := by rw [List.length_take]; omega
      rw [htl] at how hyl
      have HOW := Lib.hid how
      have HYL := Lib.hid hyl
      have HOLD := Lib.hid hold
      have HTL := Lib.hid htl
      obtain ⟨i0, hi0, hz0, hz1, hz2⟩ := info_parts info_oexpr
      have hog := Lib.hid (own_ge how)
      have hol := Lib.hid (own_lt how)
      have CA : Hid (∀ W, Below w.heap.size w W → Calls Tryz.prog 12 #[.agg #[.int .i64 op2, .int .i64 N2, .string nm2, .slice A2 len2 cap2]] W fun e w' => ∃ A' c', e = .returned (.agg #[.int .i64 op2, .int .i64 N2, .string nm2, .slice A' len2 c']) ∧ Below W.heap.size W w' ∧ GC (fun z => W.heap.size ≤ z) w' M n [.int .i64 op2, .int .i64 N2, .string nm2, .slice A' len2 c'] g) := fun W hW => HH.out D op2 N2 nm2 A2 len2 cap2 g W (ec.below hW)
      have FD := Lib.hid (hbw.out.drew)
      have HQ : Hid (∀ W, Kept (fun z => w.heap.size + 3 ≤ z) wr W → (W.cell? ⟨w.heap.size, 3, none⟩ = some (.slice (some ⟨bb, oo, none⟩) len cap) ∧ W.cell? ⟨w.heap.size + 2, 3, none⟩ = some (.slice A' k c')) ∧ W.cell? ⟨bb, oo + k * 4, none⟩ = some (.int .i64 op2) ∧ W.cell? ⟨bb, oo + k * 4 + 1, none⟩ = some (.int .i64 N2) ∧ W.cell? ⟨bb, oo + k * 4 + 2, none⟩ = some (.string nm2) ∧ W.cell? ⟨bb, oo + k * 4 + 3, none⟩ = some (.slice A2 len2 cap2)) := fun W hW =>
        ⟨⟨(B1.out.kept hW (by omega)).cell 3, (B3.out.kept hW (by omega)).cell 3⟩, (hW.cell (p := ⟨bb, oo + k * 4, none⟩) (by show bb < _; omega) (by show ¬ _ ≤ bb; omega)).trans E0.out, (hW.cell (p := ⟨bb, oo + k * 4 + 1, none⟩) (by show bb < _; omega) (by show ¬ _ ≤ bb; omega)).trans E1.out, (hW.cell (p := ⟨bb, oo + k * 4 + 2, none⟩) (by show bb < _; omega) (by show ¬ _ ≤ bb; omega)).trans E2.out, (hW.cell (p := ⟨bb, oo + k * 4 + 3, none⟩) (by show bb < _; omega) (by show ¬ _ ≤ bb; omega)).trans E3.out⟩
      have qq := HQ.out wr.drew ((Kept.refl _ wr).drew)
      have HM := Lib.hid (show (k + 1) * 56 ≤ 140737488355328 by have := HLM.out; omega)
      have HM2 := Lib.hid (show k + 1 ≤ maxLen by unfold maxLen; have := HLM.out; omega)
      clear how hyl hold ho ec
      have p3 := B1.out.cell 3
      have fz0 : wr.drew.frozen? ⟨w.heap.size + 2, 3, none⟩ = false := B3.out.frozen 3
      have HLEN : Hid ([Value.int .i64 op2, .int .i64 N2, .string nm2, .slice A2 len2 cap2].length = 4) := rfl
      go_upto_region 5 with fail
      obtain ⟨⟨qa, qb⟩, q0, q1, q2, q3⟩ := qq
      go_region_law
          (first
          | (refine step_append_any _ (by rfl) (.tmp 20) (.tmp 27) _ (by rfl) (w.heap.size + 3) 40 i0 _ 4 56 Tryz.underlying38 hi0 hz0 hz1 hz2 rfl (by omega) (.slice A' k c') k ys (by rfl) o7.out _ _ 1 1 [.int .i64 op2, .int .i64 N2, .string nm2, .slice A6 len2 c6] (by rfl) RD.out ONE.out HM2.out HM.out (by have := K6.size; simp; omega) ?_; intro v8 w8 o8 g8 at8; have K68 : Kept (fun z => (Value.slice A' k c').ownBlock = some z) w6 w8 := ((Kept.refl (fun z => (Value.slice A' k c').ownBlock = some z) w6).alloc _).then_ (Kept.of_grown g8 (fun _ e => e)) (fun _ _ e => e); have K88 := K6.then_ K68 (fun z _ e => hog.out _ e); have X8 := B3.out.kept K88 (by omega); have ce8 := X8.cell 3; have fz8 := X8.frozen 3; obtain ⟨A8, c8, rfl⟩ := own_slice o8; have O8 := Lib.hid o8; have G8 := Lib.hid g8; have AT8 := Lib.hid at8; clear o8 g8 at8)
          | (go_simp; go_at_call 12; (with_reducible refine (CA.out _ FD.out).mono ?_); rintro e w6 ⟨A6, c6, rfl, b6, o6⟩; have K6 : Kept (fun z => w.heap.size + 3 ≤ z) wr w6 := Kept.of_below ((Below.refl _ wr).drew.then_ b6); obtain ⟨⟨ra, rb⟩, -, -, -, -⟩ := HQ.out _ K6; obtain ⟨⟨sa, sb⟩, -, -, -, -⟩ := HQ.out _ (K6.alloc (.cells #[.int .i64 op2, .int .i64 N2, .string nm2, .slice A6 len2 c6] 40)); have o7 := Lib.hid (World.ownsRow.alloc (own_below HOW.out ((Below.refl _ wr).drew.then_ b6) (Nat.le_refl _)) (.cells #[.int .i64 op2, .int .i64 N2, .string nm2, .slice A6 len2 c6] 40)); have RD := Lib.hid (reads4 w6 40 (.int .i64 op2) (.int .i64 N2) (.string nm2) (.slice A6 len2 c6)); have ONE := Lib.hid (one4 op2 N2 nm2 A6 len2 c6); have O6 := Lib.hid o6; have B6 := Lib.hid b6; clear o6 b6))
      all_goals
        obtain ⟨A9, c9, e1, e2, e3, e4, e5⟩ := own_mk B1.out B2.out B3.out hbw.out HOW.out HYL.out HTL.out HOLD.out HTK.out ((Below.refl _ wr).drew.then_ B6.out) O6.out rfl O8.out G8.out AT8.out
        have E1' := Lib.hid e1
        have E2' := Lib.hid e2
        have E3' := Lib.hid e3
        have E4' := Lib.hid e4
        have E5' := Lib.hid e5
        clear e1 e2 e3 e4 e5
        have hlm : len ≤ M := HLM.out
        go_wp2_with fail
        go_roundw
        case rel => exact ⟨k + 1, A9, c9, by omega, by go_num, E1'.out, E2'.out, E3'.out, E4'.out, E5'.out⟩
        case measure => simp [intOf]; omega
    · obtain rfl : k = len := by omega
      have hll : l.take k = l := by rw [List.take_of_length_le (by rw [HK.out]; exact Nat.le_refl _)]
      have hoe := ho.out
      rw [hll] at hoe
      have HE := Lib.hid (hoe.els HK.out (Nat.le_trans HLM.out (Nat.le_refl _)))
      have p3 := B1.out.cell 3
      have X := B3.out
      have q0 := X.cell 0
      have q1 := X.cell 1
      have q2 := X.cell 2
      have q3 := X.cell 3
      have Y := B2.out
      have r0 := Y.cell 0
      have r1 := Y.cell 1
      have r2 := Y.cell 2
      have r3 := Y.cell 3
      have z0 := Y.frozen 0
      have z1 := Y.frozen 1
      have z2 := Y.frozen 2
      have z3 := Y.frozen 3
      have hwz := hbw.out.size
      have HY := Lib.hid (Y.put4 (.int .i64 op) (.int .i64 N) (.string nm) (.slice A' k c'))
      have HKF := Lib.hid (Kept.put4 wr (w.heap.size + 1) (.int .i64 op) (.int .i64 N) (.string nm) (.slice A' k c'))
      clear ho hll hoe X Y
      go_wp2_with fail
      clear q0 q1 q2 q3 r0 r1 r2 r3 z0 z1 z2 z3 p3
      generalize (((wr.setCell ⟨w.heap.size + 1, 0, none⟩ (.int .i64 op)).setCell ⟨w.heap.size + 1, 1, none⟩ (.int .i64 N)).setCell ⟨w.heap.size + 1, 2, none⟩ (.string nm)).setCell ⟨w.heap.size + 1, 3, none⟩ (.slice A' k c') = W9 at *
      have s0 : W9.cell? ⟨w.heap.size + 1, 0, none⟩ = some (.int .i64 op) := HY.out.cell 0
      have s1 : W9.cell? ⟨w.heap.size + 1, 1, none⟩ = some (.int .i64 N) := HY.out.cell 1
      have s2 : W9.cell? ⟨w.heap.size + 1, 2, none⟩ = some (.string nm) := HY.out.cell 2
      have s3 : W9.cell? ⟨w.heap.size + 1, 3, none⟩ = some (.slice A' k c') := HY.out.cell 3
      refine bodyPost_ret (v := .agg #[.int .i64 op, .int .i64 N, .string nm, .slice A' k c']) (by simp [results, Tryz.results12, go_sem, s0, s1, s2, s3]) rfl ⟨A', c', rfl, hbw.out.trans (HKF.out.to_below hwz (fun z hz e => by omega)), A', k, c', rfl, ?_⟩
      exact HE.out.kept HKF.out (fun z _ hz e => by omega) (fun z _ hz => by omega) (fun cs g h => GC.kept HKF.out (fun z _ hz e => by omega) (fun z _ hz => by omega) _ _ _ h)
theorem own_any (M : Nat) (hM : M ≤ 2513169434843) : ∀ n, OwnOk M n
  | 0 => fun _ _ _ _ _ _ _ _ _ h => h.elim
  | n + 1 => own_step M n hM (own_any M hM n)
end Go.Proofs.YtdgekckedchjbaaGreatDoor
