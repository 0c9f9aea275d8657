
/-
  The law's exprs, one: a tree of the program's as the document's.
-/
import Derived.Test.YtdmlnoeneoomfaaDoorG1
import Derived.Test.YtdmlnoeneoomfaaDoorStep
import Derived.IntWalk
import Derived.Deep.RegionHeld3
namespace Go.Proofs.YtdmlnoeneoomfaaDoor
open Go.RowKit

theorem info_rexpr : (Tryd.prog.info? 34).map (fun i => (i.zero, i.size, i.bytes)) = some (some (.agg #[.int .i64 0, .int .i64 0, .string ByteArray.empty, .slice none 0 0]), 4, 56) := by kernel_rfl
theorem reads4 (W : World) (t : TypeId) (a b c d : Value) : Reads (W.alloc (.cells #[a, b, c, d] t)) (W.heap.size + 1) 4 (some ⟨W.heap.size, 0, none⟩) 1 [a, b, c, d] := by
  refine ⟨rfl, fun _ => ⟨_, rfl, by simp, fun j u hu => ?_⟩⟩
  rw [Addr.add_lit, Nat.zero_add, (Blk.new W t #[a, b, c, d]).cell j]
  simpa using hu
theorem one4 (op N : Int) (nm : ByteArray) (A : Option Addr) (l c : Nat) : ∀ u ∈ [Value.int .i64 op, .int .i64 N, .string nm, .slice A l c], u.oneCell' = true := by
  intro u hu
  simp only [List.mem_cons, List.not_mem_nil, or_false] at hu
  rcases hu with rfl | rfl | rfl | rfl <;> rfl
/-- What is asked of exprs, at a depth. -/
def ExprsOk (n : Nat) : Prop := ∀ (D : Nat → Prop) (A : Option Addr) (len cap : Nat) (l : List Gx) (w : World), ElsG D w 4 1000000 (GC D w 1000000 n) A len l →
  Calls Tryd.prog 25 #[.slice A len cap] w fun e w' => ∃ A' c', e = .returned (.slice A' len c') ∧ Below w.heap.size w w' ∧ OwnG w' w.heap.size 34 1000000 n (.slice A' len c') l
theorem OwnG.slice {w : World} {base : Nat} {t : TypeId} {M n : Nat} {v : Value} {l : List Gx} (h : OwnG w base t M n v l) : ∃ A c, v = .slice A l.length c := by
  obtain ⟨ys, h1, _, _⟩ := h
  obtain ⟨A, c, hv, _⟩ := own_is h1
  exact ⟨A, c, hv⟩
set_option maxHeartbeats 4000000 in
set_option maxRecDepth 100000 in
theorem exprs_step (n : Nat) (H : ∀ q, n = q + 1 → ExprsOk q) : ExprsOk n := by
  intro D A len cap l w hr
  obtain ⟨xs, hrd, -, hl, hk, hc⟩ := hr
  have HRD := Lib.hid hrd
  have HK := Lib.hid hk
  have HC := Lib.hid hc
  have HH := Lib.hid H
  clear hrd hk hc H
  go_enter Tryd.func25, Tryd.ntmps25
  go_wp2_with fail
  go_loopw [3, 8] (fun v i wr => ∃ k : Nat, k ≤ len ∧ i = .int .i64 k ∧ Hid (OwnG wr w.heap.size 34 1000000 n v (l.take k)) ∧ Hid (Below w.heap.size w wr)) (fun _ i _ => len - (intOf i).toNat)
  case atStart => exact ⟨0, by omega, rfl, OwnG.nil _ _ _ _ _, Below.refl _ _⟩
  case round =>
    obtain ⟨k, hkl, rfl, ho, hbw⟩ := hrel
    by_cases hlt : k < len
    · have hkk : k < l.length := by rw [HK.out]; exact hlt
      have ec := HC.out k hkk
      have HTK := Lib.hid (List.take_succ_eq_append_getElem hkk)
      obtain ⟨q, rfl⟩ : ∃ q, n = q + 1 := by
        cases n with
        | zero => exact absurd ec id
        | succ q => exact ⟨q, rfl⟩
      generalize l[k] = g at *
      obtain ⟨op, N, nm, gl⟩ := g
      obtain ⟨A2, len2, cap2, hcs, hel⟩ := ec
      obtain ⟨bb, oo, rfl, hbb, hcells⟩ := HRD.out.chunk (by omega) hlt hcs
      have q0 := (hbw.out.cell (p := ⟨bb, oo + k * 4, none⟩) hbb).trans (hcells 0 _ rfl)
      have q1 := (hbw.out.cell (p := ⟨bb, oo + k * 4 + 1, none⟩) hbb).trans (hcells 1 _ rfl)
      have q2 := (hbw.out.cell (p := ⟨bb, oo + k * 4 + 2, none⟩) hbb).trans (hcells 2 _ rfl)
      have q3 := (hbw.out.cell (p := ⟨bb, oo + k * 4 + 3, none⟩) hbb).trans (hcells 3 _ rfl)
      have g1 : (0 : Int) ≤ (k : Int) := by omega
      have g2 : (k : Int) < (len : Int) := by omega
      clear hcells hcs
      obtain ⟨ys, how, hyl, hold⟩ := ho.out
      have htl : (l.take k).length = k := by rw [List.length_take]; omega
      rw [htl] at how hyl
      have HOW := Lib.hid how
      have HYL := Lib.hid hyl
      have HOLD := Lib.hid hold
      have HTL := Lib.hid htl
      have B1 := Blk.new wr 25 #[.int .i64 op, .int .i64 N, .string nm, .slice A2 len2 cap2]
      have f1 := Below.al (Below.refl wr.heap.size wr) (.cells #[.int .i64 op, .int .i64 N, .string nm, .slice A2 len2 cap2] 25)
      have hz9 : (wr.alloc (.cells #[.int .i64 op, .int .i64 N, .string nm, .slice A2 len2 cap2] 25)).heap.size = wr.heap.size + 1 := by simp
      go_upto_region 5 with fail
      generalize wr.alloc (.cells #[.int .i64 op, .int .i64 N, .string nm, .slice A2 len2 cap2] 25) = W1 at *
      obtain ⟨i0, hi0, hz0, hz1, hz2⟩ := info_parts info_rexpr
      have hwz := hbw.out.size
      have hog := Lib.hid (own_ge how)
      have hol := Lib.hid (own_lt how)
      have FD := Lib.hid (hbw.out.trans (f1.drew.mono hwz))
      have F1 := Lib.hid f1
      have CA : Hid (∀ W, Below w.heap.size w W → Calls Tryd.prog 25 #[.slice A2 len2 cap2] W fun e w' => ∃ A' c', e = .returned (.slice A' len2 c') ∧ Below W.heap.size W w' ∧ OwnG w' W.heap.size 34 1000000 q (.slice A' len2 c') gl) := fun W hW => HH.out q rfl D A2 len2 cap2 gl W (hel.below hW)
      have hl2 : Hid (len2 ≤ 1000000) := by obtain ⟨_, _, _, h, _, _⟩ := hel; exact h
      have hl3 : Hid (gl.length = len2) := by obtain ⟨_, _, _, _, h, _⟩ := hel; exact h
      have qq : W1.drew.cell? ⟨wr.heap.size, 0, none⟩ = some (.int .i64 op) ∧ W1.drew.cell? ⟨wr.heap.size, 1, none⟩ = some (.int .i64 N) ∧ W1.drew.cell? ⟨wr.heap.size, 2, none⟩ = some (.string nm) ∧ W1.drew.cell? ⟨wr.heap.size, 3, none⟩ = some (.slice A2 len2 cap2) := ⟨B1.cell 0, B1.cell 1, B1.cell 2, B1.cell 3⟩
      have qB : Hid (∀ W, Blk W wr.heap.size 25 #[.int .i64 op, .int .i64 N, .string nm, .slice A2 len2 cap2] → W.cell? ⟨wr.heap.size, 0, none⟩ = some (.int .i64 op) ∧ W.cell? ⟨wr.heap.size, 1, none⟩ = some (.int .i64 N) ∧ W.cell? ⟨wr.heap.size, 2, none⟩ = some (.string nm) ∧ W.cell? ⟨wr.heap.size, 3, none⟩ = some (.slice A2 len2 cap2)) := fun W h => ⟨h.cell 0, h.cell 1, h.cell 2, h.cell 3⟩
      have HB1 := Lib.hid B1
      have z1 : W1.drew.heap.size = wr.heap.size + 1 := hz9
      clear B1 f1 q0 q1 q2 q3 how hyl hold hel ho
      go_region_held3 (fun w' => w'.cell? ⟨wr.heap.size, 0, none⟩ = some (.int .i64 op) ∧ w'.cell? ⟨wr.heap.size, 1, none⟩ = some (.int .i64 N) ∧ w'.cell? ⟨wr.heap.size, 2, none⟩ = some (.string nm) ∧ w'.cell? ⟨wr.heap.size, 3, none⟩ = some (.slice A2 len2 cap2)) (first | exact qq | (with_reducible exact qB.out _ b66) | (with_reducible exact qB.out _ (b66.alloc _)) | exact q8)
        (first
        | (go_at_call 25; (with_reducible refine (CA.out _ FD.out).mono ?_); rintro e w6 ⟨A6, c6, rfl, b6, o6⟩; have b66 := HB1.out.drew.below b6 HB1.out.lt; have b16 := F1.out.drew.trans (b6.mono F1.out.drew.size); have o7 := Lib.hid (World.ownsRow.alloc (own_below HOW.out b16 (Nat.le_refl _)) (.cells #[.int .i64 op, .int .i64 N, .string nm, .slice A6 len2 c6] 34)); have RD := Lib.hid (reads4 w6 34 (.int .i64 op) (.int .i64 N) (.string nm) (.slice A6 len2 c6)); have ONE := Lib.hid (one4 op N nm A6 len2 c6); have O6 := Lib.hid o6; clear o6)
        | (refine step_append_any _ (by rfl) (.tmp 12) (.tmp 23) _ (by rfl) w.heap.size 34 i0 _ 4 56 Tryd.underlying32 hi0 hz0 hz1 hz2 rfl (by omega) u3 k ys (by rfl) o7.out _ _ 1 1 [.int .i64 op, .int .i64 N, .string nm, .slice A6 len2 c6] (by rfl) RD.out ONE.out (by unfold maxLen; omega) (by omega) (by have := b16.size; simp; omega) ?_; intro v8 w8 o8 g8 at8; have q8 := qB.out _ ((b66.alloc _).grown g8 (fun e => by have := hol.out _ e.symm; omega)); have O8 := Lib.hid o8; have G8 := Lib.hid g8; have AT8 := Lib.hid at8; clear o8 g8 at8))
      have K6 : Kept (fun z => u3.ownBlock = some z) w6 w8 := ((Kept.refl (fun z => u3.ownBlock = some z) w6).alloc _).then_ (Kept.of_grown G8.out (fun _ e => e)) (fun _ _ e => e)
      have K8 : Kept (fun z => u3.ownBlock = some z) wr w8 := (Kept.of_below (S := fun z => u3.ownBlock = some z) b16).then_ K6 (fun _ _ e => e)
      have z6 : (w6.alloc (.cells #[.int .i64 op, .int .i64 N, .string nm, .slice A6 len2 c6] 34)).heap.size = w6.heap.size + 1 := by simp
      have zz := b16.size
      have F8 : Below w.heap.size w w8 := hbw.out.trans (K8.to_below hwz (fun z hz e => by have := hog.out _ e; omega))
      have els : ElsG (fun z => W1.drew.heap.size ≤ z ∧ z < w6.heap.size) w8 4 1000000 (GC (fun z => W1.drew.heap.size ≤ z ∧ z < w6.heap.size) w8 1000000 q) A6 len2 gl :=
        (O6.out.els hl3.out hl2.out).kept K6 (fun z _ hz e => by have := hol.out _ e; omega) (fun z hz h => ⟨h, hz⟩) (fun cs g h => GC.kept K6 (fun z _ hz e => by have := hol.out _ e; omega) (fun z hz h => ⟨h, hz⟩) _ _ _ h)
      have ho8 := O8.out
      have hyl8 := HYL.out
      rw [← HTL.out] at ho8 hyl8
      have HO : Hid (OwnG w8 w.heap.size 34 1000000 (q + 1) v8 (l.take (k + 1))) := by
        rw [HTK.out]
        exact OwnG.push ho8 hyl8 rfl HOLD.out K8 (fun z hz hne e => by
          rcases AT8.out with h | h
          · exact hne (h ▸ e)
          · rw [h] at e
            have e := Option.some.inj e
            omega) ⟨A6, len2, c6, rfl, els⟩ (fun z hz hd => ⟨by omega, fun e => by
          rcases AT8.out with h | h
          · have := hol.out z (h ▸ e)
            omega
          · rw [h] at e
            have e := Option.some.inj e
            omega⟩)
      have HF := Lib.hid F8
      clear q8 K6 K8 F8 els ho8 hyl8 b6 b66 b16 qq
      go_wp2_with fail
      go_roundw
      case rel => exact ⟨k + 1, by omega, by go_num, HO, HF⟩
      case measure => simp [intOf]; omega
    · obtain rfl : k = len := by omega
      have hll : l.take k = l := by rw [List.take_of_length_le (by rw [HK.out]; exact Nat.le_refl _)]
      have HLL := Lib.hid hll
      obtain ⟨A', c', hv⟩ := ho.out.slice
      rw [hll, HK.out] at hv
      have HO := Lib.hid ho.out
      subst hv
      clear ho hll
      go_wp2_with fail
      go_ret
      exact ⟨_, _, rfl, hbw.out, by have := HO.out; rw [HLL.out] at this; exact this⟩
theorem exprs_any : ∀ n, ExprsOk n
  | 0 => exprs_step 0 (fun q h => absurd h (by omega))
  | n + 1 => exprs_step (n + 1) (fun q h => by
    obtain rfl : n = q := by omega
    exact exprs_any n)
end Go.Proofs.YtdmlnoeneoomfaaDoor
