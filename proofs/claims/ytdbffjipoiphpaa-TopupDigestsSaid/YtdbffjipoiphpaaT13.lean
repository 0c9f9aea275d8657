/-
  package topup: Ask, where a raise begins.
-/
import Derived.Test.YtdbffjipoiphpaaT12
namespace Go.Proofs.Ytdbffjipoiphpaa
open Go.RowKit

structure AskOk (b : Bk) (h num : Int) (adds : List Int) (till : Int) : Prop where
  ht : hts h num till = true
  len : adds.length = b.stakes.length
  right : ∀ a ∈ adds, rightB a = true
  free : freeB b h = true
  later : b.last < num
  time : h ≤ till
  pos : 0 < adds.sum
  pot : b.stakes.sum + adds.sum ≤ 1125899906842624
theorem askE_zero {b : Bk} {h num : Int} {adds : List Int} {till : Int} (he : askE b h num adds till = 0) : AskOk b h num adds till := by
  have hz := firstOf_zero he
  have h3 := un_zero (by omega) (hz (un (totR 0 adds).2 2) (by simp [askL]))
  have hr : ∀ a ∈ adds, rightB a = true := by
    rcases Classical.em (∀ a ∈ adds, rightB a = true) with h | h
    · exact h
    · rw [totR_not adds h 0] at h3; cases h3
  have hs : (totR 0 adds).1 = adds.sum := by rw [totR_all adds hr, Int.zero_add]
  have h7 := un_zero (by omega) (hz (un (decide (0 < (totR 0 adds).1)) 1) (by simp [askL]))
  have h8 := un_zero (by omega) (hz (un (rightB (b.stakes.sum + (totR 0 adds).1)) 22) (by simp [askL]))
  rw [hs] at h7 h8
  exact ⟨un_zero (by omega) (hz (un (hts h num till) 2) (by simp [askL])), by simpa using un_zero (by omega) (hz (un (decide (adds.length = b.stakes.length)) 3) (by simp [askL])), hr,
    un_zero (by omega) (hz (un (freeB b h) 10) (by simp [askL])), by simpa using un_zero (by omega) (hz (un (decide (b.last < num)) 18) (by simp [askL])), by simpa using un_zero (by omega) (hz (un (decide (h ≤ till)) 19) (by simp [askL])), by simpa using h7, (rightB_iff.1 h8).2⟩

set_option maxHeartbeats 400000 in
set_option maxRecDepth 100000 in
theorem ask_yes (S : Nat → Prop) (g gs cs : Nat) (wp : Option Addr) (b : Bk) (h : Int) (t0 t1 t2 t3 t4 t5 t6 t7 num till : Int) (A : Option Addr) (n c : Nat) (adds : List Int) (w : World) (hB : BAt w S g gs cs wp b) (hr : RI w A n adds) (hn : n ≤ 16) (hE : askE b h num adds till = 0) :
    Calls Try.prog 13 #[.pointer (some ⟨g, 0, none⟩), .int .i64 h, .agg #[.int .u8 t0, .int .u8 t1, .int .u8 t2, .int .u8 t3, .int .u8 t4, .int .u8 t5, .int .u8 t6, .int .u8 t7, .int .i64 num, .slice A n c, .int .i64 till]] w fun e w' => e = .returned (.int .i64 0) ∧ ∃ S' wp', BAt w' S' g gs cs wp' (askB b [t0, t1, t2, t3, t4, t5, t6, t7] num adds till) ∧ Kept S w w' ∧ ∀ k, S' k → S k ∨ w.heap.size ≤ k := by
  have OK := Lib.hid (askE_zero hE)
  have hal := OK.out.len
  have hs2 := hB.ok.two
  have hs8 := hB.ok.few
  have hl := hr.len
  have hn2 : 2 ≤ n := by omega
  have hn8 : n ≤ 8 := by omega
  have HE := Lib.hid hE
  have HAL := Lib.hid hal
  have HL := Lib.hid hl
  clear hE hal
  obtain ⟨bb, oo, hA, hbb, _, _⟩ := hr.at_ (k := 0) (by omega)
  subst hA
  have HC := Lib.hid (fun j (hj : j < adds.length) => (show w.cell? ⟨bb, oo + j, none⟩ = some (.int .i64 (adds.getD j 0)) by
    obtain ⟨b', o', e, _, _, hc⟩ := hr.at_ (k := j) (by rw [HL.out]; exact hj)
    injection e with e
    injection e with e1 e2
    subst e1 e2
    rw [hc, List.getD_eq_getElem?_getD, List.getElem?_eq_getElem hj]; rfl))
  clear hl
  go_enter Try.func13, Try.ntmps13
  go_wp2_with fail
  have fr : Below w.heap.size w (((w.alloc (.cells #[.pointer (some ⟨g, 0, none⟩)] 24)).alloc (.cells #[.int .i64 h] 3)).alloc (.cells #[.int .u8 t0, .int .u8 t1, .int .u8 t2, .int .u8 t3, .int .u8 t4, .int .u8 t5, .int .u8 t6, .int .u8 t7, .int .i64 num, .slice (some ⟨bb, oo, none⟩) n c, .int .i64 till] 33)) := (((Below.refl _ w).al _).al _).al _
  refine (total_any (some ⟨bb, oo, none⟩) n c adds _ (hr.below fr) hn).mono ?_
  rintro e w' ⟨rfl, rfl⟩
  clear fr
  go_wp2_with fail
  obtain ⟨p3, p4, p5, p7, p8, p9, p10, f0⟩ := askBlks w g h t0 t1 t2 t3 t4 t5 t6 t7 num till (some ⟨bb, oo, none⟩) n c adds
  refine (askAsk S g gs cs wp b h num till (some ⟨bb, oo, none⟩) n c adds _ _ _ _ _ _ _ _ _ (hB.below f0) hr.len hn p3 p4 p5 rfl rfl rfl p7 p8 p9 p10).mono ?_
  rintro e w1 ⟨rfl, b1⟩
  rw [HE.out]
  have f1 := f0.then_ b1
  have p3' := p3.below b1 p3.lt
  have p5' := p5.below b1 p5.lt
  clear f0 b1 p3 p4 p5 p7 p8 p9 p10
  have hgl := hB.lt g hB.inG
  have hsl := hB.lt gs hB.inS
  have z1 := f1.size
  have r0 := p5'.cell 0
  have r1 := p5'.cell 1
  have r2 := p5'.cell 2
  have r3 := p5'.cell 3
  have r4 := p5'.cell 4
  have r5 := p5'.cell 5
  have r6 := p5'.cell 6
  have r7 := p5'.cell 7
  have r8 := p5'.cell 8
  have r9 := p5'.cell 9
  have r10 := p5'.cell 10
  simp at r0 r1 r2 r3 r4 r5 r6 r7 r8 r9 r10
  have p5l := p5'.lt
  go_wp2_with fail
  clear r0 r1 r2 r3 r4 r5 r6 r7 r8 r10
  have fa : Below w.heap.size w (w1.alloc (.cells #[.int .u8 t0, .int .u8 t1, .int .u8 t2, .int .u8 t3, .int .u8 t4, .int .u8 t5, .int .u8 t6, .int .u8 t7, .int .i64 num, .slice (some ⟨bb, oo, none⟩) n c, .int .i64 till, .bool false, .bool false, .bool false, .bool false, .bool false, .bool false, .bool false, .bool false] 77)) := f1.al _
  have nb := Blk.new w1 77 #[.int .u8 t0, .int .u8 t1, .int .u8 t2, .int .u8 t3, .int .u8 t4, .int .u8 t5, .int .u8 t6, .int .u8 t7, .int .i64 num, .slice (some ⟨bb, oo, none⟩) n c, .int .i64 till, .bool false, .bool false, .bool false, .bool false, .bool false, .bool false, .bool false, .bool false]
  refine (Try.slices_Clone_int bb oo n c adds _ (by rw [HL.out]; omega) (by omega) (fun j hj => (fa.cell (p := ⟨bb, oo + j, none⟩) hbb).trans (HC.out j hj))).mono ?_
  rintro e w2 ⟨v', rfl, ho, hv, b2⟩
  rw [HL.out, List.take_length, ← HL.out] at ho
  obtain ⟨g', c', rfl, hg', hi⟩ := IOwn.of_own ho hv
  rw [← HL.out]
  have g1 : Blk w2 w1.heap.size 77 #[.int .u8 t0, .int .u8 t1, .int .u8 t2, .int .u8 t3, .int .u8 t4, .int .u8 t5, .int .u8 t6, .int .u8 t7, .int .i64 num, .slice (some ⟨bb, oo, none⟩) n c, .int .i64 till, .bool false, .bool false, .bool false, .bool false, .bool false, .bool false, .bool false, .bool false] := nb.below b2 (by simp)
  have p3'' : Blk w2 w.heap.size 24 #[.pointer (some ⟨g, 0, none⟩)] := (p3'.alloc _).below b2 (by simp; omega)
  have p5'' : Blk w2 (w.heap.size + 1 + 1) 33 #[.int .u8 t0, .int .u8 t1, .int .u8 t2, .int .u8 t3, .int .u8 t4, .int .u8 t5, .int .u8 t6, .int .u8 t7, .int .i64 num, .slice (some ⟨bb, oo, none⟩) n c, .int .i64 till] := (p5'.alloc _).below b2 (by simp; omega)
  have f2 := fa.then_ b2
  have hgl' := hi.lt
  simp at hg'
  clear ho hv nb fa b2 p3' p5' f1 r9
  have x9 : w2.cell? ⟨w1.heap.size, 9, none⟩ = some (.slice (some ⟨bb, oo, none⟩) n c) := g1.cell 9
  have y9 := g1.frozen 9
  have z9 := g1.lt
  go_wp2_with fail
  have kA : Kept (fun q => q = w1.heap.size) w2 (w2.setCell ⟨w1.heap.size, 9, none⟩ (.slice (some ⟨g', 0, none⟩) n c')) := (Kept.refl (fun q => q = w1.heap.size) w2).setCell (fun _ => rfl) _
  have xA : WAt (w2.setCell ⟨w1.heap.size, 9, none⟩ (.slice (some ⟨g', 0, none⟩) n c')) (fun q => q = w1.heap.size ∨ q = g') w1.heap.size g' c' ⟨[t0, t1, t2, t3, t4, t5, t6, t7], num, adds, till, laidTo adds 0⟩ := by
    refine ⟨.inl rfl, .inr rfl, by omega, rfl, rfl, ?_, ?_, OK.out.right, ?_, hi.kept kA (by omega)⟩
    · show adds.length ≤ 8
      rw [← HL.out]; exact hn8
    · show 0 < adds.length
      rw [← HL.out]; omega
    · have := g1.set_ 9 (.slice (some ⟨g', 0, none⟩) n c')
      rw [HL.out] at this ⊢
      simpa [wcells, laidTo] using this
  generalize w2.setCell ⟨w1.heap.size, 9, none⟩ (.slice (some ⟨g', 0, none⟩) n c') = w3 at *
  clear x9 y9 z9 g1 hi
  go_loopw [12, 13, 52] (fun _ _ i wr => ∃ k : Nat, k ≤ n ∧ i = .int .i64 k ∧ WAt wr (fun q => q = w1.heap.size ∨ q = g') w1.heap.size g' c' ⟨[t0, t1, t2, t3, t4, t5, t6, t7], num, adds, till, laidTo adds k⟩ ∧ Kept (fun q => q = w1.heap.size) w2 wr) (fun _ _ i _ => n - (intOf i).toNat)
  case atStart => exact ⟨0, by omega, rfl, xA, kA⟩
  case round =>
    obtain ⟨k, hk, rfl, xr, kr⟩ := hrel
    by_cases hlt : k < n
    · have hkl : k < adds.length := by rw [← HL.out]; exact hlt
      have ck : wr.cell? ⟨g', k, none⟩ = some (.int .i64 adds[k]) := xr.adds.cell (i := k) hkl
      have hk8 : k < 8 := by omega
      have cl := xr.laid_ hk8
      have fl := xr.blk.frozen (11 + k)
      have HS := Lib.hid (laidTo_succ adds (by rw [← HL.out]; exact hn8) k hkl)
      have hj0 : (0 : Int) ≤ (k : Int) := by omega
      have hj8 : (k : Int) < 8 := by omega
      have hkn : (k : Int) < (n : Int) := by omega
      generalize adds[k] = a at *
      have lay := xr.lay hk8 (a == 0)
      unfold layW at lay
      simp only at lay
      rw [HS.out] at lay
      have kk : Kept (fun q => q = w1.heap.size) wr (wr.setCell ⟨w1.heap.size, 11 + k, none⟩ (.bool (a == 0))) := (Kept.refl (fun q => q = w1.heap.size) wr).setCell (fun _ => rfl) _
      go_wp2_with fail
      go_roundw
      case rel => exact ⟨k + 1, by omega, by go_num, lay, kr.trans kk⟩
      case measure => simp [intOf]; omega
    · have hke : k = adds.length := by rw [← HL.out]; omega
      have xz : WAt wr (fun q => q = w1.heap.size ∨ q = g') w1.heap.size g' c' (askW [t0, t1, t2, t3, t4, t5, t6, t7] num adds till) := by rw [askW, ← hke]; exact xr
      clear xr hke
      have bz := (kr.block w.heap.size p3''.lt (by omega)).trans p3''
      have rz := (kr.block (w.heap.size + 1 + 1) p5''.lt (by omega)).trans p5''
      have fz : Below w.heap.size w wr := f2.trans (kr.to_below f2.size (fun q hq => by omega))
      have BZ := hB.below fz
      have c0 : wr.cell? ⟨w.heap.size, 0, none⟩ = some (.pointer (some ⟨g, 0, none⟩)) := Blk.cell bz 0
      have c8 : wr.cell? ⟨w.heap.size + 1 + 1, 8, none⟩ = some (.int .i64 num) := Blk.cell rz 8
      have cg2 : wr.cell? ⟨g, 2, none⟩ = some (.pointer wp) := BZ.blk.cell 2
      have cg1 : wr.cell? ⟨g, 1, none⟩ = some (.int .i64 b.last) := BZ.blk.cell 1
      have fg1 := BZ.blk.frozen 1
      have fg2 := BZ.blk.frozen 2
      have bzl : w.heap.size < wr.heap.size := Blk.lt bz
      have ne0 : w.heap.size ≠ g := by omega
      have ne2 : w.heap.size + 1 + 1 ≠ g := by omega
      go_wp2_with fail
      go_ret
      have kk : Kept (fun q => q = g) wr ((wr.setCell ⟨g, 2, none⟩ (.pointer (some ⟨w1.heap.size, 0, none⟩))).setCell ⟨g, 1, none⟩ (.int .i64 num)) := ((Kept.refl (fun q => q = g) wr).setCell (fun _ => rfl) _).setCell (fun _ => rfl) _
      have gz := (BZ.blk.set_ 2 (.pointer (some ⟨w1.heap.size, 0, none⟩))).set_ 1 (.int .i64 num)
      refine ⟨rfl, fun q => S q ∨ q = w1.heap.size ∨ q = g', some ⟨w1.heap.size, 0, none⟩, ?_, (Kept.of_below (S := S) fz).trans (kk.mono (fun q _ e => e ▸ hB.inG)), fun q hq => by rcases hq with hq | hq | hq; exact .inl hq; exact .inr (by omega); exact .inr (by omega)⟩
      exact ⟨⟨hs2, hs8, hB.ok.right, hB.ok.pot, fun y hy => by injection hy with hy; subst hy; exact ⟨OK.out.len, OK.out.pot⟩⟩, .inl hB.inG, .inl hB.inS, hB.ne, fun q hq => by have h1 := kk.size; have h2 := xz.blk.lt; have h3 := xz.adds.lt; rcases hq with hq | hq | hq; exact Nat.lt_of_lt_of_le (BZ.lt q hq) h1; omega; omega, gz, BZ.stakes.kept kk (fun e => hB.ne e.symm), (fun hh => by cases hh), fun y hy => by
        injection hy with hy
        subst hy
        have x2 := xz.kept kk (fun q hq => by rcases hq with hq | hq <;> omega)
        exact ⟨w1.heap.size, g', c', rfl, ⟨.inr (.inl rfl), .inr (.inr rfl), x2.ne, x2.tab, x2.laid, x2.few, x2.some_, x2.range, x2.blk, x2.adds⟩, by omega, by omega, by omega, by omega⟩⟩
end Go.Proofs.Ytdbffjipoiphpaa
