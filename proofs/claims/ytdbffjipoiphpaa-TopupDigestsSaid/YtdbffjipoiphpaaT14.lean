/-
  package topup: clones, and what is told of a raise that waits.
-/
import Derived.Test.YtdbffjipoiphpaaT13
import Derived.Deep.MidRow
import Derived.Laws.Rows
namespace Go.Proofs.Ytdbffjipoiphpaa
open Go.RowKit

theorem eight {α : Type} {l : List α} (h : l.length = 8) : ∃ a0 a1 a2 a3 a4 a5 a6 a7, l = [a0, a1, a2, a3, a4, a5, a6, a7] := by
  match l, h with
  | [a0, a1, a2, a3, a4, a5, a6, a7], _ => exact ⟨a0, a1, a2, a3, a4, a5, a6, a7, rfl⟩

/-- Cells laid over a whole block. -/
theorem blk_setCells {g : Nat} {t : TypeId} : ∀ (vs : List Value) (o : Nat) (w : World) (C : Array Value), Blk w g t C → ∃ C', Blk (w.setCells g o vs) g t C' ∧ C'.size = C.size ∧ Kept (fun k => k = g) w (w.setCells g o vs) := by
  intro vs
  induction vs with
  | nil => intro o w C h; exact ⟨C, h, rfl, Kept.refl _ _⟩
  | cons v vs ih =>
    intro o w C h
    obtain ⟨C', h1, h2, h3⟩ := ih (o + 1) _ _ (h.set_ o v)
    exact ⟨C', h1, by simpa using h2, ((Kept.refl (fun k => k = g) w).setCell (p := ⟨g, o, none⟩) (fun _ => rfl) v).trans h3⟩
theorem blk_fill {w : World} {g : Nat} {t : TypeId} {C : Array Value} (h : Blk w g t C) (vs : List Value) (hl : vs.length = C.size) : Blk (w.setCells g 0 vs) g t vs.toArray ∧ Kept (fun k => k = g) w (w.setCells g 0 vs) := by
  obtain ⟨C', h1, h2, h3⟩ := blk_setCells vs 0 w C h
  refine ⟨?_, h3⟩
  have ht : w.there g 0 vs.length := fun j hj => ⟨by rw [h.cell]; simp; omega, h.frozen _⟩
  have hr := World.rangeAt_setCells_same w g 0 vs ht
  have : C' = vs.toArray := by
    refine Array.ext (by simp; omega) (fun j hj1 hj2 => ?_)
    have hj : j < vs.length := by simpa using hj2
    have e1 := hr j _ (List.getElem?_eq_getElem hj)
    rw [Nat.zero_add, h1.cell j, Array.getElem?_eq_getElem hj1] at e1
    simpa using e1
  rw [← this]
  exact h1
theorem info_wait : (Try.prog.info? 77).map (·.size) = some 19 := by kernel_rfl
theorem wcells_len {x : Wt} (A : Option Addr) (ca : Nat) (h1 : x.tab.length = 8) (h2 : x.laid.length = 8) : (wcells x A ca).length = 19 := by simp [wcells, h1, h2]
theorem wcells_one (x : Wt) (A : Option Addr) (ca : Nat) : ∀ v ∈ wcells x A ca, v.oneCell' = true := by
  intro v hv
  simp only [wcells, List.mem_append, List.mem_map, List.mem_cons, List.not_mem_nil, or_false] at hv
  rcases hv with ⟨_, _, rfl⟩ | (rfl | rfl | rfl) | ⟨_, _, rfl⟩ <;> rfl
theorem wcells_set (x : Wt) (A A' : Option Addr) (ca ca' : Nat) (h1 : x.tab.length = 8) : (wcells x A ca).toArray.setIfInBounds 9 (.slice A' x.adds.length ca') = (wcells x A' ca').toArray := by
  rw [List.setIfInBounds_toArray]
  congr 1
  unfold wcells
  rw [List.set_append_right _ _ (by simp [h1])]
  simp [h1]

set_option maxHeartbeats 1000000 in
set_option maxRecDepth 100000 in
theorem wclone_some (S : Nat → Prop) (gw ga ca : Nat) (x : Wt) (w : World) (hx : WAt w S gw ga ca x) :
    Calls Try.prog 31 #[.pointer (some ⟨gw, 0, none⟩)] w fun e w' => ∃ gw' ga' ca', e = .returned (.pointer (some ⟨gw', 0, none⟩)) ∧ WAt w' (fun k => k = gw' ∨ k = ga') gw' ga' ca' x ∧ w.heap.size ≤ gw' ∧ w.heap.size ≤ ga' ∧ Below w.heap.size w w' := by
  have hgl := hx.blk.lt
  have h19 := wcells_len (x := x) (some ⟨ga, 0, none⟩) ca hx.tab hx.laid
  have r9 := hx.adds_
  obtain ⟨C, hC⟩ : ∃ C, Hid ((wcells x (some ⟨ga, 0, none⟩) ca).toArray = C) := ⟨_, rfl⟩
  have hCs : C.size = 19 := by rw [← hC.out]; simpa using h19
  have hC1 : C.all (·.oneCell') = true := by rw [← hC.out]; exact all_oneCell_toArray (wcells_one _ _ _)
  have hblk : Blk w gw 77 C := by rw [← hC.out]; exact hx.blk
  have HB := Lib.hid hblk
  have HS := Lib.hid hCs
  have H1 := Lib.hid hC1
  clear h19 hblk hCs hC1
  go_enter Try.func31, Try.ntmps31
  go_wp2_with (first
    | (((with_reducible show wpList _ _ _ (⟨some 8, Op.load _ (.tmp 7), _, _, _, _⟩ :: _) _ _); refine wpList_load_row rfl 77 (.tmp 7) rfl gw rfl 77 C (0, 0) _ HB.out Try.underlying77 rfl (by rw [info_wait, HS.out]) ?_))
    | (((with_reducible show wpList _ _ _ (⟨none, Op.store _ (.tmp 3) (.tmp 8), _, _, _, _⟩ :: _) _ _); refine wpList_store_mid rfl 77 (.tmp 3) (.tmp 8) rfl w.heap.size 0 C rfl rfl (fun j hj => by rw [HS.out] at hj; rw [Nat.zero_add, (Blk.new w _ _).cell j, (Blk.new w _ _).frozen j]; simp; omega) (by rw [info_wait, HS.out]) H1.out ?_; obtain ⟨nb, kb⟩ := blk_fill (Blk.new w 77 #[.int .u8 0, .int .u8 0, .int .u8 0, .int .u8 0, .int .u8 0, .int .u8 0, .int .u8 0, .int .u8 0, .int .i64 0, .slice none 0 0, .int .i64 0, .bool false, .bool false, .bool false, .bool false, .bool false, .bool false, .bool false, .bool false]) C.toList (by simpa using HS.out); have ka : Below w.heap.size w ((w.alloc (.cells #[.int .u8 0, .int .u8 0, .int .u8 0, .int .u8 0, .int .u8 0, .int .u8 0, .int .u8 0, .int .u8 0, .int .i64 0, .slice none 0 0, .int .i64 0, .bool false, .bool false, .bool false, .bool false, .bool false, .bool false, .bool false, .bool false] 77)).setCells w.heap.size 0 C.toList) := ((Below.refl _ w).al _).trans (kb.to_below (by simp) (fun q hq => by omega)); generalize World.setCells _ _ _ C.toList = W1 at nb kb ka ⊢; clear kb; have r9' : W1.cell? ⟨gw, 9, none⟩ = some (.slice (some ⟨ga, 0, none⟩) x.adds.length ca) := (ka.cell (p := ⟨gw, 9, none⟩) hgl).trans r9)))
  have hfew : x.adds.length ≤ 8 := hx.few
  refine (clone_ints ga ca x.adds _ (hx.adds.kept (Kept.of_below (S := fun _ => False) ka) (fun h => h)) (by omega)).mono ?_
  rintro e w1 ⟨g', c', rfl, hg, hi, b1⟩
  have nb0 : Blk W1 w.heap.size 77 C := by simpa using nb
  have nb1 := nb0.below b1 nb0.lt
  have f1 := ka.then_ b1
  have zz := nb0.lt
  rw [← hC.out] at nb1
  have x9 : w1.cell? ⟨w.heap.size, 9, none⟩ = some (.slice (some ⟨ga, 0, none⟩) x.adds.length ca) := by
    rw [nb1.cell 9, wcells, List.getElem?_toArray, List.getElem?_append_right (by simp [hx.tab])]; simp [hx.tab]
  have y9 := nb1.frozen 9
  have z9 := nb1.lt
  have NB := Lib.hid nb1
  clear nb nb0 nb1 ka b1 r9 r9' hC HB HS H1
  go_wp2_with fail
  go_ret
  have kA : Kept (fun q => q = w.heap.size) w1 (w1.setCell ⟨w.heap.size, 9, none⟩ (.slice (some ⟨g', 0, none⟩) x.adds.length c')) := (Kept.refl (fun q => q = w.heap.size) w1).setCell (fun _ => rfl) _
  exact ⟨w.heap.size, g', c', rfl, ⟨.inl rfl, .inr rfl, by omega, hx.tab, hx.laid, hx.few, hx.some_, hx.range, by rw [← wcells_set x (some ⟨ga, 0, none⟩) (some ⟨g', 0, none⟩) ca c' hx.tab]; exact NB.out.set_ 9 _, hi.kept kA (by omega)⟩, Nat.le_refl _, by omega, f1.trans (kA.to_below f1.size (fun q hq => by omega))⟩

set_option maxRecDepth 100000 in
theorem wclone_none (w : World) : Calls Try.prog 31 #[.pointer none] w fun e w' => e = .returned (.pointer none) ∧ w = w' := by
  go_enter Try.func31, Try.ntmps31
  go_wp2
  go_ret
  exact ⟨rfl, rfl⟩

/-- A bank's clone. -/
def Cloned (w : World) (b : Bk) (e : Ending) (w' : World) : Prop := ∃ S g gs cs wp, e = .returned (.pointer (some ⟨g, 0, none⟩)) ∧ BAt w' S g gs cs wp b ∧ (∀ k, S k → w.heap.size ≤ k) ∧ Below w.heap.size w w'

set_option maxHeartbeats 1000000 in
set_option maxRecDepth 100000 in
theorem bclone_any (S : Nat → Prop) (g gs cs : Nat) (wp : Option Addr) (b : Bk) (w : World) (hB : BAt w S g gs cs wp b) :
    Calls Try.prog 23 #[.pointer (some ⟨g, 0, none⟩)] w (Cloned w b) := by
  have hf := hB.ok.few
  have q0 : w.cell? ⟨g, 0, none⟩ = some (.slice (some ⟨gs, 0, none⟩) b.stakes.length cs) := hB.blk.cell 0
  have q1 : w.cell? ⟨g, 1, none⟩ = some (.int .i64 b.last) := hB.blk.cell 1
  have q2 : w.cell? ⟨g, 2, none⟩ = some (.pointer wp) := hB.blk.cell 2
  have hgl := hB.blk.lt
  cases hw : b.wt with
  | none =>
    have hp := hB.none_ hw
    subst hp
    have HW := Lib.hid hw
    clear hw
    go_enter Try.func23, Try.ntmps23
    go_wp2_with fail
    go_region_held3 (fun w' => w'.cell? ⟨g, 0, none⟩ = some (.slice (some ⟨gs, 0, none⟩) b.stakes.length cs) ∧ w'.cell? ⟨g, 1, none⟩ = some (.int .i64 b.last) ∧ w'.cell? ⟨g, 2, none⟩ = some (.pointer none))
      (first | exact ⟨q0, q1, q2⟩ | exact h1 | exact h1')
      (first
        | (go_at_call 29; refine (clone_ints gs cs b.stakes _ hB.drew.stakes (by omega)).mono ?_; rintro e w1 ⟨g1, c1, rfl, hg1, hi1, b1⟩; have B1 := hB.drew.below b1; have h1 : w1.cell? ⟨g, 0, none⟩ = some (.slice (some ⟨gs, 0, none⟩) b.stakes.length cs) ∧ w1.cell? ⟨g, 1, none⟩ = some (.int .i64 b.last) ∧ w1.cell? ⟨g, 2, none⟩ = some (.pointer none) := ⟨B1.blk.cell 0, B1.blk.cell 1, B1.blk.cell 2⟩; have h1' : (w1.alloc (.cells #[.slice (some ⟨g1, 0, none⟩) b.stakes.length c1, .int .i64 b.last, .pointer none] 72)).cell? ⟨g, 0, none⟩ = some (.slice (some ⟨gs, 0, none⟩) b.stakes.length cs) ∧ (w1.alloc (.cells #[.slice (some ⟨g1, 0, none⟩) b.stakes.length c1, .int .i64 b.last, .pointer none] 72)).cell? ⟨g, 1, none⟩ = some (.int .i64 b.last) ∧ (w1.alloc (.cells #[.slice (some ⟨g1, 0, none⟩) b.stakes.length c1, .int .i64 b.last, .pointer none] 72)).cell? ⟨g, 2, none⟩ = some (.pointer none) := ⟨(B1.blk.alloc _).cell 0, (B1.blk.alloc _).cell 1, (B1.blk.alloc _).cell 2⟩)
        | (go_at_call 31; refine (wclone_none _).mono ?_; rintro e w2 ⟨rfl, rfl⟩))
    go_wp2_with fail
    go_ret
    have f1 : Below w.heap.size w w1 := ((Below.refl _ w).drew).then_ b1
    have hl1 := hi1.lt
    have hg1' : w.heap.size ≤ g1 := hg1
    refine ⟨fun k => k = w1.heap.size ∨ k = g1, w1.heap.size, g1, c1, none, rfl, ⟨hB.ok, .inl rfl, .inr rfl, by omega, fun k hk => by simp; omega, Blk.new _ _ _, hi1.kept (Kept.of_below (S := fun _ => False) ((Below.refl _ w1).al _)) (fun h => h), fun _ => rfl, fun x hx => by rw [HW.out] at hx; cases hx⟩, fun k hk => by have := f1.size; omega, f1.al _⟩
  | some x =>
    obtain ⟨gw, ga, ca, rfl, hxw, n1, n2, n3, n4⟩ := hB.some_ x hw
    have HW := Lib.hid hw
    clear hw
    go_enter Try.func23, Try.ntmps23
    go_wp2_with fail
    go_region_held3 (fun w' => w'.cell? ⟨g, 0, none⟩ = some (.slice (some ⟨gs, 0, none⟩) b.stakes.length cs) ∧ w'.cell? ⟨g, 1, none⟩ = some (.int .i64 b.last) ∧ w'.cell? ⟨g, 2, none⟩ = some (.pointer (some ⟨gw, 0, none⟩)))
      (first | exact ⟨q0, q1, q2⟩ | exact h1 | exact h2 | exact h2')
      (first
        | (go_at_call 29; refine (clone_ints gs cs b.stakes _ hB.drew.stakes (by omega)).mono ?_; rintro e w1 ⟨g1, c1, rfl, hg1, hi1, b1⟩; have B1 := hB.drew.below b1; have h1 : w1.cell? ⟨g, 0, none⟩ = some (.slice (some ⟨gs, 0, none⟩) b.stakes.length cs) ∧ w1.cell? ⟨g, 1, none⟩ = some (.int .i64 b.last) ∧ w1.cell? ⟨g, 2, none⟩ = some (.pointer (some ⟨gw, 0, none⟩)) := ⟨B1.blk.cell 0, B1.blk.cell 1, B1.blk.cell 2⟩; have x1 := hxw.kept (((Kept.refl (fun _ => False) w).drew).trans (Kept.of_below b1)) (fun _ _ h => h))
        | (go_at_call 31; refine (wclone_some S gw ga ca x _ x1).mono ?_; rintro e w2 ⟨gw2, ga2, ca2, rfl, x2, hw2, ha2, b2⟩; have B2 := B1.below b2; have h2 : w2.cell? ⟨g, 0, none⟩ = some (.slice (some ⟨gs, 0, none⟩) b.stakes.length cs) ∧ w2.cell? ⟨g, 1, none⟩ = some (.int .i64 b.last) ∧ w2.cell? ⟨g, 2, none⟩ = some (.pointer (some ⟨gw, 0, none⟩)) := ⟨B2.blk.cell 0, B2.blk.cell 1, B2.blk.cell 2⟩; have h2' : (w2.alloc (.cells #[.slice (some ⟨g1, 0, none⟩) b.stakes.length c1, .int .i64 b.last, .pointer (some ⟨gw2, 0, none⟩)] 72)).cell? ⟨g, 0, none⟩ = some (.slice (some ⟨gs, 0, none⟩) b.stakes.length cs) ∧ (w2.alloc (.cells #[.slice (some ⟨g1, 0, none⟩) b.stakes.length c1, .int .i64 b.last, .pointer (some ⟨gw2, 0, none⟩)] 72)).cell? ⟨g, 1, none⟩ = some (.int .i64 b.last) ∧ (w2.alloc (.cells #[.slice (some ⟨g1, 0, none⟩) b.stakes.length c1, .int .i64 b.last, .pointer (some ⟨gw2, 0, none⟩)] 72)).cell? ⟨g, 2, none⟩ = some (.pointer (some ⟨gw, 0, none⟩)) := ⟨(B2.blk.alloc _).cell 0, (B2.blk.alloc _).cell 1, (B2.blk.alloc _).cell 2⟩))
    go_wp2_with fail
    go_ret
    have f1 : Below w.heap.size w w1 := ((Below.refl _ w).drew).then_ b1
    have f2 := f1.then_ b2
    have hg1' : w.heap.size ≤ g1 := hg1
    have hl1 := hi1.lt
    have i2 := hi1.kept (Kept.of_below (S := fun _ => False) b2) (fun h => h)
    have z1 := f1.size
    have z2 := b2.size
    have l2 := x2.blk.lt
    have l3 := x2.adds.lt
    have kA : Kept (fun _ => False) w2 (w2.alloc (.cells #[.slice (some ⟨g1, 0, none⟩) b.stakes.length c1, .int .i64 b.last, .pointer (some ⟨gw2, 0, none⟩)] 72)) := Kept.of_below ((Below.refl _ w2).al _)
    refine ⟨fun k => k = w2.heap.size ∨ k = g1 ∨ k = gw2 ∨ k = ga2, w2.heap.size, g1, c1, some ⟨gw2, 0, none⟩, rfl, ⟨hB.ok, .inl rfl, .inr (.inl rfl), by omega, fun k hk => by simp; omega, Blk.new _ _ _, i2.kept kA (fun h => h), (fun h => by rw [HW.out] at h; cases h), fun y hy => ?_⟩, fun k hk => by omega, f2.al _⟩
    rw [HW.out] at hy
    injection hy with hy
    subst hy
    have x3 := x2.kept kA (fun _ _ h => h)
    exact ⟨gw2, ga2, ca2, rfl, ⟨.inr (.inr (.inl rfl)), .inr (.inr (.inr rfl)), x3.ne, x3.tab, x3.laid, x3.few, x3.some_, x3.range, x3.blk, x3.adds⟩, by omega, by omega, by omega, by omega⟩
end Go.Proofs.Ytdbffjipoiphpaa
