/-
  Two raised banks beside each other; Bank.Same of two whose raises are done.
-/
import Derived.Test.YtdbffjipoiphpaaT26
namespace Go.Proofs.Ytdbffjipoiphpaa
open Go.RowKit

theorem IOwn.getD_ {w : World} {g c : Nat} {xs : List Int} (h : IOwn w g c xs) (j : Nat) (hj : j < xs.length) : w.cell? ⟨g, 0 + j, none⟩ = some (.int .i64 (xs.getD j 0)) := by
  rw [Nat.zero_add, h.cell hj, getD_at hj]

set_option maxRecDepth 100000 in
theorem wsame_nil (w : World) : Calls Try.prog 56 #[.pointer none, .pointer none] w fun e w' => e = .returned (.bool true) ∧ w = w' := by
  go_enter Try.func56, Try.ntmps56
  go_wp2_with fail
  go_ret
  exact ⟨rfl, rfl⟩

theorem eql_same {g1 g2 c1 c2 n : Nat} {xs : List Int} {w : World} (h1 : IOwn w g1 c1 xs) (h2 : IOwn w g2 c2 xs) (hn : xs.length = n) (h8 : n ≤ 8) (q : Nat) :
    Calls Try.prog 55 #[.slice (some ⟨g1, 0, none⟩) n c1, .slice (some ⟨g2, 0, none⟩) n c2] (w.drewN q) fun e w'' => e = .returned (.bool true) ∧ ∃ m, w'' = w.drewN m := by
  subst hn
  refine (Try.slices_Equal_int g1 0 xs.length c1 g2 0 xs.length c2 xs xs (w.drewN q) (Nat.le_refl _) (Nat.le_refl _) (by omega) (by omega) (fun j hj => h1.getD_ j hj) (fun j hj => h2.getD_ j hj)).mono ?_
  rintro e w' ⟨rfl, m, rfl⟩
  exact ⟨by simp, q + m, by rw [World.drewN_drewN]⟩

set_option maxHeartbeats 1000000 in
set_option maxRecDepth 100000 in
theorem same_done (S T : Nat → Prop) (g gs cs h hs ds : Nat) (wp tp : Option Addr) (b c : Bk) (w : World) (hB : BAt w S g gs cs wp b) (hC : BAt w T h hs ds tp c) (hw : b.wt = none) (hbc : c = b) :
    Calls Try.prog 22 #[.pointer (some ⟨g, 0, none⟩), .pointer (some ⟨h, 0, none⟩)] w (Tells w true) := by
  subst hbc
  obtain rfl := hB.none_ hw
  obtain rfl := hC.none_ hw
  have b0 : w.cell? ⟨g, 0, none⟩ = some (.slice (some ⟨gs, 0, none⟩) c.stakes.length cs) := hB.blk.cell 0
  have b1 : w.cell? ⟨g, 1, none⟩ = some (.int .i64 c.last) := hB.blk.cell 1
  have b2 : w.cell? ⟨g, 2, none⟩ = some (.pointer none) := hB.blk.cell 2
  have d0 : w.cell? ⟨h, 0, none⟩ = some (.slice (some ⟨hs, 0, none⟩) c.stakes.length ds) := hC.blk.cell 0
  have d1 : w.cell? ⟨h, 1, none⟩ = some (.int .i64 c.last) := hC.blk.cell 1
  have d2 : w.cell? ⟨h, 2, none⟩ = some (.pointer none) := hC.blk.cell 2
  have i1 := hB.stakes
  have i2 := hC.stakes
  have h8 := hB.ok.few
  obtain ⟨n, hn⟩ : ∃ n, c.stakes.length = n := ⟨_, rfl⟩
  rw [hn] at b0 d0 h8
  have HN := Lib.hid hn
  clear hn
  generalize c.last = la at *
  have hla : (la == la) = true := by simp
  have HE := Lib.hid (fun q => eql_same i1 i2 HN.out h8 q)
  have HW := Lib.hid (fun q => quiet_left (wsame_nil (w.drewN q)))
  clear i1 i2
  go_enter Try.func22, Try.ntmps22
  go_wp2_with fail
  go_quiet ((first
    | (go_at_call 55; exact HE.out _)
    | (go_at_call 56; exact HW.out _)))
  go_wp2_with fail
  go_ret
  exact ⟨rfl, below_drewN (Below.refl _ _) _⟩

/-- Two raised banks of the same stakes and adds, and a row of marks. -/
structure OrdAt (w : World) (m M D : Nat) (A' : Option Addr) (s a : List Int) (g1 gs1 cs1 g2 gs2 cs2 : Nat) (V1 V2 : Nat → Bool) (dn : List Bool) (W : World) : Prop where
  one : ∃ S wp b, BAt W S g1 gs1 cs1 wp b ∧ (∀ k, S k → m ≤ k ∧ k < M) ∧ PS s a V1 b
  two : ∃ S wp b, BAt W S g2 gs2 cs2 wp b ∧ (∀ k, S k → M ≤ k ∧ k < D) ∧ PS s a V2 b
  rows : Reads W m 1 A' s.length (a.map (Value.int .i64))
  marks : Blk W D 4 (dn.map Value.bool).toArray
  len : dn.length = s.length
  lo : w.heap.size ≤ m
  mM : m ≤ M
  MD : M ≤ D
  fr : Below w.heap.size w W
  ok : RsOk s a
section
variable {w W W' : World} {m M D : Nat} {A' : Option Addr} {s a : List Int} {g1 gs1 cs1 g2 gs2 cs2 : Nat} {V1 V2 : Nat → Bool} {dn : List Bool}
theorem OrdAt.below (h : OrdAt w m M D A' s a g1 gs1 cs1 g2 gs2 cs2 V1 V2 dn W) (hb : Below W.heap.size W W') : OrdAt w m M D A' s a g1 gs1 cs1 g2 gs2 cs2 V1 V2 dn W' := by
  obtain ⟨S, wp, b, x1, x2, x3⟩ := h.one
  obtain ⟨T, tp, c, y1, y2, y3⟩ := h.two
  have hD := h.marks.lt
  have h1 := h.mM
  have h2 := h.MD
  exact ⟨⟨S, wp, b, x1.below hb, x2, x3⟩, ⟨T, tp, c, y1.below hb, y2, y3⟩, Reads.below h.rows (hb.mono (by omega)), h.marks.below hb hD, h.len, h.lo, h.mM, h.MD, h.fr.then_ hb, h.ok⟩
theorem OrdAt.a_ (h : OrdAt w m M D A' s a g1 gs1 cs1 g2 gs2 cs2 V1 V2 dn W) : RI W A' s.length a := by
  have hD := h.marks.lt
  have h1 := h.mM
  have h2 := h.MD
  exact h.rows.more (by omega)
theorem OrdAt.mark (h : OrdAt w m M D A' s a g1 gs1 cs1 g2 gs2 cs2 V1 V2 dn W) (i : Nat) : OrdAt w m M D A' s a g1 gs1 cs1 g2 gs2 cs2 V1 V2 (dn.set i true) (W.setCell ⟨D, i, none⟩ (.bool true)) := by
  obtain ⟨S, wp, b, x1, x2, x3⟩ := h.one
  obtain ⟨T, tp, c, y1, y2, y3⟩ := h.two
  have h0 := h.lo
  have h1 := h.mM
  have h2 := h.MD
  have k : Kept (fun q => q = D) W (W.setCell ⟨D, i, none⟩ (.bool true)) := (Kept.refl (fun q => q = D) W).setCell (p := ⟨D, i, none⟩) (fun _ => rfl) _
  refine ⟨⟨S, wp, b, x1.kept k (fun q hq e => by have := x2 q hq; omega), x2, x3⟩, ⟨T, tp, c, y1.kept k (fun q hq e => by have := y2 q hq; omega), y2, y3⟩, Reads.setCell h.rows (p := ⟨D, i, none⟩) (by show m ≤ D; omega) _, ?_, by simpa using h.len, h.lo, h.mM, h.MD, h.fr.trans (k.to_below h.fr.size (fun q hq e => by omega)), h.ok⟩
  have := h.marks.set_ i (.bool true)
  simpa [List.map_set] using this
/-- A call of Put on one of both. -/
def OrdSays (w : World) (m M D : Nat) (A' : Option Addr) (s a : List Int) (g1 gs1 cs1 g2 gs2 cs2 : Nat) (V1 V2 : Nat → Bool) (dn : List Bool) (e : Ending) (W' : World) : Prop :=
  ∃ z, e = .returned (.int .i64 z) ∧ OrdAt w m M D A' s a g1 gs1 cs1 g2 gs2 cs2 V1 V2 dn W'
theorem put_step {S : Nat → Prop} {g gs cs : Nat} {wp : Option Addr} {b : Bk} {V : Nat → Bool} (hB : BAt W S g gs cs wp b) (hP : PS s a V b) (hok : RsOk s a) (i : Nat) (hi : i < s.length) :
    Calls Try.prog 16 #[.pointer (some ⟨g, 0, none⟩), .int .i64 60, .int .i64 (i : Int), .int .i64 (a.getD i 0)] W fun e W' => ∃ z wp' b', e = .returned (.int .i64 z) ∧ BAt W' S g gs cs wp' b' ∧ PS s a (upd V i) b' ∧ Kept S W W' := by
  rcases hP with ⟨L, rfl, hw⟩ | ⟨rfl, hd⟩
  · by_cases he : putE (rsW s a L) 60 i (a.getD i 0) = 0
    · refine (put_yes S g gs cs wp _ 60 i (a.getD i 0) W hB he).mono ?_
      rintro e W' ⟨rfl, wp', B', k'⟩
      rw [Int.toNat_natCast] at B'
      exact ⟨0, wp', _, rfl, B', PS_put hok hw hi, k'⟩
    · refine (put_no S g gs cs wp _ 60 i (a.getD i 0) W hB he).mono ?_
      rintro e W' ⟨rfl, hb⟩
      refine ⟨_, wp, _, rfl, hB.below hb, PS_skip (.inl ⟨L, rfl, hw⟩) ?_, Kept.of_below hb⟩
      rw [put_w hi, if_pos rfl] at he
      split at he
      · rename_i hl
        rw [hw.laid i hi, Bool.or_eq_true] at hl
        rcases hl with h1 | h1
        · exact .inl (by simpa using h1)
        · exact .inr h1
      · exact absurd rfl he
  · have he : putE (rsD s a) 60 i (a.getD i 0) ≠ 0 := by rw [put_d]; omega
    refine (put_no S g gs cs wp _ 60 i (a.getD i 0) W hB he).mono ?_
    rintro e W' ⟨rfl, hb⟩
    refine ⟨_, wp, _, rfl, hB.below hb, PS_skip (.inr ⟨rfl, hd⟩) ?_, Kept.of_below hb⟩
    have := hd i hi
    rw [Bool.or_eq_true] at this
    rcases this with h1 | h1
    · exact .inl (by simpa using h1)
    · exact .inr h1
theorem OrdAt.put1 (h : OrdAt w m M D A' s a g1 gs1 cs1 g2 gs2 cs2 V1 V2 dn W) (i : Nat) (hi : i < s.length) :
    Calls Try.prog 16 #[.pointer (some ⟨g1, 0, none⟩), .int .i64 60, .int .i64 (i : Int), .int .i64 (a.getD i 0)] W (OrdSays w m M D A' s a g1 gs1 cs1 g2 gs2 cs2 (upd V1 i) V2 dn) := by
  obtain ⟨S, wp, b, x1, x2, x3⟩ := h.one
  obtain ⟨T, tp, c, y1, y2, y3⟩ := h.two
  have h0 := h.lo
  have h1 := h.mM
  have h2 := h.MD
  have hD := h.marks.lt
  refine (put_step x1 x3 h.ok i hi).mono ?_
  rintro e W' ⟨z, wp', b', rfl, B', P', k'⟩
  have hb : Below m W W' := k'.to_below (by omega) (fun q hq hS => by have := x2 q hS; omega)
  exact ⟨z, rfl, ⟨S, wp', b', B', x2, P'⟩, ⟨T, tp, c, y1.kept k' (fun q hq hS => by have e1 := x2 q hS; have e2 := y2 q hq; omega), y2, y3⟩, Reads.below h.rows hb, h.marks.kept k' (fun hS => by have := x2 D hS; omega), h.len, h.lo, h.mM, h.MD, h.fr.trans (hb.mono h.lo), h.ok⟩
theorem OrdAt.put2 (h : OrdAt w m M D A' s a g1 gs1 cs1 g2 gs2 cs2 V1 V2 dn W) (i : Nat) (hi : i < s.length) :
    Calls Try.prog 16 #[.pointer (some ⟨g2, 0, none⟩), .int .i64 60, .int .i64 (i : Int), .int .i64 (a.getD i 0)] W (OrdSays w m M D A' s a g1 gs1 cs1 g2 gs2 cs2 V1 (upd V2 i) dn) := by
  obtain ⟨S, wp, b, x1, x2, x3⟩ := h.one
  obtain ⟨T, tp, c, y1, y2, y3⟩ := h.two
  have h0 := h.lo
  have h1 := h.mM
  have h2 := h.MD
  have hD := h.marks.lt
  refine (put_step y1 y3 h.ok i hi).mono ?_
  rintro e W' ⟨z, tp', c', rfl, C', P', k'⟩
  have hb : Below m W W' := k'.to_below (by omega) (fun q hq hS => by have := y2 q hS; omega)
  exact ⟨z, rfl, ⟨S, wp, b, x1.kept k' (fun q hq hS => by have e1 := x2 q hq; have e2 := y2 q hS; omega), x2, x3⟩, ⟨T, tp', c', C', y2, P'⟩, Reads.below h.rows hb, h.marks.kept k' (fun hS => by have := y2 D hS; omega), h.len, h.lo, h.mM, h.MD, h.fr.trans (hb.mono h.lo), h.ok⟩
end
theorem PS_all {s a : List Int} {V : Nat → Bool} {b : Bk} (h : PS s a V b) (hv : ∀ i, i < s.length → V i = true) : b = rsD s a :=
  PS_done h (cnt_zero.2 fun i hi => by rw [hv i hi, Bool.or_true])

theorem info_bool : (Try.prog.info? 4).map (fun i => (i.zero, i.size, i.bytes)) = some (some (.bool false), 1, 1) := by kernel_rfl
/-- What make gives. -/
def falses (n : Nat) : Obj := .cells (madeCells (Value.bool false).cells (n * 1)) 4
theorem run_make_bools (n : Nat) (hn : n ≤ 1000) (W : World) : (Instr.makeSlice 55 (.int .i64 (n : Int)) (.int .i64 (n : Int))).run Try.prog W = .ok (.slice (some ⟨W.heap.size, 0, none⟩) n n) (W.alloc (falses n)) := by
  obtain ⟨i0, hi, hz0, hz1, hz2⟩ := info_parts info_bool
  have := run_make_rowN (P := Try.prog) 55 4 i0 _ Try.underlying55 hi hz0 .i64 .i64 n n (Nat.le_refl _) (by rw [hz2]; omega) (by omega) W
  rw [hz1] at this
  exact this
theorem falses_blk (W : World) (n : Nat) : Blk (W.alloc (falses n)) W.heap.size 4 ((List.replicate n false).map Value.bool).toArray := by
  have h : falses n = .cells ((List.replicate n false).map Value.bool).toArray 4 := by
    unfold falses
    congr 1
    rw [← Array.toList_inj]
    refine List.ext_getElem (by simp [madeCells]) (fun i h1 h2 => ?_)
    simp [madeCells, Value.cells, Nat.mod_one]
  rw [h]
  exact Blk.new _ _ _
end Go.Proofs.Ytdbffjipoiphpaa
