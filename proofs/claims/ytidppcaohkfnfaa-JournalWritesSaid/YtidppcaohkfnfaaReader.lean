
/-
  Readers of package octet: NewReader, Num, Int, Left, Err, End.
-/
import Derived.Test.YtidppcaohkfnfaaLook
import Derived.Test.YtidppcaohkfnfaaKept
import Derived.Deep.RegionHeld
namespace Go.Proofs.Ytidppcaohkfnfaa
open Go.RowKit

theorem OB.rin {w : World} {base n c : Nat} {A : Option Addr} {l : List UInt8} (h : OB w base (.slice A n c) l) : RIn (fun k => base ≤ k) w A n l := by
  refine ⟨h.rb.len, fun hn => ?_⟩
  obtain ⟨g, rfl, hg, hlt, -⟩ := h.addr hn
  obtain ⟨ad, e, hb, hc⟩ := h.rb.2 hn
  obtain rfl := Option.some.inj e
  exact ⟨_, rfl, hg, hlt, hc⟩

/-- A reader: block g, its bytes b in a block of lo .. g - 1, the place, the error. -/
def Rdr (w : World) (lo g : Nat) (b : List UInt8) (at_ err : Nat) : Prop :=
  ∃ A c, Blk w g 112 #[.slice A b.length c, .int .i64 at_, .int .i64 err] ∧ b.length ≤ c ∧ RIn (fun k => lo ≤ k ∧ k < g) w A b.length b ∧ at_ ≤ b.length ∧ lo ≤ g ∧ b.length ≤ 140737488355328
section
variable {w w' : World} {lo g at_ err : Nat} {b : List UInt8} {S : Nat → Prop}
theorem Rdr.kept (h : Rdr w lo g b at_ err) (hk : Kept S w w') (hs : ∀ k, lo ≤ k → k ≤ g → ¬ S k) : Rdr w' lo g b at_ err := by
  obtain ⟨A, c, h1, h2, h3, h4, h5, h6⟩ := h
  exact ⟨A, c, h1.kept hk (hs g h5 (Nat.le_refl _)), h2, h3.kept hk (fun k hd => hs k hd.1 (by omega)), h4, h5, h6⟩
theorem Rdr.lt (h : Rdr w lo g b at_ err) : g < w.heap.size := by
  obtain ⟨A, c, h1, _⟩ := h
  exact h1.lt
theorem Rdr.below (h : Rdr w lo g b at_ err) (hb : Below w.heap.size w w') : Rdr w' lo g b at_ err := h.kept (Kept.of_below (S := fun _ => False) hb) (fun _ _ _ h => h)
theorem Rdr.lo_le (h : Rdr w lo g b at_ err) : lo ≤ g := by
  obtain ⟨A, c, _, _, _, _, h5, _⟩ := h
  exact h5
end

/-- A call that gives a reader. -/
def GotR (w : World) (b : List UInt8) (e : Ending) (w' : World) : Prop := ∃ g, e = .returned (.pointer (some ⟨g, 0, none⟩)) ∧ Rdr w' w.heap.size g b 0 0 ∧ Below w.heap.size w w'

set_option maxHeartbeats 400000 in
set_option maxRecDepth 100000 in
theorem newReader_any (A : Option Addr) (n c : Nat) (l : List UInt8) (w : World) (ha : RB w A n l) (hn : n ≤ 140737488355328) :
    Calls Try.prog 50 #[.slice A n c] w (GotR w l) := by
  have hl := Lib.hid ha.len
  go_enter Try.func50, Try.ntmps50
  go_wp2_with fail
  refine (fresh_any A n c 0 l w ha (by omega) (by omega)).mono ?_
  rintro e w1 ⟨v1, rfl, ho1, hb1⟩
  obtain ⟨A1, n1, c1, rfl, hnc, hcm, r1⟩ := ho1.got
  obtain rfl := r1.len
  go_wp2_with fail
  go_ret
  refine ⟨w1.heap.size, rfl, ⟨A1, c1, Blk.new _ _ _, hnc, ?_, by omega, hb1.size, by have := hl.out; omega⟩, hb1.al _⟩
  exact ((ho1.rin.mono (fun k h1 h2 => (⟨h2, h1⟩ : w.heap.size ≤ k ∧ k < w1.heap.size))).kept ((Kept.refl (fun _ => False) w1).alloc _) (fun _ _ h => h))

/-- What the number's reading makes of the bytes that are left: the number, how many bytes it took, the error. -/
def stepN (l : List UInt8) (most : Nat) : Nat × Nat × Nat :=
  if (lookL l).2.2 ≠ 0 then (0, 0, (lookL l).2.2) else if most < (lookL l).1 then (0, 0, 2) else ((lookL l).1, (lookL l).2.1, 0)
theorem lookL_size (l : List UInt8) : (lookL l).2.1 ≤ l.length := by
  unfold lookL
  split
  · simp
  · rename_i k hk
    obtain ⟨h, _⟩ := stopF_get 10 l k hk
    split
    · simp
    · simp only; omega
theorem lookL_err (l : List UInt8) : (lookL l).2.2 ≤ 5 := by
  unfold lookL
  split
  · simp only; split <;> omega
  · split <;> simp
theorem stepN_size (l : List UInt8) (m : Nat) : (stepN l m).2.1 ≤ l.length := by
  have := lookL_size l
  unfold stepN
  split
  · simp
  · split
    · simp
    · exact this

set_option maxHeartbeats 1000000 in
set_option maxRecDepth 100000 in
theorem numF1_any (A : Option Addr) (n c bm bn most : Nat) (l : List UInt8) (w : World) (ha : RB w A n l) (hm : w.cell? ⟨bm, 0, none⟩ = some (.int .u64 most)) (hz : w.cell? ⟨bn, 0, none⟩ = some (.int .u64 0)) (hf : w.frozen? ⟨bn, 0, none⟩ = false) :
    Calls Try.prog 67 #[.slice A n c, .pointer (some ⟨bm, 0, none⟩), .pointer (some ⟨bn, 0, none⟩)] w
      fun e w' => e = .returned (.tuple #[.int .i64 (stepN l most).2.1, .int .i64 (stepN l most).2.2]) ∧ w'.cell? ⟨bn, 0, none⟩ = some (.int .u64 (stepN l most).1) ∧ Kept (fun k => k = bn) w w' := by
  have HE : Hid (stepN l most = if (lookL l).2.2 ≠ 0 then (0, 0, (lookL l).2.2) else if most < (lookL l).1 then (0, 0, 2) else ((lookL l).1, (lookL l).2.1, 0)) := rfl
  have HL := Lib.hid (show lookL l = ((lookL l).1, (lookL l).2.1, (lookL l).2.2) from rfl)
  generalize (lookL l).1 = v at HE HL
  generalize (lookL l).2.1 = s at HE HL
  generalize (lookL l).2.2 = er at HE HL
  by_cases h0 : er = 0
  · subst h0
    by_cases h1 : most < v
    · have HS : Hid (stepN l most = (0, 0, 2)) := by rw [Hid, HE.out, if_neg (by simp), if_pos h1]
      clear HE
      generalize stepN l most = st at HS
      go_enter Try.func67, Try.ntmps67
      go_wp2_with fail
      refine (look_any A n c l w ha).mono ?_
      rintro e w1 ⟨rfl, rfl⟩
      rw [HL.out]
      unfold look3
      go_wp2_with fail
      go_ret2
      rw [HS.out]
      exact ⟨rfl, hz, Kept.refl _ _⟩
    · have HS : Hid (stepN l most = (v, s, 0)) := by rw [Hid, HE.out, if_neg (by simp), if_neg h1]
      clear HE
      generalize stepN l most = st at HS
      go_enter Try.func67, Try.ntmps67
      go_wp2_with fail
      refine (look_any A n c l w ha).mono ?_
      rintro e w1 ⟨rfl, rfl⟩
      rw [HL.out]
      unfold look3
      go_wp2_with fail
      go_ret2
      rw [HS.out]
      refine ⟨rfl, ?_, (Kept.refl (fun k => k = bn) _).setCell (fun _ => rfl) _⟩
      exact World.cell?_setCell_same _ _ _ hz
  · have HS : Hid (stepN l most = (0, 0, er)) := by rw [Hid, HE.out, if_pos h0]
    have t0 : ((er : Int) != 0) = true := by simp; omega
    clear HE
    generalize stepN l most = st at HS
    go_enter Try.func67, Try.ntmps67
    go_wp2_with fail
    refine (look_any A n c l w ha).mono ?_
    rintro e w1 ⟨rfl, rfl⟩
    rw [HL.out]
    unfold look3
    go_wp2_with fail
    go_ret2
    rw [HS.out]
    exact ⟨rfl, hz, Kept.refl _ _⟩

theorem numF1_st (A : Option Addr) (n c bm bn most v sz er : Nat) (l : List UInt8) (w : World) (hst : Hid (stepN l most = (v, sz, er))) (ha : RB w A n l) (hm : w.cell? ⟨bm, 0, none⟩ = some (.int .u64 most)) (hz : w.cell? ⟨bn, 0, none⟩ = some (.int .u64 0)) (hf : w.frozen? ⟨bn, 0, none⟩ = false) :
    Calls Try.prog 67 #[.slice A n c, .pointer (some ⟨bm, 0, none⟩), .pointer (some ⟨bn, 0, none⟩)] w
      fun e w' => e = .returned (.tuple #[.int .i64 sz, .int .i64 er]) ∧ w'.cell? ⟨bn, 0, none⟩ = some (.int .u64 v) ∧ Kept (fun k => k = bn) w w' := by
  have h := numF1_any A n c bm bn most l w ha hm hz hf
  rw [hst.out] at h
  exact h

/-- A reader's state behind a reading that took 'size' bytes or failed with 'e'. -/
def after (at_ : Nat) (r : Nat × Nat × Nat) : Nat × Nat := if r.2.2 ≠ 0 then (at_, r.2.2) else (at_ + r.2.1, 0)

theorem rdr_move {w w1 : World} {lo g at_ bn : Nat} {b : List UInt8} (hr : Rdr w lo g b at_ 0) (hk : Kept (fun k => k = bn) w w1) (hbn : g < bn) {x : Nat} {y : Int} (hx : x ≤ b.length) (hy : y = (x : Int)) :
    Rdr (w1.setCell ⟨g, 1, none⟩ (.int .i64 y)) lo g b x 0 ∧ Kept (fun k => k = g ∨ k = bn) w (w1.setCell ⟨g, 1, none⟩ (.int .i64 y)) := by
  subst hy
  obtain ⟨A, c, h1, h2, h3, h4, h5, h6⟩ := hr
  refine ⟨⟨A, c, (h1.kept hk (by omega)).set_ 1 _, h2, ?_, hx, h5, h6⟩, (hk.mono (fun k _ h => .inr h)).setCell (fun _ => .inl rfl) _⟩
  exact (h3.kept hk (fun k hd => by omega)).kept ((Kept.refl (fun k => k = g) w1).setCell (fun _ => rfl) _) (fun k hd => by omega)
theorem rdr_fail {w w1 : World} {lo g at_ bn : Nat} {b : List UInt8} (hr : Rdr w lo g b at_ 0) (hk : Kept (fun k => k = bn) w w1) (hbn : g < bn) (x : Nat) :
    Rdr (w1.setCell ⟨g, 2, none⟩ (.int .i64 x)) lo g b at_ x ∧ Kept (fun k => k = g ∨ k = bn) w (w1.setCell ⟨g, 2, none⟩ (.int .i64 x)) := by
  obtain ⟨A, c, h1, h2, h3, h4, h5, h6⟩ := hr
  refine ⟨⟨A, c, (h1.kept hk (by omega)).set_ 2 _, h2, ?_, h4, h5, h6⟩, (hk.mono (fun k _ h => .inr h)).setCell (fun _ => .inl rfl) _⟩
  exact (h3.kept hk (fun k hd => by omega)).kept ((Kept.refl (fun k => k = g) w1).setCell (fun _ => rfl) _) (fun k hd => by omega)
theorem kept_of_drew {S : Nat → Prop} {w w1 : World} (h : Kept S w.drew w1) : Kept S w w1 := ⟨h.os, h.tape, h.output, h.size, h.block⟩

set_option maxHeartbeats 1000000 in
set_option maxRecDepth 100000 in
theorem readN_err (lo g at_ err : Nat) (f : Value) (b : List UInt8) (w : World) (hr : Rdr w lo g b at_ err) (he : err ≠ 0) :
    Calls Try.prog 66 #[.pointer (some ⟨g, 0, none⟩), f] w fun e w' => e = .returned (.tuple #[]) ∧ w = w' := by
  obtain ⟨A, c, hblk, -⟩ := hr
  have h2 : w.cell? ⟨g, 2, none⟩ = some (.int .i64 err) := hblk.cell 2
  have t : ((err : Int) != 0) = true := by simp; omega
  go_enter Try.func66, Try.ntmps66
  go_wp2_with fail
  refine bodyPost_ret (results_none rfl _ _ _) rfl ?_
  exact ⟨rfl, rfl⟩

set_option maxHeartbeats 1000000 in
set_option maxRecDepth 100000 in
theorem readN_go (lo g at_ bm bn most : Nat) (b : List UInt8) (w : World) (hr : Rdr w lo g b at_ 0) (hbn : g < bn)
    (hm : w.cell? ⟨bm, 0, none⟩ = some (.int .u64 most)) (hz : w.cell? ⟨bn, 0, none⟩ = some (.int .u64 0)) (hf : w.frozen? ⟨bn, 0, none⟩ = false) :
    Calls Try.prog 66 #[.pointer (some ⟨g, 0, none⟩), .func (.func 67) #[] #[.pointer (some ⟨bm, 0, none⟩), .pointer (some ⟨bn, 0, none⟩)]] w
      fun e w' => e = .returned (.tuple #[]) ∧ Rdr w' lo g b (after at_ (stepN (b.drop at_) most)).1 (after at_ (stepN (b.drop at_) most)).2 ∧
        w'.cell? ⟨bn, 0, none⟩ = some (.int .u64 (stepN (b.drop at_) most).1) ∧ Kept (fun k => k = g ∨ k = bn) w w' := by
  have hr0 := hr
  obtain ⟨A, c, hblk, hbc, hin, hat, hlo, hbl⟩ := hr
  have h0 : w.cell? ⟨g, 0, none⟩ = some (.slice A b.length c) := hblk.cell 0
  have h1 : w.cell? ⟨g, 1, none⟩ = some (.int .i64 at_) := hblk.cell 1
  have h2 : w.cell? ⟨g, 2, none⟩ = some (.int .i64 0) := hblk.cell 2
  have f1 := hblk.frozen 1
  have f2 := hblk.frozen 2
  have g1 : (0 : Int) ≤ (at_ : Int) := by omega
  have g2 : (at_ : Int) ≤ (b.length : Int) := by omega
  have g3 : (b.length : Int) ≤ (c : Int) := by omega
  have rd := (hin.rb.cut hat hbc).drew
  obtain ⟨v, sz, er, hst⟩ : ∃ v sz er, stepN (b.drop at_) most = (v, sz, er) := ⟨_, _, _, rfl⟩
  have HS := Lib.hid hst
  have hsz : sz ≤ b.length - at_ := by
    have h := stepN_size (b.drop at_) most
    rw [hst, List.length_drop] at h
    exact h
  clear hst
  rcases Nat.eq_zero_or_pos er with her | her
  · have te : ((er : Int) != 0) = false := by simp; omega
    have HER := Lib.hid her
    clear her
    go_enter Try.func66, Try.ntmps66
    go_wp2_with fail
    go_region_with (go_at_call 67; generalize (if c = at_ then A else Option.map (fun x => x.add at_) A) = A2 at rd ⊢; refine (numF1_st _ _ _ bm bn most v sz er (b.drop at_) _ HS rd hm hz hf).mono ?_; rintro e w1 ⟨rfl, hv, hk⟩; have hblk1 := hblk.drew.kept hk (by omega); have k1 : w1.cell? ⟨g, 1, none⟩ = some (.int .i64 at_) := hblk1.cell 1; have kf1 := hblk1.frozen 1)
    all_goals
      go_wp2_with fail
      go_end0
      rw [HS.out]
      have r := rdr_move (x := at_ + sz) (y := (at_ : Int) + (sz : Int)) hr0 (kept_of_drew hk) hbn (by omega) (by omega)
      have ea : after at_ (v, sz, er) = (at_ + sz, 0) := by unfold after; rw [if_neg (by simpa using HER.out)]
      rw [ea]
      exact ⟨rfl, r.1, by rw [World.cell?_setCell_far _ _ _ _ (by simp; omega)]; exact hv, r.2⟩
  · have te : ((er : Int) != 0) = true := by simp; omega
    go_enter Try.func66, Try.ntmps66
    go_wp2_with fail
    go_region_with (go_at_call 67; generalize (if c = at_ then A else Option.map (fun x => x.add at_) A) = A2 at rd ⊢; refine (numF1_st _ _ _ bm bn most v sz er (b.drop at_) _ HS rd hm hz hf).mono ?_; rintro e w1 ⟨rfl, hv, hk⟩; have hblk1 := hblk.drew.kept hk (by omega); have k1 : w1.cell? ⟨g, 2, none⟩ = some (.int .i64 0) := hblk1.cell 2; have kf1 := hblk1.frozen 2)
    all_goals
      go_wp2_with fail
      refine bodyPost_ret (results_none rfl _ _ _) rfl ?_
      rw [HS.out]
      have r := rdr_fail hr0 (kept_of_drew hk) hbn er
      have ea : after at_ (v, sz, er) = (at_, er) := by unfold after; rw [if_pos (by simp; omega)]
      rw [ea]
      exact ⟨rfl, r.1, by rw [World.cell?_setCell_far _ _ _ _ (by simp; omega)]; exact hv, r.2⟩
end Go.Proofs.Ytidppcaohkfnfaa
