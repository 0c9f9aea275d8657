
/-
  Readers of package octet: Bytes, Text.
-/
import Derived.Test.YtidppcaohkfnfaaReadN
namespace Go.Proofs.Ytidppcaohkfnfaa
open Go.RowKit

/-- What the bytes' reading makes of the bytes that are left: the bytes, how many it took, the error. -/
def stepB (l : List UInt8) (lim : Nat) : List UInt8 × Nat × Nat :=
  if (lookL l).2.2 ≠ 0 then ([], 0, (lookL l).2.2) else if lim < (lookL l).1 then ([], 0, 2) else if l.length - (lookL l).2.1 < (lookL l).1 then ([], 0, 4)
  else ((l.drop (lookL l).2.1).take (lookL l).1, (lookL l).2.1 + (lookL l).1, 0)
theorem stepB_size (l : List UInt8) (m : Nat) : (stepB l m).2.1 ≤ l.length := by
  have := lookL_size l
  unfold stepB
  split
  · simp
  · split
    · simp
    · split
      · simp
      · simp only; omega

theorem Kept.to_grown {a b : World} {g : Nat} (h : Kept (fun k => k = g) a b) : a.grownBy b (some g) :=
  ⟨h.os, h.tape, h.output, h.size, fun k hk hn => h.block k hk (fun e => hn (by rw [e]))⟩

/-- A slice that a call made lies in the cell. -/
def Holds (w : World) (b base : Nat) (l : List UInt8) : Prop := ∃ v, w.cell? ⟨b, 0, none⟩ = some v ∧ OB w base v l

set_option maxHeartbeats 2000000 in
set_option maxRecDepth 100000 in
theorem bytesF1_any (A : Option Addr) (n c bm bo lim s er : Nat) (out : List UInt8) (l : List UInt8) (w : World) (ha : RB w A n l) (hnc : n ≤ c) (hn : n ≤ 140737488355328)
    (hm : w.cell? ⟨bm, 0, none⟩ = some (.int .u64 lim)) (hz : w.cell? ⟨bo, 0, none⟩ = some (.slice none 0 0)) (hf : w.frozen? ⟨bo, 0, none⟩ = false) (hbo : bo < w.heap.size) (hst : Hid (stepB l lim = (out, s, er))) :
    Calls Try.prog 78 #[.slice A n c, .pointer (some ⟨bm, 0, none⟩), .pointer (some ⟨bo, 0, none⟩)] w
      fun e w' => e = .returned (.tuple #[.int .i64 s, .int .i64 er]) ∧ Holds w' bo w.heap.size out ∧ Kept (fun k => k = bo) w w' := by
  have HE : Hid (stepB l lim = if (lookL l).2.2 ≠ 0 then ([], 0, (lookL l).2.2) else if lim < (lookL l).1 then ([], 0, 2) else if l.length - (lookL l).2.1 < (lookL l).1 then ([], 0, 4)
      else ((l.drop (lookL l).2.1).take (lookL l).1, (lookL l).2.1 + (lookL l).1, 0)) := rfl
  have hnil : Holds w bo w.heap.size [] := ⟨_, hz, OB.nil _ _⟩
  have HL := Lib.hid (show lookL l = ((lookL l).1, (lookL l).2.1, (lookL l).2.2) from rfl)
  have hls := lookL_size l
  generalize (lookL l).1 = x at HE HL
  generalize (lookL l).2.1 = y at HE HL hls
  generalize (lookL l).2.2 = z at HE HL
  have hl := Lib.hid ha.len
  have hyn : y ≤ n := by have := hl.out; omega
  clear hls
  by_cases h0 : z = 0
  · subst h0
    by_cases h1 : lim < x
    · have HS : Hid ((out, s, er) = ([], 0, 2)) := by rw [Hid, ← hst.out, HE.out, if_neg (by simp), if_pos h1]
      obtain ⟨rfl, rfl, rfl⟩ : out = [] ∧ s = 0 ∧ er = 2 := by simpa using HS.out
      clear HE hst HS
      go_enter Try.func78, Try.ntmps78
      go_wp2_with fail
      refine (look_any A n c l w ha).mono ?_
      rintro e w1 ⟨rfl, rfl⟩
      rw [HL.out]
      unfold look3
      go_wp2_with fail
      go_ret2
      exact ⟨rfl, hnil, Kept.refl _ _⟩
    · by_cases h2 : n - y < x
      · have HS : Hid ((out, s, er) = ([], 0, 4)) := by rw [Hid, ← hst.out, HE.out, if_neg (by simp), if_neg h1, if_pos (by rw [← hl.out]; exact h2)]
        obtain ⟨rfl, rfl, rfl⟩ : out = [] ∧ s = 0 ∧ er = 4 := by simpa using HS.out
        clear HE hst HS
        have g1 : (n : Int) - (y : Int) < (x : Int) := by omega
        go_enter Try.func78, Try.ntmps78
        go_wp2_with fail
        refine (look_any A n c l w ha).mono ?_
        rintro e w1 ⟨rfl, rfl⟩
        rw [HL.out]
        unfold look3
        go_wp2_with fail
        go_ret2
        exact ⟨rfl, hnil, Kept.refl _ _⟩
      · have HS : Hid ((out, s, er) = ((l.drop y).take x, y + x, 0)) := by rw [Hid, ← hst.out, HE.out, if_neg (by simp), if_neg h1, if_neg (by rw [← hl.out]; exact h2)]
        obtain ⟨rfl, rfl, rfl⟩ : out = (l.drop y).take x ∧ s = y + x ∧ er = 0 := by simpa using HS.out
        clear HE hst HS
        have g1 : ¬ (n : Int) - (y : Int) < (x : Int) := by omega
        have rc := (ha.upto (k := y + x) (by omega)).cut (k := y) (cap := c) (by omega) (by omega)
        have et : (l.take (y + x)).drop y = (l.drop y).take x := by rw [List.drop_take, Nat.add_sub_cancel_left]
        rw [et] at rc
        have hx : x ≤ 140737488355328 := by omega
        have g3 : (x : Int) ≤ 140737488355328 := by omega
        go_enter Try.func78, Try.ntmps78
        go_wp2_with fail
        refine (look_any A n c l w ha).mono ?_
        rintro e w1 ⟨rfl, rfl⟩
        rw [HL.out]
        unfold look3
        go_wp2_with fail
        · have rc' : RB w A x ((l.drop y).take x) := by
            rw [if_pos (by assumption), Nat.add_sub_cancel_left] at rc
            exact rc
          refine (fresh_any _ _ _ 0 ((l.drop y).take x) w rc' (by omega) (by omega)).mono ?_
          rintro e w1 ⟨v1, rfl, o1, b1⟩
          have z1 := (b1.cell (p := ⟨bo, 0, none⟩) hbo).trans hz
          have f1 := (b1.frozen (p := ⟨bo, 0, none⟩) hbo).trans hf
          obtain ⟨A1, m1, c1, rfl, -, -, -⟩ := o1.got
          go_wp2_with fail
          go_ret2
          refine ⟨by rw [Int.natCast_add]; rfl, ⟨_, World.cell?_setCell_same _ _ _ z1, ?_⟩, (Kept.of_below (S := fun k => k = bo) b1).setCell (fun _ => rfl) _⟩
          exact o1.other' ((Kept.refl (fun k => k = bo) w1).setCell (p := ⟨bo, 0, none⟩) (fun _ => rfl) _ |>.to_grown) (fun g h => by injection h with h; omega)
        · have rc' : RB w (A.map (·.add y)) x ((l.drop y).take x) := by
            rw [if_neg (by assumption), Nat.add_sub_cancel_left] at rc
            exact rc
          refine (fresh_any _ _ _ 0 ((l.drop y).take x) w rc' (by omega) (by omega)).mono ?_
          rintro e w1 ⟨v1, rfl, o1, b1⟩
          have z1 := (b1.cell (p := ⟨bo, 0, none⟩) hbo).trans hz
          have f1 := (b1.frozen (p := ⟨bo, 0, none⟩) hbo).trans hf
          obtain ⟨A1, m1, c1, rfl, -, -, -⟩ := o1.got
          go_wp2_with fail
          go_ret2
          refine ⟨by rw [Int.natCast_add]; rfl, ⟨_, World.cell?_setCell_same _ _ _ z1, ?_⟩, (Kept.of_below (S := fun k => k = bo) b1).setCell (fun _ => rfl) _⟩
          exact o1.other' ((Kept.refl (fun k => k = bo) w1).setCell (p := ⟨bo, 0, none⟩) (fun _ => rfl) _ |>.to_grown) (fun g h => by injection h with h; omega)
  · have HS : Hid ((out, s, er) = ([], 0, z)) := by rw [Hid, ← hst.out, HE.out, if_pos h0]
    obtain ⟨rfl, rfl, rfl⟩ : out = [] ∧ s = 0 ∧ er = z := by simpa using HS.out
    clear HE hst HS
    have t0 : ((er : Int) != 0) = true := by simp; omega
    go_enter Try.func78, Try.ntmps78
    go_wp2_with fail
    refine (look_any A n c l w ha).mono ?_
    rintro e w1 ⟨rfl, rfl⟩
    rw [HL.out]
    unfold look3
    go_wp2_with fail
    go_ret2
    exact ⟨rfl, hnil, Kept.refl _ _⟩
theorem lt_of_cell' {W : World} {ad : Addr} {v : Value} (h : W.cell? ad = some v) : ad.block < W.heap.size := by
  rcases Nat.lt_or_ge ad.block W.heap.size with h1 | h1
  · exact h1
  · simp [World.cell?, Array.getElem?_eq_none h1] at h
theorem Holds.far {w : World} {b base g i : Nat} {l : List UInt8} (h : Holds w b base l) (h1 : g ≠ b) (h2 : g < base) (u : Value) : Holds (w.setCell ⟨g, i, none⟩ u) b base l := by
  obtain ⟨v, hc, ho⟩ := h
  refine ⟨v, by rw [World.cell?_setCell_far _ _ _ _ (by simpa using h1)]; exact hc, ?_⟩
  exact ho.other' ((Kept.refl (fun k => k = g) w).setCell (p := ⟨g, i, none⟩) (fun _ => rfl) _ |>.to_grown) (fun x h => by injection h with h; omega)
/-- A reader's state behind a reading of bytes. -/
def afterB (at_ : Nat) (r : List UInt8 × Nat × Nat) : Nat × Nat := if r.2.2 ≠ 0 then (at_, r.2.2) else (at_ + r.2.1, 0)

set_option maxHeartbeats 1000000 in
set_option maxRecDepth 100000 in
theorem readB_go (lo g at_ bm bn lim : Nat) (b : List UInt8) (w : World) (hr : Rdr w lo g b at_ 0) (hbn : g < bn)
    (hm : w.cell? ⟨bm, 0, none⟩ = some (.int .u64 lim)) (hz : w.cell? ⟨bn, 0, none⟩ = some (.slice none 0 0)) (hf : w.frozen? ⟨bn, 0, none⟩ = false) :
    Calls Try.prog 66 #[.pointer (some ⟨g, 0, none⟩), .func (.func 78) #[] #[.pointer (some ⟨bm, 0, none⟩), .pointer (some ⟨bn, 0, none⟩)]] w
      fun e w' => e = .returned (.tuple #[]) ∧ Rdr w' lo g b (afterB at_ (stepB (b.drop at_) lim)).1 (afterB at_ (stepB (b.drop at_) lim)).2 ∧
        Holds w' bn w.heap.size (stepB (b.drop at_) lim).1 ∧ Kept (fun k => k = g ∨ k = bn) w w' := by
  have hr0 := hr
  have hbw : bn < w.heap.size := lt_of_cell' hz
  obtain ⟨A, c, hblk, hbc, hin, hat, hlo, hbl⟩ := hr
  have h0 : w.cell? ⟨g, 0, none⟩ = some (.slice A b.length c) := hblk.cell 0
  have h1 : w.cell? ⟨g, 1, none⟩ = some (.int .i64 at_) := hblk.cell 1
  have h2 : w.cell? ⟨g, 2, none⟩ = some (.int .i64 0) := hblk.cell 2
  have f1 := hblk.frozen 1
  have f2 := hblk.frozen 2
  have g1 : (0 : Int) ≤ (at_ : Int) := by omega
  have g2 : (at_ : Int) ≤ (b.length : Int) := by omega
  have g3 : (b.length : Int) ≤ (c : Int) := by omega
  have rd := (hin.rb.cut hat hbc).drew
  obtain ⟨v, sz, er, hst⟩ : ∃ v sz er, stepB (b.drop at_) lim = (v, sz, er) := ⟨_, _, _, rfl⟩
  have HS := Lib.hid hst
  have hsz : sz ≤ b.length - at_ := by
    have h := stepB_size (b.drop at_) lim
    rw [hst, List.length_drop] at h
    exact h
  clear hst
  rcases Nat.eq_zero_or_pos er with her | her
  · have te : ((er : Int) != 0) = false := by simp; omega
    have HER := Lib.hid her
    clear her
    go_enter Try.func66, Try.ntmps66
    go_wp2_with fail
    go_region_with (go_at_call 78; generalize (if c = at_ then A else Option.map (fun x => x.add at_) A) = A2 at rd ⊢; refine (bytesF1_any _ _ _ bm bn lim sz er v (b.drop at_) _ rd (by omega) (by omega) hm hz hf hbw HS).mono ?_; rintro e w1 ⟨rfl, hv, hk⟩; have hblk1 := hblk.drew.kept hk (by omega); have k1 : w1.cell? ⟨g, 1, none⟩ = some (.int .i64 at_) := hblk1.cell 1; have kf1 := hblk1.frozen 1)
    all_goals
      go_wp2_with fail
      go_end0
      rw [HS.out]
      have r := rdr_move (x := at_ + sz) (y := (at_ : Int) + (sz : Int)) hr0 (kept_of_drew hk) hbn (by omega) (by omega)
      have ea : afterB at_ (v, sz, er) = (at_ + sz, 0) := by unfold afterB; rw [if_neg (by simpa using HER.out)]
      rw [ea]
      exact ⟨rfl, r.1, hv.far (by omega) (show g < w.heap.size by omega) _, r.2⟩
  · have te : ((er : Int) != 0) = true := by simp; omega
    go_enter Try.func66, Try.ntmps66
    go_wp2_with fail
    go_region_with (go_at_call 78; generalize (if c = at_ then A else Option.map (fun x => x.add at_) A) = A2 at rd ⊢; refine (bytesF1_any _ _ _ bm bn lim sz er v (b.drop at_) _ rd (by omega) (by omega) hm hz hf hbw HS).mono ?_; rintro e w1 ⟨rfl, hv, hk⟩; have hblk1 := hblk.drew.kept hk (by omega); have k1 : w1.cell? ⟨g, 2, none⟩ = some (.int .i64 0) := hblk1.cell 2; have kf1 := hblk1.frozen 2)
    all_goals
      go_wp2_with fail
      refine bodyPost_ret (results_none rfl _ _ _) rfl ?_
      rw [HS.out]
      have r := rdr_fail hr0 (kept_of_drew hk) hbn er
      have ea : afterB at_ (v, sz, er) = (at_, er) := by unfold afterB; rw [if_pos (by simp; omega)]
      rw [ea]
      exact ⟨rfl, r.1, hv.far (by omega) (show g < w.heap.size by omega) _, r.2⟩

/-- Bytes of a reader: the bytes, the place, the error. -/
def readBytes (b : List UInt8) (at_ err lim : Nat) : List UInt8 × Nat × Nat :=
  if err ≠ 0 then ([], at_, err) else ((stepB (b.drop at_) lim).1, (afterB at_ (stepB (b.drop at_) lim)).1, (afterB at_ (stepB (b.drop at_) lim)).2)

/-- What Bytes of a reader gives. -/
def GotB (lo g : Nat) (b : List UInt8) (r : List UInt8 × Nat × Nat) (w : World) (e : Ending) (w' : World) : Prop :=
  ∃ v, e = .returned v ∧ OB w' w.heap.size v r.1 ∧ Rdr w' lo g b r.2.1 r.2.2 ∧ Kept (fun k => k = g) w w'

set_option maxHeartbeats 1000000 in
set_option maxRecDepth 100000 in
theorem bytes_any (lo g at_ err lim : Nat) (most : Int) (b : List UInt8) (w : World) (hr : Rdr w lo g b at_ err) (hlim : lim = most.toNat) (h1 : most ≤ 9223372036854775807) :
    Calls Try.prog 69 #[.pointer (some ⟨g, 0, none⟩), .int .i64 most] w (GotB lo g b (readBytes b at_ err lim) w) := by
  have hg := hr.lt
  by_cases hm0 : most < 0
  · have hl0 : lim = 0 := by omega
    clear hlim
    subst hl0
    have e1 : Blk ((w.alloc (.cells #[.slice none 0 0] 29)).alloc (.cells #[.int .u64 0] 50)) w.heap.size 29 #[.slice none 0 0] := (Blk.new _ _ _).alloc _
    have e2 : Blk ((w.alloc (.cells #[.slice none 0 0] 29)).alloc (.cells #[.int .u64 0] 50)) (w.heap.size + 1) 50 #[.int .u64 0] := by
      have := Blk.new (w.alloc (.cells #[.slice none 0 0] 29)) 50 #[.int .u64 0]
      simpa using this
    have kk : Kept (fun k => k = g) w ((w.alloc (.cells #[.slice none 0 0] 29)).alloc (.cells #[.int .u64 0] 50)) := ((Kept.refl _ w).alloc _).alloc _
    have hr1 : Rdr ((w.alloc (.cells #[.slice none 0 0] 29)).alloc (.cells #[.int .u64 0] 50)) lo g b at_ err := hr.below (((Below.refl _ w).al _).al _)
    by_cases he : err = 0
    · have HN : Hid (readBytes b at_ err 0 = ((stepB (b.drop at_) 0).1, (afterB at_ (stepB (b.drop at_) 0)).1, (afterB at_ (stepB (b.drop at_) 0)).2)) := by
        rw [Hid, readBytes, if_neg (by simpa using he)]
      subst he
      generalize readBytes b at_ 0 0 = rn at HN
      go_enter Try.func69, Try.ntmps69
      go_wp2_with fail
      refine (readB_go lo g at_ _ _ 0 b _ hr1 (by omega) (e2.cell 0) (e1.cell 0) (e1.frozen 0)).mono ?_
      rintro e w1 ⟨rfl, r1, ⟨v, hv, ho⟩, hk⟩
      obtain ⟨A1, m1, c1, rfl, -, -, -⟩ := ho.got
      go_wp2_with fail
      go_ret
      rw [HN.out]
      exact ⟨_, rfl, ho.mono (by simp; omega), r1, kk.then_ hk (fun i hi h => by omega)⟩
    · have HN : Hid (readBytes b at_ err 0 = ([], at_, err)) := by rw [Hid, readBytes, if_pos he]
      have c2 := e1.cell 0
      generalize readBytes b at_ err 0 = rn at HN
      go_enter Try.func69, Try.ntmps69
      go_wp2_with fail
      refine (readN_err lo g at_ err _ b _ hr1 he).mono ?_
      rintro e w1 ⟨rfl, rfl⟩
      go_wp2_with fail
      go_ret
      rw [HN.out]
      exact ⟨_, rfl, OB.nil _ _, hr1, kk⟩
  · have hm : most = (lim : Int) := by omega
    clear hlim
    subst hm
    have e1 : Blk ((w.alloc (.cells #[.slice none 0 0] 29)).alloc (.cells #[.int .u64 (lim : Int)] 50)) w.heap.size 29 #[.slice none 0 0] := (Blk.new _ _ _).alloc _
    have e2 : Blk ((w.alloc (.cells #[.slice none 0 0] 29)).alloc (.cells #[.int .u64 (lim : Int)] 50)) (w.heap.size + 1) 50 #[.int .u64 (lim : Int)] := by
      have := Blk.new (w.alloc (.cells #[.slice none 0 0] 29)) 50 #[.int .u64 (lim : Int)]
      simpa using this
    have kk : Kept (fun k => k = g) w ((w.alloc (.cells #[.slice none 0 0] 29)).alloc (.cells #[.int .u64 (lim : Int)] 50)) := ((Kept.refl _ w).alloc _).alloc _
    have hr1 : Rdr ((w.alloc (.cells #[.slice none 0 0] 29)).alloc (.cells #[.int .u64 (lim : Int)] 50)) lo g b at_ err := hr.below (((Below.refl _ w).al _).al _)
    by_cases he : err = 0
    · have HN : Hid (readBytes b at_ err lim = ((stepB (b.drop at_) lim).1, (afterB at_ (stepB (b.drop at_) lim)).1, (afterB at_ (stepB (b.drop at_) lim)).2)) := by
        rw [Hid, readBytes, if_neg (by simpa using he)]
      subst he
      generalize readBytes b at_ 0 lim = rn at HN
      go_enter Try.func69, Try.ntmps69
      go_wp2_with fail
      refine (readB_go lo g at_ _ _ lim b _ hr1 (by omega) (e2.cell 0) (e1.cell 0) (e1.frozen 0)).mono ?_
      rintro e w1 ⟨rfl, r1, ⟨v, hv, ho⟩, hk⟩
      obtain ⟨A1, m1, c1, rfl, -, -, -⟩ := ho.got
      go_wp2_with fail
      go_ret
      rw [HN.out]
      exact ⟨_, rfl, ho.mono (by simp; omega), r1, kk.then_ hk (fun i hi h => by omega)⟩
    · have HN : Hid (readBytes b at_ err lim = ([], at_, err)) := by rw [Hid, readBytes, if_pos he]
      have c2 := e1.cell 0
      generalize readBytes b at_ err lim = rn at HN
      go_enter Try.func69, Try.ntmps69
      go_wp2_with fail
      refine (readN_err lo g at_ err _ b _ hr1 he).mono ?_
      rintro e w1 ⟨rfl, rfl⟩
      go_wp2_with fail
      go_ret
      rw [HN.out]
      exact ⟨_, rfl, OB.nil _ _, hr1, kk⟩

set_option maxHeartbeats 1000000 in
set_option maxRecDepth 100000 in
theorem text_any (lo g at_ err lim : Nat) (most : Int) (b : List UInt8) (w : World) (hr : Rdr w lo g b at_ err) (hlim : lim = most.toNat) (h1 : most ≤ 9223372036854775807) :
    Calls Try.prog 52 #[.pointer (some ⟨g, 0, none⟩), .int .i64 most] w
      fun e w' => e = .returned (.string ⟨(readBytes b at_ err lim).1.toArray⟩) ∧ Rdr w' lo g b (readBytes b at_ err lim).2.1 (readBytes b at_ err lim).2.2 ∧ Kept (fun k => k = g) w w' := by
  have HC := Lib.hid (bytes_any lo g at_ err lim most b w hr hlim h1)
  generalize readBytes b at_ err lim = rn at *
  clear hlim
  go_enter Try.func52, Try.ntmps52
  go_wp2_with fail
  refine HC.out.mono ?_
  rintro e w1 ⟨v, rfl, ho, hr1, hk⟩
  obtain ⟨A1, m1, c1, rfl, -, -, r1⟩ := ho.got
  have hcv := run_text c1 r1
  go_wp2_with fail
  go_ret
  exact ⟨rfl, hr1, hk⟩
end Go.Proofs.Ytidppcaohkfnfaa
