
/-
  package hash: bytes are taken in.
-/
import Derived.Test.YtidppcaohkfnfaaH3
import Derived.Laws.Cover3
namespace Go.Proofs.Ytidppcaohkfnfaa
open Go.RowKit

/-- The byte at a place of bytes that are filled up: a 1 behind them, then 0. -/
def pad (l : List UInt8) (i : Nat) : Int := match l[i]? with
  | some c => (c.toNat : Int)
  | none => if i = l.length then 1 else 0
theorem pad_in {l : List UInt8} {i : Nat} (h : i < l.length) : pad l i = ((l[i]'h).toNat : Int) := by simp [pad, h]
theorem pad_end (l : List UInt8) : pad l l.length = 1 := by simp [pad]
theorem pad_out {l : List UInt8} {i : Nat} (h : l.length < i) : pad l i = 0 := by
  simp only [pad, List.getElem?_eq_none (Nat.le_of_lt h)]
  rw [if_neg (by omega)]
theorem pad_by (l : List UInt8) : By (pad l) := by
  intro i
  unfold pad
  split
  · next c _ => have := c.toNat_lt; omega
  · split <;> omega
/-- The eight bytes of a place. -/
def word (l : List UInt8) (k j : Nat) : Int := pad l (8 * k + j)
theorem word_by (l : List UInt8) (k : Nat) : By (word l k) := fun _ => pad_by l _
/-- So many eights are taken in. -/
def wordsTo (l : List UInt8) (s : S4) : Nat → S4
  | 0 => s
  | k + 1 => inS (wordsTo l s k) (num8 (word l k))
/-- Bytes are taken in. -/
def bytesS (s : S4) (l : List UInt8) : S4 := inS (wordsTo l s (l.length / 8 + 1)) l.length
def beg (kind : Int) : S4 := ⟨2611923443488327891, 1376283091369227076, 11820040416388919760, kind⟩
/-- The digest that a state gives. -/
def outS (s : S4) : Nat → Int := dig (xr s.a s.c)
/-- The digest of bytes. -/
def hashOf (l : List UInt8) : Nat → Int := outS (bytesS (beg 1) l)
theorem xr_range (a b : Int) : 0 ≤ xr a b ∧ xr a b ≤ 18446744073709551615 := by
  unfold xr bits
  simp only
  rw [IntKind.wrap_u64]
  omega

set_option maxHeartbeats 1000000 in
set_option maxRecDepth 100000 in
theorem whole_any (g t : Nat) (s : S4) (A : Option Addr) (n c : Nat) (l : List UInt8) (w : World) (hb : Blk w g t (sc s)) (hr : RIn (fun k => k ≠ g) w A n l) (hc : n ≤ c) (hn : c ≤ 9223372036854775807) :
    Calls Try.prog 75 #[.pointer (some ⟨g, 0, none⟩), .slice A n c] w fun e w' => e = .returned (.tuple #[]) ∧ Blk w' g t (sc (wordsTo l s (n / 8))) ∧ Kept (fun k => k = g) w w' := by
  have hm : (n : Int) / 8 = ((n / 8 : Nat) : Int) := by omega
  have hm8 : (n / 8) * 8 ≤ n := by omega
  generalize n / 8 = m at *
  have HR := Lib.hid hr
  clear hr
  go_enter Try.func75, Try.ntmps75
  go_wp2
  go_loopw [8] (fun i wr => ∃ k : Nat, k ≤ m ∧ i = .int .i64 k ∧ Blk wr g t (sc (wordsTo l s k)) ∧ Kept (fun k => k = g) w wr) (fun i _ => m - (intOf i).toNat)
  case atStart => exact ⟨0, by omega, rfl, hb, Kept.refl _ _⟩
  case round =>
    clear hb
    obtain ⟨k, hk, rfl, hb, kk⟩ := hrel
    by_cases hlt : k < m
    · have rr := (HR.out.kept kk (fun k h => h)).rb
      have hlen := HR.out.1
      obtain ⟨b, o, rfl, hbl, _, _⟩ := rr.at_ (k := 8 * k) (by omega)
      have cells : ∀ j, j < 8 → wr.cell? ⟨b, o + (8 * k + j), none⟩ = some (.int .u8 (word l k j)) := by
        intro j hj
        obtain ⟨b', o', e, _, hl, hcell⟩ := rr.at_ (k := 8 * k + j) (by omega)
        injection e with e
        injection e with e1 e2 e3
        subst e1 e2
        rw [hcell, word, pad_in hl]
      have e0 : wr.cell? ⟨b, o + k * 8, none⟩ = some (.int .u8 (word l k 0)) := by have := cells 0 (by omega); rwa [show o + (8 * k + 0) = o + k * 8 from by omega] at this
      have e1 : wr.cell? ⟨b, o + k * 8 + 1, none⟩ = some (.int .u8 (word l k 1)) := by have := cells 1 (by omega); rwa [show o + (8 * k + 1) = o + k * 8 + 1 from by omega] at this
      have e2 : wr.cell? ⟨b, o + k * 8 + 2, none⟩ = some (.int .u8 (word l k 2)) := by have := cells 2 (by omega); rwa [show o + (8 * k + 2) = o + k * 8 + 2 from by omega] at this
      have e3 : wr.cell? ⟨b, o + k * 8 + 3, none⟩ = some (.int .u8 (word l k 3)) := by have := cells 3 (by omega); rwa [show o + (8 * k + 3) = o + k * 8 + 3 from by omega] at this
      have e4 : wr.cell? ⟨b, o + k * 8 + 4, none⟩ = some (.int .u8 (word l k 4)) := by have := cells 4 (by omega); rwa [show o + (8 * k + 4) = o + k * 8 + 4 from by omega] at this
      have e5 : wr.cell? ⟨b, o + k * 8 + 5, none⟩ = some (.int .u8 (word l k 5)) := by have := cells 5 (by omega); rwa [show o + (8 * k + 5) = o + k * 8 + 5 from by omega] at this
      have e6 : wr.cell? ⟨b, o + k * 8 + 6, none⟩ = some (.int .u8 (word l k 6)) := by have := cells 6 (by omega); rwa [show o + (8 * k + 6) = o + k * 8 + 6 from by omega] at this
      have e7 : wr.cell? ⟨b, o + k * 8 + 7, none⟩ = some (.int .u8 (word l k 7)) := by have := cells 7 (by omega); rwa [show o + (8 * k + 7) = o + k * 8 + 7 from by omega] at this
      have HB := Lib.hid hb
      clear cells rr hb
      have HL := Lib.hid hlen
      clear hlen
      have g0 : (0 : Int) ≤ (k : Int) * 8 := by omega
      have g1 : (k : Int) * 8 + 8 ≤ (c : Int) := by omega
      have hat : ∀ w, (Instr.arrayAt 88 (.slice (some ⟨b, o + k * 8, none⟩) 8 (c - k * 8))).run Try.prog w = .ok (.pointer (some ⟨b, o + k * 8, none⟩)) w := fun w => run_arrayAt w 88 _ 8 _ 8 _ Try.underlying88 (Nat.le_refl _)
      go_wp2_with fail
      refine (hnum_any (word l k) _ (word_by l k)).mono ?_
      rintro e w1 ⟨rfl, b1⟩
      have hb1 := HB.out.below b1 HB.out.lt
      clear e0 e1 e2 e3 e4 e5 e6 e7
      go_wp2_with fail
      refine (take_any g t _ _ w1 hb1).mono ?_
      rintro e w2 ⟨rfl, hb2, k2⟩
      have kk2 := (kk.below_ b1).trans k2
      go_wp2_with fail
      go_roundw
      case rel => exact ⟨k + 1, by omega, by go_num, hb2, kk2⟩
      case measure => simp [intOf]; omega
    · obtain rfl : k = m := by omega
      have HB := Lib.hid hb
      clear hb
      go_wp2_with fail
      go_end0
      exact ⟨rfl, HB.out, kk⟩

theorem Blk.eight {w : World} {g : Nat} {t : TypeId} {c0 c1 c2 c3 c4 c5 c6 c7 : Value} (h : Blk w g t #[c0, c1, c2, c3, c4, c5, c6, c7]) :
    (w.cell? ⟨g, 0, none⟩ = some c0 ∧ w.cell? ⟨g, 1, none⟩ = some c1 ∧ w.cell? ⟨g, 2, none⟩ = some c2 ∧ w.cell? ⟨g, 3, none⟩ = some c3 ∧ w.cell? ⟨g, 4, none⟩ = some c4 ∧ w.cell? ⟨g, 5, none⟩ = some c5 ∧ w.cell? ⟨g, 6, none⟩ = some c6 ∧ w.cell? ⟨g, 7, none⟩ = some c7) ∧
    w.frozen? ⟨g, 0, none⟩ = false ∧ w.frozen? ⟨g, 1, none⟩ = false ∧ w.frozen? ⟨g, 2, none⟩ = false ∧ w.frozen? ⟨g, 3, none⟩ = false ∧ w.frozen? ⟨g, 4, none⟩ = false ∧ w.frozen? ⟨g, 5, none⟩ = false ∧ w.frozen? ⟨g, 6, none⟩ = false ∧ w.frozen? ⟨g, 7, none⟩ = false :=
  ⟨⟨h.cell 0, h.cell 1, h.cell 2, h.cell 3, h.cell 4, h.cell 5, h.cell 6, h.cell 7⟩, h.frozen 0, h.frozen 1, h.frozen 2, h.frozen 3, h.frozen 4, h.frozen 5, h.frozen 6, h.frozen 7⟩
/-- Eight stores into a block that is new. -/
theorem Below.set8 {w wr : World} {g : Nat} (h : Below w.heap.size w wr) (hg : w.heap.size ≤ g) (v0 v1 v2 v3 v4 v5 v6 v7 : Value) :
    Below w.heap.size w ((((((((wr.setCell ⟨g, 0, none⟩ v0).setCell ⟨g, 1, none⟩ v1).setCell ⟨g, 2, none⟩ v2).setCell ⟨g, 3, none⟩ v3).setCell ⟨g, 4, none⟩ v4).setCell ⟨g, 5, none⟩ v5).setCell ⟨g, 6, none⟩ v6).setCell ⟨g, 7, none⟩ v7) :=
  (((((((h.setCell hg _).setCell hg _).setCell hg _).setCell hg _).setCell hg _).setCell hg _).setCell hg _).setCell hg _
theorem far8 {w : World} {g h : Nat} (hne : g ≠ h) (i : Nat) (v0 v1 v2 v3 v4 v5 v6 v7 : Value) :
    ((((((((w.setCell ⟨h, 0, none⟩ v0).setCell ⟨h, 1, none⟩ v1).setCell ⟨h, 2, none⟩ v2).setCell ⟨h, 3, none⟩ v3).setCell ⟨h, 4, none⟩ v4).setCell ⟨h, 5, none⟩ v5).setCell ⟨h, 6, none⟩ v6).setCell ⟨h, 7, none⟩ v7).cell? ⟨g, i, none⟩ = w.cell? ⟨g, i, none⟩ := by
  have f : ∀ (W : World) (j : Nat) (v : Value), (W.setCell ⟨h, j, none⟩ v).cell? ⟨g, i, none⟩ = W.cell? ⟨g, i, none⟩ := fun W j v => World.cell?_setCell_other W ⟨h, j, none⟩ ⟨g, i, none⟩ v (fun e => hne (by injection e with e1; exact e1.symm))
  rw [f, f, f, f, f, f, f, f]
abbrev zero8 : Array Value := #[.int .u8 0, .int .u8 0, .int .u8 0, .int .u8 0, .int .u8 0, .int .u8 0, .int .u8 0, .int .u8 0]

set_option maxHeartbeats 1000000 in
set_option maxRecDepth 100000 in
theorem gives_any (g t : Nat) (s : S4) (w : World) (hb : Blk w g t (sc s)) :
    Calls Try.prog 65 #[.pointer (some ⟨g, 0, none⟩)] w fun e w' => e = .returned (dv (outS s)) ∧ Below w.heap.size w w' := by
  have hr := xr_range s.a s.c
  have c0 : w.cell? ⟨g, 0, none⟩ = some (.int .u64 s.a) := hb.cell 0
  have c2 : w.cell? ⟨g, 2, none⟩ = some (.int .u64 s.c) := hb.cell 2
  have hlt := hb.lt
  go_enter Try.func65, Try.ntmps65
  go_wp2_with fail
  have y0 := (Blk.new w 88 zero8).drew
  have hb0 : Blk (w.alloc (.cells zero8 88)).drew g t (sc s) := (hb.alloc _).drew
  have ylt := y0.lt
  have hblt := hb0.lt
  have p0 : (w.alloc (.cells zero8 88)).drew.cell? ⟨g, 0, none⟩ = some (.int .u64 s.a) ∧ (w.alloc (.cells zero8 88)).drew.cell? ⟨g, 2, none⟩ = some (.int .u64 s.c) := ⟨hb0.cell 0, hb0.cell 2⟩
  have hx : bits .xor .u64 s.a s.c = xr s.a s.c := rfl
  have HB := Lib.hid hb0
  have HY := Lib.hid y0
  have hne : g ≠ w.heap.size := by have := hb.lt; omega
  clear hb0 y0 c0 c2 hb
  go_region_held3 (fun w' => w'.cell? ⟨g, 0, none⟩ = some (.int .u64 s.a) ∧ w'.cell? ⟨g, 2, none⟩ = some (.int .u64 s.c)) (first | (with_reducible exact p0) | (with_reducible exact p1) | exact ⟨(far8 hne _ _ _ _ _ _ _ _ _).trans p1.1, (far8 hne _ _ _ _ _ _ _ _ _).trans p1.2⟩)
    (first | (go_at_call 77; refine (fromNum_any (xr s.a s.c) _ hr.1 hr.2).mono ?_; rintro e w1 ⟨rfl, b1⟩; have p1 : w1.cell? ⟨g, 0, none⟩ = some (.int .u64 s.a) ∧ w1.cell? ⟨g, 2, none⟩ = some (.int .u64 s.c) := ⟨(HB.out.below b1 hblt).cell 0, (HB.out.below b1 hblt).cell 2⟩; obtain ⟨⟨k0, k1, k2, k3, k4, k5, k6, k7⟩, f0, f1, f2, f3, f4, f5, f6, f7⟩ := (HY.out.below b1 ylt).eight))
  go_wp2_with fail
  refine bodyPost_ret (v := dv (outS s)) (by simp [results, Try.results65, go_sem, outS, k0, k1, k2, k3, k4, k5, k6, k7]) rfl ⟨rfl, ?_⟩
  exact Below.set8 ((((Below.refl _ w).al _).drew).then_ b1) (Nat.le_refl _) _ _ _ _ _ _ _ _
end Go.Proofs.Ytidppcaohkfnfaa
