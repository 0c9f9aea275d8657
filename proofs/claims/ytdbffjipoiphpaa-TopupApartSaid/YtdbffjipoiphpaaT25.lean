/-
  A bank that is raised, as laws see it; what Put, Open and Stakes tell of it.
-/
import Derived.Test.YtdbffjipoiphpaaT21
import Derived.Test.YtdbffjipoiphpaaT24
namespace Go.Proofs.Ytdbffjipoiphpaa
open Go.RowKit

/-- A raised bank in memory, with the stakes and adds that it was made of; those in V have laid. -/
def RA (w : World) (m : Nat) (A A' : Option Addr) (s a : List Int) (g gs cs : Nat) (V : Nat → Bool) (W : World) : Prop :=
  ∃ S wp b, BAt W S g gs cs wp b ∧ (∀ k, S k → m ≤ k) ∧ PS s a V b ∧ Reads W m 1 A s.length (s.map (Value.int .i64)) ∧ Reads W m 1 A' s.length (a.map (Value.int .i64)) ∧ w.heap.size ≤ m ∧ m ≤ W.heap.size ∧ Below w.heap.size w W ∧ RsOk s a
section
variable {w W W' : World} {m : Nat} {A A' : Option Addr} {s a : List Int} {g gs cs : Nat} {V : Nat → Bool}
theorem RA.below (h : RA w m A A' s a g gs cs V W) (hb : Below W.heap.size W W') : RA w m A A' s a g gs cs V W' := by
  obtain ⟨S, wp, b, h1, h2, h3, h4, h5, h6, h7, h8, h9⟩ := h
  have hb' := hb.mono h7
  exact ⟨S, wp, b, h1.below hb, h2, h3, Reads.below h4 hb', Reads.below h5 hb', h6, by have := hb.size; omega, h8.then_ hb, h9⟩
theorem RA.fr (h : RA w m A A' s a g gs cs V W) : Below w.heap.size w W := by
  obtain ⟨S, wp, b, h1, h2, h3, h4, h5, h6, h7, h8, h9⟩ := h
  exact h8
theorem RA.ok (h : RA w m A A' s a g gs cs V W) : RsOk s a := by
  obtain ⟨S, wp, b, h1, h2, h3, h4, h5, h6, h7, h8, h9⟩ := h
  exact h9
theorem RA.s_ (h : RA w m A A' s a g gs cs V W) : RI W A s.length s := by
  obtain ⟨S, wp, b, h1, h2, h3, h4, h5, h6, h7, h8, h9⟩ := h
  exact h4.more h7
theorem RA.a_ (h : RA w m A A' s a g gs cs V W) : RI W A' s.length a := by
  obtain ⟨S, wp, b, h1, h2, h3, h4, h5, h6, h7, h8, h9⟩ := h
  exact h5.more h7
theorem RA.drew (h : RA w m A A' s a g gs cs V W) : RA w m A A' s a g gs cs V W.drew := h.below (Below.refl _ W).drew
theorem RA.drewN (h : RA w m A A' s a g gs cs V W) (n : Nat) : RA w m A A' s a g gs cs V (W.drewN n) := h.below (below_drewN (Below.refl _ W) n)
theorem RA.al (h : RA w m A A' s a g gs cs V W) (o : Obj) : RA w m A A' s a g gs cs V (W.alloc o) := h.below ((Below.refl _ W).al o)

/-- Put says z, and afterwards those in V have laid. -/
def PutSays (w : World) (m : Nat) (A A' : Option Addr) (s a : List Int) (g gs cs : Nat) (V : Nat → Bool) (P : Int → Prop) (e : Ending) (W' : World) : Prop :=
  ∃ z, e = .returned (.int .i64 z) ∧ P z ∧ RA w m A A' s a g gs cs V W'

theorem put_says (h : RA w m A A' s a g gs cs V W) (i : Nat) (amt : Int) (_hi : i < s.length) (P : Int → Prop) (V' : Nat → Bool)
    (hP : ∀ b, PS s a V b → (putE b 60 i amt = 0 → P 0 ∧ PS s a V' (putB b i)) ∧ (putE b 60 i amt ≠ 0 → P (putE b 60 i amt) ∧ PS s a V' b)) :
    Calls Try.prog 16 #[.pointer (some ⟨g, 0, none⟩), .int .i64 60, .int .i64 (i : Int), .int .i64 amt] W (PutSays w m A A' s a g gs cs V' P) := by
  obtain ⟨S, wp, b, h1, h2, h3, h4, h5, h6, h7, h8, h9⟩ := h
  by_cases he : putE b 60 i amt = 0
  · refine (put_yes S g gs cs wp b 60 i amt W h1 he).mono ?_
    rintro e W' ⟨rfl, wp', B', k'⟩
    obtain ⟨q1, q2⟩ := (hP b h3).1 he
    rw [Int.toNat_natCast] at B'
    have hb' : Below m W W' := k'.to_below h7 (fun q hq hS => by have := h2 q hS; omega)
    exact ⟨0, rfl, q1, S, wp', _, B', h2, q2, Reads.below h4 hb', Reads.below h5 hb', h6, by have := hb'.size; omega, h8.trans (hb'.mono h6), h9⟩
  · refine (put_no S g gs cs wp b 60 i amt W h1 he).mono ?_
    rintro e W' ⟨rfl, hb⟩
    obtain ⟨q1, q2⟩ := (hP b h3).2 he
    have hb' := hb.mono h7
    exact ⟨_, rfl, q1, S, wp, b, h1.below hb, h2, q2, Reads.below h4 hb', Reads.below h5 hb', h6, by have := hb.size; omega, h8.then_ hb, h9⟩

/-- Whatever is laid rightly, once more has laid. -/
theorem put_laid (h : RA w m A A' s a g gs cs V W) (i : Nat) (hi : i < s.length) :
    Calls Try.prog 16 #[.pointer (some ⟨g, 0, none⟩), .int .i64 60, .int .i64 (i : Int), .int .i64 (a.getD i 0)] W (PutSays w m A A' s a g gs cs (upd V i) fun _ => True) := by
  refine put_says h i _ hi _ _ fun b hb => ?_
  rcases hb with ⟨L, rfl, hw⟩ | ⟨rfl, hd⟩
  · refine ⟨fun _ => ⟨trivial, PS_put h.ok hw hi⟩, fun he => ⟨trivial, ?_⟩⟩
    rw [put_w hi, if_pos rfl] at he
    split at he
    · rename_i hl
      rw [hw.laid i hi, Bool.or_eq_true] at hl
      exact PS_skip (.inl ⟨L, rfl, hw⟩) (by rcases hl with h1 | h1; exact .inl (by simpa using h1); exact .inr h1)
    · exact absurd rfl he
  · refine ⟨fun he => ?_, fun _ => ⟨trivial, ?_⟩⟩
    · rw [put_d] at he; omega
    · have := hd i hi
      rw [Bool.or_eq_true] at this
      exact PS_skip (.inr ⟨rfl, hd⟩) (by rcases this with h1 | h1; exact .inl (by simpa using h1); exact .inr h1)
theorem put_zero (h : RA w m A A' s a g gs cs V W) (i : Nat) (hi : i < s.length) (hz : a.getD i 0 = 0) :
    Calls Try.prog 16 #[.pointer (some ⟨g, 0, none⟩), .int .i64 60, .int .i64 (i : Int), .int .i64 0] W (PutSays w m A A' s a g gs cs (upd V i) fun z => (z == 0) = false) := by
  refine put_says h i _ hi _ _ fun b hb => ?_
  have hsk := PS_skip (i := i) hb (.inl hz)
  rcases hb with ⟨L, rfl, hw⟩ | ⟨rfl, hd⟩
  · have e : putE (rsW s a L) 60 i 0 = 7 := by
      rw [put_w hi, if_pos]
      rw [hw.laid i hi, hz]; rfl
    rw [e]
    exact ⟨fun h => by omega, fun _ => ⟨by decide, hsk⟩⟩
  · rw [put_d]
    exact ⟨fun h => by omega, fun _ => ⟨by decide, hsk⟩⟩
theorem put_more (h : RA w m A A' s a g gs cs V W) (i : Nat) (amt : Int) (hi : i < s.length) (hz : (a.getD i 0 == 0 || V i) = false) (hm : amt ≠ a.getD i 0) :
    Calls Try.prog 16 #[.pointer (some ⟨g, 0, none⟩), .int .i64 60, .int .i64 (i : Int), .int .i64 amt] W (PutSays w m A A' s a g gs cs V fun z => z = 22) := by
  refine put_says h i _ hi _ _ fun b hb => ?_
  have hb0 := hb
  rcases hb with ⟨L, rfl, hw⟩ | ⟨rfl, hd⟩
  · have e : putE (rsW s a L) 60 i amt = 22 := by
      rw [put_w hi, if_neg, if_neg hm]
      rw [hw.laid i hi, hz]; simp
    rw [e]
    exact ⟨fun h => by omega, fun _ => ⟨rfl, hb0⟩⟩
  · rw [hd i hi] at hz
    cases hz
theorem put_right (h : RA w m A A' s a g gs cs V W) (i : Nat) (hi : i < s.length) (hz : (a.getD i 0 == 0 || V i) = false) :
    Calls Try.prog 16 #[.pointer (some ⟨g, 0, none⟩), .int .i64 60, .int .i64 (i : Int), .int .i64 (a.getD i 0)] W (PutSays w m A A' s a g gs cs (upd V i) fun z => z = 0) := by
  refine put_says h i _ hi _ _ fun b hb => ?_
  rcases hb with ⟨L, rfl, hw⟩ | ⟨rfl, hd⟩
  · have e : putE (rsW s a L) 60 i (a.getD i 0) = 0 := by
      rw [put_w hi, if_neg, if_pos rfl]
      rw [hw.laid i hi, hz]; simp
    rw [e]
    exact ⟨fun _ => ⟨rfl, PS_put h.ok hw hi⟩, fun h => absurd rfl h⟩
  · rw [hd i hi] at hz
    cases hz
theorem put_twice (h : RA w m A A' s a g gs cs V W) (i : Nat) (hi : i < s.length) (hz : (a.getD i 0 == 0 || V i) = true) (hc : 0 < cnt a V s.length) :
    Calls Try.prog 16 #[.pointer (some ⟨g, 0, none⟩), .int .i64 60, .int .i64 (i : Int), .int .i64 (a.getD i 0)] W (PutSays w m A A' s a g gs cs V fun z => z = 7) := by
  refine put_says h i _ hi _ _ fun b hb => ?_
  have hb0 := hb
  obtain ⟨L, rfl, hw⟩ := PS_waits hb hc
  have e : putE (rsW s a L) 60 i (a.getD i 0) = 7 := by
    rw [put_w hi, if_pos]
    rw [hw.laid i hi, hz]
  rw [e]
  exact ⟨fun h => by omega, fun _ => ⟨rfl, hb0⟩⟩

/-- What Open tells, as far as laws ask. -/
def OpenSays (w : World) (m : Nat) (A A' : Option Addr) (s a : List Int) (g gs cs : Nat) (V : Nat → Bool) (q : Bool) (e : Ending) (W' : World) : Prop :=
  ∃ (r0 r1 r2 r3 r4 r5 r6 r7 num till : Int) (B BL : Option Addr) (n c nl cl : Nat), e = .returned (.tuple #[.agg #[.int .u8 r0, .int .u8 r1, .int .u8 r2, .int .u8 r3, .int .u8 r4, .int .u8 r5, .int .u8 r6, .int .u8 r7, .int .i64 num, .slice B n c, .int .i64 till], .slice BL nl cl, .bool q]) ∧ RA w m A A' s a g gs cs V W'
theorem open_waits (h : RA w m A A' s a g gs cs V W) (hc : 0 < cnt a V s.length) : Calls Try.prog 12 #[.pointer (some ⟨g, 0, none⟩)] W (OpenSays w m A A' s a g gs cs V true) := by
  have h0 := h
  obtain ⟨S, wp, b, h1, h2, h3, h4, h5, h6, h7, h8, h9⟩ := h
  obtain ⟨L, rfl, hw⟩ := PS_waits h3 hc
  refine (open_some S g gs cs wp _ _ W h1 rfl).mono ?_
  rintro e W' ⟨ga, ca, gl, rfl, i1, i2, l1, l2, l3, hb⟩
  exact ⟨0, 0, 0, 0, 0, 0, 0, 0, 5, 100, _, _, _, _, _, _, rfl, h0.below hb⟩
theorem open_done (h : RA w m A A' s a g gs cs V W) (hc : cnt a V s.length = 0) : Calls Try.prog 12 #[.pointer (some ⟨g, 0, none⟩)] W (OpenSays w m A A' s a g gs cs V false) := by
  have h0 := h
  obtain ⟨S, wp, b, h1, h2, h3, h4, h5, h6, h7, h8, h9⟩ := h
  obtain rfl := PS_done h3 hc
  refine (open_none S g gs cs wp _ W h1 rfl).mono ?_
  rintro e W' ⟨rfl, hb⟩
  exact ⟨0, 0, 0, 0, 0, 0, 0, 0, 0, 0, _, _, _, _, _, _, rfl, h0.below hb⟩
/-- What Stakes tells. -/
def StakesSays (w : World) (m : Nat) (A A' : Option Addr) (s a : List Int) (g gs cs : Nat) (V : Nat → Bool) (l : List Int) (e : Ending) (W' : World) : Prop :=
  ∃ B c, e = .returned (.slice B s.length c) ∧ RI W' B s.length l ∧ RA w m A A' s a g gs cs V W'
theorem stakes_waits (h : RA w m A A' s a g gs cs V W) (hc : 0 < cnt a V s.length) : Calls Try.prog 21 #[.pointer (some ⟨g, 0, none⟩)] W (StakesSays w m A A' s a g gs cs V s) := by
  have h0 := h
  obtain ⟨S, wp, b, h1, h2, h3, h4, h5, h6, h7, h8, h9⟩ := h
  obtain ⟨L, rfl, hw⟩ := PS_waits h3 hc
  refine (stakes_any S g gs cs wp _ W h1).mono ?_
  rintro e W' ⟨g', c', rfl, i1, i2, hb⟩
  exact ⟨_, _, rfl, i2.ri, h0.below hb⟩
theorem stakes_done (h : RA w m A A' s a g gs cs V W) (hc : cnt a V s.length = 0) : Calls Try.prog 21 #[.pointer (some ⟨g, 0, none⟩)] W (StakesSays w m A A' s a g gs cs V (List.zipWith (· + ·) s a)) := by
  have h0 := h
  obtain ⟨S, wp, b, h1, h2, h3, h4, h5, h6, h7, h8, h9⟩ := h
  obtain rfl := PS_done h3 hc
  refine (stakes_any S g gs cs wp _ W h1).mono ?_
  rintro e W' ⟨g', c', rfl, i1, i2, hb⟩
  have hl : (rsD s a).stakes.length = s.length := by
    show (List.zipWith (· + ·) s a).length = _
    simp [h9.len]
  have hi := i2.ri
  rw [hl] at hi ⊢
  exact ⟨_, _, rfl, hi, h0.below hb⟩
/-- What is held of a raise that is done. -/
def SameSum (w : World) (m : Nat) (A A' : Option Addr) (s a : List Int) (g gs cs : Nat) (V : Nat → Bool) (z : Int) (e : Ending) (W' : World) : Prop := e = .returned (.int .i64 z) ∧ RA w m A A' s a g gs cs V W'
theorem held_done (h : RA w m A A' s a g gs cs V W) (hc : cnt a V s.length = 0) : Calls Try.prog 11 #[.pointer (some ⟨g, 0, none⟩)] W (SameSum w m A A' s a g gs cs V (List.zipWith (· + ·) s a).sum) := by
  have h0 := h
  obtain ⟨S, wp, b, h1, h2, h3, h4, h5, h6, h7, h8, h9⟩ := h
  obtain rfl := PS_done h3 hc
  refine (held_any S g gs cs wp _ W h1).mono ?_
  rintro e W' ⟨rfl, hb⟩
  exact ⟨by rw [heldB_none rfl]; rfl, h0.below hb⟩
theorem pot_done (h : RA w m A A' s a g gs cs V W) (hc : cnt a V s.length = 0) : Calls Try.prog 18 #[.pointer (some ⟨g, 0, none⟩)] W (SameSum w m A A' s a g gs cs V (List.zipWith (· + ·) s a).sum) := by
  have h0 := h
  obtain ⟨S, wp, b, h1, h2, h3, h4, h5, h6, h7, h8, h9⟩ := h
  obtain rfl := PS_done h3 hc
  refine (pot_any S g gs cs wp _ W h1).mono ?_
  rintro e W' ⟨rfl, rfl⟩
  exact ⟨rfl, h0⟩
end
end Go.Proofs.Ytdbffjipoiphpaa
