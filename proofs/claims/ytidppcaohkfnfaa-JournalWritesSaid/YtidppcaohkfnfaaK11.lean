
/-
  Journals: a round of Open.
-/
import Derived.Test.YtidppcaohkfnfaaK10
import Derived.Deep.LoopGhost
namespace Go.Proofs.Ytidppcaohkfnfaa
open Go.RowKit

/-- An entry has been taken. -/
def JTook (w : World) (S D : Nat → Prop) (g : Nat) (es : List En) (x : En) (e : Ending) (w' : World) : Prop :=
  e = .returned (.tuple #[]) ∧ ∃ S', Jn w' S' g (es ++ [x]) ∧ (∀ k, S' k → S k ∨ (D k ∧ k < w.heap.size) ∨ w.heap.size ≤ k) ∧ (∀ k, S k → S' k) ∧ Kept S w w'
theorem jtake_jn (S D : Nat → Prop) (g : Nat) (es : List En) (m : Me) (w : World) (h : Jn w S g es) (hm : m.Ok D w) (hr : m.Right) (hn : es.length ≤ 70000) (hD : ∀ k, D k → ¬ S k) :
    Calls Try.prog 40 #[.pointer (some ⟨g, 0, none⟩), m.val] w (JTook w S D g es m.en) := by
  obtain ⟨r, v, ms, hj, rfl⟩ := h
  rw [List.length_map] at hn
  refine (jtake_any S D g r v ms m w hj hm hr hn (fun k hk => ⟨fun e => hD k hk (e ▸ hj.inG), fun e => hD k hk (e ▸ hj.inR), fun e => hD k hk (hj.inV k e).1⟩)).mono ?_
  rintro e w' ⟨rfl, v', hj', hk⟩
  refine ⟨rfl, _, ⟨r, v', ms ++ [m], hj', by rw [List.map_append]; rfl⟩, ?_, fun k hk => .inl hk, hk.mono (fun z _ hz => ?_)⟩
  · rintro k (hk | hk | hk)
    · exact .inl hk
    · exact .inr (.inl hk)
    · exact .inr (.inr hk.1)
  · rcases hz with rfl | rfl | hz
    · exact hj.inG
    · exact hj.inR
    · exact (hj.inV z hz).1

/-- What a round of Open does. -/
def Nexts (w : World) (S : Nat → Prop) (g ax : Nat) (es : List En) (b : List UInt8) (p : Nat) (e : Ending) (w' : World) : Prop :=
  Kept (fun k => S k ∨ k = ax) w w' ∧
    ((∃ x S', e = .returned (.bool true) ∧ Begins (b.drop p) x ∧ Jn w' S' g (es ++ [x]) ∧ (∀ k, S' k → S k ∨ w.heap.size ≤ k) ∧ w'.cell? ⟨ax, 0, none⟩ = some (.int .i64 (((p + (entryB D8 x).length : Nat) : Int))) ∧ w'.frozen? ⟨ax, 0, none⟩ = false) ∨
     (e = .returned (.bool false) ∧ (∀ x, ¬ Begins (b.drop p) x) ∧ Jn w' S g es ∧ w'.cell? ⟨ax, 0, none⟩ = some (.int .i64 (p : Int))))

set_option maxHeartbeats 2000000 in
set_option maxRecDepth 100000 in
theorem next_any (S : Nat → Prop) (g ax bx jx : Nat) (es : List En) (A : Option Addr) (n c p : Nat) (b : List UInt8) (w : World) (hj : Jn w S g es) (ha : RB w A n b) (hc : n ≤ c) (hcm : c ≤ 9223372036854775807) (hn : n ≤ 65536) (hp : p < n) (hes : es.length ≤ 65536)
    (hb : w.cell? ⟨bx, 0, none⟩ = some (.slice A n c)) (hat : w.cell? ⟨ax, 0, none⟩ = some (.int .i64 (p : Int))) (hf : w.frozen? ⟨ax, 0, none⟩ = false) (hjx : w.cell? ⟨jx, 0, none⟩ = some (.pointer (some ⟨g, 0, none⟩)))
    (n1 : ¬ S ax) :
    Calls Try.prog 38 #[.pointer (some ⟨bx, 0, none⟩), .pointer (some ⟨ax, 0, none⟩), .pointer (some ⟨jx, 0, none⟩)] w (Nexts w S g ax es b p) := by
  obtain ⟨bb, o, rfl, hbb, hbl, -⟩ := ha.at_ (k := 0) (by omega)
  have hcut := ha.cut (k := p) (cap := c) (by omega) hc
  rw [if_neg (by omega)] at hcut
  have hadr : (some (⟨bb, o, none⟩ : Addr)).map (·.add p) = some ⟨bb, o + p, none⟩ := by simp [Addr.add_lit]
  rw [hadr] at hcut
  have g1 : (0 : Int) ≤ (p : Int) := by omega
  have g2 : (p : Int) ≤ (n : Int) := by omega
  have g3 : (n : Int) ≤ (c : Int) := by omega
  have g4 : ¬ c = p := by omega
  have HJ := Lib.hid hj
  have axl : ax < w.heap.size := lt_of_cell' hat
  have jxl : jx < w.heap.size := lt_of_cell' hjx
  have HL := Lib.hid ha.len
  clear hj ha hadr
  go_enter Try.func38, Try.ntmps38
  go_wp2_with fail
  refine (whole_any' (some ⟨bb, o + p, none⟩) (n - p) (c - p) (b.drop p) w hcut (by omega) (by omega) (by omega)).mono ?_
  rintro e w1 ⟨b1, hcase⟩
  have at1 : w1.cell? ⟨ax, 0, none⟩ = some (.int .i64 (p : Int)) := (b1.cell (p := ⟨ax, 0, none⟩) axl).trans hat
  have jx1 : w1.cell? ⟨jx, 0, none⟩ = some (.pointer (some ⟨g, 0, none⟩)) := (b1.cell (p := ⟨jx, 0, none⟩) jxl).trans hjx
  have J1 := HJ.out.below b1
  have z1 := b1.size
  have JL := Lib.hid HJ.out.lt
  rcases hcase with ⟨m, rfl, hbg, hok, hri⟩ | ⟨rfl, hno⟩
  · have HB := Lib.hid hbg
    have HOK := Lib.hid hok
    have HRI := Lib.hid hri
    have hlen : (entryB D8 m.en).length ≤ n := by
      obtain ⟨hr, r, hb⟩ := hbg
      have := congrArg List.length hb
      rw [List.length_drop, List.length_append, ← HL.out] at this
      omega
    have hlp : (entryB D8 m.en).length + p ≤ n := by
      obtain ⟨hr, r, hb⟩ := hbg
      have := congrArg List.length hb
      rw [List.length_drop, List.length_append, ← HL.out] at this
      omega
    obtain ⟨L, hL⟩ : ∃ L, (entryB D8 m.en).length = L := ⟨_, rfl⟩
    rw [hL] at hlen hlp ⊢
    have HLL := Lib.hid hL
    have hL2 : L ≤ 65536 := by omega
    clear hL hbg hok hri hcut hb hat hjx
    have f1 : w1.frozen? ⟨ax, 0, none⟩ = false := (b1.frozen (p := ⟨ax, 0, none⟩) axl).trans hf
    obtain ⟨mk, mks, mA, mn, mc, mb⟩ := m
    unfold Me.val
    have b2 : Below w1.heap.size w1 (w1.alloc (.cells #[.int .i64 mk, .string mks, .slice mA mn mc] 45)) := (Below.refl _ w1).al _
    have J2 := J1.below b2
    have ok2 := HOK.out.below b2
    have at2 : (w1.alloc (.cells #[.int .i64 mk, .string mks, .slice mA mn mc] 45)).cell? ⟨ax, 0, none⟩ = some (.int .i64 (p : Int)) := (b2.cell (p := ⟨ax, 0, none⟩) (by simp; omega)).trans at1
    have f2 : (w1.alloc (.cells #[.int .i64 mk, .string mks, .slice mA mn mc] 45)).frozen? ⟨ax, 0, none⟩ = false := (b2.frozen (p := ⟨ax, 0, none⟩) (by simp; omega)).trans f1
    have z2 := b2.size
    have hE2 : (w1.alloc (.cells #[.int .i64 mk, .string mks, .slice mA mn mc] 45)).cell? ⟨w1.heap.size, 0, none⟩ = some (.int .i64 mk) ∧ (w1.alloc (.cells #[.int .i64 mk, .string mks, .slice mA mn mc] 45)).cell? ⟨w1.heap.size, 1, none⟩ = some (.string mks) ∧ (w1.alloc (.cells #[.int .i64 mk, .string mks, .slice mA mn mc] 45)).cell? ⟨w1.heap.size, 2, none⟩ = some (.slice mA mn mc) := by
      have B := Blk.new w1 45 #[.int .i64 mk, .string mks, .slice mA mn mc]
      exact ⟨B.cell 0, B.cell 1, B.cell 2⟩
    clear hf
    go_upto_region 3 with fail
    generalize w1.alloc (.cells #[.int .i64 mk, .string mks, .slice mA mn mc] 45) = W2 at *
    have jx2 : W2.cell? ⟨jx, 0, none⟩ = some (.pointer (some ⟨g, 0, none⟩)) := (b2.cell (p := ⟨jx, 0, none⟩) (by simp; omega)).trans jx1
    have e2 : W2.cell? ⟨w1.heap.size, 0, none⟩ = some (.int .i64 mk) ∧ W2.cell? ⟨w1.heap.size, 1, none⟩ = some (.string mks) ∧ W2.cell? ⟨w1.heap.size, 2, none⟩ = some (.slice mA mn mc) := hE2
    obtain ⟨e20, e21, e22⟩ := e2
    go_wp2_with fail
    refine (jtake_jn S (fun k => w.heap.size ≤ k) g es ⟨mk, mks, mA, mn, mc, mb⟩ W2 J2 ok2 HRI.out (by omega) (fun k hk hs => by have := JL.out k hs; omega)).mono ?_
    rintro e w3 ⟨rfl, S', J3, s1, s2, k3⟩
    have at3 : w3.cell? ⟨ax, 0, none⟩ = some (.int .i64 (p : Int)) := (k3.cell (p := ⟨ax, 0, none⟩) (by simp; omega) n1).trans at2
    have f3 : w3.frozen? ⟨ax, 0, none⟩ = false := (k3.frozen (p := ⟨ax, 0, none⟩) (by simp; omega) n1).trans f2
    have hw : IntKind.i64.wrap ((p : Int) + (L : Int)) = (p : Int) + (L : Int) := IntWalk.i64_in _ (by omega)
    have z3 := k3.size
    clear at1 at2 f1 f2 jx1 jx2 e20 e21 e22 J2 J1 ok2
    go_wp2_with fail
    go_ret
    have kf : Kept (fun k => S k ∨ k = ax) w w3 := ((Kept.of_below (S := fun k => S k ∨ k = ax) (b1.then_ b2))).then_ (k3.mono (T := fun k => S k ∨ k = ax) (fun k _ h => .inl h)) (fun _ _ h => h)
    have ks : Kept (fun k => k = ax) w3 (w3.setCell ⟨ax, 0, none⟩ (.int .i64 ((p : Int) + (L : Int)))) := (Kept.refl (fun k => k = ax) w3).setCell (p := ⟨ax, 0, none⟩) (fun _ => rfl) _
    have hax : ¬ S' ax := fun h => by
      rcases s1 ax h with h | ⟨h, _⟩ | h
      · exact n1 h
      · omega
      · omega
    refine ⟨kf.then_ ks (fun i _ h => .inr h), .inl ⟨Me.en ⟨mk, mks, mA, mn, mc, mb⟩, S', rfl, HB.out, J3.kept ks (fun k hk e => hax (e ▸ hk)), ?_, ?_, ?_⟩⟩
    · intro k hk
      rcases s1 k hk with h | ⟨h, _⟩ | h
      · exact .inl h
      · exact .inr h
      · exact .inr (by omega)
    · rw [HLL.out, World.cell?_setCell_same _ _ _ at3]
      simp
    · exact (World.frozen?_setCell _ _ _ _).trans f3
  · have HNO := Lib.hid hno
    unfold zeroE
    clear hcut hb hat hf hjx hno
    go_wp2_with fail
    go_ret
    have b2 := (Below.refl _ w1).al (.cells #[.int .i64 0, .string ⟨#[]⟩, .slice none 0 0] 45)
    have b3 := b1.then_ b2
    exact ⟨Kept.of_below b3, .inr ⟨rfl, HNO.out, HJ.out.below b3, (b2.cell (p := ⟨ax, 0, none⟩) (by simp; omega)).trans at1⟩⟩
end Go.Proofs.Ytidppcaohkfnfaa
