
/-
  Journals: an entry's clone, its bytes.
-/
import Derived.Test.YtidppcaohkfnfaaK1
import Derived.Test.YtidppcaohkfnfaaKShelf
import Derived.Test.YtidppcaohkfnfaaRef
import Derived.Test.YtidppcaohkfnfaaRefSome
import Derived.IntWalk
namespace Go.Proofs.Ytidppcaohkfnfaa
open Go.RowKit

/-- A copy of bytes. -/
def GotC (w : World) (l : List UInt8) (e : Ending) (w' : World) : Prop := ∃ A n c, e = .returned (.slice A n c) ∧ n ≤ c ∧ c ≤ 9223372036854775807 ∧ OB w' w.heap.size (.slice A n c) l ∧ Below w.heap.size w w'
theorem GotC.rin {w w' : World} {A : Option Addr} {n c : Nat} {l : List UInt8} (h : OB w' w.heap.size (.slice A n c) l) : RIn (fun k => w.heap.size ≤ k) w' A n l := h.rin
theorem bclone_any (A : Option Addr) (n c : Nat) (l : List UInt8) (w : World) (hr : RB w A n l) (hn : n ≤ 140737488355328) :
    Calls Try.prog 55 #[.slice A n c] w (GotC w l) := by
  have hl := hr.len
  subst hl
  cases A with
  | none =>
    have h0 : l = [] := by
      rcases Nat.eq_zero_or_pos l.length with h0 | h0
      · exact List.eq_nil_of_length_eq_zero h0
      · obtain ⟨ad, e, _⟩ := hr.2 h0
        cases e
    subst h0
    refine (Try.bytes_Clone_nil _ c w).mono ?_
    rintro e w' ⟨rfl, rfl⟩
    exact ⟨none, 0, 0, rfl, Nat.le_refl _, by omega, OB.nil _ _, Below.refl _ _⟩
  | some a =>
    refine (Try.bytes_Clone_at a l.length c (l.map fun x => (x.toNat : Int)) w (by simp) hn (fun i hi => ?_)).mono ?_
    · rw [B8_cells hr rfl i hi]
      simp [List.getD, hi]
    · rintro e w' ⟨v, rfl, ho, _, hb⟩
      have ho' : OB w' w.heap.size v l := by
        rw [List.map_map] at ho
        exact ho
      obtain ⟨A', c', rfl, h1, h2, _⟩ := ho'.form
      exact ⟨A', _, c', rfl, h1, h2, ho', hb⟩

theorem RB.lit (w : World) (l : List UInt8) (cs : Array Value) (h : cs.toList = B8 l) (t : TypeId) (n : Nat) (hn : n = l.length) : RB (w.alloc (.cells cs t)) (some ⟨w.heap.size, 0, none⟩) n l := by
  subst hn
  refine ⟨by rw [B8_length]; simp, fun _ => ⟨_, rfl, by simp, fun j u hu => ?_⟩⟩
  rw [Addr.add_lit, Nat.zero_add]
  have : (w.alloc (.cells cs t)).cell? ⟨w.heap.size, j, none⟩ = cs[j]? := cell_of_row _ _ _ cs t (0, 0) (heap_alloc_new w _)
  rw [this, ← hu, ← h]
  simp
theorem OB.setLow {w : World} {base : Nat} {v : Value} {l : List UInt8} (h : OB w base v l) {p : Addr} (hp : p.block < base) (u : Value) : OB (w.setCell p u) base v l :=
  h.other' ((Kept.refl (fun k => k = p.block) w).setCell (p := p) (fun _ => rfl) u |>.to_grown) (fun g h => by injection h with h; omega)

/-- An entry's copy. -/
def GotE (w : World) (m : Me) (e : Ending) (w' : World) : Prop := ∃ m' : Me, e = .returned m'.val ∧ m'.en = m.en ∧ m'.kind = m.kind ∧ m'.key = m.key ∧ m'.body = m.body ∧ m'.Ok (fun k => w.heap.size ≤ k) w' ∧ OB w' w.heap.size (.slice m'.A m'.n m'.c) m'.body ∧ Below w.heap.size w w'
set_option maxHeartbeats 1000000 in
set_option maxRecDepth 100000 in
theorem clone_any (D : Nat → Prop) (m : Me) (w : World) (hm : m.Ok D w) (hn : m.n ≤ 140737488355328) :
    Calls Try.prog 42 #[m.val] w (GotE w m) := by
  obtain ⟨k, s, A, n, c, l⟩ := m
  obtain ⟨h1, h2, h3, h4, h5, h6⟩ := hm
  unfold Me.val
  simp only at h1 h2 h3 h4 h5 h6 hn
  have rb := h6.rb
  clear h6
  go_enter Try.func42, Try.ntmps42
  go_wp2_with fail
  obtain ⟨b0, b1⟩ := blk_two w 45 45 #[.int .i64 k, .string s, .slice A n c] #[.int .i64 0, .string ⟨#[]⟩, .slice none 0 0]
  have f0 : Below w.heap.size w ((w.alloc (.cells #[.int .i64 k, .string s, .slice A n c] 45)).alloc (.cells #[.int .i64 0, .string ⟨#[]⟩, .slice none 0 0] 45)) := ((Below.refl _ w).al _).al _
  have z0 : ((w.alloc (.cells #[.int .i64 k, .string s, .slice A n c] 45)).alloc (.cells #[.int .i64 0, .string ⟨#[]⟩, .slice none 0 0] 45)).heap.size = w.heap.size + 2 := by simp
  generalize ((w.alloc (.cells #[.int .i64 k, .string s, .slice A n c] 45)).alloc (.cells #[.int .i64 0, .string ⟨#[]⟩, .slice none 0 0] 45)) = W0 at *
  refine (bclone_any A n c l _ (rb.below f0) hn).mono ?_
  rintro e w1 ⟨A', n', c', rfl, hnc, hcm, ho, bb⟩
  have z1 := bb.size
  have B0 := b0.below bb b0.lt
  have B1 := b1.below bb b1.lt
  have F := f0.then_ bb
  rw [z0] at ho z1
  clear b0 b1 bb f0 z0
  have c0 : w1.cell? ⟨w.heap.size, 0, none⟩ = some (.int .i64 k) := B0.cell 0
  have c1 : w1.cell? ⟨w.heap.size, 1, none⟩ = some (.string s) := B0.cell 1
  have c2 : w1.cell? ⟨w.heap.size, 2, none⟩ = some (.slice A n c) := B0.cell 2
  have q0 := B0.frozen 2
  have d0 : w1.cell? ⟨w.heap.size + 1, 0, none⟩ = some (.int .i64 0) := B1.cell 0
  have d1 : w1.cell? ⟨w.heap.size + 1, 1, none⟩ = some (.string ⟨#[]⟩) := B1.cell 1
  have d2 : w1.cell? ⟨w.heap.size + 1, 2, none⟩ = some (.slice none 0 0) := B1.cell 2
  have p0 := B1.frozen 0
  have p1 := B1.frozen 1
  have p2 := B1.frozen 2
  go_wp2_with fail
  have OF := (((ho.setLow (p := ⟨w.heap.size, 2, none⟩) (by simp) (.slice A' n' c')).setLow (p := ⟨w.heap.size + 1, 0, none⟩) (by simp) (.int .i64 k)).setLow (p := ⟨w.heap.size + 1, 1, none⟩) (by simp) (.string s)).setLow (p := ⟨w.heap.size + 1, 2, none⟩) (by simp) (.slice A' n' c')
  have OF' := OF.mono (b := w.heap.size) (by omega)
  refine bodyPost_ret (v := .agg #[.int .i64 k, .string s, .slice A' n' c']) (by simp [results, Try.results42, go_sem, d0, d1, d2]) rfl ⟨⟨k, s, A', n', c', l⟩, rfl, rfl, rfl, rfl, rfl, ⟨h1, h2, h3, hnc, hcm, OF'.rin⟩, OF', ?_⟩
  exact (((F.setCell (Nat.le_refl _) _).setCell (by simp) _).setCell (by simp) _).setCell (by simp) _

set_option maxHeartbeats 1000000 in
set_option maxRecDepth 100000 in
theorem ebytes_any (D : Nat → Prop) (m : Me) (w : World) (hm : m.Ok D w) (hn : m.n ≤ 65536) (hk : 0 ≤ m.kind) (hs : m.key.size ≤ 1000) :
    Calls Try.prog 37 #[m.val] w (Got w.heap.size w (entryB D8 m.en)) := by
  obtain ⟨k, s, A, n, c, l⟩ := m
  obtain ⟨h1, h2, h3, h4, h5, h6⟩ := hm
  unfold Me.val
  simp only at h1 h2 h3 h4 h5 h6 hn hk hs
  have rb := h6.rb
  clear h6
  obtain ⟨kn, rfl⟩ : ∃ q : Nat, k = (q : Int) := ⟨k.toNat, by omega⟩
  have HB : Hid (headB (Me.en ⟨(kn : Int), s, A, n, c, l⟩) = num kn ++ num s.size ++ s.data.toList ++ num l.length ++ l) := by
    rw [Hid, headB]
    simp only [Me.en, lenB, Int.toNat_natCast, List.append_assoc]
    congr 1
  have hkl : (num kn).length ≤ 10 := num_le10 (by omega)
  have hsl : (num s.size).length ≤ 10 := num_le10 (by omega)
  have hsd : s.data.toList.length = s.size := Array.length_toList
  have hll : n = l.length := rb.len
  have HL := Lib.hid hll
  have hnl : (num l.length).length ≤ 10 := num_le10 (by omega)
  clear hll
  go_enter Try.func37, Try.ntmps37
  go_wp2_with fail
  have f0 : Below w.heap.size w (w.alloc (.cells #[.int .i64 kn, .string s, .slice A n c] 45)) := (Below.refl _ w).al _
  have b0 := Blk.new w 45 #[.int .i64 kn, .string s, .slice A n c]
  generalize w.alloc (.cells #[.int .i64 kn, .string s, .slice A n c] 45) = W0 at *
  refine (putNum_any none 0 0 kn [] W0 RB.none_ (by unfold U64; omega) (by omega)).mono ?_
  rintro e w1 ⟨v1, rfl, ho1, hb1⟩
  obtain ⟨A1, c1, rfl, -, -, r1⟩ := ho1.form
  have B1 := b0.below hb1 b0.lt
  have F1 := f0.then_ hb1
  have k1 : w1.cell? ⟨w.heap.size, 1, none⟩ = some (.string s) := B1.cell 1
  simp only [List.nil_append] at r1 ⊢
  generalize (num kn).length = q1 at *
  clear ho1 hb1 b0 f0
  go_wp2_with fail
  refine (putText_any A1 _ _ s _ w1 r1 (by omega)).mono ?_
  rintro e w2 ⟨v2, rfl, ho2, hb2⟩
  obtain ⟨A2, c2, rfl, -, -, r2⟩ := ho2.form
  have B2 := B1.below hb2 B1.lt
  have F2 := F1.then_ hb2
  have k2 : w2.cell? ⟨w.heap.size, 2, none⟩ = some (.slice A n c) := B2.cell 2
  have q2l : (num kn ++ num s.size ++ s.data.toList).length ≤ 1020 := by
    have := r1.len
    simp only [List.length_append]
    omega
  generalize (num kn ++ num s.size ++ s.data.toList).length = q2 at *
  clear ho2 hb2 B1 F1 k1 r1
  go_wp2_with fail
  refine (putBytes_any A2 A _ _ _ _ _ l w2 r2 (rb.below F2) (by omega)).mono ?_
  rintro e w3 ⟨v3, rfl, ho3, hb3⟩
  rw [← HB.out] at ho3
  have F3 := F2.then_ hb3
  have F0 := F2.size
  have q3l : (headB (Me.en ⟨(kn : Int), s, A, n, c, l⟩)).length ≤ 70000 := by
    have h1 := r2.len
    have h2 := HL.out
    rw [HB.out, List.length_append, List.length_append, ← h1]
    omega
  have HQ : Hid (entryB D8 (Me.en ⟨(kn : Int), s, A, n, c, l⟩) = headB (Me.en ⟨(kn : Int), s, A, n, c, l⟩) ++ D8 (headB (Me.en ⟨(kn : Int), s, A, n, c, l⟩))) := rfl
  generalize entryB D8 (Me.en ⟨(kn : Int), s, A, n, c, l⟩) = eb at *
  generalize headB (Me.en ⟨(kn : Int), s, A, n, c, l⟩) = hb at *
  obtain ⟨A3, c3, rfl, hc3, hm3, r3⟩ := ho3.form
  go_wp2_with fail
  refine (hashOf_any A3 _ c3 hb w3 r3 hc3 (by unfold maxLen at hm3; omega)).mono ?_
  rintro e w4 ⟨rfl, hb4⟩
  have ho4 := ho3.below hb4 (Nat.le_refl _)
  have F4 := F3.then_ hb4
  have z3 := F3.size
  have z4 := hb4.size
  have HD := Lib.hid (B8_D8 hb)
  unfold dv
  go_wp2_with (at_builtin; refine wpList_app8 _ rfl (.tmp 19) (.tmp 20) rfl w.heap.size _ hb rfl (OB.mono (ho4.alloc _) F0) _ 8 8 (D8 hb) rfl (RB.lit w4 (D8 hb) _ HD.out.symm _ _ (D8_length _).symm) (by omega) (by simp; omega) ?_; intro v5 w5 ho5 hb5)
  go_ret
  refine ⟨v5, rfl, ?_, (F4.al _).trans hb5⟩
  rw [HQ.out]
  exact ho5
end Go.Proofs.Ytidppcaohkfnfaa
