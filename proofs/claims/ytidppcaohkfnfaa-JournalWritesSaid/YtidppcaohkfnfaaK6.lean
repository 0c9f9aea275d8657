
/-
  Journals: take, Add.
-/
import Derived.Test.YtidppcaohkfnfaaK5
namespace Go.Proofs.Ytidppcaohkfnfaa
open Go.RowKit

theorem new_entry (W : World) (e : TypeId) (m : Me) : Reads (W.alloc (.cells m.cells.toArray e)) (W.heap.size + 1) 3 (some ⟨W.heap.size, 0, none⟩) 1 m.cells := by
  refine ⟨by simp [Me.cells], fun _ => ⟨_, rfl, by simp, fun j u hu => ?_⟩⟩
  rw [Addr.add_lit, Nat.zero_add, (Blk.new W e m.cells.toArray).cell j]
  simpa using hu
theorem own_blk {w : World} {base size n : Nat} {e : TypeId} {v : Value} {xs : List Value} (h : w.ownsRow base e size v n xs) : ∀ k, v.ownBlock = some k → k < w.heap.size := by
  intro k hk
  rcases h.2 with ⟨rfl, h0⟩ | ⟨g, cap, cur, rfl, hg, hh, _⟩
  · simp [Value.ownBlock] at hk
  · simp only [Value.ownBlock, Option.some.injEq] at hk
    subst hk
    exact Blk.lt (t := e) (cs := cur) hh

/-- What a journal is when an entry has been taken. -/
def Took (w : World) (S D : Nat → Prop) (g r : Nat) (v : Value) (ms : List Me) (m : Me) (e : Ending) (w' : World) : Prop :=
  e = .returned (.tuple #[]) ∧ ∃ v', JAt w' (fun k => S k ∨ (D k ∧ k < w.heap.size) ∨ (w.heap.size ≤ k ∧ k < w'.heap.size)) g r v' (ms ++ [m]) ∧ Kept (fun k => k = g ∨ k = r ∨ v.ownBlock = some k) w w'

theorem took_end {S D : Nat → Prop} {g r : Nat} {v v8 : Value} {ms : List Me} {m : Me} {w w1 W w8 : World} {n : Nat} (hn : ms.length = n) (h : JAt w S g r v ms) (hm : m.Ok D w) (hr : m.Right) (hD : ∀ k, D k → k ≠ g ∧ k ≠ r ∧ v.ownBlock ≠ some k)
    (K1 : Kept (fun z => z = g ∨ z = r ∨ v.ownBlock = some z) w w1) (M1 : PMap w1 r (lastI (ms ++ [m]))) (hW : Below w1.heap.size w1 W) (X : Blk W g 70 #[v, .map (some r)])
    (o8 : w8.ownsRow 0 45 3 v8 (n + 1) (meCells ms ++ m.cells)) (g8 : W.grownBy w8 v.ownBlock) (at8 : v8.ownBlock = v.ownBlock ∨ v8.ownBlock = some W.heap.size) :
    Took w S D g r v ms m (.returned (.tuple #[])) (w8.setCell ⟨g, 0, none⟩ v8) := by
  subst hn
  have gl := h.lt g h.inG
  have rl := h.lt r h.inR
  have z1 := K1.size
  have zW := hW.size
  have z8 := g8.size
  have hvg : v.ownBlock ≠ some g := fun e => (h.inV g e).2.1 rfl
  have hvr : v.ownBlock ≠ some r := fun e => (h.inV r e).2.2 rfl
  have KW : Kept (fun z => z = g ∨ z = r ∨ v.ownBlock = some z) w W := K1.below_ hW
  have K8 : Kept (fun z => z = g ∨ z = r ∨ v.ownBlock = some z) w w8 := KW.then_ (Kept.of_grown (S := fun z => v.ownBlock = some z) g8 (fun k e => e)) (fun i _ e => .inr (.inr e))
  have K9 : Kept (fun z => z = g ∨ z = r ∨ v.ownBlock = some z) w (w8.setCell ⟨g, 0, none⟩ v8) := K8.setCell (p := ⟨g, 0, none⟩) (fun _ => .inl rfl) _
  have kg : Kept (fun z => z = g) w8 (w8.setCell ⟨g, 0, none⟩ v8) := (Kept.refl (fun z => z = g) w8).setCell (p := ⟨g, 0, none⟩) (fun _ => rfl) _
  have z9 := kg.size
  have hv8 : ∀ k, v8.ownBlock = some k → (S k ∨ (D k ∧ k < w.heap.size) ∨ (w.heap.size ≤ k ∧ k < (w8.setCell ⟨g, 0, none⟩ v8).heap.size)) ∧ k ≠ g ∧ k ≠ r := by
    intro k hk
    rcases at8 with e | e
    · have := h.inV k (e ▸ hk)
      exact ⟨.inl this.1, this.2⟩
    · have hkl := own_blk o8 k hk
      rw [e] at hk
      injection hk with hk
      subst hk
      exact ⟨.inr (.inr ⟨by omega, by omega⟩), by omega, by omega⟩
  have hno : ∀ k, k < w.heap.size → v.ownBlock ≠ some k → v8.ownBlock ≠ some k := by
    intro k hk hn e
    rcases at8 with e8 | e8
    · exact hn (e8 ▸ e)
    · rw [e8] at e
      injection e with e
      omega
  refine ⟨rfl, v8, ⟨?_, .inl h.inG, .inl h.inR, h.gr, hv8, ?_, ?_, ?_, ?_, ?_⟩, K9⟩
  · rintro k (hk | ⟨_, hk⟩ | ⟨_, hk⟩)
    · have := h.lt k hk
      omega
    · omega
    · exact hk
  · exact (Blk.grown X g8 (fun e => hvg e.symm)).set_ 0 v8
  · rw [List.length_append, meCells_append]
    have e1 : meCells [m] = m.cells := by simp [meCells]
    rw [e1]
    exact own_other o8 kg (fun k hk => (hv8 k hk).2.1)
  · intro m' hm'
    rcases List.mem_append.1 hm' with hm' | hm'
    · refine ((h.ok m' hm').kept K9 (fun k hd hz => ?_)).mono (fun k _ hd => ⟨.inl hd.1, hd.2.1, hd.2.2.1, hno k (h.lt k hd.1) hd.2.2.2⟩)
      rcases hz with hz | hz | hz
      · exact hd.2.1 hz
      · exact hd.2.2.1 hz
      · exact hd.2.2.2 hz
    · obtain rfl := List.mem_singleton.1 hm'
      refine ((hm.mono (fun k hk hd => (⟨hd, hk⟩ : D k ∧ k < w.heap.size))).kept K9 (fun k hd hz => ?_)).mono (fun k _ hd => ⟨.inr (.inl hd), (hD k hd.1).1, (hD k hd.1).2.1, hno k hd.2 (hD k hd.1).2.2⟩)
      rcases hz with hz | hz | hz
      · exact (hD k hd.1).1 hz
      · exact (hD k hd.1).2.1 hz
      · exact (hD k hd.1).2.2 hz
  · intro m' hm'
    rcases List.mem_append.1 hm' with hm' | hm'
    · exact h.right m' hm'
    · obtain rfl := List.mem_singleton.1 hm'
      exact hr
  · exact ((M1.below hW).kept (Kept.of_grown (S := fun z => v.ownBlock = some z) g8 (fun k e => e)) hvr).kept kg (fun e => h.gr e.symm)

set_option maxHeartbeats 2000000 in
set_option maxRecDepth 100000 in
theorem jtake_any (S D : Nat → Prop) (g r : Nat) (v : Value) (ms : List Me) (m : Me) (w : World) (h : JAt w S g r v ms) (hm : m.Ok D w) (hr : m.Right) (hn : ms.length ≤ 70000) (hD : ∀ k, D k → k ≠ g ∧ k ≠ r ∧ v.ownBlock ≠ some k) :
    Calls Try.prog 40 #[.pointer (some ⟨g, 0, none⟩), m.val] w (Took w S D g r v ms m) := by
  obtain ⟨A, c, rfl⟩ := h.slice
  obtain ⟨n, hln⟩ : ∃ n, ms.length = n := ⟨_, rfl⟩
  have h0 := hm
  obtain ⟨k, s, A1, n1, c1, l⟩ := m
  obtain ⟨h1, h2, h3, h4, h5, h6⟩ := h0
  simp only at h1 h2 h3 h4 h5
  have HV : Hid (∀ q, Value.ownBlock (.slice A n c) = some q → S q ∧ q ≠ g ∧ q ≠ r) := by
    have := h.inV
    rw [hln] at this
    exact this
  have NG : Hid (some g ≠ Value.ownBlock (.slice A n c)) := fun e => (HV.out g e.symm).2.1 rfl
  rw [hln] at h
  have HJ := Lib.hid h
  have HM := Lib.hid hm
  have HRT := Lib.hid hr
  rw [hln] at hD
  have HD := Lib.hid hD
  have gl := h.lt g h.inG
  have rl := h.lt r h.inR
  have hgr := h.gr
  have f0 : Below w.heap.size w (w.alloc (.cells #[.int .i64 k, .string s, .slice A1 n1 c1] 45)) := (Below.refl _ w).al _
  have b0 := Blk.new w 45 #[.int .i64 k, .string s, .slice A1 n1 c1]
  have z0 : (w.alloc (.cells #[.int .i64 k, .string s, .slice A1 n1 c1] 45)).heap.size = w.heap.size + 1 := by simp
  have j0 := h.below f0
  clear h hm hr hD h6
  unfold Me.val
  rw [hln] at hn ⊢
  go_enter Try.func40, Try.ntmps40
  go_upto_region 1 with fail
  generalize w.alloc (.cells #[.int .i64 k, .string s, .slice A1 n1 c1] 45) = W0 at *
  obtain ⟨w1, hrun, hmap, hk1⟩ := (j0.map.below (Below.refl _ W0).drew).update (k := k) (s := s) ⟨h1, h2, h3⟩ n
  unfold plV at hrun
  have B0 := j0.blk
  go_region_held3 (fun W => W.cell? ⟨g, 0, none⟩ = some (.slice A n c) ∧ W.cell? ⟨g, 1, none⟩ = some (.map (some r)) ∧ W.cell? ⟨w.heap.size, 0, none⟩ = some (.int .i64 k) ∧ W.cell? ⟨w.heap.size, 1, none⟩ = some (.string s))
    (first | exact ⟨B0.cell 0, B0.cell 1, b0.cell 0, b0.cell 1⟩ | exact ⟨(B0.drew.kept hk1 hgr).cell 0, (B0.drew.kept hk1 hgr).cell 1, (b0.drew.kept hk1 (by omega)).cell 0, (b0.drew.kept hk1 (by omega)).cell 1⟩)
    (first | done)
  have R1 : w1.ownsRow 0 45 3 (.slice A n c) n (meCells ms) := by
    have hrow := j0.row
    rw [hln] at hrow
    exact own_other (w := W0.drew) hrow hk1 (fun q hq e => (j0.inV q hq).2.2 e)
  have B1 : Blk w1 g 70 #[.slice A n c, .map (some r)] := B0.drew.kept hk1 hgr
  have C1 : Blk w1 w.heap.size 45 #[.int .i64 k, .string s, .slice A1 n1 c1] := b0.drew.kept hk1 (by omega)
  have K1 : Kept (fun z => z = g ∨ z = r ∨ Value.ownBlock (.slice A n c) = some z) w w1 := (Kept.of_below (S := fun z => z = g ∨ z = r ∨ Value.ownBlock (.slice A n c) = some z) f0.drew).then_ hk1 (fun i _ e => .inr (.inl e))
  have M1 : PMap w1 r (lastI (ms ++ [⟨k, s, A1, n1, c1, l⟩])) := hmap.congr (fun k' s' => by rw [← lastI_append, hln])
  have hlt1 := own_blk R1
  have z1 : w.heap.size + 1 ≤ w1.heap.size := by have := hk1.size; have e : W0.drew.heap.size = W0.heap.size := rfl; omega
  clear hrun hmap hk1 B0 b0 j0 f0
  have hal : ∀ (W : World) (o : Obj) (b i : Nat), b < W.heap.size → (W.alloc o).cell? ⟨b, i, none⟩ = W.cell? ⟨b, i, none⟩ := fun W o b i h => World.cell?_alloc_lt W o _ h
  have qq : ∀ W, Blk W g 70 #[.slice A n c, .map (some r)] → Blk W w.heap.size 45 #[.int .i64 k, .string s, .slice A1 n1 c1] → W.cell? ⟨g, 0, none⟩ = some (.slice A n c) ∧ W.cell? ⟨w.heap.size, 0, none⟩ = some (.int .i64 k) ∧ W.cell? ⟨w.heap.size, 1, none⟩ = some (.string s) ∧ W.cell? ⟨w.heap.size, 2, none⟩ = some (.slice A1 n1 c1) := fun W x y => ⟨x.cell 0, y.cell 0, y.cell 1, y.cell 2⟩
  obtain ⟨i0, hi0, hz0, hz1, hz2⟩ := info_parts info_entry
  have RD := Lib.hid (new_entry w1.drew 45 ⟨k, s, A1, n1, c1, l⟩)
  have ONE := Lib.hid (Me.one ⟨k, s, A1, n1, c1, l⟩)
  have own7 := Lib.hid (World.ownsRow.alloc (w := w1.drew) R1 (.cells (Me.cells ⟨k, s, A1, n1, c1, l⟩).toArray 45))
  unfold Me.cells at RD ONE own7
  simp only at RD ONE own7
  have BB := Lib.hid B1
  have CC := Lib.hid C1
  go_wp2_with fail
  have k0 : w1.cell? ⟨g, 0, none⟩ = some (.slice A n c) := B1.cell 0
  have k1 : w1.cell? ⟨w.heap.size, 0, none⟩ = some (.int .i64 k) := C1.cell 0
  have k2 : w1.cell? ⟨w.heap.size, 1, none⟩ = some (.string s) := C1.cell 1
  have k3 : w1.cell? ⟨w.heap.size, 2, none⟩ = some (.slice A1 n1 c1) := C1.cell 2
  have k4 := B1.frozen 0
  have l1 : g < w1.heap.size := by omega
  have l2 : w.heap.size < w1.heap.size := by omega
  clear B1 C1 qq
  go_region_law (first | (refine step_append_any _ (by rfl) (.tmp 22) (.tmp 24) _ (by rfl) 0 45 i0 _ 3 48 Try.underlying22 hi0 hz0 hz1 hz2 rfl (by omega) (.slice A n c) n (meCells ms) (by rfl) own7.out _ _ 1 1 [.int .i64 k, .string s, .slice A1 n1 c1] (by rfl) RD.out ONE.out (by unfold maxLen; omega) (by omega) (by omega) ?_; intro v8 w8 o8 g8 at8; obtain ⟨A8, c8, rfl⟩ := own_slice o8; have X8 := Blk.grown (BB.out.drew.alloc _) g8 NG.out; have f8 := X8.frozen 0; have q8 : w8.cell? ⟨g, 0, none⟩ = some (.slice A n c) := X8.cell 0))
  all_goals
    clear k0 k1 k2 k3 k4 q8 f8
    have hfin := took_end hln HJ.out HM.out HRT.out HD.out K1 M1 ((Below.refl _ w1).drew.al _) (BB.out.drew.alloc _) o8 g8 at8
    go_end0
    exact hfin

/-- The journal of these entries lies at block g; all its blocks are in S. -/
def Jn (w : World) (S : Nat → Prop) (g : Nat) (es : List En) : Prop := ∃ r v ms, JAt w S g r v ms ∧ ms.map Me.en = es
section
variable {w w' : World} {S T : Nat → Prop} {g : Nat} {es : List En}
theorem Jn.kept (h : Jn w S g es) (hk : Kept T w w') (hs : ∀ k, S k → ¬ T k) : Jn w' S g es := by
  obtain ⟨r, v, ms, h1, h2⟩ := h
  exact ⟨r, v, ms, h1.kept hk hs, h2⟩
theorem Jn.below (h : Jn w S g es) (hb : Below w.heap.size w w') : Jn w' S g es := h.kept (Kept.of_below (S := fun _ => False) hb) (fun _ _ h => h)
theorem Jn.lt (h : Jn w S g es) : ∀ k, S k → k < w.heap.size := by
  obtain ⟨r, v, ms, h1, h2⟩ := h
  exact h1.lt
theorem Jn.inG (h : Jn w S g es) : S g := by
  obtain ⟨r, v, ms, h1, h2⟩ := h
  exact h1.inG
theorem Jn.of_new {e : Ending} (h : JNew w e w') : ∃ S g, e = .returned (.pointer (some ⟨g, 0, none⟩)) ∧ Jn w' S g [] ∧ (∀ k, S k → w.heap.size ≤ k) ∧ Below w.heap.size w w' := by
  obtain ⟨g, r, rfl, h1, h2, h3, h4⟩ := h
  exact ⟨_, g, rfl, ⟨r, _, [], h1, rfl⟩, fun k hk => by rcases hk with rfl | rfl <;> assumption, h4⟩
end

/-- An entry has been added; its bytes. -/
def Added (w : World) (S : Nat → Prop) (g : Nat) (es : List En) (x : En) (e : Ending) (w' : World) : Prop :=
  ∃ v S' B, e = .returned (.tuple #[v, .int .i64 0]) ∧ Jn w' S' g (es ++ [x]) ∧ (∀ k, S' k → S k ∨ (w.heap.size ≤ k ∧ k < B)) ∧ (∀ k, S k → S' k) ∧ OB w' B v (entryB D8 x) ∧ w.heap.size ≤ B ∧ Kept S w w'

set_option maxHeartbeats 2000000 in
set_option maxRecDepth 100000 in
theorem add_yes (S D : Nat → Prop) (g : Nat) (es : List En) (m : Me) (w : World) (h : Jn w S g es) (hm : m.Ok D w) (hr : m.Right) (hn : es.length < 65536) (hD : ∀ k, D k → ¬ S k) :
    Calls Try.prog 23 #[.pointer (some ⟨g, 0, none⟩), m.val] w (Added w S g es m.en) := by
  obtain ⟨r, v, ms, hj, rfl⟩ := h
  rw [List.length_map] at hn
  obtain ⟨A, c, rfl⟩ := hj.slice
  have HJ := Lib.hid hj
  have HM := Lib.hid hm
  have HRT := Lib.hid hr
  have HD := Lib.hid hD
  obtain ⟨k, s, A1, n1, c1, l⟩ := m
  obtain ⟨r1, r2, r3, r4⟩ := hr
  simp only at r1 r2 r3 r4
  have g3 : (s.size : Int) ≤ 64 := by omega
  have g4 : (n1 : Int) ≤ 65536 := by omega
  have g5 : ¬ (65536 : Int) ≤ (ms.length : Int) := by omega
  have f0 : Below w.heap.size w (w.alloc (.cells #[.int .i64 k, .string s, .slice A1 n1 c1] 45)) := (Below.refl _ w).al _
  have b0 := Blk.new w 45 #[.int .i64 k, .string s, .slice A1 n1 c1]
  have j0 := hj.below f0
  have m0 := hm.below f0
  have gl := hj.lt g hj.inG
  clear hj hm hD
  unfold Me.val
  go_enter Try.func23, Try.ntmps23
  go_upto_region 3 with fail
  generalize w.alloc (.cells #[.int .i64 k, .string s, .slice A1 n1 c1] 45) = W0 at *
  have k0 : W0.cell? ⟨g, 0, none⟩ = some (.slice A ms.length c) := j0.blk.cell 0
  have k1 : W0.cell? ⟨w.heap.size, 0, none⟩ = some (.int .i64 k) := b0.cell 0
  have k2 : W0.cell? ⟨w.heap.size, 1, none⟩ = some (.string s) := b0.cell 1
  have k3 : W0.cell? ⟨w.heap.size, 2, none⟩ = some (.slice A1 n1 c1) := b0.cell 2
  go_wp2_with fail
  refine (clone_any D ⟨k, s, A1, n1, c1, l⟩ W0 m0 (by simp only; omega)).mono ?_
  rintro e w1 ⟨m1, rfl, e1, e2, e3, e4, ok1, -, b1⟩
  have j1 := j0.below b1
  have mm1 := m0.below b1
  have B1 := b0.below b1 b0.lt
  have z0 := f0.size
  have F1 := f0.then_ b1
  have right1 : m1.Right := by
    have h1 := ok1.len
    have h2 := mm1.len
    simp only at e2 e3 e4 h2
    refine ⟨by rw [e2]; exact r1, by rw [e2]; exact r2, by rw [e3]; exact r3, ?_⟩
    rw [h1, e4, ← h2]
    exact r4
  have hln := g5
  have hD1 : ∀ q, W0.heap.size ≤ q → q ≠ g ∧ q ≠ r ∧ Value.ownBlock (.slice A ms.length c) ≠ some q := fun q hq => by
    have h1 := HJ.out.lt
    refine ⟨by have := h1 g HJ.out.inG; omega, by have := h1 r HJ.out.inR; omega, fun e => ?_⟩
    have := h1 q (HJ.out.inV q e).1
    omega
  clear j0 m0 b0 f0 b1 k0 k1 k2 k3 e2 e3 e4
  go_wp2_with fail
  refine (jtake_any S (fun q => W0.heap.size ≤ q) g r _ ms m1 w1 j1 ok1 right1 (by omega) hD1).mono ?_
  rintro e w2 ⟨rfl, v2, j2, K2⟩
  have sS : ∀ z, z = g ∨ z = r ∨ Value.ownBlock (.slice A ms.length c) = some z → S z := by
    rintro z (rfl | rfl | hz)
    · exact HJ.out.inG
    · exact HJ.out.inR
    · exact (HJ.out.inV z hz).1
  have nw : ¬ S w.heap.size := fun hs => by have := HJ.out.lt _ hs; omega
  have B2 : Blk w2 w.heap.size 45 #[.int .i64 k, .string s, .slice A1 n1 c1] := B1.kept K2 (fun e => nw (sS _ e))
  have mm2 := mm1.kept K2 (fun q hq e => HD.out q hq (sS _ e))
  have q0 : w2.cell? ⟨w.heap.size, 0, none⟩ = some (.int .i64 k) := B2.cell 0
  have q1 : w2.cell? ⟨w.heap.size, 1, none⟩ = some (.string s) := B2.cell 1
  have q2 : w2.cell? ⟨w.heap.size, 2, none⟩ = some (.slice A1 n1 c1) := B2.cell 2
  have KS : Kept S w w2 := (Kept.of_below (S := S) F1).then_ (K2.mono (T := S) (fun z _ hz => sS z hz)) (fun _ _ h => h)
  have zz := K2.size
  have z1 := F1.size
  clear j1 mm1 B1 B2 F1 K2 ok1 right1 hD1
  go_wp2_with fail
  refine (ebytes_any D ⟨k, s, A1, n1, c1, l⟩ w2 mm2 (by simp only; omega) (by simp only; omega) (by simp only; omega)).mono ?_
  rintro e w3 ⟨v3, rfl, ho3, b3⟩
  go_wp2_with fail
  go_ret2
  refine ⟨v3, _, w2.heap.size, rfl, ⟨r, v2, ms ++ [m1], j2.below b3, ?_⟩, ?_, ?_, ho3, by omega, KS.below_ b3⟩
  · rw [List.map_append, List.map_cons, List.map_nil, e1]
  · rintro q (hq | ⟨hq, hq2⟩ | ⟨hq, hq2⟩)
    · exact .inl hq
    · exact .inr ⟨by omega, by omega⟩
    · exact .inr ⟨by omega, by omega⟩
  · intro q hq
    exact .inl hq

set_option maxHeartbeats 1000000 in
set_option maxRecDepth 100000 in
theorem add_no (g : Nat) (m : Me) (w : World) (hr : ¬ m.Right) :
    Calls Try.prog 23 #[.pointer (some ⟨g, 0, none⟩), m.val] w fun e w' => e = .returned (.tuple #[.slice none 0 0, .int .i64 2]) ∧ Below w.heap.size w w' := by
  obtain ⟨k, s, A, n, c, l⟩ := m
  have hr' : ¬ (0 ≤ k ∧ k ≤ 255 ∧ s.size ≤ 64 ∧ n ≤ 65536) := hr
  clear hr
  unfold Me.val
  by_cases h1 : 0 ≤ k
  · have g1 : ¬ k < 0 := by omega
    by_cases h2 : k ≤ 255
    · have g2 : ¬ 255 < k := by omega
      by_cases h3 : s.size ≤ 64
      · have h4 : ¬ n ≤ 65536 := fun h4 => hr' ⟨h1, h2, h3, h4⟩
        have g3 : ¬ (64 : Int) < (s.size : Int) := by omega
        have g4 : (65536 : Int) < (n : Int) := by omega
        clear hr'
        go_enter Try.func23, Try.ntmps23
        go_wp2_with fail
        go_ret2
        exact ⟨rfl, (Below.refl _ w).al _⟩
      · have g3 : (64 : Int) < (s.size : Int) := by omega
        clear hr'
        go_enter Try.func23, Try.ntmps23
        go_wp2_with fail
        go_ret2
        exact ⟨rfl, (Below.refl _ w).al _⟩
    · have g2 : 255 < k := by omega
      clear hr'
      go_enter Try.func23, Try.ntmps23
      go_wp2_with fail
      go_ret2
      exact ⟨rfl, (Below.refl _ w).al _⟩
  · have g1 : k < 0 := by omega
    clear hr'
    go_enter Try.func23, Try.ntmps23
    go_wp2_with fail
    go_ret2
    exact ⟨rfl, (Below.refl _ w).al _⟩
end Go.Proofs.Ytidppcaohkfnfaa
