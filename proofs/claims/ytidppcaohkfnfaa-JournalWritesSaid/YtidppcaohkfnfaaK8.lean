
/-
  Journals: All, Same.
-/
import Derived.Test.YtidppcaohkfnfaaK7
namespace Go.Proofs.Ytidppcaohkfnfaa
open Go.RowKit

theorem take_set3 {α : Type} (a b c : α) : ∀ (k : Nat) (l : List α), k + 3 ≤ l.length → ((((l.set k a).set (k + 1) b).set (k + 2) c).take (k + 3)) = l.take k ++ [a, b, c]
  | 0, l, h => by
    match l, h with
    | x :: y :: z :: r, _ => simp
    | [], h => simp at h
    | [_], h => simp at h
    | [_, _], h => simp at h
  | k + 1, l, h => by
    match l, h with
    | x :: r, h =>
      have ih := take_set3 a b c k r (by simpa using h)
      simp only [List.set_cons_succ, List.take_succ_cons, List.cons_append]
      rw [← ih]
    | [], h => simp at h

/-- A new row of entries: the first k are told. -/
structure ARow (W : World) (gl n : Nat) (done : List Me) : Prop where
  row : ∃ C : Array Value, Blk W gl 45 C ∧ C.size = n * 3 ∧ C.toList.take (done.length * 3) = meCells done
  le : done.length ≤ n
  own : ∀ m ∈ done, OB W (gl + 1) (.slice m.A m.n m.c) m.body ∧ m.Ok (fun k => gl < k) W ∧ m.Right
/-- What All gives. -/
def AllGot (w : World) (es : List En) (e : Ending) (w' : World) : Prop :=
  ∃ ms, e = .returned (.slice (some ⟨w.heap.size, 0, none⟩) ms.length ms.length) ∧ ARow w' w.heap.size ms.length ms ∧ ms.map Me.en = es ∧ Below w.heap.size w w'
theorem ARow.reads {W : World} {gl : Nat} {ms : List Me} (h : ARow W gl ms.length ms) : Reads W W.heap.size 3 (some ⟨gl, 0, none⟩) ms.length (meCells ms) := by
  obtain ⟨C, h1, h2, h3⟩ := h.row
  refine ⟨meCells_length ms, fun _ => ⟨_, rfl, h1.lt, fun j u hu => ?_⟩⟩
  rw [Addr.add_lit, Nat.zero_add, h1.cell j]
  rw [← h3, List.getElem?_take] at hu
  split at hu
  · simpa using hu
  · cases hu
theorem ARow.below {W W' : World} {gl n : Nat} {ms : List Me} (h : ARow W gl n ms) (hb : Below W.heap.size W W') : ARow W' gl n ms := by
  obtain ⟨C, h1, h2⟩ := h.row
  exact ⟨⟨C, h1.below hb h1.lt, h2⟩, h.le, fun m hm => ⟨(h.own m hm).1.below hb (Nat.le_refl _), (h.own m hm).2.1.below hb, (h.own m hm).2.2⟩⟩
theorem ARow.lt {W : World} {gl n : Nat} {ms : List Me} (h : ARow W gl n ms) : gl < W.heap.size := by
  obtain ⟨C, h1, h2⟩ := h.row
  exact h1.lt
theorem ARow.has {W : World} {gl n : Nat} {ms : List Me} (h : ARow W gl n ms) {i : Nat} (hi : i < n * 3) : ∃ u, W.cell? ⟨gl, i, none⟩ = some u := by
  obtain ⟨C, h1, h2, _⟩ := h.row
  exact ⟨C[i]'(by omega), by rw [h1.cell i]; exact Array.getElem?_eq_getElem (by omega)⟩
theorem ARow.frozen {W : World} {gl n : Nat} {ms : List Me} (h : ARow W gl n ms) (i : Nat) : W.frozen? ⟨gl, i, none⟩ = false := by
  obtain ⟨C, h1, h2, _⟩ := h.row
  exact h1.frozen i
theorem ARow.store {W : World} {gl n : Nat} {ms : List Me} (h : ARow W gl n ms) (hn : ms.length < n) (m : Me) (hm : OB W (gl + 1) (.slice m.A m.n m.c) m.body ∧ m.Ok (fun k => gl < k) W ∧ m.Right) :
    ARow (((W.setCell ⟨gl, ms.length * 3, none⟩ (.int .i64 m.kind)).setCell ⟨gl, ms.length * 3 + 1, none⟩ (.string m.key)).setCell ⟨gl, ms.length * 3 + 2, none⟩ (.slice m.A m.n m.c)) gl n (ms ++ [m]) := by
  obtain ⟨C, h1, h2, h3⟩ := h.row
  have st : ∀ (W : World) (i : Nat) (u : Value) (m : Me), (OB W (gl + 1) (.slice m.A m.n m.c) m.body ∧ m.Ok (fun k => gl < k) W ∧ m.Right) → (OB (W.setCell ⟨gl, i, none⟩ u) (gl + 1) (.slice m.A m.n m.c) m.body ∧ m.Ok (fun k => gl < k) (W.setCell ⟨gl, i, none⟩ u) ∧ m.Right) := by
    intro W i u m ⟨a, b, c⟩
    exact ⟨a.setLow (by simp) u, b.kept ((Kept.refl (fun k => k = gl) W).setCell (p := ⟨gl, i, none⟩) (fun _ => rfl) u) (fun k hk e => by omega), c⟩
  refine ⟨⟨_, ((h1.set_ _ _).set_ _ _).set_ _ _, by simpa using h2, ?_⟩, by rw [List.length_append]; exact hn, fun x hx => ?_⟩
  · rw [List.length_append, meCells_append]
    simp only [Array.toList_setIfInBounds, List.length_cons, List.length_nil]
    have e1 : meCells [m] = m.cells := by simp [meCells]
    have e2 : (ms.length + (0 + 1)) * 3 = ms.length * 3 + 3 := by omega
    have e3 := take_set3 (Value.int .i64 m.kind) (Value.string m.key) (Value.slice m.A m.n m.c) (ms.length * 3) C.toList (by have h4 : C.toList.length = C.size := Array.length_toList; omega)
    rw [h3] at e3
    rw [e1, e2]
    exact e3
  · rcases List.mem_append.1 hx with hx | hx
    · exact st _ _ _ _ (st _ _ _ _ (st _ _ _ _ (h.own x hx)))
    · obtain rfl := List.mem_singleton.1 hx
      exact st _ _ _ _ (st _ _ _ _ (st _ _ _ _ hm))

/-- 'make([]Entry, n, n)'. -/
theorem make_entries (n : Nat) (hn : n ≤ 100000) : ∃ C : Array Value, C.size = n * 3 ∧
    ∀ W : World, (Instr.makeSlice 22 (.int .i64 (n : Int)) (.int .i64 (n : Int))).run Try.prog W = .ok (.slice (some ⟨W.heap.size, 0, none⟩) n n) (W.alloc (.cells C 45)) := by
  obtain ⟨i, hi, hz0, hz1, hz2⟩ := info_parts info_entry
  refine ⟨madeCells (Value.agg #[.int .i64 0, .string ByteArray.empty, .slice none 0 0]).cells (n * i.size), ?_, fun W => ?_⟩
  · rw [hz1]; simp [madeCells]
  · have hr := run_make (P := Try.prog) W 22 45 i _ Try.underlying22 hi hz0 .i64 .i64 n n (by omega) (by omega) (by rw [hz2]; omega) (by omega)
    simp only [Int.toNat_natCast] at hr
    exact hr

set_option maxHeartbeats 2000000 in
set_option maxRecDepth 100000 in
theorem all_any (S : Nat → Prop) (g : Nat) (es : List En) (w : World) (h : Jn w S g es) (hn : es.length ≤ 70000) :
    Calls Try.prog 21 #[.pointer (some ⟨g, 0, none⟩)] w (AllGot w es) := by
  obtain ⟨r, v, ms, hj, hes⟩ := h
  obtain ⟨A, c, rfl⟩ := hj.slice
  obtain ⟨n, hln⟩ : ∃ n, ms.length = n := ⟨_, rfl⟩
  have hln2 : es.length = n := by rw [← hes, List.length_map, hln]
  rw [hln2] at hn
  obtain ⟨C, hC, hmk⟩ := make_entries n (by omega)
  have h0 : w.cell? ⟨g, 0, none⟩ = some (.slice A ms.length c) := hj.blk.cell 0
  have gl := hj.blk.lt
  obtain ⟨-, hc, hm, hrd⟩ := hj.reads
  rw [hln] at h0 hc hrd
  have HJ := Lib.hid hj
  have HR := Lib.hid hrd
  have HN := Lib.hid hln
  have HES := Lib.hid hes
  unfold maxLen at hm
  have h01 : (w.alloc (.cells C 45)).cell? ⟨g, 0, none⟩ = some (.slice A n c) := (World.cell?_alloc_lt w _ _ gl).trans h0
  have hA : ARow (w.alloc (.cells C 45)) w.heap.size n [] := ⟨⟨C, Blk.new _ _ _, hC, by simp [meCells]⟩, Nat.zero_le _, fun m hm => by simp at hm⟩
  have HA := Lib.hid hA
  have f0 : Below w.heap.size w (w.alloc (.cells C 45)) := (Below.refl _ w).al _
  clear hj hrd hln hln2 hes hA
  go_enter Try.func21, Try.ntmps21
  go_wp2_with fail
  clear hmk
  go_loopw [19] (fun i wr => ∃ (k : Nat) (ds : List Me), k ≤ n ∧ i = .int .i64 k ∧ Hid (ds.length = k) ∧ Hid (ds.map Me.en = (ms.take k).map Me.en) ∧ Hid (ARow wr w.heap.size n ds) ∧ Below w.heap.size w wr) (fun i _ => n - (intOf i).toNat)
  case atStart => exact ⟨0, [], by omega, rfl, rfl, rfl, HA, f0⟩
  case round =>
    clear h0 h01 f0 HA
    obtain ⟨k, ds, hk, rfl, hdl, hde, ha, hbw⟩ := hrel
    by_cases hlt : k < n
    · have hkm : k < ms.length := by rw [HN.out]; exact hlt
      have cT := meCells_cut ms k hkm
      obtain ⟨b, o, rfl, hb, hcl⟩ := HR.out.chunk (by omega) hlt cT
      have okm := HJ.out.ok _ (List.getElem_mem hkm)
      have rim := HJ.out.right _ (List.getElem_mem hkm)
      have HTK : Hid ((ms.take (k + 1)).map Me.en = (ms.take k).map Me.en ++ [(ms[k]).en]) := by
        rw [Hid, List.take_succ_eq_append_getElem hkm, List.map_append]
        rfl
      generalize ms[k] = m at *
      clear cT
      obtain ⟨mk, mks, mA, mn, mc, mb⟩ := m
      have q0 : wr.cell? ⟨b, o + k * 3, none⟩ = some (.int .i64 mk) := (hbw.cell (p := ⟨b, o + k * 3, none⟩) hb).trans (hcl 0 _ rfl)
      have q1 : wr.cell? ⟨b, o + k * 3 + 1, none⟩ = some (.string mks) := (hbw.cell (p := ⟨b, o + k * 3 + 1, none⟩) hb).trans (hcl 1 _ rfl)
      have q2 : wr.cell? ⟨b, o + k * 3 + 2, none⟩ = some (.slice mA mn mc) := (hbw.cell (p := ⟨b, o + k * 3 + 2, none⟩) hb).trans (hcl 2 _ rfl)
      have ok1 := (okm.below hbw).below ((Below.refl _ wr).al (.cells #[.int .i64 mk, .string mks, .slice mA mn mc] 45))
      have hsz := hbw.size
      have g1 : (0 : Int) ≤ (k : Int) := by omega
      have g2 : (k : Int) < (n : Int) := by omega
      have hgl := ha.out.lt
      have rim2 := rim.2.2.2
      simp only at rim2
      have RIM := Lib.hid rim
      clear hcl okm rim
      go_wp2_with fail
      refine (clone_any _ ⟨mk, mks, mA, mn, mc, mb⟩ _ ok1 (by simp only; omega)).mono ?_
      rintro e w2 ⟨m2, rfl, e1, e2, e3, e4, ok2, ob2, b2⟩
      have hf2 := (Below.refl _ wr).al (.cells #[.int .i64 mk, .string mks, .slice mA mn mc] 45) |>.then_ b2
      have ha2 := ha.out.below hf2
      have hbw2 := hbw.then_ hf2
      have zz : w.heap.size + 1 ≤ (wr.alloc (.cells #[.int .i64 mk, .string mks, .slice mA mn mc] 45)).heap.size := by simp; omega
      have right2 : m2.Right := by
        have h1 := ok2.len
        have h2 := ok1.len
        obtain ⟨r1, r2, r3, r4⟩ := RIM.out
        simp only at e2 e3 e4 h2 r1 r2 r3 r4
        refine ⟨by rw [e2]; exact r1, by rw [e2]; exact r2, by rw [e3]; exact r3, ?_⟩
        rw [h1, e4, ← h2]
        exact r4
      have ha3 := ha2.store (by rw [hdl.out]; exact hlt) m2 ⟨ob2.mono zz, ok2.mono (fun q _ hq => by omega), right2⟩
      have HE : Hid ((ds ++ [m2]).map Me.en = (ms.take (k + 1)).map Me.en) := by
        rw [Hid, HTK.out, List.map_append, hde.out, List.map_cons, List.map_nil, e1]
      have HDL : Hid ((ds ++ [m2]).length = k + 1) := by rw [Hid, List.length_append, hdl.out]; rfl
      rw [hdl.out] at ha3
      have HA3 := Lib.hid ha3
      obtain ⟨u0, p0⟩ := ha2.has (i := k * 3) (by omega)
      obtain ⟨u1, p1⟩ := ha2.has (i := k * 3 + 1) (by omega)
      obtain ⟨u2, p2⟩ := ha2.has (i := k * 3 + 2) (by omega)
      have z0 := ha2.frozen (k * 3)
      have z1 := ha2.frozen (k * 3 + 1)
      have z2 := ha2.frozen (k * 3 + 2)
      clear ha3 ok1 q0 q1 q2 ob2 b2 e1 e2 e3 e4 ok2 right2 ha2 ha RIM zz HTK hde hdl
      obtain ⟨nk, ns, nA, nn, nc, nb⟩ := m2
      unfold Me.val
      go_wp2_with fail
      go_roundw
      case rel => exact ⟨k + 1, _, by omega, by go_num, HDL, HE, HA3, ((hbw2.setCell (Nat.le_refl _) _).setCell (by simp) _).setCell (by simp) _⟩
      case measure => simp [intOf]; omega
    · obtain rfl : k = n := by omega
      have h3 := hde.out
      rw [List.take_of_length_le (by rw [HN.out]; omega), HES.out] at h3
      have H3 := Lib.hid h3
      clear h3
      go_wp2_with fail
      go_ret
      have hd := hdl.out
      subst hd
      exact ⟨ds, rfl, ha.out, H3.out, hbw⟩
end Go.Proofs.Ytidppcaohkfnfaa
