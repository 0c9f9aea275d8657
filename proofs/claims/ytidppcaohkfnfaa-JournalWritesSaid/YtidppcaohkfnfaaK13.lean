
/-
  Journals: the law's Cut.
-/
import Derived.Test.YtidppcaohkfnfaaK12
namespace Go.Proofs.Ytidppcaohkfnfaa
open Go.RowKit

/-- An entry cut. -/
def cutM (m : Me) : Me := ⟨m.kind, m.key.extract 0 (min m.key.size 70), m.A, min m.n 60, m.c, m.body.take 60⟩
def cut1 (e : En) : En := ⟨e.kind, e.key.take 70, e.body.take 60⟩
theorem extract_list (s : ByteArray) (k : Nat) : (s.extract 0 k).data.toList = s.data.toList.take k := by
  rw [ByteArray.data_extract, Array.toList_extract]
  simp
theorem take_min {α : Type} (l : List α) (k : Nat) : l.take (min l.length k) = l.take k := by
  rcases Nat.le_total l.length k with h | h
  · rw [Nat.min_eq_left h, List.take_of_length_le (Nat.le_refl _), List.take_of_length_le h]
  · rw [Nat.min_eq_right h]
theorem cutM_en (m : Me) : (cutM m).en = cut1 m.en := by
  unfold cutM Me.en cut1
  simp only [extract_list]
  congr 1
  rw [← take_min m.key.data.toList 70, size_data]
theorem Me.Ok.cut {D : Nat → Prop} {w : World} {m : Me} (h : m.Ok D w) : (cutM m).Ok D w := by
  have hl := h.len
  refine ⟨h.lo, h.hi, ?_, ?_, h.cm, ?_⟩
  · have := h.sz
    show (m.key.extract 0 (min m.key.size 70)).size ≤ _
    rw [ByteArray.size_extract]
    omega
  · have := h.cap
    show min m.n 60 ≤ m.c
    omega
  · show RIn D w m.A (min m.n 60) (m.body.take 60)
    refine ⟨by rw [List.length_take, hl]; omega, fun hn => ?_⟩
    obtain ⟨ad, e, hd, hb, hc⟩ := h.rin.2 (by omega)
    refine ⟨ad, e, hd, hb, fun j u hu => hc j u ?_⟩
    rw [B8_take, List.getElem?_take] at hu
    split at hu
    · exact hu
    · cases hu
theorem cutM_len (m : Me) : (cutM m).n ≤ 60 ∧ (cutM m).key.size ≤ 70 := by
  refine ⟨?_, ?_⟩
  · show min m.n 60 ≤ 60
    omega
  · show (m.key.extract 0 (min m.key.size 70)).size ≤ 70
    rw [ByteArray.size_extract]
    omega
theorem own_base {w : World} {base size n : Nat} {e : TypeId} {v : Value} {xs : List Value} (h : w.ownsRow base e size v n xs) : ∀ k, v.ownBlock = some k → base ≤ k := by
  intro k hk
  rcases h.2 with ⟨rfl, h0⟩ | ⟨g, cap, cur, rfl, hg, hh, _⟩
  · simp [Value.ownBlock] at hk
  · simp only [Value.ownBlock, Option.some.injEq] at hk
    subst hk
    exact hg
/-- What Cut gives. -/
def CutGot (w : World) (ms : List Me) (most : Nat) (e : Ending) (w' : World) : Prop :=
  ∃ v, e = .returned v ∧ w'.ownsRow w.heap.size 45 3 v ((ms.take most).map cutM).length (meCells ((ms.take most).map cutM)) ∧ Below w.heap.size w w'

set_option maxHeartbeats 2000000 in
set_option maxRecDepth 100000 in
theorem cut_any (D : Nat → Prop) (A : Option Addr) (n c : Nat) (ms : List Me) (most : Nat) (w : World) (hr : Reads w w.heap.size 3 A n (meCells ms)) (hn : n = ms.length) (hc : n ≤ c) (hcm : c ≤ 9223372036854775807) (hok : ∀ m ∈ ms, m.Ok D w) (hm : most ≤ 100) :
    Calls Try.prog 12 #[.slice A n c, .int .i64 (most : Int)] w (CutGot w ms most) := by
  have HR := Lib.hid hr
  have HN := Lib.hid hn
  have HOK := Lib.hid hok
  clear hr hn hok
  obtain ⟨i0, hi0, hz0, hz1, hz2⟩ := info_parts info_entry
  go_enter Try.func12, Try.ntmps12
  go_wp2_with fail
  go_loopw [5, 6] (fun v i wr => ∃ k : Nat, k ≤ n ∧ k ≤ most ∧ i = .int .i64 k ∧ Hid (wr.ownsRow w.heap.size 45 3 v k (meCells ((ms.take k).map cutM))) ∧ Below w.heap.size w wr) (fun _ i _ => n - (intOf i).toNat)
  case atStart => exact ⟨0, by omega, by omega, rfl, World.ownsRow_nil _ _ _ _, Below.refl _ _⟩
  case round =>
    obtain ⟨k, hk, hkm, rfl, ho, hbw⟩ := hrel
    by_cases hlt : k < n
    · by_cases hlm : k < most
      · have hkl : k < ms.length := by rw [← HN.out]; exact hlt
        have cT := meCells_cut ms k hkl
        obtain ⟨b, o, rfl, hb, hcl⟩ := HR.out.chunk (by omega) hlt cT
        have okm := (HOK.out _ (List.getElem_mem hkl)).below hbw
        have HTK : Hid ((ms.take (k + 1)).map cutM = (ms.take k).map cutM ++ [cutM ms[k]]) := by
          rw [Hid, List.take_succ_eq_append_getElem hkl, List.map_append]
          rfl
        generalize ms[k] = m at *
        clear cT
        obtain ⟨mk, mks, mA, mn, mc, mb⟩ := m
        obtain ⟨h1, h2, h3, h4, h5, h6⟩ := okm
        simp only at h1 h2 h3 h4 h5
        have q0 : wr.cell? ⟨b, o + k * 3, none⟩ = some (.int .i64 mk) := (hbw.cell (p := ⟨b, o + k * 3, none⟩) hb).trans (hcl 0 _ rfl)
        have q1 : wr.cell? ⟨b, o + k * 3 + 1, none⟩ = some (.string mks) := (hbw.cell (p := ⟨b, o + k * 3 + 1, none⟩) hb).trans (hcl 1 _ rfl)
        have q2 : wr.cell? ⟨b, o + k * 3 + 2, none⟩ = some (.slice mA mn mc) := (hbw.cell (p := ⟨b, o + k * 3 + 2, none⟩) hb).trans (hcl 2 _ rfl)
        have hsz := hbw.size
        have g1 : (0 : Int) ≤ (k : Int) := by omega
        have g2 : (k : Int) < (n : Int) := by omega
        have g3 : (k : Int) < (most : Int) := by omega
        obtain ⟨k1, hk1⟩ : ∃ k1, k1 = min mks.size 70 := ⟨_, rfl⟩
        obtain ⟨k2, hk2⟩ : ∃ k2, k2 = min mn 60 := ⟨_, rfl⟩
        have m1 : min (mks.size : Int) 70 = (k1 : Int) := by omega
        have m2 : min (mn : Int) 60 = (k2 : Int) := by omega
        have m3 : (0 : Int) ≤ (k1 : Int) := by omega
        have m4 : (k1 : Int) ≤ (mks.size : Int) := by omega
        have m5 : (0 : Int) ≤ (k2 : Int) := by omega
        have m6 : (k2 : Int) ≤ (mc : Int) := by omega
        have m7 : (mn : Int) ≤ (mc : Int) := by omega
        have HK1 := Lib.hid hk1
        have HK2 := Lib.hid hk2
        clear hcl h6 hk1 hk2
        go_upto_region 6 with fail
        have f1 : Below wr.heap.size wr (wr.alloc (.cells #[.int .i64 mk, .string mks, .slice mA mn mc] 45)) := (Below.refl _ wr).al _
        have b1 := Blk.new wr 45 #[.int .i64 mk, .string mks, .slice mA mn mc]
        generalize wr.alloc (.cells #[.int .i64 mk, .string mks, .slice mA mn mc] 45) = W1 at *
        have c0 : W1.cell? ⟨wr.heap.size, 0, none⟩ = some (.int .i64 mk) := b1.cell 0
        have c1 : W1.cell? ⟨wr.heap.size, 1, none⟩ = some (.string mks) := b1.cell 1
        have c2 : W1.cell? ⟨wr.heap.size, 2, none⟩ = some (.slice mA mn mc) := b1.cell 2
        have d1 := b1.frozen 1
        have d2 := b1.frozen 2
        go_region
        have b2 := ((b1.set_ 1 (.string (mks.extract 0 k1))).set_ 2 (.slice mA k2 mc)).drew
        have K2 : Kept (fun z => z = wr.heap.size) wr ((W1.setCell ⟨wr.heap.size, 1, none⟩ (.string (mks.extract 0 k1))).setCell ⟨wr.heap.size, 2, none⟩ (.slice mA k2 mc)).drew :=
          (((Kept.of_below (S := fun z => z = wr.heap.size) f1).setCell (p := ⟨wr.heap.size, 1, none⟩) (fun _ => rfl) _).setCell (p := ⟨wr.heap.size, 2, none⟩) (fun _ => rfl) _).drew
        generalize ((W1.setCell ⟨wr.heap.size, 1, none⟩ (.string (mks.extract 0 k1))).setCell ⟨wr.heap.size, 2, none⟩ (.slice mA k2 mc)).drew = W2 at *
        have hlt2 := own_blk ho.out
        have o2 := Lib.hid (own_other ho.out K2 (fun q hq e => by have := hlt2 q hq; omega))
        have F2 : Below w.heap.size w W2 := hbw.trans (K2.to_below hbw.size (fun q hq e => by omega))
        have e0 : W2.cell? ⟨wr.heap.size, 0, none⟩ = some (.int .i64 mk) := b2.cell 0
        have e1 : W2.cell? ⟨wr.heap.size, 1, none⟩ = some (.string (mks.extract 0 k1)) := b2.cell 1
        have e2 : W2.cell? ⟨wr.heap.size, 2, none⟩ = some (.slice mA k2 mc) := b2.cell 2
        have RD := Lib.hid (new_entry W2 45 ⟨mk, mks.extract 0 k1, mA, k2, mc, mb.take 60⟩)
        have ONE := Lib.hid (Me.one ⟨mk, mks.extract 0 k1, mA, k2, mc, mb.take 60⟩)
        have o3 := Lib.hid (World.ownsRow.alloc (w := W2) o2.out (.cells (Me.cells ⟨mk, mks.extract 0 k1, mA, k2, mc, mb.take 60⟩).toArray 45))
        unfold Me.cells at RD ONE o3
        simp only at RD ONE o3
        have z2 := F2.size
        clear b1 b2 c0 c1 c2 d1 d2 f1 K2 ho o2 q0 q1 q2
        go_wp2_with (at_builtin; refine wpList_append_any _ rfl (.tmp 39) (.tmp 41) 22 rfl w.heap.size 45 i0 _ 3 48 Try.underlying22 hi0 hz0 hz1 hz2 rfl (by omega) _ k _ rfl o3.out _ _ 1 1 [.int .i64 mk, .string (mks.extract 0 k1), .slice mA k2 mc] rfl RD.out ONE.out (by unfold maxLen; omega) (by omega) (by simp; omega) ?_; intro v8 w8 o8 g8 at8)
        have hb8 : Below w.heap.size w w8 := (F2.alloc (by omega) _).trans ⟨g8.os, g8.tape, g8.output, Nat.le_trans (by simp) g8.size, fun q hq => g8.block q (by simp; omega) (fun e => by
          have h1 := (own_base o3.out q e.symm)
          omega)⟩
        have HO8 : Hid (w8.ownsRow w.heap.size 45 3 v8 (k + 1) (meCells ((ms.take (k + 1)).map cutM))) := by
          have e1 : cutM ⟨mk, mks, mA, mn, mc, mb⟩ = ⟨mk, mks.extract 0 k1, mA, k2, mc, mb.take 60⟩ := by rw [HK1.out, HK2.out]; rfl
          rw [Hid, HTK.out, meCells_append, e1]
          have e2 : meCells [(⟨mk, mks.extract 0 k1, mA, k2, mc, mb.take 60⟩ : Me)] = [.int .i64 mk, .string (mks.extract 0 k1), .slice mA k2 mc] := by simp [meCells, Me.cells]
          rw [e2]
          exact o8
        clear o8 g8 at8 o3 RD
        go_roundw
        case rel => exact ⟨k + 1, by omega, by omega, by go_num, HO8, hb8⟩
        case measure => simp [intOf]; omega
      · obtain rfl : k = most := by omega
        have HL : Hid (((ms.take k).map cutM).length = k) := by rw [Hid, List.length_map, List.length_take, ← HN.out]; omega
        have g1 : (k : Int) < (n : Int) := by omega
        go_wp2_with fail
        go_ret
        exact ⟨_, rfl, by rw [HL.out]; exact ho.out, hbw⟩
    · obtain rfl : k = n := by omega
      have HL : Hid ((ms.take k).map cutM = (ms.take most).map cutM) := by rw [Hid, List.take_of_length_le (by rw [← HN.out]; exact Nat.le_refl _), List.take_of_length_le (by rw [← HN.out]; exact hkm)]
      have HL2 : Hid (((ms.take most).map cutM).length = k) := by rw [Hid, List.length_map, List.length_take, ← HN.out]; omega
      go_wp2_with fail
      go_ret
      exact ⟨_, rfl, by rw [HL2.out, ← HL.out]; exact ho.out, hbw⟩
end Go.Proofs.Ytidppcaohkfnfaa
