
/-
  Journals: Last.
-/
import Derived.Test.YtidppcaohkfnfaaK18
namespace Go.Proofs.Ytidppcaohkfnfaa
open Go.RowKit

theorem lastE_snoc (l : List En) (e : En) (p : Int × List UInt8) : lastE (l ++ [e]) p = if e.pl = p then some e else lastE l p := by
  unfold lastE
  rw [List.reverse_append]
  show List.find? _ (e :: l.reverse) = _
  rw [List.find?_cons]
  by_cases h : e.pl = p <;> simp [h]
theorem lastI_E (ms : List Me) (k : Int) (s : ByteArray) : (lastI ms k s = none ∧ lastE (ms.map Me.en) (k, s.data.toList) = none) ∨ (∃ i, lastI ms k s = some i ∧ ∃ h : i < ms.length, lastE (ms.map Me.en) (k, s.data.toList) = some (ms[i]'h).en) := by
  refine rev_ind (P := fun ms => (lastI ms k s = none ∧ lastE (ms.map Me.en) (k, s.data.toList) = none) ∨ (∃ i, lastI ms k s = some i ∧ ∃ h : i < ms.length, lastE (ms.map Me.en) (k, s.data.toList) = some (ms[i]'h).en)) (.inl ⟨rfl, rfl⟩) ?_ ms
  intro ms m ih
  rw [← lastI_append, List.map_append, List.map_singleton, lastE_snoc]
  unfold putF
  by_cases h : k = m.kind ∧ s = m.key
  · rw [if_pos h, if_pos (by unfold En.pl Me.en; rw [h.1, h.2])]
    exact .inr ⟨_, rfl, by simp, by simp⟩
  · rw [if_neg h, if_neg (by
      unfold En.pl Me.en
      simp only [Prod.mk.injEq]
      rintro ⟨h1, h2⟩
      exact h ⟨h1.symm, (str_eq_iff.1 h2).symm⟩)]
    rcases ih with ⟨h1, h2⟩ | ⟨i, h1, h2, h3⟩
    · exact .inl ⟨h1, h2⟩
    · refine .inr ⟨i, h1, by simp; omega, ?_⟩
      rw [List.getElem_append_left h2]
      exact h3
/-- What Last gives. -/
def LastGot (w : World) (es : List En) (p : Int × List UInt8) (e : Ending) (w' : World) : Prop :=
  Below w.heap.size w w' ∧ ((∃ m : Me, e = .returned (.tuple #[m.val, .bool true]) ∧ lastE es p = some m.en ∧ m.Ok (fun k => w.heap.size ≤ k) w' ∧ m.Right) ∨ (e = .returned (.tuple #[zeroE, .bool false]) ∧ lastE es p = none))

set_option maxHeartbeats 2000000 in
set_option maxRecDepth 100000 in
theorem jlast_any (S : Nat → Prop) (g : Nat) (es : List En) (k : Int) (s : ByteArray) (w : World) (h : Jn w S g es) (hp : PlOk k s) :
    Calls Try.prog 26 #[.pointer (some ⟨g, 0, none⟩), .int .i64 k, .string s] w (LastGot w es (k, s.data.toList)) := by
  obtain ⟨r, v, ms, hj, hes⟩ := h
  obtain ⟨A, c, rfl⟩ := hj.slice
  obtain ⟨n, hln⟩ : ∃ n, ms.length = n := ⟨_, rfl⟩

  have gl := hj.blk.lt
  have f0 : Below w.heap.size w (w.alloc (.cells #[.int .i64 0, .string ⟨#[]⟩, .slice none 0 0] 45)) := (Below.refl _ w).al _
  have x0 := Blk.new w 45 #[.int .i64 0, .string ⟨#[]⟩, .slice none 0 0]
  have hj0 := hj.below f0
  obtain ⟨-, hc, hm, hrd⟩ := hj0.reads
  have HLI := lastI_E ms k s
  rw [hes] at HLI
  have LK := hj0.map.lookup hp true
  unfold plV at LK
  have HJ := Lib.hid hj0
  have HR := Lib.hid hrd
  have HN := Lib.hid hln
  have HF := Lib.hid f0
  unfold maxLen at hm
  have X0 := Lib.hid x0
  have z0 : (w.alloc (.cells #[.int .i64 0, .string ⟨#[]⟩, .slice none 0 0] 45)).heap.size = w.heap.size + 1 := by simp
  go_enter Try.func26, Try.ntmps26
  go_upto_region 3 with fail
  generalize w.alloc (.cells #[.int .i64 0, .string ⟨#[]⟩, .slice none 0 0] 45) = W0 at *
  have h0 : W0.cell? ⟨g, 0, none⟩ = some (.slice A ms.length c) := HJ.out.blk.cell 0
  have h1 : W0.cell? ⟨g, 1, none⟩ = some (.map (some r)) := HJ.out.blk.cell 1
  rw [hln] at h0
  clear hj hj0 hrd f0 hln x0
  rcases HLI with ⟨l1, l2⟩ | ⟨i, l1, l2, l3⟩
  · rw [l1] at LK
    simp only [Option.getD_none, Option.isSome_none, if_true] at LK
    have L2 := Lib.hid l2
    have s0 : W0.cell? ⟨w.heap.size, 0, none⟩ = some (.int .i64 0) := X0.out.cell 0
    have s1 : W0.cell? ⟨w.heap.size, 1, none⟩ = some (.string ⟨#[]⟩) := X0.out.cell 1
    have s2 : W0.cell? ⟨w.heap.size, 2, none⟩ = some (.slice none 0 0) := X0.out.cell 2
    have t0 := X0.out.frozen 0
    have t1 := X0.out.frozen 1
    have t2 := X0.out.frozen 2
    clear l1 l2
    go_wp2_with fail
    refine bodyPost_ret (v := .tuple #[zeroE, .bool false]) (by simp [results, Try.results26, go_sem, s0, s1, s2, zeroE]) rfl ⟨?_, .inr ⟨rfl, L2.out⟩⟩
    exact ((HF.out.setCell (Nat.le_refl _) _).setCell (by simp) _).setCell (by simp) _
  · rw [l1] at LK
    simp only [Option.getD_some, Option.isSome_some, if_true] at LK
    have hi : i < n := by rw [← HN.out]; exact l2
    have cT := meCells_cut ms i l2
    have hrd := HR.out
    rw [HN.out] at hrd hc
    obtain ⟨b, o, rfl, hb, hcl⟩ := hrd.chunk (by omega) hi cT
    have okm := HJ.out.ok _ (List.getElem_mem l2)
    have rim := HJ.out.right _ (List.getElem_mem l2)
    have L3 := Lib.hid l3
    generalize ms[i] = m at *
    have q0 : W0.cell? ⟨b, o + i * 3, none⟩ = some (.int .i64 m.kind) := hcl 0 _ rfl
    have q1 : W0.cell? ⟨b, o + i * 3 + 1, none⟩ = some (.string m.key) := hcl 1 _ rfl
    have q2 : W0.cell? ⟨b, o + i * 3 + 2, none⟩ = some (.slice m.A m.n m.c) := hcl 2 _ rfl
    have ROM := rim.2.2.2
    have CL := Lib.hid (clone_any _ m W0 okm (by omega))
    have RIM := Lib.hid rim
    have OKM := Lib.hid okm.len
    have g1 : (0 : Int) ≤ (i : Int) := by omega
    have g2 : (i : Int) < (n : Int) := by omega
    clear l1 l3 cT hcl okm rim ROM hrd
    go_wp2_with fail
    refine CL.out.mono ?_
    rintro e w2 ⟨m2, rfl, e1, e2, e3, e4, ok2, ob2, b2⟩
    have X2 := X0.out.below b2 X0.out.lt
    have s0 : w2.cell? ⟨w.heap.size, 0, none⟩ = some (.int .i64 0) := X2.cell 0
    have s1 : w2.cell? ⟨w.heap.size, 1, none⟩ = some (.string ⟨#[]⟩) := X2.cell 1
    have s2 : w2.cell? ⟨w.heap.size, 2, none⟩ = some (.slice none 0 0) := X2.cell 2
    have t0 := X2.frozen 0
    have t1 := X2.frozen 1
    have t2 := X2.frozen 2
    have right2 : m2.Right := by
      have h1 := ok2.len
      have h2 := OKM.out
      obtain ⟨r1, r2, r3, r4⟩ := RIM.out
      refine ⟨by rw [e2]; exact r1, by rw [e2]; exact r2, by rw [e3]; exact r3, ?_⟩
      rw [h1, e4, ← h2]
      exact r4
    have HEN : Hid (lastE es (k, s.data.toList) = some m2.en) := by rw [Hid, L3.out, e1]
    have F2 := Lib.hid (HF.out.then_ b2)
    have OK2 := Lib.hid ok2
    have HR2 := Lib.hid right2
    have z1 := X0.out.lt
    clear CL e1 e2 e3 e4 ok2 ob2 b2 X2 right2 q0 q1 q2 h0 h1 LK L3 RIM OKM
    obtain ⟨k2, s2', A2, n2, c2, l2'⟩ := m2
    unfold Me.val
    go_wp2_with fail
    have KK : Kept (fun z => z = w.heap.size) w2 (((w2.setCell ⟨w.heap.size, 0, none⟩ (.int .i64 k2)).setCell ⟨w.heap.size, 1, none⟩ (.string s2')).setCell ⟨w.heap.size, 2, none⟩ (.slice A2 n2 c2)) :=
      (((Kept.refl (fun z => z = w.heap.size) w2).setCell (p := ⟨w.heap.size, 0, none⟩) (fun _ => rfl) _).setCell (p := ⟨w.heap.size, 1, none⟩) (fun _ => rfl) _).setCell (p := ⟨w.heap.size, 2, none⟩) (fun _ => rfl) _
    refine bodyPost_ret (v := .tuple #[.agg #[.int .i64 k2, .string s2', .slice A2 n2 c2], .bool true]) (by simp [results, Try.results26, go_sem, s0, s1, s2]) rfl ⟨?_, .inl ⟨⟨k2, s2', A2, n2, c2, l2'⟩, rfl, HEN.out, (OK2.out.kept KK (fun q hq e => by omega)).mono (fun q _ hq => by omega), HR2.out⟩⟩
    exact F2.out.trans (KK.to_below F2.out.size (fun q hq e => by omega))
end Go.Proofs.Ytidppcaohkfnfaa
