
/-
  Journals: Cut.
-/
import Derived.Test.YtidppcaohkfnfaaK22
namespace Go.Proofs.Ytidppcaohkfnfaa
open Go.RowKit

theorem lastI_after : ∀ {ms : List Me} {k : Int} {s : ByteArray} {i : Nat}, lastI ms k s = some i → ∀ j (hj : j < ms.length), i < j → ¬ ((ms[j]'hj).kind = k ∧ (ms[j]'hj).key = s) := by
  intro ms
  refine rev_ind (P := fun ms => ∀ {k : Int} {s : ByteArray} {i : Nat}, lastI ms k s = some i → ∀ j (hj : j < ms.length), i < j → ¬ ((ms[j]'hj).kind = k ∧ (ms[j]'hj).key = s)) ?_ ?_ ms
  · intro k s i h; simp [lastI, lastR] at h
  · intro ms m ih k s i h j hj hij
    rw [← lastI_append, putF] at h
    have hj' : j < ms.length + 1 := by simpa using hj
    split at h
    · injection h with h
      omega
    · rename_i hk
      rcases Nat.lt_or_ge j ms.length with h1 | h1
      · rw [List.getElem_append_left h1]
        exact ih h j h1 hij
      · obtain rfl : j = ms.length := by omega
        simp only [List.getElem_append_right (Nat.le_refl _), Nat.sub_self, List.getElem_cons_zero]
        rintro ⟨h2, h3⟩
        exact hk ⟨h2.symm, h3.symm⟩
theorem lastI_of : ∀ {ms : List Me} {j : Nat} (hj : j < ms.length), ∃ i, lastI ms (ms[j]'hj).kind (ms[j]'hj).key = some i ∧ j ≤ i := by
  intro ms
  refine rev_ind (P := fun ms => ∀ {j : Nat} (hj : j < ms.length), ∃ i, lastI ms (ms[j]'hj).kind (ms[j]'hj).key = some i ∧ j ≤ i) ?_ ?_ ms
  · intro j hj; simp at hj
  · intro ms m ih j hj
    have hj' : j < ms.length + 1 := by simpa using hj
    rw [← lastI_append, putF]
    split
    · exact ⟨_, rfl, by omega⟩
    · rename_i hk
      rcases Nat.lt_or_ge j ms.length with h1 | h1
      · simp only [List.getElem_append_left h1]
        exact ih h1
      · obtain rfl : j = ms.length := by omega
        exact absurd (by simp [List.getElem_append_right (Nat.le_refl _)]) hk
theorem cutE_at {es : List En} {ms : List Me} (h : ms.map Me.en = es) {k : Nat} (hk : k < ms.length) :
    cutE (es.drop k) = if ((es.drop (k + 1)).any fun x => decide (x.pl = (ms[k]'hk).en.pl)) = true then cutE (es.drop (k + 1)) else (ms[k]'hk).en :: cutE (es.drop (k + 1)) := by
  have hk2 : k < es.length := by rw [← h, List.length_map]; exact hk
  have e1 : es.drop k = es[k] :: es.drop (k + 1) := List.drop_eq_getElem_cons hk2
  have e2 : es[k] = (ms[k]'hk).en := by subst h; simp
  rw [e1, e2]
  simp only [cutE]
theorem last_none {es : List En} {ms : List Me} (h : ms.map Me.en = es) {k : Nat} {hk : k < ms.length} (hl : lastI ms (ms[k]'hk).kind (ms[k]'hk).key = some k) :
    ¬ ((es.drop (k + 1)).any fun x => decide (x.pl = (ms[k]'hk).en.pl)) = true := fun ha => by
  obtain ⟨x, hx, hp⟩ := List.any_eq_true.1 ha
  obtain ⟨j, hj, rfl⟩ := List.mem_iff_getElem.1 hx
  rw [List.length_drop] at hj
  have hj2 : k + 1 + j < es.length := by omega
  have hj3 : k + 1 + j < ms.length := by rw [← h, List.length_map] at hj2; exact hj2
  have e1 : (es.drop (k + 1))[j] = (ms[k + 1 + j]'hj3).en := by subst h; simp
  rw [e1] at hp
  have hp' : (ms[k + 1 + j]'hj3).en.pl = (ms[k]'hk).en.pl := by simpa using hp
  unfold En.pl Me.en at hp'
  simp only [Prod.mk.injEq] at hp'
  exact lastI_after hl (k + 1 + j) hj3 (by omega) ⟨hp'.1, str_eq_iff.1 hp'.2⟩
theorem last_later {es : List En} {ms : List Me} (h : ms.map Me.en = es) {k i : Nat} {hk : k < ms.length} (hl : lastI ms (ms[k]'hk).kind (ms[k]'hk).key = some i) (hi : k < i) :
    ((es.drop (k + 1)).any fun x => decide (x.pl = (ms[k]'hk).en.pl)) = true := by
  obtain ⟨h1, h2, h3⟩ := lastI_some hl
  refine List.any_eq_true.2 ⟨(ms[i]'h1).en, ?_, ?_⟩
  · rw [List.mem_iff_getElem]
    refine ⟨i - (k + 1), by rw [List.length_drop, ← h, List.length_map]; omega, ?_⟩
    subst h
    simp only [List.getElem_drop, List.getElem_map]
    congr 2
    omega
  · unfold En.pl Me.en
    rw [h2, h3]
    simp

set_option maxHeartbeats 2000000 in
set_option maxRecDepth 100000 in
theorem jcut_any (S : Nat → Prop) (g : Nat) (es : List En) (w : World) (h : Jn w S g es) (hn : es.length ≤ 70000) :
    Calls Try.prog 28 #[.pointer (some ⟨g, 0, none⟩)] w (JGot w (cutE es)) := by
  obtain ⟨r, v, ms, hj, hes⟩ := h
  obtain ⟨A, c, rfl⟩ := hj.slice
  obtain ⟨n, hln⟩ : ∃ n, ms.length = n := ⟨_, rfl⟩
  have hln2 : es.length = n := by rw [← hes, List.length_map, hln]
  rw [hln2] at hn
  have h0 : w.cell? ⟨g, 0, none⟩ = some (.slice A ms.length c) := hj.blk.cell 0
  have gl := hj.blk.lt
  obtain ⟨-, hc, hm, hrd⟩ := hj.reads
  rw [hln] at h0 hc hrd
  have HJ := Lib.hid hj
  have HR := Lib.hid hrd
  have HN := Lib.hid hln
  have HN2 := Lib.hid hln2
  have HES := Lib.hid hes
  unfold maxLen at hm
  clear hj hrd hln hln2 hes
  go_enter Try.func28, Try.ntmps28
  go_wp2_with fail
  refine (new_any w).mono ?_
  intro e w1 hnew
  obtain ⟨S2, g2, rfl, j1, hS, b1⟩ := Jn.of_new hnew
  have h1 : w1.cell? ⟨g, 0, none⟩ = some (.slice A n c) := (b1.cell (p := ⟨g, 0, none⟩) gl).trans h0
  have J1 := Lib.hid j1
  have HS := Lib.hid hS
  clear hnew j1 hS h0
  go_wp2_with fail
  go_loopg [14] n (fun gk i wr => ∃ (k : Nat) (S : Nat → Prop), gk = n - k ∧ k ≤ n ∧ i = .int .i64 k ∧ (∃ cs, Hid (Jn wr S g2 cs) ∧ Hid (cs ++ cutE (es.drop k) = cutE es) ∧ Hid (cs.length ≤ k)) ∧ Hid (∀ k, S k → w.heap.size ≤ k) ∧ Below w.heap.size w wr)
  case atStart => exact ⟨0, S2, by omega, by omega, rfl, ⟨[], J1, by rw [Hid, List.nil_append, List.drop_zero], Nat.le_refl _⟩, HS, b1⟩
  case round =>
    clear J1 HS b1 S2 h1
    obtain ⟨k, S2, hgk, hk, rfl, ⟨cs, hj, hcs, hcl0⟩, hS, hbw⟩ := hrel
    have HGK := Lib.hid hgk
    clear hgk
    by_cases hlt : k < n
    · have hkm : k < ms.length := by rw [HN.out]; exact hlt
      have cT := meCells_cut ms k hkm
      obtain ⟨b, o, rfl, hb, hcl⟩ := HR.out.chunk (by omega) hlt cT
      have okm := (HJ.out.ok _ (List.getElem_mem hkm)).below hbw
      have rim := HJ.out.right _ (List.getElem_mem hkm)
      have HEL : Hid (cs.length ≤ 70000) := Nat.le_trans hcl0.out (by omega)
      obtain ⟨i, hli, hki⟩ := lastI_of (ms := ms) (j := k) hkm
      have hC1 : Hid (i = k → (cs ++ [(ms[k]).en]) ++ cutE (es.drop (k + 1)) = cutE es) := fun e => by
        rw [← hcs.out, cutE_at HES.out hkm, if_neg (last_none HES.out (e ▸ hli)), List.append_assoc]
        rfl
      have hC2 : Hid (¬ i = k → cs ++ cutE (es.drop (k + 1)) = cutE es) := fun e => by
        rw [← hcs.out, cutE_at HES.out hkm, if_pos (last_later HES.out hli (by omega))]
      generalize ms[k] = m at *
      clear cT
      have q0 : wr.cell? ⟨b, o + k * 3, none⟩ = some (.int .i64 m.kind) := (hbw.cell (p := ⟨b, o + k * 3, none⟩) hb).trans (hcl 0 _ rfl)
      have q1 : wr.cell? ⟨b, o + k * 3 + 1, none⟩ = some (.string m.key) := (hbw.cell (p := ⟨b, o + k * 3 + 1, none⟩) hb).trans (hcl 1 _ rfl)
      have q2 : wr.cell? ⟨b, o + k * 3 + 2, none⟩ = some (.slice m.A m.n m.c) := (hbw.cell (p := ⟨b, o + k * 3 + 2, none⟩) hb).trans (hcl 2 _ rfl)
      have hsz := hbw.size
      have g1 : (0 : Int) ≤ (k : Int) := by omega
      have g2' : (k : Int) < (n : Int) := by omega
      have f1 : Below wr.heap.size wr (wr.alloc (.cells #[.int .i64 m.kind, .string m.key, .slice m.A m.n m.c] 45)) := (Below.refl _ wr).al _
      have b1 := Blk.new wr 45 #[.int .i64 m.kind, .string m.key, .slice m.A m.n m.c]
      have J1 := Lib.hid (hj.out.below f1)
      have ok1 := Lib.hid (okm.below f1)
      have RIM := Lib.hid rim
      have ROM := Lib.hid rim.2.2.2
      clear hcl okm rim hj
      go_upto_region 7 with fail
      generalize wr.alloc (.cells #[.int .i64 m.kind, .string m.key, .slice m.A m.n m.c] 45) = W1 at *
      have p0 : W1.cell? ⟨wr.heap.size, 0, none⟩ = some (.int .i64 m.kind) := b1.cell 0
      have p1 : W1.cell? ⟨wr.heap.size, 1, none⟩ = some (.string m.key) := b1.cell 1
      have p2 : W1.cell? ⟨wr.heap.size, 2, none⟩ = some (.slice m.A m.n m.c) := b1.cell 2
      have hjW := Lib.hid ((HJ.out.below hbw).below f1)
      have m1 : W1.cell? ⟨g, 1, none⟩ = some (.map (some r)) := hjW.out.blk.cell 1
      have LK := hjW.out.drew.map.lookup (k := m.kind) (s := m.key) ⟨ok1.out.lo, ok1.out.hi, ok1.out.sz⟩ false
      unfold plV at LK
      rw [hli] at LK
      simp only [Option.getD_some, Bool.false_eq_true, if_false] at LK
      have HB1 := Lib.hid b1
      clear q0 q1 q2 b1 hli
      go_region
      have f2 : Below wr.heap.size wr W1.drew := f1.drew
      have JB := Lib.hid (J1.out.below (Below.refl _ W1).drew)
      have okB := Lib.hid (ok1.out.below (Below.refl _ W1).drew)
      have BB := Lib.hid HB1.out.drew
      clear f1 J1 ok1 HB1 hjW LK m1 p0 p1 p2
      generalize W1.drew = W2 at *
      have p0 : W2.cell? ⟨wr.heap.size, 0, none⟩ = some (.int .i64 m.kind) := BB.out.cell 0
      have p1 : W2.cell? ⟨wr.heap.size, 1, none⟩ = some (.string m.key) := BB.out.cell 1
      have p2 : W2.cell? ⟨wr.heap.size, 2, none⟩ = some (.slice m.A m.n m.c) := BB.out.cell 2
      by_cases hik : i = k
      · have HC := Lib.hid (hC1.out hik)
        obtain rfl : k = i := hik.symm
        clear hC1 hC2
        have CL := Lib.hid (clone_any _ m W2 okB.out (by have := ROM.out; omega))
        go_wp2_with fail
        refine CL.out.mono ?_
        rintro e w2 ⟨m2, rfl, e1, e2, e3, e4, ok2, -, b2⟩
        have right2 : m2.Right := by
          have h1 := ok2.len
          have h2 := okB.out.len
          obtain ⟨r1, r2, r3, r4⟩ := RIM.out
          refine ⟨by rw [e2]; exact r1, by rw [e2]; exact r2, by rw [e3]; exact r3, ?_⟩
          rw [h1, e4, ← h2]
          exact r4
        have J2 := JB.out.below b2
        have TK := Lib.hid (jtake_jn S2 _ g2 cs m2 w2 J2 ok2 right2 HEL.out (fun q hq hs => by have := JB.out.lt q hs; omega))
        have HEN : Hid ((cs ++ [m2.en]) ++ cutE (es.drop (k + 1)) = cutE es) := by rw [Hid, e1]; exact HC.out
        have hlS := Lib.hid J2.lt
        have hb2 := b2.size
        have hf1 := f2.size
        have F2 := hbw.trans ((f2.then_ b2).mono hbw.size)
        clear CL J2 e1 e2 e3 e4 ok2 right2 p0 p1 p2 b2 f2
        go_wp2_with fail
        refine TK.out.mono ?_
        rintro e w3 ⟨rfl, S3, j3, s1, s2, k3⟩
        have HJ3 := Lib.hid j3
        have HCL : Hid ((cs ++ [m2.en]).length ≤ k + 1) := by have := hcl0.out; rw [Hid, List.length_append, List.length_singleton]; omega
        have HS3 : Hid (∀ q, S3 q → w.heap.size ≤ q) := fun q hq => by
          rcases s1 q hq with h | ⟨h, _⟩ | h
          · exact hS.out q h
          · omega
          · omega
        have F3 : Below w.heap.size w w3 := F2.trans (k3.to_below (by omega) (fun q hq h => by have := hS.out q h; omega))
        clear TK j3 s1 s2 k3
        go_wp2_with fail
        go_roundg (n - (k + 1))
        case measure => have := HGK.out; omega
        case rel => exact ⟨k + 1, S3, rfl, by omega, by go_num, ⟨_, HJ3, HEN, HCL⟩, HS3, F3⟩
      · have HC := Lib.hid (hC2.out hik)
        have HCL : Hid (cs.length ≤ k + 1) := Nat.le_succ_of_le hcl0.out
        have g3 : ((i : Int) == (k : Int)) = false := by simp; omega
        have g4 : ¬ (i : Int) = (k : Int) := by omega
        have F2 := hbw.trans (f2.mono hbw.size)
        clear hC1 hC2 p0 p1 p2 f2
        go_wp2_with fail
        go_roundg (n - (k + 1))
        case measure => have := HGK.out; omega
        case rel => exact ⟨k + 1, S2, rfl, by omega, by go_num, ⟨cs, JB, HC, HCL⟩, hS, F2⟩
    · obtain rfl : k = n := by omega
      have h3 := hcs.out
      rw [List.drop_of_length_le (by rw [HN2.out]; exact Nat.le_refl _)] at h3
      have h4 : cs = cutE es := by rw [← h3]; exact (List.append_nil cs).symm
      have H3 := Lib.hid (h4 ▸ hj.out)
      clear h3 h4 hj hcs
      go_wp2_with fail
      go_ret
      exact ⟨S2, g2, rfl, H3.out, hS.out, hbw⟩

end Go.Proofs.Ytidppcaohkfnfaa
