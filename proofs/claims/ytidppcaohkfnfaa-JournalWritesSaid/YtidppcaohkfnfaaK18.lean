
/-
  Journals: Clone.
-/
import Derived.Test.YtidppcaohkfnfaaK16
namespace Go.Proofs.Ytidppcaohkfnfaa
open Go.RowKit

/-- A journal of its own. -/
def JGot (w : World) (es : List En) (e : Ending) (w' : World) : Prop :=
  ∃ S g, e = .returned (.pointer (some ⟨g, 0, none⟩)) ∧ Jn w' S g es ∧ (∀ k, S k → w.heap.size ≤ k) ∧ Below w.heap.size w w'
theorem take_succ_en {es : List En} {ms : List Me} (h : ms.map Me.en = es) {k : Nat} (hk : k < ms.length) : es.take (k + 1) = es.take k ++ [(ms[k]).en] := by
  subst h
  rw [List.take_succ_eq_append_getElem (by simpa using hk), List.getElem_map]

set_option maxHeartbeats 2000000 in
set_option maxRecDepth 100000 in
theorem jclone_any (S : Nat → Prop) (g : Nat) (es : List En) (w : World) (h : Jn w S g es) (hn : es.length ≤ 70000) :
    Calls Try.prog 25 #[.pointer (some ⟨g, 0, none⟩)] w (JGot w es) := by
  obtain ⟨r, v, ms, hj, hes⟩ := h
  obtain ⟨A, c, rfl⟩ := hj.slice
  obtain ⟨n, hln⟩ : ∃ n, ms.length = n := ⟨_, rfl⟩
  have hln2 : es.length = n := by rw [← hes, List.length_map, hln]
  rw [hln2] at hn
  have h0 : w.cell? ⟨g, 0, none⟩ = some (.slice A ms.length c) := hj.blk.cell 0
  have gl := hj.blk.lt
  obtain ⟨-, hc, hm, hrd⟩ := hj.reads
  rw [hln] at h0 hc hrd
  have HJ := Lib.hid hj
  have HR := Lib.hid hrd
  have HN := Lib.hid hln
  have HN2 := Lib.hid hln2
  have HES := Lib.hid hes
  unfold maxLen at hm
  clear hj hrd hln hln2 hes
  go_enter Try.func25, Try.ntmps25
  go_wp2_with fail
  refine (new_any w).mono ?_
  intro e w1 hnew
  obtain ⟨S2, g2, rfl, j1, hS, b1⟩ := Jn.of_new hnew
  have h1 : w1.cell? ⟨g, 0, none⟩ = some (.slice A n c) := (b1.cell (p := ⟨g, 0, none⟩) gl).trans h0
  have J1 := Lib.hid j1
  have HS := Lib.hid hS
  clear hnew j1 hS h0
  go_wp2_with fail
  go_loopg [14] n (fun gk i wr => ∃ (k : Nat) (S : Nat → Prop), gk = n - k ∧ k ≤ n ∧ i = .int .i64 k ∧ Hid (Jn wr S g2 (es.take k)) ∧ Hid (∀ k, S k → w.heap.size ≤ k) ∧ Below w.heap.size w wr)
  case atStart => exact ⟨0, S2, by omega, by omega, rfl, J1, HS, b1⟩
  case round =>
    clear J1 HS b1 S2 h1
    obtain ⟨k, S2, hgk, hk, rfl, hj, hS, hbw⟩ := hrel
    have HGK := Lib.hid hgk
    clear hgk
    by_cases hlt : k < n
    · have hkm : k < ms.length := by rw [HN.out]; exact hlt
      have cT := meCells_cut ms k hkm
      obtain ⟨b, o, rfl, hb, hcl⟩ := HR.out.chunk (by omega) hlt cT
      have okm := (HJ.out.ok _ (List.getElem_mem hkm)).below hbw
      have rim := HJ.out.right _ (List.getElem_mem hkm)
      have HTK : Hid (es.take (k + 1) = es.take k ++ [(ms[k]).en]) := take_succ_en HES.out hkm
      have HEL : Hid ((es.take k).length ≤ 70000) := by rw [Hid, List.length_take]; omega
      generalize es.take k = cs at *
      generalize ms[k] = m at *
      clear cT
      have q0 : wr.cell? ⟨b, o + k * 3, none⟩ = some (.int .i64 m.kind) := (hbw.cell (p := ⟨b, o + k * 3, none⟩) hb).trans (hcl 0 _ rfl)
      have q1 : wr.cell? ⟨b, o + k * 3 + 1, none⟩ = some (.string m.key) := (hbw.cell (p := ⟨b, o + k * 3 + 1, none⟩) hb).trans (hcl 1 _ rfl)
      have q2 : wr.cell? ⟨b, o + k * 3 + 2, none⟩ = some (.slice m.A m.n m.c) := (hbw.cell (p := ⟨b, o + k * 3 + 2, none⟩) hb).trans (hcl 2 _ rfl)
      have hsz := hbw.size
      have g1 : (0 : Int) ≤ (k : Int) := by omega
      have g2' : (k : Int) < (n : Int) := by omega
      have f1 : Below wr.heap.size wr (wr.alloc (.cells #[.int .i64 m.kind, .string m.key, .slice m.A m.n m.c] 45)) := (Below.refl _ wr).al _
      have b1 := Blk.new wr 45 #[.int .i64 m.kind, .string m.key, .slice m.A m.n m.c]
      have J1 := Lib.hid (hj.out.below f1)
      have ok1 := Lib.hid (okm.below f1)
      have RIM := Lib.hid rim
      have ROM := Lib.hid rim.2.2.2
      clear hcl okm rim hj
      go_upto_region 7 with fail
      generalize wr.alloc (.cells #[.int .i64 m.kind, .string m.key, .slice m.A m.n m.c] 45) = W1 at *
      have p0 : W1.cell? ⟨wr.heap.size, 0, none⟩ = some (.int .i64 m.kind) := b1.cell 0
      have p1 : W1.cell? ⟨wr.heap.size, 1, none⟩ = some (.string m.key) := b1.cell 1
      have p2 : W1.cell? ⟨wr.heap.size, 2, none⟩ = some (.slice m.A m.n m.c) := b1.cell 2
      have CL := Lib.hid (clone_any _ m W1 ok1.out (by have := ROM.out; omega))
      clear q0 q1 q2 b1
      go_wp2_with fail
      refine CL.out.mono ?_
      rintro e w2 ⟨m2, rfl, e1, e2, e3, e4, ok2, -, b2⟩
      have right2 : m2.Right := by
        have h1 := ok2.len
        have h2 := ok1.out.len
        obtain ⟨r1, r2, r3, r4⟩ := RIM.out
        refine ⟨by rw [e2]; exact r1, by rw [e2]; exact r2, by rw [e3]; exact r3, ?_⟩
        rw [h1, e4, ← h2]
        exact r4
      have J2 := J1.out.below b2
      have TK := Lib.hid (jtake_jn S2 _ g2 cs m2 w2 J2 ok2 right2 HEL.out (fun q hq hs => by have := J1.out.lt q hs; omega))
      have HEN : Hid (es.take (k + 1) = cs ++ [m2.en]) := by rw [Hid, HTK.out, e1]
      have hlS := Lib.hid J2.lt
      have hb2 := b2.size
      have hf1 := f1.size
      have F2 := hbw.trans ((f1.then_ b2).mono hbw.size)
      clear CL J2 e1 e2 e3 e4 ok2 right2 p0 p1 p2 b2 f1
      go_wp2_with fail
      refine TK.out.mono ?_
      rintro e w3 ⟨rfl, S3, j3, s1, s2, k3⟩
      have HJ3 : Hid (Jn w3 S3 g2 (es.take (k + 1))) := by rw [Hid, HEN.out]; exact j3
      have HS3 : Hid (∀ q, S3 q → w.heap.size ≤ q) := fun q hq => by
        rcases s1 q hq with h | ⟨h, _⟩ | h
        · exact hS.out q h
        · omega
        · omega
      have F3 : Below w.heap.size w w3 := F2.trans (k3.to_below (by omega) (fun q hq h => by have := hS.out q h; omega))
      clear TK j3 s1 s2 k3
      go_wp2_with fail
      go_roundg (n - (k + 1))
      case measure => have := HGK.out; omega
      case rel => exact ⟨k + 1, S3, rfl, by omega, by go_num, HJ3, HS3, F3⟩
    · obtain rfl : k = n := by omega
      have h3 := hj.out
      rw [List.take_of_length_le (by rw [HN2.out]; exact Nat.le_refl _)] at h3
      have H3 := Lib.hid h3
      clear h3 hj
      go_wp2_with fail
      go_ret
      exact ⟨S2, g2, rfl, H3.out, hS.out, hbw⟩

/-- Few entries, of few bytes. -/
structure Small (es : List En) (most : Nat) : Prop where
  len : es.length ≤ most
  right : ∀ e ∈ es, e.Right
  bytes : (allB D8 es).length ≤ most * 200
theorem entryB_small {e : En} (h : e.Right) (hb : e.body.length ≤ 60) : (entryB D8 e).length ≤ 200 := by
  obtain ⟨h1, h2, h3, h4⟩ := h
  have l1 := num_le10 (n := e.kind.toNat) (by omega)
  have l2 := num_le10 (n := e.key.length) (by omega)
  have l3 := num_le10 (n := e.body.length) (by omega)
  unfold entryB headB lenB
  simp only [List.length_append, D8_length]
  omega
theorem allB_small : ∀ {l : List En}, (∀ e ∈ l, e.Right ∧ e.body.length ≤ 60) → (allB D8 l).length ≤ l.length * 200
  | [], _ => by simp [allB]
  | e :: l, h => by
    obtain ⟨h1, h2⟩ := h e (List.mem_cons_self ..)
    have h3 := entryB_small h1 h2
    have h4 := allB_small (l := l) (fun x hx => h x (List.mem_cons_of_mem _ hx))
    have e1 : allB D8 (e :: l) = entryB D8 e ++ allB D8 l := rfl
    rw [e1, List.length_append, List.length_cons]
    omega
theorem fillCut_small (ms : List Me) (most : Nat) : Small (fillCut ms most) most := by
  have h : ∀ e ∈ fillCut ms most, e.Right ∧ e.body.length ≤ 60 := by
    intro e he
    unfold fillCut fill at he
    obtain ⟨h1, h2⟩ := List.mem_filter.1 he
    refine ⟨of_decide_eq_true h2, ?_⟩
    obtain ⟨m, hm, rfl⟩ := List.mem_map.1 h1
    obtain ⟨x, _, rfl⟩ := List.mem_map.1 hm
    rw [cutM_en]
    unfold cut1
    simp only [List.length_take]
    omega
  have hl := fillCut_len ms most
  exact ⟨hl, fun e he => (h e he).1, Nat.le_trans (allB_small h) (Nat.mul_le_mul_right 200 hl)⟩
end Go.Proofs.Ytidppcaohkfnfaa
