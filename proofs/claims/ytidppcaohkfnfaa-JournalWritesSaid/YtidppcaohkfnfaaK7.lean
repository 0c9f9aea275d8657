
/-
  Journals: Bytes, All, Same.
-/
import Derived.Test.YtidppcaohkfnfaaK6
namespace Go.Proofs.Ytidppcaohkfnfaa
open Go.RowKit

instance : DecidableEq En := fun a b => decidable_of_iff (a.kind = b.kind ∧ a.key = b.key ∧ a.body = b.body) (by cases a; cases b; simp)
/-- It may be written down. -/
def En.Right (e : En) : Prop := 0 ≤ e.kind ∧ e.kind ≤ 255 ∧ e.key.length ≤ 64 ∧ e.body.length ≤ 65536
theorem size_data (s : ByteArray) : s.data.toList.length = s.size := Array.length_toList
theorem Me.right_en {D : Nat → Prop} {w : World} {m : Me} (h : m.Ok D w) : m.en.Right ↔ m.Right := by
  unfold En.Right Me.Right Me.en
  simp only [size_data, h.len]
theorem entryB_len {e : En} (h : e.Right) : (entryB D8 e).length ≤ 66000 := by
  obtain ⟨h1, h2, h3, h4⟩ := h
  have l1 := num_le10 (n := e.kind.toNat) (by omega)
  have l2 := num_le10 (n := e.key.length) (by omega)
  have l3 := num_le10 (n := e.body.length) (by omega)
  unfold entryB headB lenB
  simp only [List.length_append, D8_length]
  omega
theorem allB_append (a b : List En) : allB D8 (a ++ b) = allB D8 a ++ allB D8 b := by simp [allB]
theorem allB_one (e : En) : allB D8 [e] = entryB D8 e := by simp [allB]
theorem allB_len : ∀ {l : List En}, (∀ e ∈ l, e.Right) → (allB D8 l).length ≤ l.length * 66000
  | [], _ => by simp [allB]
  | e :: l, h => by
    have h1 := entryB_len (h e (List.mem_cons_self ..))
    have h2 := allB_len (l := l) (fun x hx => h x (List.mem_cons_of_mem _ hx))
    have e1 : allB D8 (e :: l) = entryB D8 e ++ allB D8 l := rfl
    rw [e1, List.length_append, List.length_cons]
    omega
section
variable {w : World} {S : Nat → Prop} {g r : Nat} {v : Value} {ms : List Me} {es : List En}
theorem JAt.enRight (h : JAt w S g r v ms) : ∀ e ∈ ms.map Me.en, e.Right := by
  intro e he
  obtain ⟨m, hm, rfl⟩ := List.mem_map.1 he
  exact (Me.right_en (h.ok m hm)).2 (h.right m hm)
theorem Jn.right (h : Jn w S g es) : ∀ e ∈ es, e.Right := by
  obtain ⟨r, v, ms, h1, rfl⟩ := h
  exact h1.enRight
end

set_option maxHeartbeats 2000000 in
set_option maxRecDepth 100000 in
theorem jbytes_any (S : Nat → Prop) (g : Nat) (es : List En) (w : World) (h : Jn w S g es) (hn : es.length ≤ 70000) :
    Calls Try.prog 17 #[.pointer (some ⟨g, 0, none⟩)] w (Got w.heap.size w (allB D8 es)) := by
  have hri := h.right
  obtain ⟨r, v, ms, hj, hes⟩ := h
  obtain ⟨A, c, rfl⟩ := hj.slice
  obtain ⟨n, hln⟩ : ∃ n, ms.length = n := ⟨_, rfl⟩
  have hln2 : es.length = n := by rw [← hes, List.length_map, hln]
  have h0 : w.cell? ⟨g, 0, none⟩ = some (.slice A ms.length c) := hj.blk.cell 0
  obtain ⟨-, hc, hm, hrd⟩ := hj.reads
  rw [hln] at h0 hc hrd
  rw [hln2] at hn
  have HJ := Lib.hid hj
  have HR := Lib.hid hrd
  have HN := Lib.hid hln
  have HN2 := Lib.hid hln2
  have HES := Lib.hid hes
  have HRI := Lib.hid hri
  unfold maxLen at hm
  clear hj hrd hln hln2 hes hri
  go_enter Try.func17, Try.ntmps17
  go_wp2_with fail
  go_loopw [3, 13] (fun b i wr => ∃ k : Nat, k ≤ n ∧ i = .int .i64 k ∧ Hid (OB wr w.heap.size b (allB D8 (es.take k))) ∧ Below w.heap.size w wr) (fun _ i _ => n - (intOf i).toNat)
  case atStart => exact ⟨0, by omega, rfl, OB.nil _ _, Below.refl _ _⟩
  case round =>
    clear h0
    obtain ⟨k, hk, rfl, ho, hbw⟩ := hrel
    by_cases hlt : k < n
    · have hkm : k < ms.length := by rw [HN.out]; exact hlt
      have hke : k < es.length := by rw [HN2.out]; exact hlt
      have cT := meCells_cut ms k hkm
      obtain ⟨b, o, rfl, hb, hcl⟩ := HR.out.chunk (by omega) hlt cT
      have okm := HJ.out.ok _ (List.getElem_mem hkm)
      have rim := HJ.out.right _ (List.getElem_mem hkm)
      have hen : es[k] = (ms[k]).en := by
        have := HES.out
        subst this
        simp
      have HTK : Hid (allB D8 (es.take (k + 1)) = allB D8 (es.take k) ++ entryB D8 (ms[k]).en) := by
        rw [Hid, List.take_succ_eq_append_getElem hke, allB_append, allB_one, hen]
      have hal := allB_len (l := es.take k) (fun x hx => HRI.out x (List.mem_of_mem_take hx))
      have hel := entryB_len ((Me.right_en okm).2 rim)
      rw [List.length_take] at hal
      generalize ms[k] = m at *
      clear hen cT
      obtain ⟨mk, mks, mA, mn, mc, mb⟩ := m
      have q0 : wr.cell? ⟨b, o + k * 3, none⟩ = some (.int .i64 mk) := (hbw.cell (p := ⟨b, o + k * 3, none⟩) hb).trans (hcl 0 _ rfl)
      have q1 : wr.cell? ⟨b, o + k * 3 + 1, none⟩ = some (.string mks) := (hbw.cell (p := ⟨b, o + k * 3 + 1, none⟩) hb).trans (hcl 1 _ rfl)
      have q2 : wr.cell? ⟨b, o + k * 3 + 2, none⟩ = some (.slice mA mn mc) := (hbw.cell (p := ⟨b, o + k * 3 + 2, none⟩) hb).trans (hcl 2 _ rfl)
      have ok1 := (okm.below hbw).below ((Below.refl _ wr).al (.cells #[.int .i64 mk, .string mks, .slice mA mn mc] 45))
      have hsz := hbw.size
      have rim' := rim
      obtain ⟨r1, r2, r3, r4⟩ := rim
      simp only at r1 r2 r3 r4
      have g1 : (0 : Int) ≤ (k : Int) := by omega
      have g2 : (k : Int) < (n : Int) := by omega
      have HE := Lib.hid hel
      clear hcl okm hel rim'
      go_wp2_with fail
      refine (ebytes_any _ ⟨mk, mks, mA, mn, mc, mb⟩ _ ok1 (by simp only; omega) (by simp only; omega) (by simp only; omega)).mono ?_
      rintro e w2 ⟨v2, rfl, ho2, hb2⟩
      obtain ⟨A2, n2, c2, rfl, -, -, rb2⟩ := ho2.got
      have hf2 := (Below.refl _ wr).al (.cells #[.int .i64 mk, .string mks, .slice mA mn mc] 45) |>.then_ hb2
      have ho1 := ho.out.below hf2 (Nat.le_refl _)
      have hn2 : n2 ≤ 66000 := by rw [rb2.len]; exact HE.out
      have HO1 := Lib.hid ho1
      have HR2 := Lib.hid rb2
      have hsz2 := hf2.size
      clear ho1 rb2 ho2 hb2 ok1 q0 q1 q2 ho
      go_wp2_with (at_builtin; refine wpList_app8 _ rfl (.tmp 17) (.tmp 19) rfl w.heap.size _ (allB D8 (es.take k)) rfl HO1.out A2 n2 c2 _ rfl HR2.out (by omega) (by omega) ?_; intro v3 w3 ho3 hb3)
      have HO3 : Hid (OB w3 w.heap.size v3 (allB D8 (es.take (k + 1)))) := by rw [Hid, HTK.out]; exact ho3
      clear ho3
      go_wp2_with fail
      go_roundw
      case rel => exact ⟨k + 1, by omega, by go_num, HO3, (hbw.then_ hf2).trans hb3⟩
      case measure => simp [intOf]; omega
    · obtain rfl : k = n := by omega
      have h3 := ho.out
      rw [List.take_of_length_le (by rw [HN2.out]; omega)] at h3
      have H3 := Lib.hid h3
      clear h3 ho
      go_wp2_with fail
      go_ret
      exact ⟨_, rfl, H3.out, hbw⟩
end Go.Proofs.Ytidppcaohkfnfaa
