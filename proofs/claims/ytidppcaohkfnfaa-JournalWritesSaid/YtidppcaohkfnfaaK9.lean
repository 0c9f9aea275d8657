
/-
  Journals: Same, Clone.
-/
import Derived.Test.YtidppcaohkfnfaaK8
namespace Go.Proofs.Ytidppcaohkfnfaa
open Go.RowKit

theorem ba_beq (l m : List UInt8) : ((⟨l.toArray⟩ : ByteArray).toList == (⟨m.toArray⟩ : ByteArray).toList) = decide (l = m) := by
  rw [ByteArray.toList_eq, ByteArray.toList_eq]
  by_cases h : l = m
  · subst h
    simp
  · simp [h]
theorem bequal_any (A B : Option Addr) (n c m d : Nat) (l k : List UInt8) (w : World) (ha : RB w A n l) (hb : RB w B m k) :
    Calls Try.prog 36 #[.slice A n c, .slice B m d] w fun e w' => e = .returned (.bool (decide (l = k))) ∧ w' = w := by
  have h := Try.bytes_Equal_strs (.slice A n c) (.slice B m d) ⟨l.toArray⟩ ⟨k.toArray⟩ w (run_text c ha) (run_text d hb)
  rw [ba_beq] at h
  exact h

set_option maxHeartbeats 4000000 in
set_option maxRecDepth 100000 in
theorem jsame_any (S T : Nat → Prop) (g g2 : Nat) (es fs : List En) (w : World) (h : Jn w S g es) (h2 : Jn w T g2 fs) (hn : es.length ≤ 70000) :
    Calls Try.prog 15 #[.pointer (some ⟨g, 0, none⟩), .pointer (some ⟨g2, 0, none⟩)] w (Tells w (decide (es = fs))) := by
  obtain ⟨r, v, ms, hj, hes⟩ := h
  obtain ⟨A, c, rfl⟩ := hj.slice
  obtain ⟨r2, v2, ns, hj2, hfs⟩ := h2
  obtain ⟨A2, c2, rfl⟩ := hj2.slice
  obtain ⟨n, hln⟩ : ∃ n, ms.length = n := ⟨_, rfl⟩
  obtain ⟨n2, hln2⟩ : ∃ n, ns.length = n := ⟨_, rfl⟩
  have he1 : es.length = n := by rw [← hes, List.length_map, hln]
  have he2 : fs.length = n2 := by rw [← hfs, List.length_map, hln2]
  rw [he1] at hn
  have h0 : w.cell? ⟨g, 0, none⟩ = some (.slice A ms.length c) := hj.blk.cell 0
  have h02 : w.cell? ⟨g2, 0, none⟩ = some (.slice A2 ns.length c2) := hj2.blk.cell 0
  have gl := hj2.blk.lt
  obtain ⟨-, hc, hm, hrd⟩ := hj.reads
  obtain ⟨-, hc2, hm2, hrd2⟩ := hj2.reads
  rw [hln] at h0 hc hrd
  rw [hln2] at h02 hc2 hrd2
  have HJ := Lib.hid hj
  have HJ2 := Lib.hid hj2
  have HR := Lib.hid hrd
  have HR2 := Lib.hid hrd2
  have HN := Lib.hid hln
  have HN2 := Lib.hid hln2
  have HL1 := Lib.hid he1
  have HL2 := Lib.hid he2
  have HES := Lib.hid hes
  have HFS := Lib.hid hfs
  unfold maxLen at hm hm2
  clear hj hj2 hrd hrd2 hln hln2 he1 he2 hes hfs
  go_enter Try.func15, Try.ntmps15
  go_upto_region 3 with fail
  by_cases hne : n = n2
  · subst hne
    go_quiet (fail)
    go_wp2_with fail
    go_loopw [36] (fun i wr => ∃ k : Nat, k ≤ n ∧ i = .int .i64 k ∧ Hid (es.take k = fs.take k) ∧ Below w.heap.size w wr) (fun i _ => n - (intOf i).toNat)
    case atStart => exact ⟨0, by omega, rfl, rfl, below_drewN (Below.refl _ w) _⟩
    case round =>
      obtain ⟨k, hk, rfl, hs, hbw⟩ := hrel
      by_cases hlt : k < n
      · have hkm : k < ms.length := by rw [HN.out]; exact hlt
        have hkn : k < ns.length := by rw [HN2.out]; exact hlt
        have cT := meCells_cut ms k hkm
        have cT2 := meCells_cut ns k hkn
        obtain ⟨b, o, rfl, hb, hcl⟩ := HR.out.chunk (by omega) hlt cT
        obtain ⟨b2, o2, rfl, hb2, hcl2⟩ := HR2.out.chunk (by omega) hlt cT2
        have okm := HJ.out.ok _ (List.getElem_mem hkm)
        have okn := HJ2.out.ok _ (List.getElem_mem hkn)
        have hke : k < es.length := by rw [HL1.out]; exact hlt
        have hkf : k < fs.length := by rw [HL2.out]; exact hlt
        have e1 : es[k] = (ms[k]).en := by
          have := HES.out
          subst this
          simp
        have e2 : fs[k] = (ns[k]).en := by
          have := HFS.out
          subst this
          simp
        have HST : Hid (es.take (k + 1) = fs.take (k + 1) ↔ (ms[k]).en = (ns[k]).en) := by
          rw [Hid, List.take_succ_eq_append_getElem hke, List.take_succ_eq_append_getElem hkf, hs.out, e1, e2]
          constructor
          · intro h
            have := List.append_cancel_left h
            simpa using this
          · intro h
            rw [h]
        have HNO : Hid ((ms[k]).en ≠ (ns[k]).en → decide (es = fs) = false) := by
          intro h
          rw [decide_eq_false_iff_not]
          rintro rfl
          exact h (by rw [← e1, ← e2])
        generalize ms[k] = m at *
        generalize ns[k] = m' at *
        clear cT cT2 e1 e2
        obtain ⟨mk, mks, mA, mn, mc, mb⟩ := m
        obtain ⟨nk, nks, nA, nn, nc, nb⟩ := m'
        have q0 : wr.cell? ⟨b, o + k * 3, none⟩ = some (.int .i64 mk) := (hbw.cell (p := ⟨b, o + k * 3, none⟩) hb).trans (hcl 0 _ rfl)
        have q1 : wr.cell? ⟨b, o + k * 3 + 1, none⟩ = some (.string mks) := (hbw.cell (p := ⟨b, o + k * 3 + 1, none⟩) hb).trans (hcl 1 _ rfl)
        have q2 : wr.cell? ⟨b, o + k * 3 + 2, none⟩ = some (.slice mA mn mc) := (hbw.cell (p := ⟨b, o + k * 3 + 2, none⟩) hb).trans (hcl 2 _ rfl)
        have p0 : wr.cell? ⟨b2, o2 + k * 3, none⟩ = some (.int .i64 nk) := (hbw.cell (p := ⟨b2, o2 + k * 3, none⟩) hb2).trans (hcl2 0 _ rfl)
        have p1 : wr.cell? ⟨b2, o2 + k * 3 + 1, none⟩ = some (.string nks) := (hbw.cell (p := ⟨b2, o2 + k * 3 + 1, none⟩) hb2).trans (hcl2 1 _ rfl)
        have p2 : wr.cell? ⟨b2, o2 + k * 3 + 2, none⟩ = some (.slice nA nn nc) := (hbw.cell (p := ⟨b2, o2 + k * 3 + 2, none⟩) hb2).trans (hcl2 2 _ rfl)
        have p3 : wr.cell? ⟨g2, 0, none⟩ = some (.slice (some ⟨b2, o2, none⟩) n c2) := (hbw.cell (p := ⟨g2, 0, none⟩) gl).trans h02
        have hsz := hbw.size
        have hb' : b < wr.heap.size := by omega
        have hb2' : b2 < wr.heap.size := by omega
        have gl' : g2 < wr.heap.size := by omega
        have ff : Below wr.heap.size wr ((wr.alloc (.cells #[.int .i64 mk, .string mks, .slice mA mn mc] 45)).alloc (.cells #[.int .i64 nk, .string nks, .slice nA nn nc] 45)) := ((Below.refl _ wr).al _).al _
        have rm := ((okm.below hbw).below ff).rb
        have rn := ((okn.below hbw).below ff).rb
        simp only at rm rn
        have g1 : (0 : Int) ≤ (k : Int) := by omega
        have g2' : (k : Int) < (n : Int) := by omega
        have HBW := Lib.hid (hbw.then_ ff)
        clear hcl hcl2 okm okn h0 h02 ff hs
        by_cases k1 : mk = nk
        · subst k1
          by_cases k2 : mks = nks
          · subst k2
            have HC : Hid ((Me.en ⟨mk, mks, mA, mn, mc, mb⟩ = Me.en ⟨mk, mks, nA, nn, nc, nb⟩) ↔ mb = nb) := by
              rw [Hid]
              simp [Me.en]
            go_wp2_with fail
            refine (bequal_any mA nA mn mc nn nc mb nb _ rm rn).mono ?_
            rintro e w2 ⟨rfl, rfl⟩
            by_cases k3 : mb = nb
            · have hnext : Hid (es.take (k + 1) = fs.take (k + 1)) := HST.out.2 (HC.out.2 k3)
              clear HNO HST HC
              go_wp2_with fail
              go_roundw
              case rel => exact ⟨k + 1, by omega, by go_num, hnext, HBW.out⟩
              case measure => simp [intOf]; omega
            · have HF := Lib.hid (HNO.out (fun e => k3 (HC.out.1 e)))
              clear HNO HST HC
              go_wp2_with fail
              go_ret
              exact ⟨by rw [HF.out]; rfl, HBW.out⟩
          · have HF : Hid (decide (es = fs) = false) := HNO.out (fun e => k2 (str_eq_iff.1 (congrArg En.key e)))
            have k2' : ¬ mks.toList = nks.toList := fun e => k2 (tl_inj e)
            clear HNO HST k2
            go_wp2_with fail
            go_ret
            exact ⟨by rw [HF.out]; rfl, HBW.out⟩
        · have HF : Hid (decide (es = fs) = false) := HNO.out (fun e => k1 (congrArg En.kind e))
          clear HNO HST
          go_wp2_with fail
          go_ret
          exact ⟨by rw [HF.out]; rfl, HBW.out⟩
      · obtain rfl : k = n := by omega
        have h3 := hs.out
        rw [List.take_of_length_le (by rw [HL1.out]; omega), List.take_of_length_le (by rw [HL2.out]; omega)] at h3
        have HT : Hid (decide (es = fs) = true) := by rw [Hid, decide_eq_true_iff]; exact h3
        clear h3 hs h0 h02
        go_wp2_with fail
        go_ret
        exact ⟨by rw [HT.out]; rfl, hbw⟩
  · have HF : Hid (decide (es = fs) = false) := by
      rw [Hid, decide_eq_false_iff_not]
      rintro rfl
      exact hne (by rw [← HL1.out, ← HL2.out])
    have e1 : ¬ ((n : Int) = (n2 : Int)) := by omega
    go_quiet (fail)
    go_wp2_with fail
    go_ret
    exact ⟨by rw [HF.out]; rfl, below_drewN (Below.refl _ w) _⟩
end Go.Proofs.Ytidppcaohkfnfaa
