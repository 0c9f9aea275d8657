
/-
  The law's Same: are entries the document's?
-/
import Derived.Test.YtidppcaohkfnfaaK16
import Derived.Deep.LoopGhost
namespace Go.Proofs.Ytidppcaohkfnfaa
open Go.RowKit

theorem en_eq_of {ms ns : List Me} (hl : ms.length = ns.length) (h : ∀ k (h1 : k < ms.length) (h2 : k < ns.length), (ms[k]'h1).en = (ns[k]'h2).en) : ms.map Me.en = ns.map Me.en := by
  refine List.ext_getElem (by simpa using hl) fun k h1 h2 => ?_
  rw [List.getElem_map, List.getElem_map]
  exact h k _ _
theorem en_ne_of {ms ns : List Me} {k : Nat} (h1 : k < ms.length) (h2 : k < ns.length) (h : (ms[k]'h1).en ≠ (ns[k]'h2).en) : ms.map Me.en ≠ ns.map Me.en := fun e => h (by
  have h3 : (ms.map Me.en)[k]? = (ns.map Me.en)[k]? := by rw [e]
  rw [List.getElem?_map, List.getElem?_map, List.getElem?_eq_getElem h1, List.getElem?_eq_getElem h2] at h3
  exact Option.some.inj h3)

set_option maxHeartbeats 2000000 in
set_option maxRecDepth 100000 in
theorem lsame_any (D E : Nat → Prop) (ms ns : List Me) (A B : Option Addr) (n c m d : Nat) (w : World) (ha : Reads w w.heap.size 3 A n (meCells ms)) (hn : n = ms.length) (hb : Reads w w.heap.size 3 B m (meCells ns)) (hm : m = ns.length)
    (oka : ∀ x ∈ ms, x.Ok D w ∧ x.n ≤ 140737488355328) (okb : ∀ x ∈ ns, x.Ok E w ∧ x.n ≤ 140737488355328) (nn : n ≤ 1000000) :
    Calls Try.prog 20 #[.slice A n c, .slice B m d] w (Tells w (decide (ms.map Me.en = ns.map Me.en))) := by
  have HN := Lib.hid hn
  have HM := Lib.hid hm
  have HA := Lib.hid ha
  have HB := Lib.hid hb
  have OA := Lib.hid oka
  have OB' := Lib.hid okb
  clear hn hm ha hb oka okb
  by_cases hnm : n = m
  · subst hnm
    go_enter Try.func20, Try.ntmps20
    go_wp2_with fail
    go_loopg [5] n (fun gk i wr => ∃ k : Nat, gk = n - k ∧ k ≤ n ∧ i = .int .i64 k ∧ Hid (∀ j (h1 : j < ms.length) (h2 : j < ns.length), j < k → (ms[j]'h1).en = (ns[j]'h2).en) ∧ Hid (Below w.heap.size w wr))
    case atStart => exact ⟨0, rfl, Nat.zero_le _, rfl, fun _ _ _ h => absurd h (Nat.not_lt_zero _), Below.refl _ _⟩
    case round =>
      obtain ⟨k, hgk, hk, rfl, hall, hB⟩ := hrel
      have HGK := Lib.hid hgk
      clear hgk
      by_cases hlt : k < n
      · have hkm : k < ms.length := by have := HN.out; omega
        have hkn : k < ns.length := by have := HM.out; omega
        have cT := meCells_cut ms k hkm
        have cT2 := meCells_cut ns k hkn
        obtain ⟨b, o, rfl, hb, hcl⟩ := HA.out.chunk (by omega) hlt cT
        obtain ⟨b2, o2, rfl, hb2, hcl2⟩ := HB.out.chunk (by omega) hlt cT2
        have oka := OA.out _ (List.getElem_mem hkm)
        have okb := OB'.out _ (List.getElem_mem hkn)
        have HALL : Hid ((ms[k]'hkm).en = (ns[k]'hkn).en → ∀ j (h1 : j < ms.length) (h2 : j < ns.length), j < k + 1 → (ms[j]'h1).en = (ns[j]'h2).en) := fun e j h1 h2 hj => by
          rcases Nat.lt_or_ge j k with h | h
          · exact hall.out j h1 h2 h
          · obtain rfl : j = k := by omega
            exact e
        have HNE : Hid ((ms[k]'hkm).en ≠ (ns[k]'hkn).en → ms.map Me.en ≠ ns.map Me.en) := fun h => en_ne_of hkm hkn h
        generalize ms[k] = x at *
        generalize ns[k] = y at *
        have HL : Hid (∀ W, Below wr.heap.size wr W → W.cell? ⟨b, o + k * 3, none⟩ = some (.int .i64 x.kind) ∧ W.cell? ⟨b, o + k * 3 + 1, none⟩ = some (.string x.key) ∧ W.cell? ⟨b, o + k * 3 + 2, none⟩ = some (.slice x.A x.n x.c) ∧ W.cell? ⟨b2, o2 + k * 3, none⟩ = some (.int .i64 y.kind) ∧ W.cell? ⟨b2, o2 + k * 3 + 1, none⟩ = some (.string y.key) ∧ W.cell? ⟨b2, o2 + k * 3 + 2, none⟩ = some (.slice y.A y.n y.c)) := fun W hW => by
          have hb7 := hB.out.then_ hW
          exact ⟨(hb7.cell (p := ⟨b, o + k * 3, none⟩) hb).trans (hcl 0 _ rfl), (hb7.cell (p := ⟨b, o + k * 3 + 1, none⟩) hb).trans (hcl 1 _ rfl), (hb7.cell (p := ⟨b, o + k * 3 + 2, none⟩) hb).trans (hcl 2 _ rfl),
            (hb7.cell (p := ⟨b2, o2 + k * 3, none⟩) hb2).trans (hcl2 0 _ rfl), (hb7.cell (p := ⟨b2, o2 + k * 3 + 1, none⟩) hb2).trans (hcl2 1 _ rfl), (hb7.cell (p := ⟨b2, o2 + k * 3 + 2, none⟩) hb2).trans (hcl2 2 _ rfl)⟩
        have okx := Lib.hid (oka.1.below hB.out)
        have oky := Lib.hid (okb.1.below hB.out)
        have hxn := oka.2
        have hyn := okb.2
        have rr : Below wr.heap.size wr wr.drew := (Below.refl _ wr).drew
        have g1 : (0 : Int) ≤ (k : Int) := by omega
        have g2 : (k : Int) < (n : Int) := by omega
        obtain ⟨t, ht⟩ : ∃ t, sameE x.en y.en = t := ⟨_, rfl⟩
        have HT := Lib.hid ht
        clear hcl hcl2 oka okb cT cT2 hb hb2 ht hall
        go_upto_region 6 with fail
        go_region_held3 (fun W => W.cell? ⟨b, o + k * 3, none⟩ = some (.int .i64 x.kind) ∧ W.cell? ⟨b, o + k * 3 + 1, none⟩ = some (.string x.key) ∧ W.cell? ⟨b, o + k * 3 + 2, none⟩ = some (.slice x.A x.n x.c) ∧ W.cell? ⟨b2, o2 + k * 3, none⟩ = some (.int .i64 y.kind) ∧ W.cell? ⟨b2, o2 + k * 3 + 1, none⟩ = some (.string y.key) ∧ W.cell? ⟨b2, o2 + k * 3 + 2, none⟩ = some (.slice y.A y.n y.c))
          (with_reducible exact HL.out _ rr)
          (first | (go_at_call 13; refine (esame_any _ _ x y _ (okx.out.below rr) (oky.out.below rr) hxn hyn).mono ?_; rintro e w8 ⟨rfl, b8⟩; have rr := rr.then_ b8; rw [HT.out]))
        have HB8 := Lib.hid (hB.out.then_ rr)
        clear HL okx oky rr
        cases t
        · have hf : decide (ms.map Me.en = ns.map Me.en) = false := decide_eq_false (HNE.out fun e => by have := sameE_iff.2 e; rw [HT.out] at this; cases this)
          have HF := Lib.hid hf
          clear hf HNE HALL
          go_wp2_with fail
          go_ret
          exact ⟨by rw [HF.out]; rfl, HB8.out⟩
        · have HA2 := Lib.hid (HALL.out (sameE_iff.1 HT.out))
          clear HNE HALL
          go_wp2_with fail
          go_roundg (n - (k + 1))
          case measure => have := HGK.out; omega
          case rel => exact ⟨k + 1, rfl, by omega, by go_num, HA2, HB8⟩
      · obtain rfl : k = n := by omega
        have hf : decide (ms.map Me.en = ns.map Me.en) = true := decide_eq_true (en_eq_of (HN.out.symm.trans HM.out) fun j h1 h2 => hall.out j h1 h2 (by have := HN.out; omega))
        have HF := Lib.hid hf
        clear hf
        go_wp2_with fail
        go_ret
        exact ⟨by rw [HF.out]; rfl, hB.out⟩
  · have hf : decide (ms.map Me.en = ns.map Me.en) = false := decide_eq_false fun e => hnm (by
      have := congrArg List.length e
      rw [List.length_map, List.length_map, ← HN.out, ← HM.out] at this
      exact this)
    have HF := Lib.hid hf
    have g1 : ¬ (n : Int) = (m : Int) := by omega
    clear hf
    go_enter Try.func20, Try.ntmps20
    go_wp2_with fail
    go_ret
    exact ⟨by rw [HF.out]; rfl, Below.refl _ _⟩
end Go.Proofs.Ytidppcaohkfnfaa
