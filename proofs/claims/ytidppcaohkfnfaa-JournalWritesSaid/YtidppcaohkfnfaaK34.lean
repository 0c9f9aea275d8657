
/-
  JournalWrites: the law's walk.
-/
import Derived.Test.YtidppcaohkfnfaaK33
import Derived.Test.YtidppcaohkfnfaaK27
namespace Go.Proofs.Ytidppcaohkfnfaa
open Go.RowKit

theorem tlB_map {a b : List ByteArray} (h : a.map tlB = b.map tlB) : a = b := by
  refine List.ext_getElem (by simpa using congrArg List.length h) fun i h1 h2 => ?_
  have h3 : (a.map tlB)[i]? = (b.map tlB)[i]? := by rw [h]
  rw [List.getElem?_map, List.getElem?_map, List.getElem?_eq_getElem h1, List.getElem?_eq_getElem h2] at h3
  exact str_eq_iff.1 (Option.some.inj h3)
theorem lastI_yes {ms : List Me} {k : Int} {s : ByteArray} {r : Int} (h : LastAt ms k s r) {e : En} (hl : lastE (ms.map Me.en) (k, tlB s) = some e) : ∃ j, ∃ h : j < ms.length, r = (j : Int) ∧ (ms[j]'h).en = e := by
  rcases h with ⟨-, h2⟩ | ⟨j, hj, h1, h2, h3⟩
  · rw [lastE_none_of h2] at hl
    cases hl
  · rw [lastE_some_of hj h2 h3] at hl
    exact ⟨j, hj, h1, Option.some.inj hl⟩
theorem lastI_no {ms : List Me} {k : Int} {s : ByteArray} {r : Int} (h : LastAt ms k s r) (hl : lastE (ms.map Me.en) (k, tlB s) = none) : r = -1 := by
  rcases h with ⟨h1, -⟩ | ⟨j, hj, h1, h2, h3⟩
  · exact h1
  · rw [lastE_some_of hj h2 h3] at hl
    cases hl
/-- The empty entry. -/
def emptyM : Me := ⟨0, ⟨#[]⟩, none, 0, 0, []⟩
theorem emptyM_ok (D : Nat → Prop) (w : World) : emptyM.Ok D w := ⟨by decide, by decide, by decide, by decide, by decide, RIn.none_⟩

set_option maxHeartbeats 8000000 in
set_option maxRecDepth 100000 in
theorem journalWrites_walk (A1 : Option Addr) (n1 c1 : Nat) (ms1 : List Me) (kd : Int) (key : ByteArray) (w : World) (h1 : Ins w A1 n1 c1 ms1) (hk : -9223372036854775808 ≤ kd ∧ kd ≤ 9223372036854775807) (hs : key.size ≤ 9223372036854775807) :
    Calls Try.prog 9 #[.slice A1 n1 c1, .int .i64 kd, .string key] w (Tells w true) := by
  have CUT := Lib.hid (cut_any' A1 n1 c1 ms1 20 w h1 (by decide))
  clear h1
  go_enter Try.func9, Try.ntmps9
  go_wp2_with fail
  refine CUT.out.mono ?_
  rintro e w1 ⟨A3, n3, c3, rfl, hn3, hm3, hc3, hcm3, r3, ok3, b1⟩
  have FIL := Lib.hid (filled_any' A3 n3 c3 _ w1 hn3 (by omega) hc3 r3 _ b1.size ok3)
  clear CUT hn3 r3 ok3 hcm3
  go_wp2_with fail
  refine FIL.out.mono ?_
  rintro e w2 ⟨S, g, A4, c4, ns, rfl, j2, r4, hc4, hcm4, hns, hok, hS, hA4, b2⟩
  clear FIL
  have F2 := b1.then_ b2
  have ES := Lib.hid (fillCut_small ms1 20)
  change Jn w2 S g (fillCut ms1 20) at j2
  change ns.map Me.en = fillCut ms1 20 at hns
  have e1 : fill ((ms1.take 20).map cutM) = fillCut ms1 20 := rfl
  rw [e1] at hc4 r4 ⊢
  generalize fillCut ms1 20 = es at *
  have J2 := Lib.hid j2
  have R4 := Lib.hid r4
  have HNS := Lib.hid hns
  have HOK := Lib.hid hok
  clear j2 r4 hns hok hS hA4 e1
  clear b1 b2
  have HLE : Hid (es.length ≤ 20) := ES.out.len
  have HLC : Hid ((cutE es).length ≤ 20) := Nat.le_trans (cutE_len es) HLE.out
  obtain ⟨n, hn⟩ : ∃ n, es.length = n := ⟨_, rfl⟩
  have hn20 : n ≤ 20 := by have := HLE.out; omega
  rw [hn] at R4 hc4 ⊢
  have HN := Lib.hid hn
  have HNS2 : Hid (n = ns.length) := by rw [Hid, ← hn, ← HNS.out, List.length_map]
  obtain ⟨k1, hk1⟩ : ∃ k1, k1 = min key.size 70 := ⟨_, rfl⟩
  have m1 : min (key.size : Int) 70 = (k1 : Int) := by omega
  have m3 : (0 : Int) ≤ (k1 : Int) := by omega
  have m4 : (k1 : Int) ≤ (key.size : Int) := by omega
  have hk64 : k1 ≤ 70 := by omega
  clear hn ES hk1
  go_upto_region 5 with fail
  obtain ⟨ky, hky⟩ : ∃ ky, key.extract 0 k1 = ky := ⟨_, rfl⟩
  have hkys : ky.size ≤ 70 := by rw [← hky, ByteArray.size_extract]; omega
  rw [hky]
  clear hky m1 m3 m4
  have LST := Lib.hid (jlast_any S g es kd ky w2 J2.out ⟨hk.1, hk.2, by omega⟩)
  go_wp2_with fail
  refine LST.out.mono ?_
  rintro e w3 ⟨b3, (⟨m, rfl, hle, okx, rix⟩ | ⟨rfl, hle⟩)⟩
  · unfold Me.val
    have J3 := Lib.hid (J2.out.below b3)
    have R3 := Lib.hid ((R4.out.below b3).more b3.size)
    have HOK3 : Hid (∀ x ∈ ns, x.Ok (fun k => ¬ S k) w3 ∧ x.Right) := fun x hx => ⟨(HOK.out x hx).1.below b3, (HOK.out x hx).2⟩
    have F3 := Lib.hid (F2.then_ b3)
    have HLE2 : Hid (lastE (ns.map Me.en) (kd, tlB ky) = some m.en) := by rw [Hid, HNS.out]; exact hle
    have b4 : Below w3.heap.size w3 (w3.alloc (.cells #[.int .i64 m.kind, .string m.key, .slice m.A m.n m.c] 45)) := (Below.refl _ w3).al _
    have XM0 := Blk.new w3 45 #[.int .i64 m.kind, .string m.key, .slice m.A m.n m.c]
    obtain ⟨gx, hgx⟩ : ∃ gx, w3.heap.size = gx := ⟨_, rfl⟩
    rw [hgx] at XM0
    clear J2 R4 HOK F2 LST hle b3
    go_upto_region 6 with fail
    generalize w3.alloc (.cells #[.int .i64 m.kind, .string m.key, .slice m.A m.n m.c] 45) = w4 at *
    have J4 := Lib.hid (J3.out.below b4)
    have R4 := Lib.hid ((R3.out.below b4).more b4.size)
    have HOK4 : Hid (∀ x ∈ ns, x.Ok (fun k => ¬ S k) w4 ∧ x.Right) := fun x hx => ⟨(HOK3.out x hx).1.below b4, (HOK3.out x hx).2⟩
    have F4 := Lib.hid (F3.out.then_ b4)
    have XM := Lib.hid XM0
    have RL := Lib.hid (refLast_any ns A4 n c4 kd ky w4 R4.out HNS2.out (by omega))
    have OKX := Lib.hid (okx.below b4)
    have hmn : m.n ≤ 65536 := rix.2.2.2
    clear J3 R3 HOK3 F3 XM0 okx rix hgx b4
    go_wp2_with fail
    refine RL.out.mono ?_
    rintro e w5 ⟨r, rfl, hla, rfl⟩
    obtain ⟨j, hj, rfl, hjen⟩ := lastI_yes hla HLE2.out
    have cT := meCells_cut ns j hj
    have hjn : j < n := by have := HNS2.out; omega
    obtain ⟨b, o, rfl, hb, hcl⟩ := R4.out.chunk (by omega) hjn cT
    obtain ⟨oky, riy⟩ := HOK4.out _ (List.getElem_mem hj)
    generalize ns[j] = y at *
    have SMX : Hid (sameE m.en y.en = true) := sameE_iff.2 hjen.symm
    have OKY := Lib.hid oky
    have hyn : y.n ≤ 65536 := riy.2.2.2
    have K2 : Hid (∀ W, Below w4.heap.size w4 W → W.cell? ⟨gx, 0, none⟩ = some (.int .i64 m.kind) ∧ W.cell? ⟨gx, 1, none⟩ = some (.string m.key) ∧ W.cell? ⟨gx, 2, none⟩ = some (.slice m.A m.n m.c) ∧ W.cell? ⟨b, o + j * 3, none⟩ = some (.int .i64 y.kind) ∧ W.cell? ⟨b, o + j * 3 + 1, none⟩ = some (.string y.key) ∧ W.cell? ⟨b, o + j * 3 + 2, none⟩ = some (.slice y.A y.n y.c)) := fun W hW => by
      have h1 := XM.out.below hW XM.out.lt
      exact ⟨h1.cell 0, h1.cell 1, h1.cell 2, (hW.cell (p := ⟨b, o + j * 3, none⟩) hb).trans (hcl 0 _ rfl), (hW.cell (p := ⟨b, o + j * 3 + 1, none⟩) hb).trans (hcl 1 _ rfl), (hW.cell (p := ⟨b, o + j * 3 + 2, none⟩) hb).trans (hcl 2 _ rfl)⟩
    have g1 : (0 : Int) ≤ (j : Int) := by omega
    have g2 : (j : Int) < (n : Int) := by omega
    clear hcl cT oky riy hla RL HLE2 hjen
    go_upto_region 7 with fail
    have rr : Below w4.heap.size w4 w4.drew := (Below.refl _ w4).drew
    refine wp_region_held_drew (S := fun w' => w'.cell? ⟨gx, 0, none⟩ = some (.int .i64 m.kind) ∧ w'.cell? ⟨gx, 1, none⟩ = some (.string m.key) ∧ w'.cell? ⟨gx, 2, none⟩ = some (.slice m.A m.n m.c) ∧ w'.cell? ⟨b, o + j * 3, none⟩ = some (.int .i64 y.kind) ∧ w'.cell? ⟨b, o + j * 3 + 1, none⟩ = some (.string y.key) ∧ w'.cell? ⟨b, o + j * 3 + 2, none⟩ = some (.slice y.A y.n y.c)) (by kernel_rfl) (K2.out _ rr) (fun hHeld => ?_)
    refine wpAnyH_take (i := 0) (oi := _) (v := ?_) rfl (by kernel_rfl) (by kernel_rfl) (by kernel_rfl) (fun _ _ _ h => h) (Or.inl ⟨by rfl, ?_⟩) (by assumption) ?_
    rotate_left
    · intro w hSw
      (try dsimp only at hSw)
      go_simp
      (try with_reducible rfl)
    try simp only [Act.put, List.setIfInBounds_toArray, List.set_cons_zero, List.set_cons_succ, List.getElem_toArray, List.getElem_cons_zero]
    refine wpAnyH_take (i := 1) (oi := _) (v := ?_) rfl (by kernel_rfl) (by kernel_rfl) (by kernel_rfl) (fun _ _ _ h => h) (Or.inl ⟨by rfl, ?_⟩) (by assumption) ?_
    rotate_left
    · intro w hSw
      (try dsimp only at hSw)
      go_simp
      (try with_reducible rfl)
    try simp only [Act.put, List.setIfInBounds_toArray, List.set_cons_zero, List.set_cons_succ, List.getElem_toArray, List.getElem_cons_succ, List.getElem_cons_zero]
    refine wpAnyH_take (i := 2) (oi := _) (v := ?_) rfl (by kernel_rfl) (by kernel_rfl) (by kernel_rfl) (fun _ _ _ h => h) (Or.inl ⟨by rfl, ?_⟩) (by assumption) ?_
    rotate_left
    · intro w hSw
      (try dsimp only at hSw)
      go_simp
      (try with_reducible rfl)
    try simp only [Act.put, List.setIfInBounds_toArray, List.set_cons_zero, List.set_cons_succ, List.getElem_toArray, List.getElem_cons_succ, List.getElem_cons_zero]
    refine wpAnyH_take (i := 3) (oi := _) (v := ?_) rfl (by kernel_rfl) (by kernel_rfl) (by kernel_rfl) (fun _ _ _ h => h) (Or.inl ⟨by rfl, ?_⟩) (by assumption) ?_
    rotate_left
    · intro w hSw
      (try dsimp only at hSw)
      go_simp
      (try with_reducible rfl)
    try simp only [Act.put, List.setIfInBounds_toArray, List.set_cons_zero, List.set_cons_succ, List.getElem_toArray, List.getElem_cons_succ, List.getElem_cons_zero]
    refine wpAnyH_take (i := 4) (oi := _) (v := ?_) rfl (by kernel_rfl) (by kernel_rfl) (by kernel_rfl) (fun _ _ _ h => h) (Or.inl ⟨by rfl, ?_⟩) (by assumption) ?_
    rotate_left
    · intro w hSw
      (try dsimp only at hSw)
      go_simp
      (try with_reducible rfl)
    try simp only [Act.put, List.setIfInBounds_toArray, List.set_cons_zero, List.set_cons_succ, List.getElem_toArray, List.getElem_cons_succ, List.getElem_cons_zero]
    refine wpAnyH_take (i := 5) (oi := _) (v := ?_) rfl (by kernel_rfl) (by kernel_rfl) (by kernel_rfl) (fun _ _ _ h => h) (Or.inl ⟨by rfl, ?_⟩) (by assumption) ?_
    rotate_left
    · intro w hSw
      (try dsimp only at hSw)
      go_simp
      (try with_reducible rfl)
    try simp only [Act.put, List.setIfInBounds_toArray, List.set_cons_zero, List.set_cons_succ, List.getElem_toArray, List.getElem_cons_succ, List.getElem_cons_zero]
    refine wpAnyH_take (i := 6) (oi := _) (v := ?_) rfl (by kernel_rfl) (by kernel_rfl) (by kernel_rfl) (fun _ _ _ h => h) (Or.inl ⟨by rfl, ?_⟩) (by assumption) ?_
    rotate_left
    · intro w hSw
      (try dsimp only at hSw)
      go_simp
      (try with_reducible rfl)
    try simp only [Act.put, List.setIfInBounds_toArray, List.set_cons_zero, List.set_cons_succ, List.getElem_toArray, List.getElem_cons_succ, List.getElem_cons_zero]
    refine wpAnyH_take (i := 7) (oi := _) (v := ?_) rfl (by kernel_rfl) (by kernel_rfl) (by kernel_rfl) (fun _ _ _ h => h) (Or.inl ⟨by rfl, ?_⟩) (by assumption) ?_
    rotate_left
    · intro w hSw
      (try dsimp only at hSw)
      go_simp
      (try with_reducible rfl)
    try simp only [Act.put, List.setIfInBounds_toArray, List.set_cons_zero, List.set_cons_succ, List.getElem_toArray, List.getElem_cons_succ, List.getElem_cons_zero]
    refine wpAnyH_take (i := 8) (oi := _) (v := ?_) rfl (by kernel_rfl) (by kernel_rfl) (by kernel_rfl) (fun _ _ _ h => h) (Or.inl ⟨by rfl, ?_⟩) (by assumption) ?_
    rotate_left
    · intro w hSw
      (try dsimp only at hSw)
      go_simp
      (try with_reducible rfl)
    try simp only [Act.put, List.setIfInBounds_toArray, List.set_cons_zero, List.set_cons_succ, List.getElem_toArray, List.getElem_cons_succ, List.getElem_cons_zero]
    refine wpAnyH_take (i := 9) (oi := _) (v := ?_) rfl (by kernel_rfl) (by kernel_rfl) (by kernel_rfl) (fun _ _ _ h => h) (Or.inl ⟨by rfl, ?_⟩) (by assumption) ?_
    rotate_left
    · intro w hSw
      (try dsimp only at hSw)
      go_simp
      (try with_reducible rfl)
    try simp only [Act.put, List.setIfInBounds_toArray, List.set_cons_zero, List.set_cons_succ, List.getElem_toArray, List.getElem_cons_succ, List.getElem_cons_zero]
    refine wpAnyH_take (i := 10) (oi := _) (v := ?_) rfl (by kernel_rfl) (by kernel_rfl) (by kernel_rfl) (fun _ _ _ h => h) (Or.inl ⟨by rfl, ?_⟩) (by assumption) ?_
    rotate_left
    · intro w hSw
      (try dsimp only at hSw)
      go_simp
      (try with_reducible rfl)
    try simp only [Act.put, List.setIfInBounds_toArray, List.set_cons_zero, List.set_cons_succ, List.getElem_toArray, List.getElem_cons_succ, List.getElem_cons_zero]
    refine wpAnyH_take (i := 11) (oi := _) (v := ?_) rfl (by kernel_rfl) (by kernel_rfl) (by kernel_rfl) (fun _ _ _ h => h) (Or.inl ⟨by rfl, ?_⟩) (by assumption) ?_
    rotate_left
    · intro w hSw
      (try dsimp only at hSw)
      go_simp
      (try with_reducible rfl)
    try simp only [Act.put, List.setIfInBounds_toArray, List.set_cons_zero, List.set_cons_succ, List.getElem_toArray, List.getElem_cons_succ, List.getElem_cons_zero]
    refine wpAnyH_ready (rs := [12]) (by kernel_rfl) (by simp) ?_
    refine AllReadyH.cons (o := _) rfl (fun K hK => ?_) AllReadyH.nil
    go_simp
    go_at_call 13
    refine (esame_any _ _ m y _ (OKX.out.below rr) (OKY.out.below rr) (by omega) (by omega)).mono ?_
    rintro e w5 ⟨rfl, b5⟩
    have rr := rr.then_ b5
    rw [SMX.out]
    refine hK.out _ _ (K2.out _ rr) (fun hHeld => ?_)
    clear hK K
    try simp only [Act.put, List.setIfInBounds_toArray, List.set_cons_zero, List.set_cons_succ, List.getElem_toArray, List.getElem_cons_succ, List.getElem_cons_zero]
    refine wpAnyH_take (i := 13) (oi := _) (v := ?_) rfl (by kernel_rfl) (by kernel_rfl) (by kernel_rfl) (fun _ _ _ h => h) (Or.inl ⟨by rfl, ?_⟩) (by assumption) ?_
    rotate_left
    · intro w hSw
      (try dsimp only at hSw)
      go_simp
      (try with_reducible rfl)
    try simp only [Act.put, List.setIfInBounds_toArray, List.set_cons_zero, List.set_cons_succ, List.getElem_toArray, List.getElem_cons_succ, List.getElem_cons_zero]
    refine wpAnyH_take (i := 14) (oi := _) (v := ?_) rfl (by kernel_rfl) (by kernel_rfl) (by kernel_rfl) (fun _ _ _ h => h) (Or.inl ⟨by rfl, ?_⟩) (by assumption) ?_
    rotate_left
    · intro w hSw
      (try dsimp only at hSw)
      go_simp
      (try with_reducible rfl)
    try simp only [Act.put, List.setIfInBounds_toArray, List.set_cons_zero, List.set_cons_succ, List.getElem_toArray, List.getElem_cons_succ, List.getElem_cons_zero]
    refine wpAnyH_take (i := 15) (oi := _) (v := ?_) rfl (by kernel_rfl) (by kernel_rfl) (by kernel_rfl) (fun _ _ _ h => h) (Or.inl ⟨by rfl, ?_⟩) (by assumption) ?_
    rotate_left
    · intro w hSw
      (try dsimp only at hSw)
      go_simp
      (try with_reducible rfl)
    try simp only [Act.put, List.setIfInBounds_toArray, List.set_cons_zero, List.set_cons_succ, List.getElem_toArray, List.getElem_cons_succ, List.getElem_cons_zero]
    refine wpAnyH_take (i := 16) (oi := _) (v := ?_) rfl (by kernel_rfl) (by kernel_rfl) (by kernel_rfl) (fun _ _ _ h => h) (Or.inl ⟨by rfl, ?_⟩) (by assumption) ?_
    rotate_left
    · intro w hSw
      (try dsimp only at hSw)
      go_simp
      (try with_reducible rfl)
    try simp only [Act.put, List.setIfInBounds_toArray, List.set_cons_zero, List.set_cons_succ, List.getElem_toArray, List.getElem_cons_succ, List.getElem_cons_zero]
    refine wpAnyH_take (i := 17) (oi := _) (v := ?_) rfl (by kernel_rfl) (by kernel_rfl) (by kernel_rfl) (fun _ _ _ h => h) (Or.inl ⟨by rfl, ?_⟩) (by assumption) ?_
    rotate_left
    · intro w hSw
      (try dsimp only at hSw)
      go_simp
      (try with_reducible rfl)
    try simp only [Act.put, List.setIfInBounds_toArray, List.set_cons_zero, List.set_cons_succ, List.getElem_toArray, List.getElem_cons_succ, List.getElem_cons_zero]
    refine wpAnyH_take (i := 18) (oi := _) (v := ?_) rfl (by kernel_rfl) (by kernel_rfl) (by kernel_rfl) (fun _ _ _ h => h) (Or.inl ⟨by rfl, ?_⟩) (by assumption) ?_
    rotate_left
    · intro w hSw
      (try dsimp only at hSw)
      go_simp
      (try with_reducible rfl)
    try simp only [Act.put, List.setIfInBounds_toArray, List.set_cons_zero, List.set_cons_succ, List.getElem_toArray, List.getElem_cons_succ, List.getElem_cons_zero]
    refine wpAnyH_take (i := 19) (oi := _) (v := ?_) rfl (by kernel_rfl) (by kernel_rfl) (by kernel_rfl) (fun _ _ _ h => h) (Or.inl ⟨by rfl, ?_⟩) (by assumption) ?_
    rotate_left
    · intro w hSw
      (try dsimp only at hSw)
      go_simp
      (try with_reducible rfl)
    try simp only [Act.put, List.setIfInBounds_toArray, List.set_cons_zero, List.set_cons_succ, List.getElem_toArray, List.getElem_cons_succ, List.getElem_cons_zero]
    refine wpAnyH_take (i := 20) (oi := _) (v := undef) rfl (by kernel_rfl) (by kernel_rfl) (by kernel_rfl) (fun _ _ _ h => h) (Or.inr ⟨by rfl, rfl⟩) (by assumption) ?_
    try simp only [Act.put, List.setIfInBounds_toArray, List.set_cons_zero, List.set_cons_succ, List.getElem_toArray, List.getElem_cons_succ, List.getElem_cons_zero]
    refine wpAnyH_take (i := 21) (oi := _) (v := undef) rfl (by kernel_rfl) (by kernel_rfl) (by kernel_rfl) (fun _ _ _ h => h) (Or.inr ⟨by rfl, rfl⟩) (by assumption) ?_
    try simp only [Act.put, List.setIfInBounds_toArray, List.set_cons_zero, List.set_cons_succ, List.getElem_toArray, List.getElem_cons_succ, List.getElem_cons_zero]
    refine wpAnyH_take (i := 22) (oi := _) (v := undef) rfl (by kernel_rfl) (by kernel_rfl) (by kernel_rfl) (fun _ _ _ h => h) (Or.inr ⟨by rfl, rfl⟩) (by assumption) ?_
    try simp only [Act.put, List.setIfInBounds_toArray, List.set_cons_zero, List.set_cons_succ, List.getElem_toArray, List.getElem_cons_succ, List.getElem_cons_zero]
    refine wpAnyH_take (i := 23) (oi := _) (v := undef) rfl (by kernel_rfl) (by kernel_rfl) (by kernel_rfl) (fun _ _ _ h => h) (Or.inr ⟨by rfl, rfl⟩) (by assumption) ?_
    try simp only [Act.put, List.setIfInBounds_toArray, List.set_cons_zero, List.set_cons_succ, List.getElem_toArray, List.getElem_cons_succ, List.getElem_cons_zero]
    refine wpAnyH_take (i := 24) (oi := _) (v := ?_) rfl (by kernel_rfl) (by kernel_rfl) (by kernel_rfl) (fun _ _ _ h => h) (Or.inl ⟨by rfl, ?_⟩) (by assumption) ?_
    rotate_left
    · intro w hSw
      (try dsimp only at hSw)
      go_simp
      (try with_reducible rfl)
    try simp only [Act.put, List.setIfInBounds_toArray, List.set_cons_zero, List.set_cons_succ, List.getElem_toArray, List.getElem_cons_succ, List.getElem_cons_zero]
    refine wpAnyH_take (i := 25) (oi := _) (v := ?_) rfl (by kernel_rfl) (by kernel_rfl) (by kernel_rfl) (fun _ _ _ h => h) (Or.inl ⟨by rfl, ?_⟩) (by assumption) ?_
    rotate_left
    · intro w hSw
      (try dsimp only at hSw)
      go_simp
      (try with_reducible rfl)
    try simp only [Act.put, List.setIfInBounds_toArray, List.set_cons_zero, List.set_cons_succ, List.getElem_toArray, List.getElem_cons_succ, List.getElem_cons_zero]
    refine wpAnyH_done (by kernel_rfl) ?_ _
    go_goals
    clear K2 OKX OKY SMX XM
    obtain ⟨w6, hw6⟩ : ∃ x, x = w5 := ⟨_, rfl⟩
    subst hw6
    have J6 := Lib.hid (J4.out.below rr)
    have R6 := Lib.hid ((R4.out.below rr).more rr.size)
    have HOK6 : Hid (∀ x ∈ ns, x.Ok (fun k => ¬ S k) w6 ∧ x.Right) := fun x hx => ⟨(HOK4.out x hx).1.below rr, (HOK4.out x hx).2⟩
    have F6 := Lib.hid (F4.out.then_ rr)
    have JC := Lib.hid (jcut_any S g es w6 J6.out (by have := HLE.out; omega))
    clear J4 R4 HOK4 F4 rr
    go_wp2_with fail
    refine JC.out.mono ?_
    rintro e w7 ⟨Sc, gc, rfl, jc, hSc, b7⟩
    have JC7 := Lib.hid jc
    have J7 := Lib.hid (J6.out.below b7)
    have R7 := Lib.hid ((R6.out.below b7).more b7.size)
    have HOK7 : Hid (∀ x ∈ ns, x.Ok (fun k => ¬ S k) w7 ∧ x.Right) := fun x hx => ⟨(HOK6.out x hx).1.below b7, (HOK6.out x hx).2⟩
    have F7 := Lib.hid (F6.out.then_ b7)
    have AL := Lib.hid (fun W (hW : Below w7.heap.size w7 W) => all_any Sc gc (cutE es) W (JC7.out.below hW) (by have := HLC.out; omega))
    have RC := Lib.hid (fun W (hW : Below w7.heap.size w7 W) => refCut_any ns (some ⟨b, o, none⟩) n c4 W ((R7.out.below hW).more hW.size) HNS2.out (by omega))
    clear JC jc hSc b7 J6 R6 HOK6 F6
    have rr : Below w7.heap.size w7 w7 := Below.refl _ w7
    go_wp2_with fail
    refine (AL.out _ rr).mono ?_
    rintro e wa ⟨ls, rfl, har, hls, ba⟩
    have rr := rr.then_ ba
    go_wp2_with fail
    refine (RC.out _ rr).mono ?_
    rintro e wb ⟨v9, cs, rfl, ho9, hcs, hmem, bb⟩
    obtain ⟨A9, c9, rfl, -, -, r9⟩ := own_form ho9
    have RA := (har.reads.below bb).more bb.size
    have OA : ∀ x ∈ ls, x.Ok (fun k => _ < k) wb ∧ x.n ≤ 140737488355328 := (fun x hx => ⟨(har.own x hx).2.1.below bb, by have := (har.own x hx).2.2.2.2.2; omega⟩)
    have rr := rr.then_ bb
    go_wp2_with fail
    refine (lsame_any _ (fun k => ¬ S k) ls cs _ _ _ _ _ _ _ RA rfl r9 rfl OA (fun x hx => ⟨(HOK7.out x (hmem x hx)).1.below rr, by have := (HOK7.out x (hmem x hx)).2.2.2.2; omega⟩) (by have h1 := HLC.out; have h2 := congrArg List.length hls; rw [List.length_map] at h2; omega)).mono ?_
    rintro e w8 ⟨rfl, b8⟩
    have rr := rr.then_ b8
    rw [decide_eq_true (show ls.map Me.en = cs.map Me.en from by rw [hls, hcs, HNS.out])]
    have J8 := Lib.hid (J7.out.below rr)
    have R8 := Lib.hid ((R7.out.below rr).more rr.size)
    have HOK8 : Hid (∀ x ∈ ns, x.Ok (fun k => ¬ S k) w8 ∧ x.Right) := fun x hx => ⟨(HOK7.out x hx).1.below rr, (HOK7.out x hx).2⟩
    have F8 := Lib.hid (F7.out.then_ rr)
    have AL2 := Lib.hid (fun W (hW : Below w8.heap.size w8 W) => all_any S g es W (J8.out.below hW) (by have := HLE.out; omega))
    have JL : Hid (∀ W, Below w8.heap.size w8 W → Calls Try.prog 24 #[.pointer (some ⟨g, 0, none⟩)] W fun e w' => e = .returned (.int .i64 (n : Int)) ∧ W = w') := fun W hW => by
      have h1 := jlen_any S g es W (J8.out.below hW)
      rw [HN.out] at h1
      exact h1
    have JB := Lib.hid (fun W (hW : Below w8.heap.size w8 W) => jbytes_any S g es W (J8.out.below hW) (by have := HLE.out; omega))
    have RA2 : Hid (∀ W, Below w8.heap.size w8 W → Calls Try.prog 32 #[.slice (some ⟨b, o, none⟩) n c4] W (Got W.heap.size W (allB D8 es))) := fun W hW => by
      have h1 := refAll_any (fun k => ¬ S k) ns (some ⟨b, o, none⟩) n c4 W ((R8.out.below hW).more hW.size) HNS2.out (by omega) (fun x hx => ⟨(HOK8.out x hx).1.below hW, (HOK8.out x hx).2⟩)
      rw [HNS.out] at h1
      exact h1
    have JK := Lib.hid (fun W (hW : Below w8.heap.size w8 W) => jkeys_any S g es kd W (J8.out.below hW) (by have := HLE.out; omega))
    have RK := Lib.hid (fun W (hW : Below w8.heap.size w8 W) => refKeys_any ns es (some ⟨b, o, none⟩) n c4 kd W ((R8.out.below hW).more hW.size) HNS2.out (by omega) HNS.out)
    have HBL : Hid ((allB D8 es).length ≤ 20 * 66000) := Nat.le_trans (allB_len (l := es) J8.out.right) (Nat.mul_le_mul_right 66000 HLE.out)
    have HKL : Hid ((keysE kd [] es).length ≤ 20) := Nat.le_trans (keysE_le kd es []) HLE.out
    clear AL RC J7 JC7 R7 HOK7 F7 rr har hls ho9 hcs hmem r9 RA OA
    have rr : Below w8.heap.size w8 w8 := Below.refl _ w8
    go_wp2_with fail
    refine (known_any _).mono ?_
    rintro e w9 ⟨rfl, b9⟩
    have rr := rr.then_ b9
    go_wp2_with fail
    refine (AL2.out _ rr).mono ?_
    rintro e wa ⟨ls, rfl, har, hls, ba⟩
    have rr := rr.then_ ba
    go_wp2_with fail
    refine (lsame_any _ (fun k => ¬ S k) ls ns _ _ _ _ _ _ _ har.reads rfl ((R8.out.below rr).more rr.size) HNS2.out (fun x hx => ⟨(har.own x hx).2.1, by have := (har.own x hx).2.2.2.2.2; omega⟩) (fun x hx => ⟨(HOK8.out x hx).1.below rr, by have := (HOK8.out x hx).2.2.2.2; omega⟩) (by have h1 := HLE.out; have h2 := congrArg List.length hls; rw [List.length_map] at h2; omega)).mono ?_
    rintro e w9 ⟨rfl, b9⟩
    have rr := rr.then_ b9
    rw [decide_eq_true (show ls.map Me.en = ns.map Me.en from by rw [hls, HNS.out])]
    go_wp2_with fail
    refine (JL.out _ rr).mono ?_
    rintro e w9 ⟨rfl, rfl⟩
    go_wp2_with fail
    refine (JB.out _ rr).mono ?_
    rintro e w9 ⟨v8, rfl, o8, b9⟩
    have rr := rr.then_ b9
    obtain ⟨A8, n8, c8, rfl, hc8, hm8, r8⟩ := o8.got
    go_wp2_with fail
    refine (RA2.out _ rr).mono ?_
    rintro e w9 ⟨v9, rfl, o9, b9⟩
    have rr := rr.then_ b9
    obtain ⟨A9, n9, c9, rfl, hc9, hm9, r9⟩ := o9.got
    have r8 := r8.below b9
    go_wp2_with fail
    refine (same_true A8 A9 n8 c8 n9 c9 _ _ _ r8 r9 (by have h1 := r8.len; have h2 := HBL.out; omega) rfl).mono ?_
    rintro e w9 ⟨rfl, b9⟩
    have rr := rr.then_ b9
    go_wp2_with fail
    refine (JK.out _ rr).mono ?_
    rintro e w9 ⟨v6, k6, rfl, o6, hk6, b9⟩
    have rr := rr.then_ b9
    obtain ⟨A6, c6, rfl, -, -, r6⟩ := own_form o6
    go_wp2_with fail
    refine (RK.out _ rr).mono ?_
    rintro e w9 ⟨v7, k7, rfl, o7, hk7, b9⟩
    have rr := rr.then_ b9
    obtain ⟨A7, c7, rfl, -, -, r7⟩ := own_form o7
    have r6 := (r6.below b9).more b9.size
    go_wp2_with fail
    refine (texts_any k6 k7 _ _ _ _ _ _ _ r6 rfl r7 rfl (tlB_map (hk6.trans hk7.symm)) (by have h1 := HKL.out; have h2 := congrArg List.length hk6; rw [List.length_map] at h2; omega)).mono ?_
    rintro e w9 ⟨rfl, b9⟩
    have rr := rr.then_ b9
    have FR := Lib.hid (F8.out.then_ rr)
    clear AL2 JL JB RA2 JK RK
    go_wp2_with fail
    go_ret
    exact ⟨rfl, FR.out⟩
  · unfold zeroE
    have J3 := Lib.hid (J2.out.below b3)
    have R3 := Lib.hid ((R4.out.below b3).more b3.size)
    have HOK3 : Hid (∀ x ∈ ns, x.Ok (fun k => ¬ S k) w3 ∧ x.Right) := fun x hx => ⟨(HOK.out x hx).1.below b3, (HOK.out x hx).2⟩
    have F3 := Lib.hid (F2.then_ b3)
    have HLE2 : Hid (lastE (ns.map Me.en) (kd, tlB ky) = none) := by rw [Hid, HNS.out]; exact hle
    have b4 : Below w3.heap.size w3 (w3.alloc (.cells #[.int .i64 0, .string ⟨#[]⟩, .slice none 0 0] 45)) := (Below.refl _ w3).al _
    have XM0 := Blk.new w3 45 #[.int .i64 0, .string ⟨#[]⟩, .slice none 0 0]
    obtain ⟨gx, hgx⟩ : ∃ gx, w3.heap.size = gx := ⟨_, rfl⟩
    rw [hgx] at XM0
    clear J2 R4 HOK F2 LST hle b3
    go_upto_region 6 with fail
    generalize w3.alloc (.cells #[.int .i64 0, .string ⟨#[]⟩, .slice none 0 0] 45) = w4 at *
    have J4 := Lib.hid (J3.out.below b4)
    have R4 := Lib.hid ((R3.out.below b4).more b4.size)
    have HOK4 : Hid (∀ x ∈ ns, x.Ok (fun k => ¬ S k) w4 ∧ x.Right) := fun x hx => ⟨(HOK3.out x hx).1.below b4, (HOK3.out x hx).2⟩
    have F4 := Lib.hid (F3.out.then_ b4)
    have XM := Lib.hid XM0
    have RL := Lib.hid (refLast_any ns A4 n c4 kd ky w4 R4.out HNS2.out (by omega))
    clear J3 R3 HOK3 F3 XM0 hgx b4
    go_wp2_with fail
    refine RL.out.mono ?_
    rintro e w5 ⟨r, rfl, hla, rfl⟩
    obtain rfl : r = -1 := lastI_no hla HLE2.out
    have K2 : Hid (∀ W, Below w4.heap.size w4 W → W.cell? ⟨gx, 0, none⟩ = some (.int .i64 0) ∧ W.cell? ⟨gx, 1, none⟩ = some (.string ⟨#[]⟩) ∧ W.cell? ⟨gx, 2, none⟩ = some (.slice none 0 0)) := fun W hW => by
      have h1 := XM.out.below hW XM.out.lt
      exact ⟨h1.cell 0, h1.cell 1, h1.cell 2⟩
    clear hla RL HLE2
    go_upto_region 7 with fail
    have rr : Below w4.heap.size w4 w4.drew := (Below.refl _ w4).drew
    refine wp_region_held_drew (S := fun w' => w'.cell? ⟨gx, 0, none⟩ = some (.int .i64 0) ∧ w'.cell? ⟨gx, 1, none⟩ = some (.string ⟨#[]⟩) ∧ w'.cell? ⟨gx, 2, none⟩ = some (.slice none 0 0)) (by kernel_rfl) (K2.out _ rr) (fun hHeld => ?_)
    refine wpAnyH_take (i := 0) (oi := _) (v := ?_) rfl (by kernel_rfl) (by kernel_rfl) (by kernel_rfl) (fun _ _ _ h => h) (Or.inl ⟨by rfl, ?_⟩) (by assumption) ?_
    rotate_left
    · intro w hSw
      (try dsimp only at hSw)
      go_simp
      (try with_reducible rfl)
    try simp only [Act.put, List.setIfInBounds_toArray, List.set_cons_zero, List.set_cons_succ, List.getElem_toArray, List.getElem_cons_zero]
    refine wpAnyH_take (i := 1) (oi := _) (v := ?_) rfl (by kernel_rfl) (by kernel_rfl) (by kernel_rfl) (fun _ _ _ h => h) (Or.inl ⟨by rfl, ?_⟩) (by assumption) ?_
    rotate_left
    · intro w hSw
      (try dsimp only at hSw)
      go_simp
      (try with_reducible rfl)
    try simp only [Act.put, List.setIfInBounds_toArray, List.set_cons_zero, List.set_cons_succ, List.getElem_toArray, List.getElem_cons_succ, List.getElem_cons_zero]
    refine wpAnyH_take (i := 2) (oi := _) (v := ?_) rfl (by kernel_rfl) (by kernel_rfl) (by kernel_rfl) (fun _ _ _ h => h) (Or.inl ⟨by rfl, ?_⟩) (by assumption) ?_
    rotate_left
    · intro w hSw
      (try dsimp only at hSw)
      go_simp
      (try with_reducible rfl)
    try simp only [Act.put, List.setIfInBounds_toArray, List.set_cons_zero, List.set_cons_succ, List.getElem_toArray, List.getElem_cons_succ, List.getElem_cons_zero]
    refine wpAnyH_take (i := 3) (oi := _) (v := ?_) rfl (by kernel_rfl) (by kernel_rfl) (by kernel_rfl) (fun _ _ _ h => h) (Or.inl ⟨by rfl, ?_⟩) (by assumption) ?_
    rotate_left
    · intro w hSw
      (try dsimp only at hSw)
      go_simp
      (try with_reducible rfl)
    try simp only [Act.put, List.setIfInBounds_toArray, List.set_cons_zero, List.set_cons_succ, List.getElem_toArray, List.getElem_cons_succ, List.getElem_cons_zero]
    refine wpAnyH_take (i := 4) (oi := _) (v := ?_) rfl (by kernel_rfl) (by kernel_rfl) (by kernel_rfl) (fun _ _ _ h => h) (Or.inl ⟨by rfl, ?_⟩) (by assumption) ?_
    rotate_left
    · intro w hSw
      (try dsimp only at hSw)
      go_simp
      (try with_reducible rfl)
    try simp only [Act.put, List.setIfInBounds_toArray, List.set_cons_zero, List.set_cons_succ, List.getElem_toArray, List.getElem_cons_succ, List.getElem_cons_zero]
    refine wpAnyH_take (i := 5) (oi := _) (v := ?_) rfl (by kernel_rfl) (by kernel_rfl) (by kernel_rfl) (fun _ _ _ h => h) (Or.inl ⟨by rfl, ?_⟩) (by assumption) ?_
    rotate_left
    · intro w hSw
      (try dsimp only at hSw)
      go_simp
      (try with_reducible rfl)
    try simp only [Act.put, List.setIfInBounds_toArray, List.set_cons_zero, List.set_cons_succ, List.getElem_toArray, List.getElem_cons_succ, List.getElem_cons_zero]
    refine wpAnyH_take (i := 6) (oi := _) (v := ?_) rfl (by kernel_rfl) (by kernel_rfl) (by kernel_rfl) (fun _ _ _ h => h) (Or.inl ⟨by rfl, ?_⟩) (by assumption) ?_
    rotate_left
    · intro w hSw
      (try dsimp only at hSw)
      go_simp
      (try with_reducible rfl)
    try simp only [Act.put, List.setIfInBounds_toArray, List.set_cons_zero, List.set_cons_succ, List.getElem_toArray, List.getElem_cons_succ, List.getElem_cons_zero]
    refine wpAnyH_take (i := 7) (oi := _) (v := undef) rfl (by kernel_rfl) (by kernel_rfl) (by kernel_rfl) (fun _ _ _ h => h) (Or.inr ⟨by rfl, rfl⟩) (by assumption) ?_
    try simp only [Act.put, List.setIfInBounds_toArray, List.set_cons_zero, List.set_cons_succ, List.getElem_toArray, List.getElem_cons_succ, List.getElem_cons_zero]
    refine wpAnyH_take (i := 8) (oi := _) (v := undef) rfl (by kernel_rfl) (by kernel_rfl) (by kernel_rfl) (fun _ _ _ h => h) (Or.inr ⟨by rfl, rfl⟩) (by assumption) ?_
    try simp only [Act.put, List.setIfInBounds_toArray, List.set_cons_zero, List.set_cons_succ, List.getElem_toArray, List.getElem_cons_succ, List.getElem_cons_zero]
    refine wpAnyH_take (i := 9) (oi := _) (v := undef) rfl (by kernel_rfl) (by kernel_rfl) (by kernel_rfl) (fun _ _ _ h => h) (Or.inr ⟨by rfl, rfl⟩) (by assumption) ?_
    try simp only [Act.put, List.setIfInBounds_toArray, List.set_cons_zero, List.set_cons_succ, List.getElem_toArray, List.getElem_cons_succ, List.getElem_cons_zero]
    refine wpAnyH_take (i := 10) (oi := _) (v := undef) rfl (by kernel_rfl) (by kernel_rfl) (by kernel_rfl) (fun _ _ _ h => h) (Or.inr ⟨by rfl, rfl⟩) (by assumption) ?_
    try simp only [Act.put, List.setIfInBounds_toArray, List.set_cons_zero, List.set_cons_succ, List.getElem_toArray, List.getElem_cons_succ, List.getElem_cons_zero]
    refine wpAnyH_take (i := 11) (oi := _) (v := undef) rfl (by kernel_rfl) (by kernel_rfl) (by kernel_rfl) (fun _ _ _ h => h) (Or.inr ⟨by rfl, rfl⟩) (by assumption) ?_
    try simp only [Act.put, List.setIfInBounds_toArray, List.set_cons_zero, List.set_cons_succ, List.getElem_toArray, List.getElem_cons_succ, List.getElem_cons_zero]
    refine wpAnyH_take (i := 12) (oi := _) (v := undef) rfl (by kernel_rfl) (by kernel_rfl) (by kernel_rfl) (fun _ _ _ h => h) (Or.inr ⟨by rfl, rfl⟩) (by assumption) ?_
    try simp only [Act.put, List.setIfInBounds_toArray, List.set_cons_zero, List.set_cons_succ, List.getElem_toArray, List.getElem_cons_succ, List.getElem_cons_zero]
    refine wpAnyH_take (i := 13) (oi := _) (v := undef) rfl (by kernel_rfl) (by kernel_rfl) (by kernel_rfl) (fun _ _ _ h => h) (Or.inr ⟨by rfl, rfl⟩) (by assumption) ?_
    try simp only [Act.put, List.setIfInBounds_toArray, List.set_cons_zero, List.set_cons_succ, List.getElem_toArray, List.getElem_cons_succ, List.getElem_cons_zero]
    refine wpAnyH_take (i := 14) (oi := _) (v := ?_) rfl (by kernel_rfl) (by kernel_rfl) (by kernel_rfl) (fun _ _ _ h => h) (Or.inl ⟨by rfl, ?_⟩) (by assumption) ?_
    rotate_left
    · intro w hSw
      (try dsimp only at hSw)
      go_simp
      (try with_reducible rfl)
    try simp only [Act.put, List.setIfInBounds_toArray, List.set_cons_zero, List.set_cons_succ, List.getElem_toArray, List.getElem_cons_succ, List.getElem_cons_zero]
    refine wpAnyH_take (i := 15) (oi := _) (v := ?_) rfl (by kernel_rfl) (by kernel_rfl) (by kernel_rfl) (fun _ _ _ h => h) (Or.inl ⟨by rfl, ?_⟩) (by assumption) ?_
    rotate_left
    · intro w hSw
      (try dsimp only at hSw)
      go_simp
      (try with_reducible rfl)
    try simp only [Act.put, List.setIfInBounds_toArray, List.set_cons_zero, List.set_cons_succ, List.getElem_toArray, List.getElem_cons_succ, List.getElem_cons_zero]
    refine wpAnyH_take (i := 16) (oi := _) (v := ?_) rfl (by kernel_rfl) (by kernel_rfl) (by kernel_rfl) (fun _ _ _ h => h) (Or.inl ⟨by rfl, ?_⟩) (by assumption) ?_
    rotate_left
    · intro w hSw
      (try dsimp only at hSw)
      go_simp
      (try with_reducible rfl)
    try simp only [Act.put, List.setIfInBounds_toArray, List.set_cons_zero, List.set_cons_succ, List.getElem_toArray, List.getElem_cons_succ, List.getElem_cons_zero]
    refine wpAnyH_take (i := 17) (oi := _) (v := ?_) rfl (by kernel_rfl) (by kernel_rfl) (by kernel_rfl) (fun _ _ _ h => h) (Or.inl ⟨by rfl, ?_⟩) (by assumption) ?_
    rotate_left
    · intro w hSw
      (try dsimp only at hSw)
      go_simp
      (try with_reducible rfl)
    try simp only [Act.put, List.setIfInBounds_toArray, List.set_cons_zero, List.set_cons_succ, List.getElem_toArray, List.getElem_cons_succ, List.getElem_cons_zero]
    refine wpAnyH_take (i := 18) (oi := _) (v := ?_) rfl (by kernel_rfl) (by kernel_rfl) (by kernel_rfl) (fun _ _ _ h => h) (Or.inl ⟨by rfl, ?_⟩) (by assumption) ?_
    rotate_left
    · intro w hSw
      (try dsimp only at hSw)
      go_simp
      (try with_reducible rfl)
    try simp only [Act.put, List.setIfInBounds_toArray, List.set_cons_zero, List.set_cons_succ, List.getElem_toArray, List.getElem_cons_succ, List.getElem_cons_zero]
    refine wpAnyH_take (i := 19) (oi := _) (v := ?_) rfl (by kernel_rfl) (by kernel_rfl) (by kernel_rfl) (fun _ _ _ h => h) (Or.inl ⟨by rfl, ?_⟩) (by assumption) ?_
    rotate_left
    · intro w hSw
      (try dsimp only at hSw)
      go_simp
      (try with_reducible rfl)
    try simp only [Act.put, List.setIfInBounds_toArray, List.set_cons_zero, List.set_cons_succ, List.getElem_toArray, List.getElem_cons_succ, List.getElem_cons_zero]
    refine wpAnyH_take (i := 20) (oi := _) (v := ?_) rfl (by kernel_rfl) (by kernel_rfl) (by kernel_rfl) (fun _ _ _ h => h) (Or.inl ⟨by rfl, ?_⟩) (by assumption) ?_
    rotate_left
    · intro w hSw
      (try dsimp only at hSw)
      go_simp
      (try with_reducible rfl)
    try simp only [Act.put, List.setIfInBounds_toArray, List.set_cons_zero, List.set_cons_succ, List.getElem_toArray, List.getElem_cons_succ, List.getElem_cons_zero]
    refine wpAnyH_take (i := 21) (oi := _) (v := ?_) rfl (by kernel_rfl) (by kernel_rfl) (by kernel_rfl) (fun _ _ _ h => h) (Or.inl ⟨by rfl, ?_⟩) (by assumption) ?_
    rotate_left
    · intro w hSw
      (try dsimp only at hSw)
      go_simp
      (try with_reducible rfl)
    try simp only [Act.put, List.setIfInBounds_toArray, List.set_cons_zero, List.set_cons_succ, List.getElem_toArray, List.getElem_cons_succ, List.getElem_cons_zero]
    refine wpAnyH_ready (rs := [22]) (by kernel_rfl) (by simp) ?_
    refine AllReadyH.cons (o := _) rfl (fun K hK => ?_) AllReadyH.nil
    go_simp
    go_at_call 13
    refine (esame_any (fun _ => False) (fun _ => False) emptyM emptyM _ (emptyM_ok _ _) (emptyM_ok _ _) (by decide) (by decide)).mono ?_
    rintro e w5 ⟨rfl, b5⟩
    have rr := rr.then_ b5
    rw [sameE_iff.2 rfl]
    refine hK.out _ _ (K2.out _ rr) (fun hHeld => ?_)
    clear hK K
    try simp only [Act.put, List.setIfInBounds_toArray, List.set_cons_zero, List.set_cons_succ, List.getElem_toArray, List.getElem_cons_succ, List.getElem_cons_zero]
    refine wpAnyH_take (i := 23) (oi := _) (v := ?_) rfl (by kernel_rfl) (by kernel_rfl) (by kernel_rfl) (fun _ _ _ h => h) (Or.inl ⟨by rfl, ?_⟩) (by assumption) ?_
    rotate_left
    · intro w hSw
      (try dsimp only at hSw)
      go_simp
      (try with_reducible rfl)
    try simp only [Act.put, List.setIfInBounds_toArray, List.set_cons_zero, List.set_cons_succ, List.getElem_toArray, List.getElem_cons_succ, List.getElem_cons_zero]
    refine wpAnyH_take (i := 24) (oi := _) (v := ?_) rfl (by kernel_rfl) (by kernel_rfl) (by kernel_rfl) (fun _ _ _ h => h) (Or.inl ⟨by rfl, ?_⟩) (by assumption) ?_
    rotate_left
    · intro w hSw
      (try dsimp only at hSw)
      go_simp
      (try with_reducible rfl)
    try simp only [Act.put, List.setIfInBounds_toArray, List.set_cons_zero, List.set_cons_succ, List.getElem_toArray, List.getElem_cons_succ, List.getElem_cons_zero]
    refine wpAnyH_take (i := 25) (oi := _) (v := ?_) rfl (by kernel_rfl) (by kernel_rfl) (by kernel_rfl) (fun _ _ _ h => h) (Or.inl ⟨by rfl, ?_⟩) (by assumption) ?_
    rotate_left
    · intro w hSw
      (try dsimp only at hSw)
      go_simp
      (try with_reducible rfl)
    try simp only [Act.put, List.setIfInBounds_toArray, List.set_cons_zero, List.set_cons_succ, List.getElem_toArray, List.getElem_cons_succ, List.getElem_cons_zero]
    refine wpAnyH_done (by kernel_rfl) ?_ _
    go_goals
    clear K2 XM
    obtain ⟨w6, hw6⟩ : ∃ x, x = w5 := ⟨_, rfl⟩
    subst hw6
    have J6 := Lib.hid (J4.out.below rr)
    have R6 := Lib.hid ((R4.out.below rr).more rr.size)
    have HOK6 : Hid (∀ x ∈ ns, x.Ok (fun k => ¬ S k) w6 ∧ x.Right) := fun x hx => ⟨(HOK4.out x hx).1.below rr, (HOK4.out x hx).2⟩
    have F6 := Lib.hid (F4.out.then_ rr)
    have JC := Lib.hid (jcut_any S g es w6 J6.out (by have := HLE.out; omega))
    clear J4 R4 HOK4 F4 rr
    go_wp2_with fail
    refine JC.out.mono ?_
    rintro e w7 ⟨Sc, gc, rfl, jc, hSc, b7⟩
    have JC7 := Lib.hid jc
    have J7 := Lib.hid (J6.out.below b7)
    have R7 := Lib.hid ((R6.out.below b7).more b7.size)
    have HOK7 : Hid (∀ x ∈ ns, x.Ok (fun k => ¬ S k) w7 ∧ x.Right) := fun x hx => ⟨(HOK6.out x hx).1.below b7, (HOK6.out x hx).2⟩
    have F7 := Lib.hid (F6.out.then_ b7)
    have AL := Lib.hid (fun W (hW : Below w7.heap.size w7 W) => all_any Sc gc (cutE es) W (JC7.out.below hW) (by have := HLC.out; omega))
    have RC := Lib.hid (fun W (hW : Below w7.heap.size w7 W) => refCut_any ns A4 n c4 W ((R7.out.below hW).more hW.size) HNS2.out (by omega))
    clear JC jc hSc b7 J6 R6 HOK6 F6
    have rr : Below w7.heap.size w7 w7 := Below.refl _ w7
    go_wp2_with fail
    refine (AL.out _ rr).mono ?_
    rintro e wa ⟨ls, rfl, har, hls, ba⟩
    have rr := rr.then_ ba
    go_wp2_with fail
    refine (RC.out _ rr).mono ?_
    rintro e wb ⟨v9, cs, rfl, ho9, hcs, hmem, bb⟩
    obtain ⟨A9, c9, rfl, -, -, r9⟩ := own_form ho9
    have RA := (har.reads.below bb).more bb.size
    have OA : ∀ x ∈ ls, x.Ok (fun k => _ < k) wb ∧ x.n ≤ 140737488355328 := (fun x hx => ⟨(har.own x hx).2.1.below bb, by have := (har.own x hx).2.2.2.2.2; omega⟩)
    have rr := rr.then_ bb
    go_wp2_with fail
    refine (lsame_any _ (fun k => ¬ S k) ls cs _ _ _ _ _ _ _ RA rfl r9 rfl OA (fun x hx => ⟨(HOK7.out x (hmem x hx)).1.below rr, by have := (HOK7.out x (hmem x hx)).2.2.2.2; omega⟩) (by have h1 := HLC.out; have h2 := congrArg List.length hls; rw [List.length_map] at h2; omega)).mono ?_
    rintro e w8 ⟨rfl, b8⟩
    have rr := rr.then_ b8
    rw [decide_eq_true (show ls.map Me.en = cs.map Me.en from by rw [hls, hcs, HNS.out])]
    have J8 := Lib.hid (J7.out.below rr)
    have R8 := Lib.hid ((R7.out.below rr).more rr.size)
    have HOK8 : Hid (∀ x ∈ ns, x.Ok (fun k => ¬ S k) w8 ∧ x.Right) := fun x hx => ⟨(HOK7.out x hx).1.below rr, (HOK7.out x hx).2⟩
    have F8 := Lib.hid (F7.out.then_ rr)
    have AL2 := Lib.hid (fun W (hW : Below w8.heap.size w8 W) => all_any S g es W (J8.out.below hW) (by have := HLE.out; omega))
    have JL : Hid (∀ W, Below w8.heap.size w8 W → Calls Try.prog 24 #[.pointer (some ⟨g, 0, none⟩)] W fun e w' => e = .returned (.int .i64 (n : Int)) ∧ W = w') := fun W hW => by
      have h1 := jlen_any S g es W (J8.out.below hW)
      rw [HN.out] at h1
      exact h1
    have JB := Lib.hid (fun W (hW : Below w8.heap.size w8 W) => jbytes_any S g es W (J8.out.below hW) (by have := HLE.out; omega))
    have RA2 : Hid (∀ W, Below w8.heap.size w8 W → Calls Try.prog 32 #[.slice A4 n c4] W (Got W.heap.size W (allB D8 es))) := fun W hW => by
      have h1 := refAll_any (fun k => ¬ S k) ns A4 n c4 W ((R8.out.below hW).more hW.size) HNS2.out (by omega) (fun x hx => ⟨(HOK8.out x hx).1.below hW, (HOK8.out x hx).2⟩)
      rw [HNS.out] at h1
      exact h1
    have JK := Lib.hid (fun W (hW : Below w8.heap.size w8 W) => jkeys_any S g es kd W (J8.out.below hW) (by have := HLE.out; omega))
    have RK := Lib.hid (fun W (hW : Below w8.heap.size w8 W) => refKeys_any ns es A4 n c4 kd W ((R8.out.below hW).more hW.size) HNS2.out (by omega) HNS.out)
    have HBL : Hid ((allB D8 es).length ≤ 20 * 66000) := Nat.le_trans (allB_len (l := es) J8.out.right) (Nat.mul_le_mul_right 66000 HLE.out)
    have HKL : Hid ((keysE kd [] es).length ≤ 20) := Nat.le_trans (keysE_le kd es []) HLE.out
    clear AL RC J7 JC7 R7 HOK7 F7 rr har hls ho9 hcs hmem r9 RA OA
    have rr : Below w8.heap.size w8 w8 := Below.refl _ w8
    go_wp2_with fail
    refine (known_any _).mono ?_
    rintro e w9 ⟨rfl, b9⟩
    have rr := rr.then_ b9
    go_wp2_with fail
    refine (AL2.out _ rr).mono ?_
    rintro e wa ⟨ls, rfl, har, hls, ba⟩
    have rr := rr.then_ ba
    go_wp2_with fail
    refine (lsame_any _ (fun k => ¬ S k) ls ns _ _ _ _ _ _ _ har.reads rfl ((R8.out.below rr).more rr.size) HNS2.out (fun x hx => ⟨(har.own x hx).2.1, by have := (har.own x hx).2.2.2.2.2; omega⟩) (fun x hx => ⟨(HOK8.out x hx).1.below rr, by have := (HOK8.out x hx).2.2.2.2; omega⟩) (by have h1 := HLE.out; have h2 := congrArg List.length hls; rw [List.length_map] at h2; omega)).mono ?_
    rintro e w9 ⟨rfl, b9⟩
    have rr := rr.then_ b9
    rw [decide_eq_true (show ls.map Me.en = ns.map Me.en from by rw [hls, HNS.out])]
    go_wp2_with fail
    refine (JL.out _ rr).mono ?_
    rintro e w9 ⟨rfl, rfl⟩
    go_wp2_with fail
    refine (JB.out _ rr).mono ?_
    rintro e w9 ⟨v8, rfl, o8, b9⟩
    have rr := rr.then_ b9
    obtain ⟨A8, n8, c8, rfl, hc8, hm8, r8⟩ := o8.got
    go_wp2_with fail
    refine (RA2.out _ rr).mono ?_
    rintro e w9 ⟨v9, rfl, o9, b9⟩
    have rr := rr.then_ b9
    obtain ⟨A9, n9, c9, rfl, hc9, hm9, r9⟩ := o9.got
    have r8 := r8.below b9
    go_wp2_with fail
    refine (same_true A8 A9 n8 c8 n9 c9 _ _ _ r8 r9 (by have h1 := r8.len; have h2 := HBL.out; omega) rfl).mono ?_
    rintro e w9 ⟨rfl, b9⟩
    have rr := rr.then_ b9
    go_wp2_with fail
    refine (JK.out _ rr).mono ?_
    rintro e w9 ⟨v6, k6, rfl, o6, hk6, b9⟩
    have rr := rr.then_ b9
    obtain ⟨A6, c6, rfl, -, -, r6⟩ := own_form o6
    go_wp2_with fail
    refine (RK.out _ rr).mono ?_
    rintro e w9 ⟨v7, k7, rfl, o7, hk7, b9⟩
    have rr := rr.then_ b9
    obtain ⟨A7, c7, rfl, -, -, r7⟩ := own_form o7
    have r6 := (r6.below b9).more b9.size
    go_wp2_with fail
    refine (texts_any k6 k7 _ _ _ _ _ _ _ r6 rfl r7 rfl (tlB_map (hk6.trans hk7.symm)) (by have h1 := HKL.out; have h2 := congrArg List.length hk6; rw [List.length_map] at h2; omega)).mono ?_
    rintro e w9 ⟨rfl, b9⟩
    have rr := rr.then_ b9
    have FR := Lib.hid (F8.out.then_ rr)
    clear AL2 JL JB RA2 JK RK
    go_wp2_with fail
    go_ret
    exact ⟨rfl, FR.out⟩
end Go.Proofs.Ytidppcaohkfnfaa
