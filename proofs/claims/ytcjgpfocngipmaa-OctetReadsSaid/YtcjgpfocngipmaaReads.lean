/-
  OctetReads: the walk.
-/
import Derived.Test.YtcjgpfocngipmaaKnown
import Derived.Test.YtcjgpfocngipmaaRefSome
import Derived.Deep.RegionHeld3
import Derived.Deep.DeepCutAuto
import Derived.Deep.CutBlock
namespace Go.Proofs.Ytcjgpfocngipmaa
open Go.RowKit

/-- A read, as the law is told it: kind, how many, the most. -/
def actV (a : Int × Int × Nat) : List Value := [.int .i64 a.1, .int .i64 a.2.1, .int .u64 a.2.2]
/-- Reads in memory. -/
def RA (w : World) (A : Option Addr) (n : Nat) (acts : List (Int × Int × Nat)) : Prop :=
  n = acts.length ∧ ∀ k (h : k < acts.length), ∃ b o, A = some ⟨b, o, none⟩ ∧ b < w.heap.size ∧ w.cell? ⟨b, o + k * 3, none⟩ = some (.int .i64 (acts[k]'h).1) ∧ w.cell? ⟨b, o + k * 3 + 1, none⟩ = some (.int .i64 (acts[k]'h).2.1) ∧ w.cell? ⟨b, o + k * 3 + 2, none⟩ = some (.int .u64 ((acts[k]'h).2.2 : Int))
theorem RA.below {w w' : World} {A : Option Addr} {n : Nat} {acts : List (Int × Int × Nat)} (h : RA w A n acts) (hb : Below w.heap.size w w') : RA w' A n acts := by
  refine ⟨h.1, fun k hk => ?_⟩
  obtain ⟨b, o, h1, h2, h3, h4, h5⟩ := h.2 k hk
  exact ⟨b, o, h1, Nat.lt_of_lt_of_le h2 hb.size, (hb.cell (p := ⟨b, o + k * 3, none⟩) h2).trans h3, (hb.cell (p := ⟨b, o + k * 3 + 1, none⟩) h2).trans h4, (hb.cell (p := ⟨b, o + k * 3 + 2, none⟩) h2).trans h5⟩

theorem RIn.put3 {lo gm : Nat} {w : World} {A : Option Addr} {n : Nat} {l : List UInt8} (h : RIn (fun k => lo ≤ k) w A n l) (hg : gm < lo) (x y z : Value) : RIn (fun k => lo ≤ k) (((w.setCell ⟨gm, 0, none⟩ x).setCell ⟨gm, 1, none⟩ y).setCell ⟨gm, 2, none⟩ z) A n l :=
  h.kept ((((Kept.refl (fun k => k = gm) w).setCell (fun _ => rfl) _).setCell (fun _ => rfl) _).setCell (fun _ => rfl) _) (fun k h1 h2 => by omega)

theorem readBytes_len (b : List UInt8) (at_ err lim : Nat) : (readBytes b at_ err lim).1.length ≤ b.length := by
  unfold readBytes
  split
  · simp
  · simp only
    unfold stepB
    split
    · simp
    · split
      · simp
      · split
        · simp
        · simp only [List.length_take, List.length_drop]; omega

/-- Both readers stand at the same place with the same error. -/
def RSt (w : World) (lo g d gm : Nat) (A2 : Option Addr) (n2 c2 : Nat) (B : List UInt8) (at_ err : Nat) (wr : World) : Prop :=
  Rdr wr lo g B at_ err ∧ Blk wr gm 51 #[.slice A2 n2 c2, .int .i64 (at_ : Int), .int .i64 (err : Int)] ∧ RIn (fun k => d ≤ k ∧ k < gm) wr A2 n2 B ∧ Below w.heap.size w wr
theorem RSt.below {w wr wy : World} {lo g d gm n2 c2 at_ err : Nat} {A2 : Option Addr} {B : List UInt8} (h : RSt w lo g d gm A2 n2 c2 B at_ err wr) (hb : Below wr.heap.size wr wy) : RSt w lo g d gm A2 n2 c2 B at_ err wy :=
  ⟨h.1.below hb, h.2.1.below hb h.2.1.lt, h.2.2.1.kept (Kept.of_below (S := fun _ => False) hb) (fun _ _ h => h), h.2.2.2.trans (hb.mono h.2.2.2.size)⟩

theorem far3 (w : World) (gm b i : Nat) (x y z : Value) (h : gm ≠ b) : (((w.setCell ⟨gm, 0, none⟩ x).setCell ⟨gm, 1, none⟩ y).setCell ⟨gm, 2, none⟩ z).cell? ⟨b, i, none⟩ = w.cell? ⟨b, i, none⟩ := by
  rw [World.cell?_setCell_far _ _ _ _ h, World.cell?_setCell_far _ _ _ _ h, World.cell?_setCell_far _ _ _ _ h]

/-- The reference's reader is laid anew, behind a read of the other one. -/
theorem RSt.put {w wr w7 : World} {lo g d gm n2 c2 at_ err a' e' : Nat} {A2 : Option Addr} {B : List UInt8} (h : RSt w lo g d gm A2 n2 c2 B at_ err wr) (hg : g < d) (hd : d ≤ gm) (hw : w.heap.size ≤ g)
    (r7 : Rdr w7 lo g B a' e') (k7 : Kept (fun k => k = g) wr w7) :
    RSt w lo g d gm A2 n2 c2 B a' e' (((w7.setCell ⟨gm, 0, none⟩ (.slice A2 n2 c2)).setCell ⟨gm, 1, none⟩ (.int .i64 (a' : Int))).setCell ⟨gm, 2, none⟩ (.int .i64 (e' : Int))) := by
  have kk : Kept (fun k => k = gm) w7 (((w7.setCell ⟨gm, 0, none⟩ (.slice A2 n2 c2)).setCell ⟨gm, 1, none⟩ (.int .i64 (a' : Int))).setCell ⟨gm, 2, none⟩ (.int .i64 (e' : Int))) :=
    (((Kept.refl (fun k => k = gm) w7).setCell (fun _ => rfl) _).setCell (fun _ => rfl) _).setCell (fun _ => rfl) _
  have b7 := h.2.1.kept k7 (by omega)
  refine ⟨r7.kept kk (fun k h1 h2 h3 => by omega), ((b7.set_ 0 _).set_ 1 _).set_ 2 _, (h.2.2.1.kept k7 (fun k h1 h2 => by omega)).kept kk (fun k h1 h2 => by omega), ?_⟩
  have h1 := h.2.2.2
  have h2 := k7.size
  exact (h1.trans (k7.to_below h1.size (fun k h1 h2 => by omega))).trans (kk.to_below (by have := h1.size; omega) (fun k h1 h2 => by omega))

set_option maxHeartbeats 4000000 in
set_option maxRecDepth 100000 in
theorem octetReads_any (A0 A1 : Option Addr) (m0 c0 m1 c1 : Nat) (l0 : List UInt8) (acts : List (Int × Int × Nat)) (w : World)
    (hc0 : m0 ≤ c0) (r0 : RB w A0 m0 l0) (ra : RA w A1 m1 acts) (hna : ∀ a ∈ acts, a.2.1 ≤ 9223372036854775807) :
    Calls Try.prog 10 #[.slice A0 m0 c0, .slice A1 m1 c1] w (Tells w true) := by
  have l1 := Lib.hid ra.1
  have HNA := Lib.hid hna
  clear hna
  go_enter Try.func10, Try.ntmps10
  go_upto_region 1 with fail
  go_cut [0] (fun s0 wx => ∃ A p c B, s0 = .slice A p c ∧ p ≤ 200 ∧ p = B.length ∧ OB wx w.heap.size (.slice A p c) B ∧ Below w.heap.size w wx)
  case first =>
    have hl0 := Lib.hid r0.len
    by_cases h : m0 ≤ 200
    · go_wp2_with (at_builtin; refine wpList_app8 _ rfl (.tmp 19) (.tmp 24) rfl w.heap.size _ [] rfl (OB.made _ _ (Nat.le_refl _)) _ _ _ l0 rfl (r0.alloc _) (by simp <;> omega) (by simp) ?_; intro v1 w1 ho1 hb1)
      go_meet
      obtain ⟨A, p, c, rfl, -, -, r1⟩ := ho1.got
      exact ⟨A, p, c, _, rfl, by have := r1.len; have := hl0.out; simp at *; omega, r1.len, ho1, ((Below.refl _ w).al _).trans hb1⟩
    · go_wp2_with (at_builtin; refine wpList_app8 _ rfl (.tmp 19) (.tmp 24) rfl w.heap.size _ [] rfl (OB.made _ _ (Nat.le_refl _)) _ _ _ (l0.take 200) rfl ((r0.upto (by omega)).alloc _) (by simp <;> omega) (by simp) ?_; intro v1 w1 ho1 hb1)
      go_meet
      obtain ⟨A, p, c, rfl, -, -, r1⟩ := ho1.got
      exact ⟨A, p, c, _, rfl, by have := r1.len; have := hl0.out; simp at *; omega, r1.len, ho1, ((Below.refl _ w).al _).trans hb1⟩
  case rest =>
    obtain ⟨A, p, c, B, rfl, hp, hpB, ob, hbw⟩ := hcut
    rename World => w0
    have HPB := Lib.hid hpB
    clear hpB r0 hc0
    go_wp2_with fail
    refine (newReader_any _ _ _ B _ ob.rb (by omega)).mono ?_
    rintro e w1 ⟨g, rfl, rd, b1⟩
    have hgl := rd.lo_le
    have hgs := rd.lt
    go_wp2_with (at_builtin; refine wpList_app8 _ rfl (.tmp 28) (.tmp 29) rfl w1.heap.size _ [] rfl (OB.made _ _ (Nat.le_refl _)) _ _ _ B rfl ((ob.rb.below b1).alloc _) (by simp <;> omega) (by simp) ?_; intro v2 w2 o2 b2; obtain ⟨A2, n2, c2, rfl, hnc2, -, r2⟩ := o2.got)
    obtain ⟨wS, hS⟩ : ∃ wS, wS = w2.alloc (.cells #[.slice A2 n2 c2, .int .i64 0, .int .i64 0] 51) := ⟨_, rfl⟩
    have q12 : Below w1.heap.size w1 w2 := ((Below.refl _ w1).al _).trans b2
    have q1S : Below w1.heap.size w1 wS := by rw [hS]; exact q12.al _
    have rdS := rd.below q1S
    have blkS : Blk wS w2.heap.size 51 #[.slice A2 n2 c2, .int .i64 ((0 : Nat) : Int), .int .i64 ((0 : Nat) : Int)] := by rw [hS]; exact Blk.new _ _ _
    have rinS : RIn (fun k => w1.heap.size ≤ k ∧ k < w2.heap.size) wS A2 n2 B := by
      rw [hS]
      exact (o2.rin.mono (fun k h1 h2 => (⟨h2, h1⟩ : w1.heap.size ≤ k ∧ k < w2.heap.size))).kept ((Kept.refl (fun _ => False) w2).alloc _) (fun _ _ h => h)
    have obS : OB wS w.heap.size (.slice A p c) B := ob.below (b1.then_ q1S) (Nat.le_refl _)
    have hbS : Below w.heap.size w wS := (hbw.then_ b1).then_ q1S
    have hrow := ob.block
    have s1 := hbw.size
    have s2 := q12.size
    rw [← hS]
    have hS2 : w2.heap.size < wS.heap.size := blkS.lt
    clear hS q12 q1S rd ob o2 b1 b2 r2 hbw
    go_loopw [7] (fun i wr => ∃ (k : Nat) (ys : List UInt8), k ≤ p ∧ i = .int .i64 k ∧ OB wr w.heap.size (.slice A p c) ys ∧ Kept (fun x => w.heap.size ≤ x ∧ x < w0.heap.size) wS wr) (fun i _ => p - (intOf i).toNat)
    case atStart => exact ⟨0, _, Nat.zero_le _, rfl, obS, Kept.refl _ _⟩
    case round =>
      obtain ⟨k, ys, hk, rfl, oy, kz⟩ := hrel
      by_cases hlt : k < p
      · have hky : k < ys.length := by have := oy.rb.len; omega
        obtain ⟨ga, rfl, hga, -, -⟩ := oy.addr (by omega)
        have hga2 := (hrow ga rfl).2
        obtain ⟨hc1, hc2⟩ := oy.cell hky
        have os := oy.store k (x := 7) (u := 7) rfl
        have kz' := kz.setCell (p := ⟨ga, k, none⟩) (fun _ => ⟨hga, hga2⟩) (.int .u8 7)
        clear kz
        go_wp2_with fail
        go_roundw
        case rel => exact ⟨k + 1, _, by omega, by go_num, os.1, kz'⟩
        case measure => simp [intOf]; omega
      · obtain ⟨wT, rfl⟩ : ∃ wT : World, wT = wr := ⟨_, rfl⟩
        have rdT := rdS.kept kz (fun k h1 h2 h3 => by omega)
        have blkT := blkS.kept kz (by omega)
        have rinT := rinS.kept kz (fun k h1 h2 => by omega)
        have hbT : Below w.heap.size w wT := hbS.trans (kz.to_below hbS.size (fun k h1 h2 => by omega))
        clear rdS blkS rinS hbS obS oy kz hrow
        have st0 : RSt w w0.heap.size g w1.heap.size w2.heap.size A2 n2 c2 B 0 0 wT := ⟨rdT, blkT, rinT, hbT⟩
        clear rdT blkT rinT hbT
        go_wp2_with fail
        go_loopw [8] (fun i wr => ∃ (j at_ err : Nat), j ≤ m1 ∧ j ≤ 30 ∧ i = .int .i64 j ∧ RSt w w0.heap.size g w1.heap.size w2.heap.size A2 n2 c2 B at_ err wr) (fun i _ => 30 - (intOf i).toNat)
        case atStart => exact ⟨0, 0, 0, Nat.zero_le _, by omega, rfl, st0⟩
        case round =>
          clear st0
          obtain ⟨j, at_, err, hj1, hj30, rfl, st⟩ := hrel
          by_cases hjm : j < m1
          · by_cases hj : j < 30
            · have hja : j < acts.length := by have := l1.out; omega
              have raR := ra.below st.2.2.2
              obtain ⟨b, o, rfl, hbl, hk0, hk1, hk2⟩ := raR.2 j hja
              have hq1 : (0 : Int) ≤ (j : Int) := by omega
              have hnaj := HNA.out acts[j] (List.getElem_mem _)
              generalize hact : acts[j] = act at hk0 hk1 hk2 hnaj
              obtain ⟨kd, na, ms⟩ := act
              simp only at hnaj
              clear raR
              simp only at hk0 hk1 hk2
              go_upto_block 4 with fail
              have bA : Below wr.heap.size wr (wr.alloc (.cells #[.int .i64 kd, .int .i64 na, .int .u64 (ms : Int)] 53)) := (Below.refl _ _).al _
              have stA := st.below bA
              have actA : Blk (wr.alloc (.cells #[.int .i64 kd, .int .i64 na, .int .u64 (ms : Int)] 53)) wr.heap.size 53 #[.int .i64 kd, .int .i64 na, .int .u64 (ms : Int)] := Blk.new _ _ _
              have hgw : w2.heap.size < wr.heap.size := st.2.1.lt
              generalize wr.alloc (.cells #[.int .i64 kd, .int .i64 na, .int .u64 (ms : Int)] 53) = wA at bA stA actA ⊢
              clear st bA hk0 hk1 hk2 hact
              go_cut [10] (fun s10 wx => s10 = .bool true ∧ ∃ a' e', RSt w w0.heap.size g w1.heap.size w2.heap.size A2 n2 c2 B a' e' wx)
              case first =>
                have hat : at_ ≤ B.length := by obtain ⟨_, _, _, _, _, h, _⟩ := stA.1; exact h
                have hn2 := Lib.hid stA.2.2.1.1
                have hB200 : B.length ≤ 200 := by have := HPB.out; omega
                have hn200 : n2 ≤ 200 := by have := hn2.out; omega
                have hatn : at_ ≤ n2 := by have := hn2.out; omega
                have c0 : wA.cell? ⟨w2.heap.size, 0, none⟩ = some (.slice A2 n2 c2) := stA.2.1.cell 0
                have c1' : wA.cell? ⟨w2.heap.size, 1, none⟩ = some (.int .i64 at_) := stA.2.1.cell 1
                have c2' : wA.cell? ⟨w2.heap.size, 2, none⟩ = some (.int .i64 err) := stA.2.1.cell 2
                have a0 : wA.cell? ⟨wr.heap.size, 0, none⟩ = some (.int .i64 kd) := actA.cell 0
                have a1 : wA.cell? ⟨wr.heap.size, 1, none⟩ = some (.int .i64 na) := actA.cell 1
                have a2 : wA.cell? ⟨wr.heap.size, 2, none⟩ = some (.int .u64 (ms : Int)) := actA.cell 2
                by_cases k0 : kd = 0
                · subst k0
                  go_wp2_with fail
                  refine (refRead_any A2 n2 c2 at_ err ms _ rfl B _ stA.2.2.1.rb hnc2 (by omega) hatn).mono ?_
                  rintro e w5 ⟨rfl, b5⟩
                  have st5 := stA.below b5
                  have HCN := Lib.hid (fun W (h : Rdr W w0.heap.size g B at_ err) => num_any w0.heap.size g at_ err ms B W h)
                  generalize readNum B at_ err ms = rn at HCN ⊢
                  obtain ⟨v, a', e'⟩ := rn
                  unfold rV
                  have act5 := actA.below b5 actA.lt
                  go_wp2_with fail
                  have b6 : Below w5.heap.size w5 (w5.alloc (.cells #[.slice A2 n2 c2, .int .i64 (a' : Int), .int .i64 (e' : Int)] 51)) := (Below.refl _ _).al _
                  have st6 := st5.below b6
                  have act6 := act5.below b6 act5.lt
                  have nx6 : Blk (w5.alloc (.cells #[.slice A2 n2 c2, .int .i64 (a' : Int), .int .i64 (e' : Int)] 51)) w5.heap.size 51 #[.slice A2 n2 c2, .int .i64 (a' : Int), .int .i64 (e' : Int)] := Blk.new _ _ _
                  have sA5 := act5.lt
                  have s05 := actA.lt
                  generalize w5.alloc (.cells #[.slice A2 n2 c2, .int .i64 (a' : Int), .int .i64 (e' : Int)] 51) = w6 at b6 st6 act6 nx6 ⊢
                  clear st5 act5 stA b5 c0 c1' c2' a0 a1 a2
                  have st6d := st6.below (below_drewN (Below.refl _ w6) 1)
                  have q6 : w6.drew.cell? ⟨w5.heap.size, 0, none⟩ = some (.slice A2 n2 c2) ∧ w6.drew.cell? ⟨w5.heap.size, 1, none⟩ = some (.int .i64 (a' : Int)) ∧ w6.drew.cell? ⟨w5.heap.size, 2, none⟩ = some (.int .i64 (e' : Int)) ∧ w6.drew.cell? ⟨wr.heap.size, 2, none⟩ = some (.int .u64 (ms : Int)) := ⟨nx6.cell 0, nx6.cell 1, nx6.cell 2, act6.cell 2⟩
                  go_region_held3 (fun w' => w'.cell? ⟨w5.heap.size, 0, none⟩ = some (.slice A2 n2 c2) ∧ w'.cell? ⟨w5.heap.size, 1, none⟩ = some (.int .i64 (a' : Int)) ∧ w'.cell? ⟨w5.heap.size, 2, none⟩ = some (.int .i64 (e' : Int)) ∧ w'.cell? ⟨wr.heap.size, 2, none⟩ = some (.int .u64 (ms : Int)))
                    (first | exact q6 | exact q7 | (refine ⟨?_, ?_, ?_, ?_⟩ <;> (rw [far3 _ _ _ _ _ _ _ (by omega)]; first | exact q7.1 | exact q7.2.1 | exact q7.2.2.1 | exact q7.2.2.2)))
                    (first | (go_at_call 23; refine (HCN.out _ st6d.1).mono ?_; rintro e w7 ⟨rfl, rd7, k7⟩; have q7 : w7.cell? ⟨w5.heap.size, 0, none⟩ = some (.slice A2 n2 c2) ∧ w7.cell? ⟨w5.heap.size, 1, none⟩ = some (.int .i64 (a' : Int)) ∧ w7.cell? ⟨w5.heap.size, 2, none⟩ = some (.int .i64 (e' : Int)) ∧ w7.cell? ⟨wr.heap.size, 2, none⟩ = some (.int .u64 (ms : Int)) := (⟨(nx6.drew.kept k7 (by omega)).cell 0, (nx6.drew.kept k7 (by omega)).cell 1, (nx6.drew.kept k7 (by omega)).cell 2, (act6.drew.kept k7 (by omega)).cell 2⟩); have b7 := st6d.2.1.kept k7 (by omega); have d0 : w7.cell? ⟨w2.heap.size, 0, none⟩ = some (.slice A2 n2 c2) := b7.cell 0; have d1 : w7.cell? ⟨w2.heap.size, 1, none⟩ = some (.int .i64 at_) := b7.cell 1; have d2 : w7.cell? ⟨w2.heap.size, 2, none⟩ = some (.int .i64 err) := b7.cell 2; have f0 := b7.frozen 0; have f1 := b7.frozen 1; have f2 := b7.frozen 2))
                  go_wp2_with fail
                  go_meet
                  exact ⟨rfl, a', e', st6d.put (by omega) (by omega) (by omega) rd7 k7⟩
                · by_cases k1 : kd = 1
                  · subst k1
                    go_wp2_with fail
                    refine (refRead_any A2 n2 c2 at_ err maxU 18446744073709551615 rfl B _ stA.2.2.1.rb hnc2 (by omega) hatn).mono ?_
                    rintro e w5 ⟨rfl, b5⟩
                    have st5 := stA.below b5
                    have act5 := actA.below b5 actA.lt
                    have HCN := Lib.hid (fun W (h : Rdr W w0.heap.size g B at_ err) => int_any w0.heap.size g at_ err B W h)
                    have hvU : U64 (readNum B at_ err maxU).1 := readNum_lt B at_ err maxU
                    generalize readNum B at_ err maxU = rn at HCN hvU ⊢
                    obtain ⟨v, a', e'⟩ := rn
                    have hvU : U64 v := hvU
                    unfold rV
                    go_wp2_with fail
                    have b6 : Below w5.heap.size w5 (w5.alloc (.cells #[.slice A2 n2 c2, .int .i64 (a' : Int), .int .i64 (e' : Int)] 51)) := (Below.refl _ _).al _
                    have st6 := st5.below b6
                    have act6 := act5.below b6 act5.lt
                    have nx6 : Blk (w5.alloc (.cells #[.slice A2 n2 c2, .int .i64 (a' : Int), .int .i64 (e' : Int)] 51)) w5.heap.size 51 #[.slice A2 n2 c2, .int .i64 (a' : Int), .int .i64 (e' : Int)] := Blk.new _ _ _
                    have sA5 := act5.lt
                    have s05 := actA.lt
                    generalize w5.alloc (.cells #[.slice A2 n2 c2, .int .i64 (a' : Int), .int .i64 (e' : Int)] 51) = w6 at b6 st6 act6 nx6 ⊢
                    clear st5 act5 stA b5 c0 c1' c2' a0 a1 a2
                    have st6d := st6.below (below_drewN (Below.refl _ w6) 1)
                    have q6 : w6.drew.cell? ⟨w5.heap.size, 0, none⟩ = some (.slice A2 n2 c2) ∧ w6.drew.cell? ⟨w5.heap.size, 1, none⟩ = some (.int .i64 (a' : Int)) ∧ w6.drew.cell? ⟨w5.heap.size, 2, none⟩ = some (.int .i64 (e' : Int)) := ⟨nx6.cell 0, nx6.cell 1, nx6.cell 2⟩
                    go_region_held3 (fun w' => w'.cell? ⟨w5.heap.size, 0, none⟩ = some (.slice A2 n2 c2) ∧ w'.cell? ⟨w5.heap.size, 1, none⟩ = some (.int .i64 (a' : Int)) ∧ w'.cell? ⟨w5.heap.size, 2, none⟩ = some (.int .i64 (e' : Int)))
                      (first | exact q6 | exact q7 | (refine ⟨?_, ?_, ?_⟩ <;> (rw [far3 _ _ _ _ _ _ _ (by omega)]; first | exact q7.1 | exact q7.2.1 | exact q7.2.2)))
                      (first
                        | (go_at_call 22; refine (HCN.out _ st6d.1).mono ?_; rintro e w7 ⟨rfl, rd7, k7⟩; have q7 : w7.cell? ⟨w5.heap.size, 0, none⟩ = some (.slice A2 n2 c2) ∧ w7.cell? ⟨w5.heap.size, 1, none⟩ = some (.int .i64 (a' : Int)) ∧ w7.cell? ⟨w5.heap.size, 2, none⟩ = some (.int .i64 (e' : Int)) := (⟨(nx6.drew.kept k7 (by omega)).cell 0, (nx6.drew.kept k7 (by omega)).cell 1, (nx6.drew.kept k7 (by omega)).cell 2⟩); have b7 := st6d.2.1.kept k7 (by omega); have d0 : w7.cell? ⟨w2.heap.size, 0, none⟩ = some (.slice A2 n2 c2) := b7.cell 0; have d1 : w7.cell? ⟨w2.heap.size, 1, none⟩ = some (.int .i64 at_) := b7.cell 1; have d2 : w7.cell? ⟨w2.heap.size, 2, none⟩ = some (.int .i64 err) := b7.cell 2; have f0 := b7.frozen 0; have f1 := b7.frozen 1; have f2 := b7.frozen 2)
                        | (go_at_call 30; refine (refUnfold_any v _ hvU).mono ?_; rintro e w8 ⟨rfl, rfl⟩))
                    all_goals
                      go_wp2_with fail
                      go_meet
                      exact ⟨rfl, a', e', st6d.put (by omega) (by omega) (by omega) rd7 k7⟩
                  · by_cases k2 : kd = 2
                    · subst k2
                      go_wp2_with fail
                      refine (refSome_any A2 n2 c2 at_ err na.toNat na rfl hnaj B _ stA.2.2.1.rb hnc2 (by omega) hatn).mono ?_
                      rintro e w5 ⟨A5, m5, c5, rfl, x5, b5⟩
                      have st5 := stA.below b5
                      have act5 := actA.below b5 actA.lt
                      have hlen := readBytes_len B at_ err na.toNat
                      have HCN := Lib.hid (fun W (h : Rdr W w0.heap.size g B at_ err) => bytes_any w0.heap.size g at_ err na.toNat na B W h rfl hnaj)
                      generalize readBytes B at_ err na.toNat = rn at HCN hlen x5 ⊢
                      obtain ⟨out, a', e'⟩ := rn
                      have hlen : out.length ≤ B.length := hlen
                      have x5 : RIn (fun k => wA.heap.size ≤ k) w5 A5 m5 out := x5
                      unfold rV
                      go_wp2_with fail
                      have b6 : Below w5.heap.size w5 (w5.alloc (.cells #[.slice A2 n2 c2, .int .i64 (a' : Int), .int .i64 (e' : Int)] 51)) := (Below.refl _ _).al _
                      have st6 := st5.below b6
                      have act6 := act5.below b6 act5.lt
                      have nx6 : Blk (w5.alloc (.cells #[.slice A2 n2 c2, .int .i64 (a' : Int), .int .i64 (e' : Int)] 51)) w5.heap.size 51 #[.slice A2 n2 c2, .int .i64 (a' : Int), .int .i64 (e' : Int)] := Blk.new _ _ _
                      have x6 := x5.kept (Kept.of_below (S := fun _ => False) b6) (fun _ _ h => h)
                      have sA5 := act5.lt
                      have s05 := actA.lt
                      generalize w5.alloc (.cells #[.slice A2 n2 c2, .int .i64 (a' : Int), .int .i64 (e' : Int)] 51) = w6 at b6 st6 act6 nx6 x6 ⊢
                      clear st5 act5 stA b5 c0 c1' c2' a0 a1 a2 x5
                      have st6d := st6.below (below_drewN (Below.refl _ w6) 1)
                      have x6d : RIn (fun k => wA.heap.size ≤ k) w6.drew A5 m5 out := x6
                      have hm5 := Lib.hid x6.1
                      have q6 : w6.drew.cell? ⟨w5.heap.size, 0, none⟩ = some (.slice A2 n2 c2) ∧ w6.drew.cell? ⟨w5.heap.size, 1, none⟩ = some (.int .i64 (a' : Int)) ∧ w6.drew.cell? ⟨w5.heap.size, 2, none⟩ = some (.int .i64 (e' : Int)) ∧ w6.drew.cell? ⟨wr.heap.size, 1, none⟩ = some (.int .i64 na) := ⟨nx6.cell 0, nx6.cell 1, nx6.cell 2, act6.cell 1⟩
                      go_region_held3 (fun w' => w'.cell? ⟨w5.heap.size, 0, none⟩ = some (.slice A2 n2 c2) ∧ w'.cell? ⟨w5.heap.size, 1, none⟩ = some (.int .i64 (a' : Int)) ∧ w'.cell? ⟨w5.heap.size, 2, none⟩ = some (.int .i64 (e' : Int)) ∧ w'.cell? ⟨wr.heap.size, 1, none⟩ = some (.int .i64 na))
                        (first | exact q6 | exact q7 | exact q8 | (refine ⟨?_, ?_, ?_, ?_⟩ <;> (rw [far3 _ _ _ _ _ _ _ (by omega)]; first | exact q8.1 | exact q8.2.1 | exact q8.2.2.1 | exact q8.2.2.2)))
                        (first
                          | (go_at_call 26; refine (HCN.out _ st6d.1).mono ?_; rintro e w7 ⟨v7, rfl, o7, rd7, k7⟩; obtain ⟨A7, m7, c7, rfl, -, -, r7⟩ := o7.got; have hm7 := Lib.hid r7.len; have nx7 := nx6.drew.kept k7 (by omega); have ac7 := act6.drew.kept k7 (by omega); have b7 := st6d.2.1.kept k7 (by omega); have q7 : w7.cell? ⟨w5.heap.size, 0, none⟩ = some (.slice A2 n2 c2) ∧ w7.cell? ⟨w5.heap.size, 1, none⟩ = some (.int .i64 (a' : Int)) ∧ w7.cell? ⟨w5.heap.size, 2, none⟩ = some (.int .i64 (e' : Int)) ∧ w7.cell? ⟨wr.heap.size, 1, none⟩ = some (.int .i64 na) := (⟨nx7.cell 0, nx7.cell 1, nx7.cell 2, ac7.cell 1⟩); have d70 : w7.cell? ⟨w2.heap.size, 0, none⟩ = some (.slice A2 n2 c2) := b7.cell 0; have d71 : w7.cell? ⟨w2.heap.size, 1, none⟩ = some (.int .i64 at_) := b7.cell 1; have d72 : w7.cell? ⟨w2.heap.size, 2, none⟩ = some (.int .i64 err) := b7.cell 2; have f70 := b7.frozen 0; have f71 := b7.frozen 1; have f72 := b7.frozen 2; have x7 := x6d.kept k7 (fun k h1 h2 => (by omega)))
                          | (go_at_call 17; refine (same_true _ _ _ _ _ _ out out _ r7 x7.rb (by have := hm7.out; omega) rfl).mono ?_; rintro e w8 ⟨rfl, b8⟩; have nx8 := nx7.below b8 nx7.lt; have ac8 := ac7.below b8 ac7.lt; have bb8 := b7.below b8 b7.lt; clear q7 d70 d71 d72 f70 f71 f72; have q8 : w8.cell? ⟨w5.heap.size, 0, none⟩ = some (.slice A2 n2 c2) ∧ w8.cell? ⟨w5.heap.size, 1, none⟩ = some (.int .i64 (a' : Int)) ∧ w8.cell? ⟨w5.heap.size, 2, none⟩ = some (.int .i64 (e' : Int)) ∧ w8.cell? ⟨wr.heap.size, 1, none⟩ = some (.int .i64 na) := (⟨nx8.cell 0, nx8.cell 1, nx8.cell 2, ac8.cell 1⟩); have d80 : w8.cell? ⟨w2.heap.size, 0, none⟩ = some (.slice A2 n2 c2) := bb8.cell 0; have d81 : w8.cell? ⟨w2.heap.size, 1, none⟩ = some (.int .i64 at_) := bb8.cell 1; have d82 : w8.cell? ⟨w2.heap.size, 2, none⟩ = some (.int .i64 err) := bb8.cell 2; have f80 := bb8.frozen 0; have f81 := bb8.frozen 1; have f82 := bb8.frozen 2))
                      all_goals
                        go_wp2_with fail
                        go_meet
                        exact ⟨rfl, a', e', st6d.put (by omega) (by omega) (by omega) (rd7.below b8) (k7.below_ b8)⟩
                    · by_cases k3 : kd = 3
                      · subst k3
                        go_wp2_with fail
                        refine (refSome_any A2 n2 c2 at_ err na.toNat na rfl hnaj B _ stA.2.2.1.rb hnc2 (by omega) hatn).mono ?_
                        rintro e w5 ⟨A5, m5, c5, rfl, x5, b5⟩
                        have st5 := stA.below b5
                        have act5 := actA.below b5 actA.lt
                        have hlen := readBytes_len B at_ err na.toNat
                        have HCN := Lib.hid (fun W (h : Rdr W w0.heap.size g B at_ err) => text_any w0.heap.size g at_ err na.toNat na B W h rfl hnaj)
                        generalize readBytes B at_ err na.toNat = rn at HCN hlen x5 ⊢
                        obtain ⟨out, a', e'⟩ := rn
                        have hlen : out.length ≤ B.length := hlen
                        have x5 : RIn (fun k => wA.heap.size ≤ k) w5 A5 m5 out := x5
                        unfold rV
                        go_wp2_with fail
                        have b6 : Below w5.heap.size w5 (w5.alloc (.cells #[.slice A2 n2 c2, .int .i64 (a' : Int), .int .i64 (e' : Int)] 51)) := (Below.refl _ _).al _
                        have st6 := st5.below b6
                        have act6 := act5.below b6 act5.lt
                        have nx6 : Blk (w5.alloc (.cells #[.slice A2 n2 c2, .int .i64 (a' : Int), .int .i64 (e' : Int)] 51)) w5.heap.size 51 #[.slice A2 n2 c2, .int .i64 (a' : Int), .int .i64 (e' : Int)] := Blk.new _ _ _
                        have x6 := x5.kept (Kept.of_below (S := fun _ => False) b6) (fun _ _ h => h)
                        have sA5 := act5.lt
                        have s05 := actA.lt
                        generalize w5.alloc (.cells #[.slice A2 n2 c2, .int .i64 (a' : Int), .int .i64 (e' : Int)] 51) = w6 at b6 st6 act6 nx6 x6 ⊢
                        clear st5 act5 stA b5 c0 c1' c2' a0 a1 a2 x5
                        have st6d := st6.below (below_drewN (Below.refl _ w6) 1)
                        have x6d : RIn (fun k => wA.heap.size ≤ k) w6.drew A5 m5 out := x6
                        have hm5 := Lib.hid x6.1
                        have q6 : w6.drew.cell? ⟨w5.heap.size, 0, none⟩ = some (.slice A2 n2 c2) ∧ w6.drew.cell? ⟨w5.heap.size, 1, none⟩ = some (.int .i64 (a' : Int)) ∧ w6.drew.cell? ⟨w5.heap.size, 2, none⟩ = some (.int .i64 (e' : Int)) ∧ w6.drew.cell? ⟨wr.heap.size, 1, none⟩ = some (.int .i64 na) ∧ (convert 23 9 (.slice A5 m5 c5)).run Try.prog w6.drew = .ok (.string ⟨out.toArray⟩) w6.drew := ⟨nx6.cell 0, nx6.cell 1, nx6.cell 2, act6.cell 1, run_text c5 x6d.rb⟩
                        go_region_held3 (fun w' => w'.cell? ⟨w5.heap.size, 0, none⟩ = some (.slice A2 n2 c2) ∧ w'.cell? ⟨w5.heap.size, 1, none⟩ = some (.int .i64 (a' : Int)) ∧ w'.cell? ⟨w5.heap.size, 2, none⟩ = some (.int .i64 (e' : Int)) ∧ w'.cell? ⟨wr.heap.size, 1, none⟩ = some (.int .i64 na) ∧ (convert 23 9 (.slice A5 m5 c5)).run Try.prog w' = .ok (.string ⟨out.toArray⟩) w')
                          (first | exact q6 | exact q7 | (refine ⟨?_, ?_, ?_, ?_, ?_⟩ <;> first | exact run_text c5 (x7.put3 (by omega) _ _ _).rb | (rw [far3 _ _ _ _ _ _ _ (by omega)]; first | exact q7.1 | exact q7.2.1 | exact q7.2.2.1 | exact q7.2.2.2.1)))
                          (first
                            | (go_at_call 28; refine (HCN.out _ st6d.1).mono ?_; rintro e w7 ⟨rfl, rd7, k7⟩; have nx7 := nx6.drew.kept k7 (by omega); have ac7 := act6.drew.kept k7 (by omega); have b7 := st6d.2.1.kept k7 (by omega); have x7 := x6d.kept k7 (fun k h1 h2 => (by omega)); have q7 : w7.cell? ⟨w5.heap.size, 0, none⟩ = some (.slice A2 n2 c2) ∧ w7.cell? ⟨w5.heap.size, 1, none⟩ = some (.int .i64 (a' : Int)) ∧ w7.cell? ⟨w5.heap.size, 2, none⟩ = some (.int .i64 (e' : Int)) ∧ w7.cell? ⟨wr.heap.size, 1, none⟩ = some (.int .i64 na) ∧ (convert 23 9 (.slice A5 m5 c5)).run Try.prog w7 = .ok (.string ⟨out.toArray⟩) w7 := (⟨nx7.cell 0, nx7.cell 1, nx7.cell 2, ac7.cell 1, run_text c5 x7.rb⟩); have d70 : w7.cell? ⟨w2.heap.size, 0, none⟩ = some (.slice A2 n2 c2) := b7.cell 0; have d71 : w7.cell? ⟨w2.heap.size, 1, none⟩ = some (.int .i64 at_) := b7.cell 1; have d72 : w7.cell? ⟨w2.heap.size, 2, none⟩ = some (.int .i64 err) := b7.cell 2; have f70 := b7.frozen 0; have f71 := b7.frozen 1; have f72 := b7.frozen 2))
                        all_goals
                          go_wp2_with fail
                          go_meet
                          exact ⟨by first | rfl | simp, a', e', st6d.put (by omega) (by omega) (by omega) rd7 k7⟩
                      · have t0 : (kd == 0) = false := by simpa using k0
                        have t1 : (kd == 1) = false := by simpa using k1
                        have t2 : (kd == 2) = false := by simpa using k2
                        have t3 : (kd == 3) = false := by simpa using k3
                        go_wp2_with fail
                        go_meet
                        exact ⟨rfl, at_, err, stA⟩
              case rest =>
                obtain ⟨rfl, a', e', st⟩ := hcut
                rename World => wB
                have hat : a' ≤ B.length := by obtain ⟨_, _, _, _, _, h, _⟩ := st.1; exact h
                have hn2 := Lib.hid st.2.2.1.1
                have hB200 : B.length ≤ 200 := by have := HPB.out; omega
                have hn200 : n2 ≤ 200 := by have := hn2.out; omega
                have hsub : IntKind.i64.wrap ((n2 : Int) - (a' : Int)) = ((B.length - a' : Nat) : Int) := by rw [wrap_i64_in _ (by omega) (by omega)]; have := hn2.out; omega
                have std := st.below (below_drewN (Below.refl _ wB) 1)
                clear st
                have q0 : wB.drew.cell? ⟨w2.heap.size, 0, none⟩ = some (.slice A2 n2 c2) ∧ wB.drew.cell? ⟨w2.heap.size, 1, none⟩ = some (.int .i64 (a' : Int)) ∧ wB.drew.cell? ⟨w2.heap.size, 2, none⟩ = some (.int .i64 (e' : Int)) := ⟨std.2.1.cell 0, std.2.1.cell 1, std.2.1.cell 2⟩
                go_wp2_with fail
                go_region_held3 (fun w' => w'.cell? ⟨w2.heap.size, 0, none⟩ = some (.slice A2 n2 c2) ∧ w'.cell? ⟨w2.heap.size, 1, none⟩ = some (.int .i64 (a' : Int)) ∧ w'.cell? ⟨w2.heap.size, 2, none⟩ = some (.int .i64 (e' : Int)))
                  (first | exact q0 | exact q3 | exact q4 | exact q5)
                  (first
                    | (go_at_call 24; refine (err_any _ g a' e' B _ std.1).mono ?_; rintro e wE ⟨rfl, rfl⟩)
                    | (go_at_call 25; refine (left_tells _ g a' e' B _ std.1).mono ?_; rintro e w3 ⟨rfl, b3⟩; have st3 := std.below b3; have q3 : w3.cell? ⟨w2.heap.size, 0, none⟩ = some (.slice A2 n2 c2) ∧ w3.cell? ⟨w2.heap.size, 1, none⟩ = some (.int .i64 (a' : Int)) ∧ w3.cell? ⟨w2.heap.size, 2, none⟩ = some (.int .i64 (e' : Int)) := (⟨st3.2.1.cell 0, st3.2.1.cell 1, st3.2.1.cell 2⟩))
                    | (go_at_call 27; refine (end_any _ g a' e' B _ st3.1).mono ?_; rintro e w4 ⟨rfl, b4⟩; have st4 := st3.below b4; have q4 : w4.cell? ⟨w2.heap.size, 0, none⟩ = some (.slice A2 n2 c2) ∧ w4.cell? ⟨w2.heap.size, 1, none⟩ = some (.int .i64 (a' : Int)) ∧ w4.cell? ⟨w2.heap.size, 2, none⟩ = some (.int .i64 (e' : Int)) := (⟨st4.2.1.cell 0, st4.2.1.cell 1, st4.2.1.cell 2⟩))
                    | (go_at_call 32; refine (refEnd_any A2 n2 c2 a' e' B _ hn2.out).mono ?_; rintro e w5 ⟨rfl, b5⟩; have st5 := st4.below b5; have q5 : w5.cell? ⟨w2.heap.size, 0, none⟩ = some (.slice A2 n2 c2) ∧ w5.cell? ⟨w2.heap.size, 1, none⟩ = some (.int .i64 (a' : Int)) ∧ w5.cell? ⟨w2.heap.size, 2, none⟩ = some (.int .i64 (e' : Int)) := (⟨st5.2.1.cell 0, st5.2.1.cell 1, st5.2.1.cell 2⟩)))
                go_wp2_with fail
                go_roundw
                case rel => exact ⟨j + 1, a', e', by omega, by omega, by go_num, st5⟩
                case measure => simp [intOf]; omega
            · go_wp2_with fail
              refine (known_any _).mono ?_
              rintro e w3 ⟨rfl, b3⟩
              go_wp2_with fail
              go_ret
              exact ⟨rfl, st.2.2.2.then_ b3⟩
          · go_wp2_with fail
            refine (known_any _).mono ?_
            rintro e w3 ⟨rfl, b3⟩
            go_wp2_with fail
            go_ret
            exact ⟨rfl, st.2.2.2.then_ b3⟩
end Go.Proofs.Ytcjgpfocngipmaa
