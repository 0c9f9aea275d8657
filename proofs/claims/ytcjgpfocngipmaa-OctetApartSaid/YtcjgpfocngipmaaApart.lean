/-
  OctetApart: the walk.
-/
import Derived.Test.YtcjgpfocngipmaaKnown
import Derived.Deep.RegionLaw
import Derived.Deep.DeepCutAuto
import Derived.WalkSpells
namespace Go.Proofs.Ytcjgpfocngipmaa
open Go.RowKit

theorem u8_plus (c : UInt8) : ∃ u : UInt8, ((c.toNat : Int) + 1) % 256 = (u.toNat : Int) := by
  refine ⟨UInt8.ofNat (c.toNat + 1), ?_⟩
  rw [UInt8.toNat_ofNat']
  omega

set_option maxHeartbeats 2000000 in
set_option maxRecDepth 100000 in
theorem octetApart_any (A0 A3 : Option Addr) (m0 c0 m3 c3 n m : Nat) (l0 l3 : List UInt8) (w : World)
    (hc0 : m0 ≤ c0) (r0 : RB w A0 m0 l0) (hn : U64 n) (hm : U64 m) (hc3 : m3 ≤ c3) (r3 : RB w A3 m3 l3) :
    Calls Try.prog 5 #[.slice A0 m0 c0, .int .u64 n, .int .u64 m, .slice A3 m3 c3] w (Tells w true) := by
  obtain ⟨C, hC, hmk0⟩ := make_known 400 (by omega)
  have hmk : ∀ W : World, (Instr.makeSlice 23 (.int .i64 0) (.int .i64 400)).run Try.prog W = .ok (.slice (some ⟨W.heap.size, 0, none⟩) 0 400) (W.alloc (.cells C 5)) := hmk0
  clear hmk0
  have HC := Lib.hid hC
  clear hC
  go_enter Try.func5, Try.ntmps5
  go_upto_region 1 with fail
  go_cut [3] (fun s3 wx => ∃ A p c x, s3 = .slice A p c ∧ p ≤ 100 ∧ OB wx w.heap.size (.slice A p c) x ∧ Below w.heap.size w wx)
  case first =>
    have hl3 := Lib.hid r3.len
    by_cases h : m3 ≤ 100
    · go_wp2_with (at_builtin; refine wpList_app8 _ rfl (.tmp 16) (.tmp 21) rfl w.heap.size _ [] rfl (OB.made _ _ (Nat.le_refl _)) _ _ _ l3 rfl (r3.alloc _) (by simp <;> omega) (by simp) ?_; intro v1 w1 ho1 hb1)
      go_meet
      obtain ⟨A, p, c, rfl, -, -, r1⟩ := ho1.got
      exact ⟨A, p, c, _, rfl, by have := r1.len; have := hl3.out; simp at *; omega, ho1, ((Below.refl _ w).al _).trans hb1⟩
    · go_wp2_with (at_builtin; refine wpList_app8 _ rfl (.tmp 16) (.tmp 21) rfl w.heap.size _ [] rfl (OB.made _ _ (Nat.le_refl _)) _ _ _ (l3.take 100) rfl ((r3.upto (by omega)).alloc _) (by simp <;> omega) (by simp) ?_; intro v1 w1 ho1 hb1)
      go_meet
      obtain ⟨A, p, c, rfl, -, -, r1⟩ := ho1.got
      exact ⟨A, p, c, _, rfl, by have := r1.len; have := hl3.out; simp at *; omega, ho1, ((Below.refl _ w).al _).trans hb1⟩
  case rest =>
    obtain ⟨A, p, c, x, rfl, hp, ox, hbw⟩ := hcut
    rename World => w0
    clear r3 hc3
    replace r0 := r0.below hbw
    go_upto_region 2 with fail
    go_cut [9] (fun s9 wy => ∃ A' p' c' b, s9 = .slice A' p' c' ∧ p' ≤ 100 ∧ OB wy w0.heap.size (.slice A' p' c') b ∧ Below w0.heap.size w0 wy)
    case first =>
      have hl0 := Lib.hid r0.len
      by_cases h : m0 ≤ 100
      · have g1 : ¬ ((100 : Int) < (m0 : Int)) := by omega
        have g2 : (m0 : Int) ≤ (c0 : Int) := by omega
        go_region_law (first | (refine step_app8 _ rfl (.tmp 23) (.tmp 28) rfl w0.heap.size _ [] rfl (OB.made_room w0 _ 400 C HC.out (by decide) (Nat.le_refl _)).drew _ _ _ l0 rfl (r0.alloc _).drew (by simp <;> omega) (by simp) ?_; intro v1 w1 ho1 hb1))
        all_goals
          go_wp2_with fail
          go_meet
          obtain ⟨A', p', c', rfl, -, -, r1⟩ := ho1.got
          exact ⟨A', p', c', _, rfl, by have := r1.len; have := hl0.out; simp at *; omega, ho1, (below_drewN ((Below.refl _ w0).al _) 1).trans hb1⟩
      · have g1 : (100 : Int) < (m0 : Int) := by omega
        have g2 : (100 : Int) ≤ (c0 : Int) := by omega
        go_region_law (first | (refine step_app8 _ rfl (.tmp 23) (.tmp 28) rfl w0.heap.size _ [] rfl (OB.made_room w0 _ 400 C HC.out (by decide) (Nat.le_refl _)).drew _ _ _ (l0.take 100) rfl ((r0.upto (by omega)).alloc _).drew (by simp <;> omega) (by simp) ?_; intro v1 w1 ho1 hb1))
        all_goals
          go_wp2_with fail
          go_meet
          obtain ⟨A', p', c', rfl, -, -, r1⟩ := ho1.got
          exact ⟨A', p', c', _, rfl, by have := r1.len; have := hl0.out; simp at *; omega, ho1, (below_drewN ((Below.refl _ w0).al _) 1).trans hb1⟩
    case rest =>
      obtain ⟨A', p', c', b, rfl, hp', ob, hbc⟩ := hcut
      clear r0 hc0 hmk HC
      rename World => w1
      have hlx := Lib.hid ox.got
      have hlb := Lib.hid ob.rb.len
      have ox1 : OB w1 w.heap.size (.slice A p c) x := ox.below hbc (Nat.le_refl _)
      have hlp := Lib.hid ox.rb.len
      have rb := ob.rb
      have rx := ox1.rb
      go_wp2_with fail
      refine (putNum_any _ _ _ n b _ rb hn (by omega)).mono ?_
      rintro e w2 ⟨v2, rfl, o2, b2⟩
      go_wp2_with fail
      refine (putBytes_any _ _ _ _ _ _ b x _ (rb.below b2) (rx.below b2) (by omega)).mono ?_
      rintro e w3 ⟨v3, rfl, o3, b3⟩
      have b13 := b2.then_ b3
      go_wp2_with fail
      refine (putNum_any _ _ _ m b _ (rb.below b13) hm (by omega)).mono ?_
      rintro e w4 ⟨v4, rfl, o4, b4⟩
      have b14 := b13.then_ b4
      obtain ⟨A2, m2, c2, rfl, -, -, -⟩ := o2.got
      obtain ⟨A3, m3, c3, rfl, -, -, r3⟩ := o3.got
      obtain ⟨A4, m4, c4, rfl, -, -, r4⟩ := o4.got
      have g3 : p' ≤ m3 := by have := r3.len; have := hlb.out; simp only [List.length_append] at *; omega
      have g4 : 0 < m4 := by have := r4.len; have := num_pos m; simp only [List.length_append] at *; omega
      have g4' : m4 ≤ 200 := by have := r4.len; have := num_le10 hm; have := hlb.out; simp only [List.length_append] at *; omega
      have t1 : ((m4 : Int) == 0) = false := by simp; omega
      have t2 : decide (m3 < p') = false := by simp; omega
      clear r3 r4 hlx
      obtain ⟨g, rfl, hg, hgl, -⟩ := o4.addr g4
      go_wp2_with fail
      go_loopw [13] (fun i wr => ∃ (k : Nat) (ys : List UInt8), k ≤ m4 ∧ i = .int .i64 k ∧ OB wr w3.heap.size (.slice (some ⟨g, 0, none⟩) m4 c4) ys ∧ Below w3.heap.size w4 wr) (fun i _ => m4 - (intOf i).toNat)
      case atStart => exact ⟨0, _, Nat.zero_le _, rfl, o4, Below.refl _ _⟩
      case round =>
        obtain ⟨k, ys, hk, rfl, oy, by_⟩ := hrel
        by_cases hlt : k < m4
        · have hky : k < ys.length := by have := oy.rb.len; omega
          obtain ⟨hc1, hc2⟩ := oy.cell hky
          obtain ⟨u, hu⟩ := u8_plus ys[k]
          have HU := Lib.hid hu
          clear hu
          have os := oy.store k HU.out
          go_wp2_with fail
          go_roundw
          case rel => exact ⟨k + 1, _, by omega, by go_num, os.1, by_.trans (oy.grown os.2 (by have := by_.size; have := b4.size; omega))⟩
          case measure => simp [intOf]; omega
        · obtain ⟨wq, rfl⟩ : ∃ wq : World, wq = wr := ⟨_, rfl⟩
          have f := b4.trans by_
          have o2' : OB wq w1.heap.size (.slice A2 m2 c2) (b ++ num n) := o2.below ((b3.trans (f.mono b3.size))) (Nat.le_refl _)
          have o3' : OB wq w2.heap.size (.slice A3 m3 c3) (b ++ num x.length ++ x) := o3.below f (Nat.le_refl _)
          have f1 : Below w1.heap.size w1 wq := b13.then_ f
          have ob' : OB wq w0.heap.size (.slice A' p' c') b := ob.below f1 (Nat.le_refl _)
          have ox' : OB wq w.heap.size (.slice A p c) x := ox1.below f1 (Nat.le_refl _)
          have hb' := (hbw.then_ hbc).then_ f1
          have hrow : ∀ g, (Value.slice A p c).ownBlock = some g → w.heap.size ≤ g ∧ g < w0.heap.size := ox.block
          have hs2 := (b2.size)
          have hs1 := hbc.size
          have hs3 := b3.size
          have hs4 := f.size
          have hxl : x.length ≤ 100 := by have := hlp.out; omega
          have hbl : b.length ≤ 100 := by have := hlb.out; omega
          clear f f1 o2 o3 o4 ob ox ox1 b13 b14 b2 b3 b4 by_ oy rb rx hgl hg
          go_wp2_with (at_builtin; refine wpList_app8 _ rfl (.tmp 61) (.tmp 62) rfl wq.heap.size _ [] rfl (OB.made _ _ (Nat.le_refl _)) _ _ _ b rfl (ob'.rb.alloc _) (by simp <;> omega) (by simp) ?_; intro v5 w5 o5 b5)
          have q5 := ((Below.refl _ wq).al _).trans b5
          refine (refBytes_any _ _ _ x _ (ox'.rb.below q5) (by omega)).mono ?_
          rintro e w6 ⟨v6, rfl, o6, b6⟩
          obtain ⟨A6, m6, c6, rfl, -, -, r6⟩ := o6.got
          have g6 : m6 ≤ 110 := by have := r6.len; have := num_le10 (n := x.length) (by omega); simp only [List.length_append] at *; omega
          have q6 := q5.then_ b6
          go_wp2_with (at_builtin; refine wpList_app8 _ rfl (.tmp 63) (.tmp 65) rfl wq.heap.size _ b rfl (o5.below b6 (Nat.le_refl _)) _ _ _ (num x.length ++ x) rfl r6 (by omega) q6.size ?_; intro v7 w7 o7 b7)
          obtain ⟨A7, m7, c7, rfl, -, -, -⟩ := o7.got
          have q7 := q6.trans b7
          have o2'' := o2'.below q7 (Nat.le_refl _)
          have o3'' := o3'.below q7 (Nat.le_refl _)
          have ob'' := ob'.below q7 (Nat.le_refl _)
          have ox'' := ox'.below q7 (Nat.le_refl _)
          have hb'' := hb'.then_ q7
          have hs7 := q7.size
          clear q5 q6 q7 o5 o6 b5 b6 b7 r6 o2' o3' ob' ox' hb'
          go_wp2_with fail
          go_loopw [15] (fun i wr => ∃ (k : Nat) (ys : List UInt8), k ≤ p ∧ i = .int .i64 k ∧ OB wr w.heap.size (.slice A p c) ys ∧ w7.grownBy wr (Value.slice A p c).ownBlock) (fun i _ => p - (intOf i).toNat)
          case atStart => exact ⟨0, _, Nat.zero_le _, rfl, ox'', World.grownBy.refl _ _⟩
          case round =>
            obtain ⟨k, ys, hk, rfl, oy, hgr⟩ := hrel
            by_cases hlt : k < p
            · have hky : k < ys.length := by have := oy.rb.len; omega
              obtain ⟨g, rfl, hg, hgl, -⟩ := oy.addr (by omega)
              obtain ⟨hc1, hc2⟩ := oy.cell hky
              obtain ⟨u, hu⟩ := u8_plus ys[k]
              have HU := Lib.hid hu
              clear hu
              have os := oy.store k HU.out
              have hgr' := hgr.trans os.2
              clear hgr
              go_wp2_with fail
              go_roundw
              case rel => exact ⟨k + 1, _, by omega, by go_num, os.1, hgr'⟩
              case measure => simp [intOf]; omega
            · have z2 := o2''.other' hgr (fun g h => by have := hrow g h; omega)
              have z3 := o3''.other' hgr (fun g h => by have := hrow g h; omega)
              have zb := ob''.other' hgr (fun g h => by have := hrow g h; omega)
              have z7 := o7.other' hgr (fun g h => by have := hrow g h; omega)
              have hbz : Below w.heap.size w wr := hb''.grown hgr (by have := hb''.size; omega) (fun g h => (hrow g h).1)
              have hn1 := num_le10 hn
              have gz2 : m2 ≤ 200 := by have := z2.rb.len; simp only [List.length_append] at *; omega
              have gz3 : m3 ≤ 300 := by have := z3.rb.len; have := num_le10 (n := x.length) (by omega); simp only [List.length_append] at *; omega
              clear o2'' o3'' ob'' o7 hgr oy hrow
              go_wp2_with fail
              refine (known_any _).mono ?_
              rintro e w8 ⟨rfl, b8⟩
              go_wp2_with (at_builtin; refine wpList_app8 _ rfl (.tmp 82) (.tmp 83) rfl w8.heap.size _ [] rfl (OB.made _ _ (Nat.le_refl _)) _ _ _ b rfl ((zb.rb.below b8).alloc _) (by simp <;> omega) (by simp) ?_; intro v9 w9 o9 b9)
              have q9 := ((Below.refl _ w8).al _).trans b9
              refine (refNum_any n _ hn).mono ?_
              rintro e wa ⟨va, rfl, oa, ba⟩
              obtain ⟨Aa, ma, ca, rfl, -, -, ra⟩ := oa.got
              have qa := q9.then_ ba
              have ga : ma ≤ 10 := by have := ra.len; omega
              go_wp2_with (at_builtin; refine wpList_app8 _ rfl (.tmp 84) (.tmp 86) rfl w8.heap.size _ b rfl (o9.below ba (Nat.le_refl _)) _ _ _ (num n) rfl ra (by omega) qa.size ?_; intro vb wb ob' bb)
              obtain ⟨Ab, mb, cb, rfl, -, -, rbb⟩ := ob'.got
              have qb := b8.then_ (qa.trans bb)
              refine (same_true _ _ _ _ _ _ (b ++ num n) (b ++ num n) _ (z2.rb.below qb) rbb (by omega) rfl).mono ?_
              rintro e wd ⟨rfl, bd⟩
              have qd := qb.then_ bd
              go_wp2_with fail
              refine (same_true _ _ _ _ _ _ (b ++ num x.length ++ x) (b ++ (num x.length ++ x)) _ (z3.rb.below qd) (z7.rb.below qd) (by omega) (List.append_assoc _ _ _)).mono ?_
              rintro e we ⟨rfl, be⟩
              go_wp2_with fail
              go_ret
              exact ⟨rfl, hbz.then_ (qd.then_ be)⟩
end Go.Proofs.Ytcjgpfocngipmaa
